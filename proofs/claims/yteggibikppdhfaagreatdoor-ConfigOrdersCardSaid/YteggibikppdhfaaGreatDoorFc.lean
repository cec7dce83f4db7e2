/- Contracts of the program's functions: each one computes what its function says, where that is defined. Condition: that it is defined. -/
import Derived.Test.YteggibikppdhfaaGreatDoorFu
import Derived.Test.YteggibikppdhfaaGreatDoorLc
namespace Go.PL
set_option linter.unusedSimpArgs false
set_option linter.unusedVariables false
set_option linter.unusedSectionVars false
open Tys (Ty U)
open Enc (sz enc dflt tb ofB toB)
open Dec (dec dok)
set_option maxRecDepth 100000
open Go.Proofs
variable [GM]
theorem transhipmentlaw10_many_S_ok {A : Ar} (hA : A = std) {rf : Route → Int → Option Int} {x0 : Route} {x1 : Int} (hqr44 : ∀ (x0 : Route) (x1 : Int) (r : Int), rf x0 x1 = some r → PFun cx 44 [routePV x0, it .i64 x1] (it .i64 r)) {r : Int} (h : transhipmentlaw10_many_S A rf x0 x1 = some r) : PFun cx 44 [routePV x0, it .i64 x1] ((fun r : Int => (it .i64 r : PV)) r) := by
 refine PFun.walkF (fz := fun _ => false) hA cx_ok Tryz.func44 rfl rfl rfl fun P R hP hR => ?_
 cbv
 unfold transhipmentlaw10_many_S at h
 iterate 3 refine kj ?_
 replace h := Loop_e h; obtain ⟨n1, hl1⟩ := h
 refine LoopK.q (X := Runs (transhipmentlaw10_many_S_B1 A rf x0 x1) _) (fun x gh => [(5, it IntKind.i64 x.1.2.1), (11, it IntKind.i64 x.1.2.2)]) (fun x gh => [⟨2, 0, .box 27 [PV.d (D.v (Value.string x0.1)), PV.d (D.sl TyS.matcher x0.2), PV.d (D.sl TyS.str x0.3), PV.d (D.v (Value.int IntKind.i64 x0.4)), PV.d (D.v (Value.int IntKind.i64 x0.5)), PV.d (D.v (Value.int IntKind.i64 x0.6)), PV.d (D.sl TyS.str x0.7), PV.d (D.v (Value.bool x0.8)), PV.d (D.sl TyS.route x0.9)]⟩]) (fun x => x.1.1) ⟨(n1, _), hl1⟩ [] hdz ?_
 rintro ⟨⟨n1, n5, t11⟩, hr1⟩ gh1 g1 K1 Q1 hK1 hQ1
 obtain _ | n1 := n1
 ·exact (LoopN_z hr1).elim
 obtain ⟨v1, h, hv1⟩ := LoopN_e hr1
 cbv
 refine kj ?_
 replace h := br_e h; obtain ⟨hb, h⟩ | ⟨hb, h⟩ := h
 ·refine cdT hb ?_; cbv
  refine kj ?_
  replace h := ck_e h; obtain ⟨c1, h⟩ := h; refine ⟨c1, ?_⟩
  refine kj ?_
  replace h := br_e h; obtain ⟨hb, h⟩ | ⟨hb, h⟩ := h
  ·refine cdT hb ?_; cbv
   replace h := rt_e h; obtain ⟨_, h, rfl⟩ := h
   cases hv1; refine hQ1 _ _ ?_; cbv
   refine kj ?_
   cases h; subst hR; exact ey
  ·refine cdF hb ?_; cbv
   refine kj ?_
   replace h := bd_e h; obtain ⟨w2, hw2, h⟩ := h
   refine CallK.mk _ (by rfl) (fun _ => PFun.to hP (hqr44 _ _ _ hw2)) ?_
   cbv
   refine kj ?_
   cases h
   exact hK1 _ ⟨(n1, _), hv1⟩ [] (Nat.lt_succ_self _) hdy
 ·refine cdF hb ?_; cbv
  replace h := rt_e h; obtain ⟨_, h, rfl⟩ := h
  cases hv1; refine hQ1 _ _ ?_; cbv
  refine kj ?_
  cases h; subst hR; exact ey
theorem transhipmentlaw10_many_N_ok {A : Ar} (hA : A = std) : ∀ (n : Nat) (x0 : Route) (x1 : Int) (r : Int), transhipmentlaw10_many_N A n x0 x1 = some r → PFun cx 44 [routePV x0, it .i64 x1] (it .i64 r)
 | 0, _, _, _, h => by cases h
 | n + 1, x0, x1, r, h => transhipmentlaw10_many_S_ok hA (fun _ _ _ hh => transhipmentlaw10_many_N_ok hA n _ _ _ hh) h
theorem transhipmentlaw10_many_ok {A : Ar} (hA : A = std) {x0 : Route} {x1 : Int} {r : Int} (h : transhipmentlaw10_many A x0 x1 = some r) : PFun cx 44 [routePV x0, it .i64 x1] (it .i64 r) := transhipmentlaw10_many_N_ok hA _ _ _ _ h
theorem transhipmentlaw10_big_ok {A : Ar} (hA : A = std) {x0 : Config} {r : Bool} (h : transhipmentlaw10_big A x0 = some r) : PFun cx 13 [configPV x0] ((fun r : Bool => (bl r : PV)) r) := by
 refine PFun.walkF (fz := fun _ => false) hA cx_ok Tryz.func13 rfl rfl rfl fun P R hP hR => ?_
 cbv
 unfold transhipmentlaw10_big at h
 iterate 2 refine kj ?_
 replace h := bd_e h; obtain ⟨w1, hw1, h⟩ := h
 refine CallK.mk _ (by rfl) (fun _ => PFun.to hP (transhipmentlaw10_many_ok hA hw1)) ?_
 cbv
 iterate 20 refine cj ?_
 cases h; subst hR; exact ey
theorem config_all_Rule_1_ok {A : Ar} (hA : A = std) {x0 : Rule} {qc0 : Rule → Option Bool} {gc0 : Nat} {capc0 : List D} (hcapc0 : capOK capc0) (hqc0 : ∀ (y0 : Rule) (r : Bool), qc0 y0 = some r → PFun cx gc0 ((rulePV y0) :: un.uns capc0) (bl r)) {r : Bool} (h : config_all_Rule_1 A x0 qc0 = some r) : PFun cx 153 [rulePV x0, .ip [.fun (.func gc0) [] capc0]] ((fun r : Bool => (bl r : PV)) r) := by
 rcases hcapc0 with rfl | ⟨dscapc0, rfl⟩
 all_goals
  refine PFun.walkF (fz := fun _ => false) hA cx_ok Tryz.func153 rfl rfl rfl fun P R hP hR => ?_
  cbv
  unfold config_all_Rule_1 at h
  iterate 2 refine kj ?_
  replace h := bd_e h; obtain ⟨w1, hw1, h⟩ := h
  refine CallK.mk _ (by rfl) (fun _ => PFun.to hP (hqc0 _ _ hw1)) ?_
  cbv
  cases h; subst hR; exact ey
theorem slices_IndexFunc_Rule_Rule_ok {A : Ar} (hA : A = std) {x0 : List Rule} {q1 : Rule → Option Bool} {g1 : Nat} {cap1 : List PV} (hcap1 : bare.bares cap1 = true) (hq1 : ∀ (y0 : Rule) (r : Bool), q1 y0 = some r → PFun cx g1 ((rulePV y0) :: cap1) (bl r)) {r : Int} (h : slices_IndexFunc_Rule_Rule A x0 q1 = some r) : PFun cx 193 [.d (.sl TyS.rule x0), .fn (.func g1) [] cap1] ((fun r : Int => (it .i64 r : PV)) r) := by
 refine PFun.walkF (fz := fun _ => false) hA cx_ok Tryz.func193 rfl rfl rfl fun P R hP hR => ?_
 cbv
 unfold slices_IndexFunc_Rule_Rule at h
 iterate 2 refine kj ?_
 replace h := Loop_e h; obtain ⟨n1, hl1⟩ := h
 refine LoopK.q (X := Runs (slices_IndexFunc_Rule_Rule_B1 A x0 q1) _) (fun x gh => [(8, it IntKind.i64 x.1.2)]) (fun x gh => []) (fun x => x.1.1) ⟨(n1, _), hl1⟩ [] hdz ?_
 rintro ⟨⟨n1, t8⟩, hr1⟩ gh1 g1 K1 Q1 hK1 hQ1
 obtain _ | n1 := n1
 ·exact (LoopN_z hr1).elim
 obtain ⟨v1, h, hv1⟩ := LoopN_e hr1
 cbv
 refine kj ?_
 replace h := br_e h; obtain ⟨hb, h⟩ | ⟨hb, h⟩ := h
 ·refine cdT hb ?_; cbv
  iterate 2 refine kj ?_
  replace h := ck_e h; obtain ⟨c1, h⟩ := h; refine ⟨c1, ?_⟩
  replace h := bd_e h; obtain ⟨w2, hw2, h⟩ := h
  refine CallK.mk _ (by first | rfl | simp [bare, bare.bares, hcap1]) (fun _ => PFun.to hP (hq1 _ _ hw2)) ?_
  cbv
  replace h := br_e h; obtain ⟨hb, h⟩ | ⟨hb, h⟩ := h
  ·refine cdT hb ?_; cbv
   refine kj ?_
   replace h := rt_e h; obtain ⟨_, h, rfl⟩ := h
   cases hv1; refine hQ1 _ _ ?_; cbv
   cases h; subst hR; exact ey
  ·refine cdF hb ?_; cbv
   refine kj ?_
   cases h
   exact hK1 _ ⟨(n1, _), hv1⟩ [] (Nat.lt_succ_self _) hdy
 ·refine cdF hb ?_; cbv
  replace h := rt_e h; obtain ⟨_, h, rfl⟩ := h
  cases hv1; refine hQ1 _ _ ?_; cbv
  refine kj ?_
  cases h; subst hR; exact ey
theorem slices_ContainsFunc_Rule_Rule_ok {A : Ar} (hA : A = std) {x0 : List Rule} {q1 : Rule → Option Bool} {g1 : Nat} {cap1 : List PV} (hcap1 : bare.bares cap1 = true) (hq1 : ∀ (y0 : Rule) (r : Bool), q1 y0 = some r → PFun cx g1 ((rulePV y0) :: cap1) (bl r)) {r : Bool} (h : slices_ContainsFunc_Rule_Rule A x0 q1 = some r) : PFun cx 111 [.d (.sl TyS.rule x0), .fn (.func g1) [] cap1] ((fun r : Bool => (bl r : PV)) r) := by
 refine PFun.walkF (fz := fun _ => false) hA cx_ok Tryz.func111 rfl rfl rfl fun P R hP hR => ?_
 cbv
 unfold slices_ContainsFunc_Rule_Rule at h
 iterate 2 refine kj ?_
 replace h := bd_e h; obtain ⟨w1, hw1, h⟩ := h
 refine CallK.mk _ (by first | rfl | simp [bare, bare.bares, hcap1]) (fun _ => PFun.to hP (slices_IndexFunc_Rule_Rule_ok hA hcap1 hq1 hw1)) ?_
 cbv
 cases h; subst hR; exact ey
theorem config_all_Rule_ok {A : Ar} (hA : A = std) {x0 : List Rule} {x1 : Int} {q2 : Rule → Option Bool} {g2 : Nat} {cap2 : List D} (hcap2 : capOK cap2) (hq2 : ∀ (y0 : Rule) (r : Bool), q2 y0 = some r → PFun cx g2 ((rulePV y0) :: un.uns cap2) (bl r)) {r : Bool} (h : config_all_Rule A x0 x1 q2 = some r) : PFun cx 63 [.d (.sl TyS.rule x0), it .i64 x1, .fn (.func g2) [] (un.uns cap2)] ((fun r : Bool => (bl r : PV)) r) := by
 rcases hcap2 with rfl | ⟨dscap2, rfl⟩
 ·refine PFun.walkF (fz := fun k => k == 5) hA cx_ok Tryz.func63 rfl rfl rfl fun P R hP hR => ?_
  cbv
  unfold config_all_Rule at h
  iterate 2 refine kj ?_
  iterate 2 refine cj ?_
  replace h := bd_e h; obtain ⟨w1, hw1, h⟩ := h
  refine CallK.mk _ (by rfl) (fun hc => PFun.to hP (slices_ContainsFunc_Rule_Rule_ok hA (by rfl) (fun _ _ hw => config_all_Rule_1_ok (capc0 := []) hA (by first | exact .inl rfl | exact .inr ⟨_, rfl⟩) hq2 hw) (gd_e hw1 hc))) ?_
  cbv
  iterate 2 refine cj ?_
  cases h; subst hR; exact ey
 ·refine PFun.walkF (fz := fun k => k == 5) hA cx_ok Tryz.func63 rfl rfl rfl fun P R hP hR => ?_
  cbv
  unfold config_all_Rule at h
  iterate 2 refine kj ?_
  iterate 2 refine cj ?_
  replace h := bd_e h; obtain ⟨w1, hw1, h⟩ := h
  refine CallK.mk _ (by rfl) (fun hc => PFun.to hP (slices_ContainsFunc_Rule_Rule_ok hA (by rfl) (fun _ _ hw => config_all_Rule_1_ok (capc0 := [D.ptr dscap2]) hA (by first | exact .inl rfl | exact .inr ⟨_, rfl⟩) hq2 hw) (gd_e hw1 hc))) ?_
  cbv
  iterate 2 refine cj ?_
  cases h; subst hR; exact ey
theorem slices_IndexFunc_Def_Def_ok {A : Ar} (hA : A = std) {x0 : List Def} {q1 : Def → Option Bool} {g1 : Nat} {cap1 : List PV} (hcap1 : bare.bares cap1 = true) (hq1 : ∀ (y0 : Def) (r : Bool), q1 y0 = some r → PFun cx g1 ((defPV y0) :: cap1) (bl r)) {r : Int} (h : slices_IndexFunc_Def_Def A x0 q1 = some r) : PFun cx 288 [.d (.sl TyS.dfn x0), .fn (.func g1) [] cap1] ((fun r : Int => (it .i64 r : PV)) r) := by
 refine PFun.walkF (fz := fun _ => false) hA cx_ok Tryz.func288 rfl rfl rfl fun P R hP hR => ?_
 cbv
 unfold slices_IndexFunc_Def_Def at h
 iterate 2 refine kj ?_
 replace h := Loop_e h; obtain ⟨n1, hl1⟩ := h
 refine LoopK.q (X := Runs (slices_IndexFunc_Def_Def_B1 A x0 q1) _) (fun x gh => [(8, it IntKind.i64 x.1.2)]) (fun x gh => []) (fun x => x.1.1) ⟨(n1, _), hl1⟩ [] hdz ?_
 rintro ⟨⟨n1, t8⟩, hr1⟩ gh1 g1 K1 Q1 hK1 hQ1
 obtain _ | n1 := n1
 ·exact (LoopN_z hr1).elim
 obtain ⟨v1, h, hv1⟩ := LoopN_e hr1
 cbv
 refine kj ?_
 replace h := br_e h; obtain ⟨hb, h⟩ | ⟨hb, h⟩ := h
 ·refine cdT hb ?_; cbv
  iterate 2 refine kj ?_
  replace h := ck_e h; obtain ⟨c1, h⟩ := h; refine ⟨c1, ?_⟩
  replace h := bd_e h; obtain ⟨w2, hw2, h⟩ := h
  refine CallK.mk _ (by first | rfl | simp [bare, bare.bares, hcap1]) (fun _ => PFun.to hP (hq1 _ _ hw2)) ?_
  cbv
  replace h := br_e h; obtain ⟨hb, h⟩ | ⟨hb, h⟩ := h
  ·refine cdT hb ?_; cbv
   refine kj ?_
   replace h := rt_e h; obtain ⟨_, h, rfl⟩ := h
   cases hv1; refine hQ1 _ _ ?_; cbv
   cases h; subst hR; exact ey
  ·refine cdF hb ?_; cbv
   refine kj ?_
   cases h
   exact hK1 _ ⟨(n1, _), hv1⟩ [] (Nat.lt_succ_self _) hdy
 ·refine cdF hb ?_; cbv
  replace h := rt_e h; obtain ⟨_, h, rfl⟩ := h
  cases hv1; refine hQ1 _ _ ?_; cbv
  refine kj ?_
  cases h; subst hR; exact ey
theorem slices_ContainsFunc_Def_Def_ok {A : Ar} (hA : A = std) {x0 : List Def} {q1 : Def → Option Bool} {g1 : Nat} {cap1 : List PV} (hcap1 : bare.bares cap1 = true) (hq1 : ∀ (y0 : Def) (r : Bool), q1 y0 = some r → PFun cx g1 ((defPV y0) :: cap1) (bl r)) {r : Bool} (h : slices_ContainsFunc_Def_Def A x0 q1 = some r) : PFun cx 230 [.d (.sl TyS.dfn x0), .fn (.func g1) [] cap1] ((fun r : Bool => (bl r : PV)) r) := by
 refine PFun.walkF (fz := fun _ => false) hA cx_ok Tryz.func230 rfl rfl rfl fun P R hP hR => ?_
 cbv
 unfold slices_ContainsFunc_Def_Def at h
 iterate 2 refine kj ?_
 replace h := bd_e h; obtain ⟨w1, hw1, h⟩ := h
 refine CallK.mk _ (by first | rfl | simp [bare, bare.bares, hcap1]) (fun _ => PFun.to hP (slices_IndexFunc_Def_Def_ok hA hcap1 hq1 hw1)) ?_
 cbv
 cases h; subst hR; exact ey
theorem block_word_1_ok {A : Ar} (hA : A = std) {x0 : Int} {r : Bool} (h : block_word_1 A x0 = some r) : PFun cx 312 [it .u8 x0] ((fun r : Bool => (bl r : PV)) r) := by
 refine PFun.walkF (fz := fun _ => false) hA cx_ok Tryz.func312 rfl rfl rfl fun P R hP hR => ?_
 cbv
 unfold block_word_1 at h
 iterate 2 refine kj ?_
 iterate 6 refine cj ?_
 refine ⟨by subst hA; simp +contextual [vcm], ?_⟩
 iterate 3 refine cj ?_
 cases h; subst hR; exact ey
theorem slices_IndexFunc_byte_byte_ok {A : Ar} (hA : A = std) {x0 : List UInt8} {q1 : Int → Option Bool} {g1 : Nat} {cap1 : List PV} (hcap1 : bare.bares cap1 = true) (hq1 : ∀ (y0 : Int) (r : Bool), q1 y0 = some r → PFun cx g1 ((it .u8 y0) :: cap1) (bl r)) {r : Int} (h : slices_IndexFunc_byte_byte A x0 q1 = some r) : PFun cx 236 [.d (.sl TyS.byte x0), .fn (.func g1) [] cap1] ((fun r : Int => (it .i64 r : PV)) r) := by
 refine PFun.walkF (fz := fun _ => false) hA cx_ok Tryz.func236 rfl rfl rfl fun P R hP hR => ?_
 cbv
 unfold slices_IndexFunc_byte_byte at h
 iterate 2 refine kj ?_
 replace h := Loop_e h; obtain ⟨n1, hl1⟩ := h
 refine LoopK.q (X := Runs (slices_IndexFunc_byte_byte_B1 A x0 q1) _) (fun x gh => [(8, it IntKind.i64 x.1.2)]) (fun x gh => []) (fun x => x.1.1) ⟨(n1, _), hl1⟩ [] hdz ?_
 rintro ⟨⟨n1, t8⟩, hr1⟩ gh1 g1 K1 Q1 hK1 hQ1
 obtain _ | n1 := n1
 ·exact (LoopN_z hr1).elim
 obtain ⟨v1, h, hv1⟩ := LoopN_e hr1
 cbv
 refine kj ?_
 replace h := br_e h; obtain ⟨hb, h⟩ | ⟨hb, h⟩ := h
 ·refine cdT hb ?_; cbv
  iterate 2 refine kj ?_
  replace h := ck_e h; obtain ⟨c1, h⟩ := h; refine ⟨c1, ?_⟩
  replace h := bd_e h; obtain ⟨w2, hw2, h⟩ := h
  refine CallK.mk _ (by first | rfl | simp [bare, bare.bares, hcap1]) (fun _ => PFun.to hP (hq1 _ _ hw2)) ?_
  cbv
  replace h := br_e h; obtain ⟨hb, h⟩ | ⟨hb, h⟩ := h
  ·refine cdT hb ?_; cbv
   refine kj ?_
   replace h := rt_e h; obtain ⟨_, h, rfl⟩ := h
   cases hv1; refine hQ1 _ _ ?_; cbv
   cases h; subst hR; exact ey
  ·refine cdF hb ?_; cbv
   refine kj ?_
   cases h
   exact hK1 _ ⟨(n1, _), hv1⟩ [] (Nat.lt_succ_self _) hdy
 ·refine cdF hb ?_; cbv
  replace h := rt_e h; obtain ⟨_, h, rfl⟩ := h
  cases hv1; refine hQ1 _ _ ?_; cbv
  refine kj ?_
  cases h; subst hR; exact ey
theorem slices_ContainsFunc_byte_byte_ok {A : Ar} (hA : A = std) {x0 : List UInt8} {q1 : Int → Option Bool} {g1 : Nat} {cap1 : List PV} (hcap1 : bare.bares cap1 = true) (hq1 : ∀ (y0 : Int) (r : Bool), q1 y0 = some r → PFun cx g1 ((it .u8 y0) :: cap1) (bl r)) {r : Bool} (h : slices_ContainsFunc_byte_byte A x0 q1 = some r) : PFun cx 166 [.d (.sl TyS.byte x0), .fn (.func g1) [] cap1] ((fun r : Bool => (bl r : PV)) r) := by
 refine PFun.walkF (fz := fun _ => false) hA cx_ok Tryz.func166 rfl rfl rfl fun P R hP hR => ?_
 cbv
 unfold slices_ContainsFunc_byte_byte at h
 iterate 2 refine kj ?_
 replace h := bd_e h; obtain ⟨w1, hw1, h⟩ := h
 refine CallK.mk _ (by first | rfl | simp [bare, bare.bares, hcap1]) (fun _ => PFun.to hP (slices_IndexFunc_byte_byte_ok hA hcap1 hq1 hw1)) ?_
 cbv
 cases h; subst hR; exact ey
theorem block_word_ok {A : Ar} (hA : A = std) {x0 : ByteArray} {r : Bool} (h : block_word A x0 = some r) : PFun cx 289 [st x0] ((fun r : Bool => (bl r : PV)) r) := by
 refine PFun.walkF (fz := fun _ => false) hA cx_ok Tryz.func289 rfl rfl rfl fun P R hP hR => ?_
 cbv
 unfold block_word at h
 iterate 3 refine kj ?_
 iterate 6 refine cj ?_
 replace h := bd_e h; obtain ⟨w1, hw1, h⟩ := h
 refine CallK.le _ _ (by rfl) (fun _ => ey) (fun hc => PFun.to hP (slices_ContainsFunc_byte_byte_ok hA (by rfl) (fun _ _ hw => block_word_1_ok hA hw) (gd_e hw1 hc))) ?_
 cbv
 iterate 2 refine cj ?_
 cases h; subst hR; exact ey
theorem slices_Index_string_string_ok {A : Ar} (hA : A = std) {x0 : List ByteArray} {x1 : ByteArray} {r : Int} (h : slices_Index_string_string A x0 x1 = some r) : PFun cx 172 [.d (.sl TyS.str x0), st x1] ((fun r : Int => (it .i64 r : PV)) r) := by
 refine PFun.walkF (fz := fun _ => false) hA cx_ok Tryz.func172 rfl rfl rfl fun P R hP hR => ?_
 cbv
 unfold slices_Index_string_string at h
 iterate 2 refine kj ?_
 replace h := Loop_e h; obtain ⟨n1, hl1⟩ := h
 refine LoopK.q (X := Runs (slices_Index_string_string_B1 A x0 x1) _) (fun x gh => [(8, it IntKind.i64 x.1.2)]) (fun x gh => []) (fun x => x.1.1) ⟨(n1, _), hl1⟩ [] hdz ?_
 rintro ⟨⟨n1, t8⟩, hr1⟩ gh1 g1 K1 Q1 hK1 hQ1
 obtain _ | n1 := n1
 ·exact (LoopN_z hr1).elim
 obtain ⟨v1, h, hv1⟩ := LoopN_e hr1
 cbv
 refine kj ?_
 replace h := br_e h; obtain ⟨hb, h⟩ | ⟨hb, h⟩ := h
 ·refine cdT hb ?_; cbv
  iterate 2 refine kj ?_
  replace h := ck_e h; obtain ⟨c1, h⟩ := h; refine ⟨c1, ?_⟩
  replace h := br_e h; obtain ⟨hb, h⟩ | ⟨hb, h⟩ := h
  ·refine cdT hb ?_; cbv
   refine kj ?_
   replace h := rt_e h; obtain ⟨_, h, rfl⟩ := h
   cases hv1; refine hQ1 _ _ ?_; cbv
   cases h; subst hR; exact ey
  ·refine cdF hb ?_; cbv
   refine kj ?_
   cases h
   exact hK1 _ ⟨(n1, _), hv1⟩ [] (Nat.lt_succ_self _) hdy
 ·refine cdF hb ?_; cbv
  replace h := rt_e h; obtain ⟨_, h, rfl⟩ := h
  cases hv1; refine hQ1 _ _ ?_; cbv
  refine kj ?_
  cases h; subst hR; exact ey
theorem slices_Contains_string_string_ok {A : Ar} (hA : A = std) {x0 : List ByteArray} {x1 : ByteArray} {r : Bool} (h : slices_Contains_string_string A x0 x1 = some r) : PFun cx 81 [.d (.sl TyS.str x0), st x1] ((fun r : Bool => (bl r : PV)) r) := by
 refine PFun.walkF (fz := fun _ => false) hA cx_ok Tryz.func81 rfl rfl rfl fun P R hP hR => ?_
 cbv
 unfold slices_Contains_string_string at h
 iterate 2 refine kj ?_
 replace h := bd_e h; obtain ⟨w1, hw1, h⟩ := h
 refine CallK.mk _ (by rfl) (fun _ => PFun.to hP (slices_Index_string_string_ok hA hw1)) ?_
 cbv
 cases h; subst hR; exact ey
theorem slices_IndexFunc_string_string_ok {A : Ar} (hA : A = std) {x0 : List ByteArray} {q1 : ByteArray → Option Bool} {g1 : Nat} {cap1 : List PV} (hcap1 : bare.bares cap1 = true) (hq1 : ∀ (y0 : ByteArray) (r : Bool), q1 y0 = some r → PFun cx g1 ((st y0) :: cap1) (bl r)) {r : Int} (h : slices_IndexFunc_string_string A x0 q1 = some r) : PFun cx 229 [.d (.sl TyS.str x0), .fn (.func g1) [] cap1] ((fun r : Int => (it .i64 r : PV)) r) := by
 refine PFun.walkF (fz := fun _ => false) hA cx_ok Tryz.func229 rfl rfl rfl fun P R hP hR => ?_
 cbv
 unfold slices_IndexFunc_string_string at h
 iterate 2 refine kj ?_
 replace h := Loop_e h; obtain ⟨n1, hl1⟩ := h
 refine LoopK.q (X := Runs (slices_IndexFunc_string_string_B1 A x0 q1) _) (fun x gh => [(8, it IntKind.i64 x.1.2)]) (fun x gh => []) (fun x => x.1.1) ⟨(n1, _), hl1⟩ [] hdz ?_
 rintro ⟨⟨n1, t8⟩, hr1⟩ gh1 g1 K1 Q1 hK1 hQ1
 obtain _ | n1 := n1
 ·exact (LoopN_z hr1).elim
 obtain ⟨v1, h, hv1⟩ := LoopN_e hr1
 cbv
 refine kj ?_
 replace h := br_e h; obtain ⟨hb, h⟩ | ⟨hb, h⟩ := h
 ·refine cdT hb ?_; cbv
  iterate 2 refine kj ?_
  replace h := ck_e h; obtain ⟨c1, h⟩ := h; refine ⟨c1, ?_⟩
  replace h := bd_e h; obtain ⟨w2, hw2, h⟩ := h
  refine CallK.mk _ (by first | rfl | simp [bare, bare.bares, hcap1]) (fun _ => PFun.to hP (hq1 _ _ hw2)) ?_
  cbv
  replace h := br_e h; obtain ⟨hb, h⟩ | ⟨hb, h⟩ := h
  ·refine cdT hb ?_; cbv
   refine kj ?_
   replace h := rt_e h; obtain ⟨_, h, rfl⟩ := h
   cases hv1; refine hQ1 _ _ ?_; cbv
   cases h; subst hR; exact ey
  ·refine cdF hb ?_; cbv
   refine kj ?_
   cases h
   exact hK1 _ ⟨(n1, _), hv1⟩ [] (Nat.lt_succ_self _) hdy
 ·refine cdF hb ?_; cbv
  replace h := rt_e h; obtain ⟨_, h, rfl⟩ := h
  cases hv1; refine hQ1 _ _ ?_; cbv
  refine kj ?_
  cases h; subst hR; exact ey
theorem slices_ContainsFunc_string_string_ok {A : Ar} (hA : A = std) {x0 : List ByteArray} {q1 : ByteArray → Option Bool} {g1 : Nat} {cap1 : List PV} (hcap1 : bare.bares cap1 = true) (hq1 : ∀ (y0 : ByteArray) (r : Bool), q1 y0 = some r → PFun cx g1 ((st y0) :: cap1) (bl r)) {r : Bool} (h : slices_ContainsFunc_string_string A x0 q1 = some r) : PFun cx 158 [.d (.sl TyS.str x0), .fn (.func g1) [] cap1] ((fun r : Bool => (bl r : PV)) r) := by
 refine PFun.walkF (fz := fun _ => false) hA cx_ok Tryz.func158 rfl rfl rfl fun P R hP hR => ?_
 cbv
 unfold slices_ContainsFunc_string_string at h
 iterate 2 refine kj ?_
 replace h := bd_e h; obtain ⟨w1, hw1, h⟩ := h
 refine CallK.mk _ (by first | rfl | simp [bare, bare.bares, hcap1]) (fun _ => PFun.to hP (slices_IndexFunc_string_string_ok hA hcap1 hq1 hw1)) ?_
 cbv
 cases h; subst hR; exact ey
theorem block_value_1_ok {A : Ar} (hA : A = std) {x0 : Int} {r : Bool} (h : block_value_1 A x0 = some r) : PFun cx 313 [it .u8 x0] ((fun r : Bool => (bl r : PV)) r) := by
 refine PFun.walkF (fz := fun _ => false) hA cx_ok Tryz.func313 rfl rfl rfl fun P R hP hR => ?_
 cbv
 unfold block_value_1 at h
 iterate 2 refine kj ?_
 iterate 4 refine cj ?_
 cases h; subst hR; exact ey
theorem block_value_ok {A : Ar} (hA : A = std) {x0 : ByteArray} {r : Bool} (h : block_value A x0 = some r) : PFun cx 291 [st x0] ((fun r : Bool => (bl r : PV)) r) := by
 refine PFun.walkF (fz := fun _ => false) hA cx_ok Tryz.func291 rfl rfl rfl fun P R hP hR => ?_
 cbv
 unfold block_value at h
 iterate 3 refine kj ?_
 iterate 4 refine cj ?_
 replace h := bd_e h; obtain ⟨w1, hw1, h⟩ := h
 refine CallK.mk _ (by rfl) (fun hc => PFun.to hP (strings_Trim_ok hA (gd_e hw1 hc))) ?_
 cbv
 iterate 6 refine cj ?_
 replace h := bd_e h; obtain ⟨w2, hw2, h⟩ := h
 refine CallK.le _ _ (by rfl) (fun _ => ey) (fun hc => PFun.to hP (slices_ContainsFunc_byte_byte_ok hA (by rfl) (fun _ _ hw => block_value_1_ok hA hw) (gd_e hw2 hc))) ?_
 cbv
 iterate 2 refine cj ?_
 cases h; subst hR; exact ey
theorem block_may_1_ok {A : Ar} (hA : A = std) {x0 : ByteArray} {r : Bool} (h : block_may_1 A x0 = some r) : PFun cx 290 [st x0] ((fun r : Bool => (bl r : PV)) r) := by
 refine PFun.walkF (fz := fun _ => false) hA cx_ok Tryz.func290 rfl rfl rfl fun P R hP hR => ?_
 cbv
 unfold block_may_1 at h
 iterate 2 refine kj ?_
 replace h := bd_e h; obtain ⟨w1, hw1, h⟩ := h
 refine CallK.mk _ (by rfl) (fun _ => PFun.to hP (block_value_ok hA hw1)) ?_
 cbv
 cases h; subst hR; exact ey
theorem block_may_ok {A : Ar} (hA : A = std) {x0 : Def} {r : Bool} (h : block_may A x0 = some r) : PFun cx 232 [defPV x0] ((fun r : Bool => (bl r : PV)) r) := by
 refine PFun.walkF (fz := fun _ => false) hA cx_ok Tryz.func232 rfl rfl rfl fun P R hP hR => ?_
 cbv
 unfold block_may at h
 iterate 2 refine kj ?_
 replace h := Loop_e h; obtain ⟨n1, hl1⟩ := h
 refine LoopK.q (X := Runs (block_may_B1 A x0) _) (fun x gh => [(8, it IntKind.i64 x.1.2)]) (fun x gh => [⟨1, 0, .box 164 [PV.d (D.v (Value.string x0.1)), PV.d (D.sl TyS.str x0.2), PV.d (D.sl TyS.str x0.3)]⟩]) (fun x => x.1.1) ⟨(n1, _), hl1⟩ [] hdz ?_
 rintro ⟨⟨n1, t8⟩, hr1⟩ gh1 g1 K1 Q1 hK1 hQ1
 obtain _ | n1 := n1
 ·exact (LoopN_z hr1).elim
 obtain ⟨v1, h, hv1⟩ := LoopN_e hr1
 cbv
 refine kj ?_
 replace h := br_e h; obtain ⟨hb, h⟩ | ⟨hb, h⟩ := h
 ·refine cdT hb ?_; cbv
  refine kj ?_
  replace h := ck_e h; obtain ⟨c1, h⟩ := h; refine ⟨c1, ?_⟩
  refine kj ?_
  replace h := bd_e h; obtain ⟨w2, hw2, h⟩ := h
  refine CallK.mk _ (by rfl) (fun _ => PFun.to hP (block_word_ok hA hw2)) ?_
  cbv
  iterate 4 refine cj ?_
  replace h := ck_e h; obtain ⟨c3, h⟩ := h; refine ⟨c3, ?_⟩
  iterate 2 refine cj ?_
  replace h := bd_e h; obtain ⟨w4, hw4, h⟩ := h
  refine CallK.mk _ (by rfl) (fun hc => PFun.to hP (slices_Contains_string_string_ok hA (gd_e hw4 hc))) ?_
  cbv
  refine cj ?_
  replace h := br_e h; obtain ⟨hb, h⟩ | ⟨hb, h⟩ := h
  ·refine cdT hb ?_; cbv
   refine kj ?_
   replace h := rt_e h; obtain ⟨_, h, rfl⟩ := h
   cases hv1; refine hQ1 _ _ ?_; cbv
   cases h; subst hR; exact ey
  ·refine cdF hb ?_; cbv
   refine kj ?_
   cases h
   exact hK1 _ ⟨(n1, _), hv1⟩ [] (Nat.lt_succ_self _) hdy
 ·refine cdF hb ?_; cbv
  replace h := rt_e h; obtain ⟨_, h, rfl⟩ := h
  cases hv1; refine hQ1 _ _ ?_; cbv
  refine kj ?_
  replace h := bd_e h; obtain ⟨w5, hw5, h⟩ := h
  refine CallK.mk _ (by rfl) (fun _ => PFun.to hP (block_word_ok hA hw5)) ?_
  cbv
  iterate 17 refine cj ?_
  replace h := bd_e h; obtain ⟨w6, hw6, h⟩ := h
  refine CallK.le _ _ (by rfl) (fun _ => ey) (fun hc => PFun.to hP (slices_ContainsFunc_string_string_ok hA (by rfl) (fun _ _ hw => block_may_1_ok hA hw) (gd_e hw6 hc))) ?_
  cbv
  iterate 2 refine cj ?_
  cases h; subst hR; exact ey
theorem block_Right_1_ok {A : Ar} (hA : A = std) {x0 : Def} {r : Bool} (h : block_Right_1 A x0 = some r) : PFun cx 231 [defPV x0] ((fun r : Bool => (bl r : PV)) r) := by
 refine PFun.walkF (fz := fun _ => false) hA cx_ok Tryz.func231 rfl rfl rfl fun P R hP hR => ?_
 cbv
 unfold block_Right_1 at h
 iterate 2 refine kj ?_
 replace h := bd_e h; obtain ⟨w1, hw1, h⟩ := h
 refine CallK.mk _ (by rfl) (fun _ => PFun.to hP (block_may_ok hA hw1)) ?_
 cbv
 cases h; subst hR; exact ey
theorem block_Right_ok {A : Ar} (hA : A = std) {x0 : List Def} {r : Bool} (h : block_Right A x0 = some r) : PFun cx 160 [.d (.sl TyS.dfn x0)] ((fun r : Bool => (bl r : PV)) r) := by
 refine PFun.walkF (fz := fun _ => false) hA cx_ok Tryz.func160 rfl rfl rfl fun P R hP hR => ?_
 cbv
 unfold block_Right at h
 iterate 2 refine kj ?_
 refine cj ?_
 replace h := bd_e h; obtain ⟨w1, hw1, h⟩ := h
 refine CallK.le _ _ (by rfl) (fun _ => ey) (fun hc => PFun.to hP (slices_ContainsFunc_Def_Def_ok hA (by rfl) (fun _ _ hw => block_Right_1_ok hA hw) (gd_e hw1 hc))) ?_
 cbv
 iterate 2 refine cj ?_
 cases h; subst hR; exact ey
theorem rules_word_ok {A : Ar} (hA : A = std) {x0 : ByteArray} {r : Bool} (h : rules_word A x0 = some r) : PFun cx 154 [st x0] ((fun r : Bool => (bl r : PV)) r) := by
 refine PFun.walkF (fz := fun _ => false) hA cx_ok Tryz.func154 rfl rfl rfl fun P R hP hR => ?_
 cbv
 unfold rules_word at h
 iterate 2 refine kj ?_
 replace h := bd_e h; obtain ⟨w1, hw1, h⟩ := h
 refine CallK.mk _ (by rfl) (fun _ => PFun.to hP (block_Right_ok hA hw1)) ?_
 cbv
 cases h; subst hR; exact ey
theorem rules_time_ok {A : Ar} (hA : A = std) {x0 : Int} {r : Bool} (h : rules_time A x0 = some r) : PFun cx 155 [it .i64 x0] ((fun r : Bool => (bl r : PV)) r) := by
 refine PFun.walkF (fz := fun _ => false) hA cx_ok Tryz.func155 rfl rfl rfl fun P R hP hR => ?_
 cbv
 unfold rules_time at h
 iterate 2 refine kj ?_
 iterate 2 refine cj ?_
 cases h; subst hR; exact ey
theorem label_letter_ok {A : Ar} (hA : A = std) {x0 : Int} {r : Bool} (h : label_letter A x0 = some r) : PFun cx 310 [it .u8 x0] ((fun r : Bool => (bl r : PV)) r) := by
 refine PFun.walkF (fz := fun _ => false) hA cx_ok Tryz.func310 rfl rfl rfl fun P R hP hR => ?_
 cbv
 unfold label_letter at h
 iterate 2 refine kj ?_
 iterate 6 refine cj ?_
 refine ⟨by subst hA; simp +contextual [vcm], ?_⟩
 iterate 3 refine cj ?_
 cases h; subst hR; exact ey
theorem label_name_ok {A : Ar} (hA : A = std) {x0 : ByteArray} {r : Bool} (h : label_name A x0 = some r) : PFun cx 286 [st x0] ((fun r : Bool => (bl r : PV)) r) := by
 refine PFun.walkF (fz := fun _ => false) hA cx_ok Tryz.func286 rfl rfl rfl fun P R hP hR => ?_
 cbv
 unfold label_name at h
 iterate 2 refine kj ?_
 replace h := Loop_e h; obtain ⟨n1, hl1⟩ := h
 refine LoopK.q (X := Runs (label_name_B1 A x0) _) (fun x gh => [(2, bl x.1.2.1), (7, it IntKind.i64 x.1.2.2)]) (fun x gh => []) (fun x => x.1.1) ⟨(n1, _), hl1⟩ [] hdz ?_
 rintro ⟨⟨n1, t2, t7⟩, hr1⟩ gh1 g1 K1 Q1 hK1 hQ1
 obtain _ | n1 := n1
 ·exact (LoopN_z hr1).elim
 obtain ⟨v1, h, hv1⟩ := LoopN_e hr1
 cbv
 refine kj ?_
 replace h := br_e h; obtain ⟨hb, h⟩ | ⟨hb, h⟩ := h
 ·refine cdT hb ?_; cbv
  iterate 2 refine kj ?_
  replace h := ck_e h; obtain ⟨c1, h⟩ := h; refine ⟨c1, ?_⟩
  refine kj ?_
  replace h := bd_e h; obtain ⟨w2, hw2, h⟩ := h
  refine CallK.mk _ (by rfl) (fun _ => PFun.to hP (label_letter_ok hA hw2)) ?_
  cbv
  iterate 4 refine cj ?_
  refine ⟨by subst hA; simp +contextual [vcm], ?_⟩
  iterate 3 refine cj ?_
  refine ⟨by subst hA; simp +contextual [vcm], ?_⟩
  refine cj ?_
  replace h := br_e h; obtain ⟨hb, h⟩ | ⟨hb, h⟩ := h
  ·refine cdT hb ?_; cbv
   refine kj ?_
   replace h := rt_e h; obtain ⟨_, h, rfl⟩ := h
   cases hv1; refine hQ1 _ _ ?_; cbv
   cases h; subst hR; exact ey
  ·refine cdF hb ?_; cbv
   refine kj ?_
   cases h
   exact hK1 _ ⟨(n1, _), hv1⟩ [] (Nat.lt_succ_self _) hdy
 ·refine cdF hb ?_; cbv
  replace h := rt_e h; obtain ⟨_, h, rfl⟩ := h
  cases hv1; refine hQ1 _ _ ?_; cbv
  refine kj ?_
  iterate 3 refine cj ?_
  cases h; subst hR; exact ey
theorem label_value_1_ok {A : Ar} (hA : A = std) {x0 : Int} {r : Bool} (h : label_value_1 A x0 = some r) : PFun cx 311 [it .u8 x0] ((fun r : Bool => (bl r : PV)) r) := by
 refine PFun.walkF (fz := fun _ => false) hA cx_ok Tryz.func311 rfl rfl rfl fun P R hP hR => ?_
 cbv
 unfold label_value_1 at h
 iterate 2 refine kj ?_
 iterate 2 refine cj ?_
 cases h; subst hR; exact ey
theorem label_value_ok {A : Ar} (hA : A = std) {x0 : ByteArray} {r : Bool} (h : label_value A x0 = some r) : PFun cx 287 [st x0] ((fun r : Bool => (bl r : PV)) r) := by
 refine PFun.walkF (fz := fun _ => false) hA cx_ok Tryz.func287 rfl rfl rfl fun P R hP hR => ?_
 cbv
 unfold label_value at h
 iterate 2 refine kj ?_
 iterate 5 refine cj ?_
 replace h := bd_e h; obtain ⟨w1, hw1, h⟩ := h
 refine CallK.le _ _ (by rfl) (fun _ => ey) (fun hc => PFun.to hP (slices_ContainsFunc_byte_byte_ok hA (by rfl) (fun _ _ hw => label_value_1_ok hA hw) (gd_e hw1 hc))) ?_
 cbv
 iterate 2 refine cj ?_
 cases h; subst hR; exact ey
theorem label_may_ok {A : Ar} (hA : A = std) {x0 : Label} {r : Bool} (h : label_may A x0 = some r) : PFun cx 226 [labelPV x0] ((fun r : Bool => (bl r : PV)) r) := by
 refine PFun.walkF (fz := fun _ => false) hA cx_ok Tryz.func226 rfl rfl rfl fun P R hP hR => ?_
 cbv
 unfold label_may at h
 iterate 2 refine kj ?_
 replace h := bd_e h; obtain ⟨w1, hw1, h⟩ := h
 refine CallK.mk _ (by rfl) (fun _ => PFun.to hP (label_name_ok hA hw1)) ?_
 cbv
 iterate 3 refine cj ?_
 replace h := bd_e h; obtain ⟨w2, hw2, h⟩ := h
 refine CallK.mk _ (by rfl) (fun hc => PFun.to hP (label_value_ok hA (gd_e hw2 hc))) ?_
 cbv
 refine cj ?_
 cases h; subst hR; exact ey
theorem label_Right_ok {A : Ar} (hA : A = std) {x0 : List Label} {r : Bool} (h : label_Right A x0 = some r) : PFun cx 156 [.d (.sl TyS.label x0)] ((fun r : Bool => (bl r : PV)) r) := by
 refine PFun.walkF (fz := fun _ => false) hA cx_ok Tryz.func156 rfl rfl rfl fun P R hP hR => ?_
 cbv
 unfold label_Right at h
 iterate 2 refine kj ?_
 replace h := Loop_e h; obtain ⟨n1, hl1⟩ := h
 refine LoopK.q (X := Runs (label_Right_B1 A x0) _) (fun x gh => [(7, it IntKind.i64 x.1.2)]) (fun x gh => []) (fun x => x.1.1) ⟨(n1, _), hl1⟩ [] hdz ?_
 rintro ⟨⟨n1, t7⟩, hr1⟩ gh1 g1 K1 Q1 hK1 hQ1
 obtain _ | n1 := n1
 ·exact (LoopN_z hr1).elim
 obtain ⟨v1, h, hv1⟩ := LoopN_e hr1
 cbv
 refine kj ?_
 replace h := br_e h; obtain ⟨hb, h⟩ | ⟨hb, h⟩ := h
 ·refine cdT hb ?_; cbv
  refine kj ?_
  replace h := ck_e h; obtain ⟨c1, h⟩ := h; refine ⟨c1, ?_⟩
  refine kj ?_
  replace h := bd_e h; obtain ⟨w2, hw2, h⟩ := h
  refine CallK.mk _ (by rfl) (fun _ => PFun.to hP (label_may_ok hA hw2)) ?_
  cbv
  iterate 5 refine cj ?_
  replace h := ck_e h; obtain ⟨c3, h⟩ := h; refine ⟨c3, ?_⟩
  iterate 7 refine cj ?_
  refine ⟨by subst hA; simp +contextual [vcm], ?_⟩
  refine cj ?_
  refine kj ?_
  replace h := br_e h; obtain ⟨hb, h⟩ | ⟨hb, h⟩ := h
  ·refine cdT hb ?_; cbv
   refine kj ?_
   replace h := rt_e h; obtain ⟨_, h, rfl⟩ := h
   cases hv1; refine hQ1 _ _ ?_; cbv
   cases h; subst hR; exact ey
  ·refine cdF hb ?_; cbv
   refine kj ?_
   cases h
   exact hK1 _ ⟨(n1, _), hv1⟩ [] (Nat.lt_succ_self _) hdy
 ·refine cdF hb ?_; cbv
  replace h := rt_e h; obtain ⟨_, h, rfl⟩ := h
  cases hv1; refine hQ1 _ _ ?_; cbv
  refine kj ?_
  cases h; subst hR; exact ey
theorem label_Get_1_ok {A : Ar} (hA : A = std) {x0 : Label} {c0 : ByteArray} {r : Bool} (h : label_Get_1 A x0 c0 = some r) : PFun cx 228 [labelPV x0, .ip [.v (.string c0)]] ((fun r : Bool => (bl r : PV)) r) := by
 refine PFun.walkF (fz := fun _ => false) hA cx_ok Tryz.func228 rfl rfl rfl fun P R hP hR => ?_
 cbv
 unfold label_Get_1 at h
 iterate 2 refine kj ?_
 cases h; subst hR; exact ey
theorem slices_IndexFunc_Label_Label_ok {A : Ar} (hA : A = std) {x0 : List Label} {q1 : Label → Option Bool} {g1 : Nat} {cap1 : List PV} (hcap1 : bare.bares cap1 = true) (hq1 : ∀ (y0 : Label) (r : Bool), q1 y0 = some r → PFun cx g1 ((labelPV y0) :: cap1) (bl r)) {r : Int} (h : slices_IndexFunc_Label_Label A x0 q1 = some r) : PFun cx 227 [.d (.sl TyS.label x0), .fn (.func g1) [] cap1] ((fun r : Int => (it .i64 r : PV)) r) := by
 refine PFun.walkF (fz := fun _ => false) hA cx_ok Tryz.func227 rfl rfl rfl fun P R hP hR => ?_
 cbv
 unfold slices_IndexFunc_Label_Label at h
 iterate 2 refine kj ?_
 replace h := Loop_e h; obtain ⟨n1, hl1⟩ := h
 refine LoopK.q (X := Runs (slices_IndexFunc_Label_Label_B1 A x0 q1) _) (fun x gh => [(8, it IntKind.i64 x.1.2)]) (fun x gh => []) (fun x => x.1.1) ⟨(n1, _), hl1⟩ [] hdz ?_
 rintro ⟨⟨n1, t8⟩, hr1⟩ gh1 g1 K1 Q1 hK1 hQ1
 obtain _ | n1 := n1
 ·exact (LoopN_z hr1).elim
 obtain ⟨v1, h, hv1⟩ := LoopN_e hr1
 cbv
 refine kj ?_
 replace h := br_e h; obtain ⟨hb, h⟩ | ⟨hb, h⟩ := h
 ·refine cdT hb ?_; cbv
  iterate 2 refine kj ?_
  replace h := ck_e h; obtain ⟨c1, h⟩ := h; refine ⟨c1, ?_⟩
  replace h := bd_e h; obtain ⟨w2, hw2, h⟩ := h
  refine CallK.mk _ (by first | rfl | simp [bare, bare.bares, hcap1]) (fun _ => PFun.to hP (hq1 _ _ hw2)) ?_
  cbv
  replace h := br_e h; obtain ⟨hb, h⟩ | ⟨hb, h⟩ := h
  ·refine cdT hb ?_; cbv
   refine kj ?_
   replace h := rt_e h; obtain ⟨_, h, rfl⟩ := h
   cases hv1; refine hQ1 _ _ ?_; cbv
   cases h; subst hR; exact ey
  ·refine cdF hb ?_; cbv
   refine kj ?_
   cases h
   exact hK1 _ ⟨(n1, _), hv1⟩ [] (Nat.lt_succ_self _) hdy
 ·refine cdF hb ?_; cbv
  replace h := rt_e h; obtain ⟨_, h, rfl⟩ := h
  cases hv1; refine hQ1 _ _ ?_; cbv
  refine kj ?_
  cases h; subst hR; exact ey
theorem label_Get_ok {A : Ar} (hA : A = std) {x0 : List Label} {x1 : ByteArray} {r : ByteArray} (h : label_Get A x0 x1 = some r) : PFun cx 157 [.d (.sl TyS.label x0), st x1] ((fun r : ByteArray => (st r : PV)) r) := by
 refine PFun.walkF (fz := fun k => k == 3) hA cx_ok Tryz.func157 rfl rfl rfl fun P R hP hR => ?_
 cbv
 unfold label_Get at h
 iterate 2 refine kj ?_
 replace h := bd_e h; obtain ⟨w1, hw1, h⟩ := h
 refine CallK.mk _ (by rfl) (fun _ => PFun.to hP (slices_IndexFunc_Label_Label_ok hA (by rfl) (fun _ _ hw => label_Get_1_ok hA hw) hw1)) ?_
 cbv
 refine kj ?_
 replace h := br_e h; obtain ⟨hb, h⟩ | ⟨hb, h⟩ := h
 ·refine cdT hb ?_; cbv
  refine kj ?_
  cases h; subst hR; exact ey
 ·refine cdF hb ?_; cbv
  refine kj ?_
  replace h := ck_e h; obtain ⟨c2, h⟩ := h; refine ⟨c2, ?_⟩
  cases h; subst hR; exact ey
theorem rules_Right_ok {A : Ar} (hA : A = std) {x0 : Rule} {r : Bool} (h : rules_Right A x0 = some r) : PFun cx 64 [rulePV x0] ((fun r : Bool => (bl r : PV)) r) := by
 refine PFun.walkF (fz := fun _ => false) hA cx_ok Tryz.func64 rfl rfl rfl fun P R hP hR => ?_
 cbv
 unfold rules_Right at h
 iterate 2 refine kj ?_
 replace h := bd_e h; obtain ⟨w1, hw1, h⟩ := h
 refine CallK.mk _ (by rfl) (fun _ => PFun.to hP (rules_word_ok hA hw1)) ?_
 cbv
 iterate 3 refine cj ?_
 replace h := bd_e h; obtain ⟨w2, hw2, h⟩ := h
 refine CallK.mk _ (by rfl) (fun hc => PFun.to hP (rules_word_ok hA (gd_e hw2 hc))) ?_
 cbv
 iterate 9 refine cj ?_
 refine kj ?_
 replace h := bd_e h; obtain ⟨w3, hw3, h⟩ := h
 refine CallK.mk _ (by rfl) (fun _ => PFun.to hP (rules_time_ok hA hw3)) ?_
 cbv
 iterate 3 refine cj ?_
 replace h := bd_e h; obtain ⟨w4, hw4, h⟩ := h
 refine CallK.mk _ (by rfl) (fun hc => PFun.to hP (rules_time_ok hA (gd_e hw4 hc))) ?_
 cbv
 iterate 9 refine cj ?_
 refine kj ?_
 iterate 17 refine cj ?_
 replace h := bd_e h; obtain ⟨w5, hw5, h⟩ := h
 refine CallK.mk _ (by rfl) (fun hc => PFun.to hP (label_Right_ok hA (gd_e hw5 hc))) ?_
 cbv
 iterate 4 refine cj ?_
 replace h := bd_e h; obtain ⟨w6, hw6, h⟩ := h
 refine CallK.mk _ (by rfl) (fun hc => PFun.to hP (label_Get_ok hA (gd_e hw6 hc))) ?_
 cbv
 iterate 2 refine cj ?_
 cases h; subst hR; exact ey
theorem config_all_string_1_ok {A : Ar} (hA : A = std) {x0 : ByteArray} {qc0 : ByteArray → Option Bool} {gc0 : Nat} {capc0 : List D} (hcapc0 : capOK capc0) (hqc0 : ∀ (y0 : ByteArray) (r : Bool), qc0 y0 = some r → PFun cx gc0 ((st y0) :: un.uns capc0) (bl r)) {r : Bool} (h : config_all_string_1 A x0 qc0 = some r) : PFun cx 159 [st x0, .ip [.fun (.func gc0) [] capc0]] ((fun r : Bool => (bl r : PV)) r) := by
 rcases hcapc0 with rfl | ⟨dscapc0, rfl⟩
 all_goals
  refine PFun.walkF (fz := fun _ => false) hA cx_ok Tryz.func159 rfl rfl rfl fun P R hP hR => ?_
  cbv
  unfold config_all_string_1 at h
  iterate 2 refine kj ?_
  replace h := bd_e h; obtain ⟨w1, hw1, h⟩ := h
  refine CallK.mk _ (by rfl) (fun _ => PFun.to hP (hqc0 _ _ hw1)) ?_
  cbv
  cases h; subst hR; exact ey
theorem config_all_string_ok {A : Ar} (hA : A = std) {x0 : List ByteArray} {x1 : Int} {q2 : ByteArray → Option Bool} {g2 : Nat} {cap2 : List D} (hcap2 : capOK cap2) (hq2 : ∀ (y0 : ByteArray) (r : Bool), q2 y0 = some r → PFun cx g2 ((st y0) :: un.uns cap2) (bl r)) {r : Bool} (h : config_all_string A x0 x1 q2 = some r) : PFun cx 65 [.d (.sl TyS.str x0), it .i64 x1, .fn (.func g2) [] (un.uns cap2)] ((fun r : Bool => (bl r : PV)) r) := by
 rcases hcap2 with rfl | ⟨dscap2, rfl⟩
 ·refine PFun.walkF (fz := fun k => k == 5) hA cx_ok Tryz.func65 rfl rfl rfl fun P R hP hR => ?_
  cbv
  unfold config_all_string at h
  iterate 2 refine kj ?_
  iterate 2 refine cj ?_
  replace h := bd_e h; obtain ⟨w1, hw1, h⟩ := h
  refine CallK.mk _ (by rfl) (fun hc => PFun.to hP (slices_ContainsFunc_string_string_ok hA (by rfl) (fun _ _ hw => config_all_string_1_ok (capc0 := []) hA (by first | exact .inl rfl | exact .inr ⟨_, rfl⟩) hq2 hw) (gd_e hw1 hc))) ?_
  cbv
  iterate 2 refine cj ?_
  cases h; subst hR; exact ey
 ·refine PFun.walkF (fz := fun k => k == 5) hA cx_ok Tryz.func65 rfl rfl rfl fun P R hP hR => ?_
  cbv
  unfold config_all_string at h
  iterate 2 refine kj ?_
  iterate 2 refine cj ?_
  replace h := bd_e h; obtain ⟨w1, hw1, h⟩ := h
  refine CallK.mk _ (by rfl) (fun hc => PFun.to hP (slices_ContainsFunc_string_string_ok hA (by rfl) (fun _ _ hw => config_all_string_1_ok (capc0 := [D.ptr dscap2]) hA (by first | exact .inl rfl | exact .inr ⟨_, rfl⟩) hq2 hw) (gd_e hw1 hc))) ?_
  cbv
  iterate 2 refine cj ?_
  cases h; subst hR; exact ey
theorem config_word_ok {A : Ar} (hA : A = std) {x0 : ByteArray} {r : Bool} (h : config_word A x0 = some r) : PFun cx 66 [st x0] ((fun r : Bool => (bl r : PV)) r) := by
 refine PFun.walkF (fz := fun _ => false) hA cx_ok Tryz.func66 rfl rfl rfl fun P R hP hR => ?_
 cbv
 unfold config_word at h
 iterate 2 refine kj ?_
 replace h := bd_e h; obtain ⟨w1, hw1, h⟩ := h
 refine CallK.mk _ (by rfl) (fun _ => PFun.to hP (block_Right_ok hA hw1)) ?_
 cbv
 cases h; subst hR; exact ey
theorem config_all_Inhibit_1_ok {A : Ar} (hA : A = std) {x0 : Inhibit} {qc0 : Inhibit → Option Bool} {gc0 : Nat} {capc0 : List D} (hcapc0 : capOK capc0) (hqc0 : ∀ (y0 : Inhibit) (r : Bool), qc0 y0 = some r → PFun cx gc0 ((inhibitPV y0) :: un.uns capc0) (bl r)) {r : Bool} (h : config_all_Inhibit_1 A x0 qc0 = some r) : PFun cx 161 [inhibitPV x0, .ip [.fun (.func gc0) [] capc0]] ((fun r : Bool => (bl r : PV)) r) := by
 rcases hcapc0 with rfl | ⟨dscapc0, rfl⟩
 all_goals
  refine PFun.walkF (fz := fun _ => false) hA cx_ok Tryz.func161 rfl rfl rfl fun P R hP hR => ?_
  cbv
  unfold config_all_Inhibit_1 at h
  iterate 2 refine kj ?_
  replace h := bd_e h; obtain ⟨w1, hw1, h⟩ := h
  refine CallK.mk _ (by rfl) (fun _ => PFun.to hP (hqc0 _ _ hw1)) ?_
  cbv
  cases h; subst hR; exact ey
theorem slices_IndexFunc_Inhibit_Inhibit_ok {A : Ar} (hA : A = std) {x0 : List Inhibit} {q1 : Inhibit → Option Bool} {g1 : Nat} {cap1 : List PV} (hcap1 : bare.bares cap1 = true) (hq1 : ∀ (y0 : Inhibit) (r : Bool), q1 y0 = some r → PFun cx g1 ((inhibitPV y0) :: cap1) (bl r)) {r : Int} (h : slices_IndexFunc_Inhibit_Inhibit A x0 q1 = some r) : PFun cx 192 [.d (.sl TyS.inhibit x0), .fn (.func g1) [] cap1] ((fun r : Int => (it .i64 r : PV)) r) := by
 refine PFun.walkF (fz := fun _ => false) hA cx_ok Tryz.func192 rfl rfl rfl fun P R hP hR => ?_
 cbv
 unfold slices_IndexFunc_Inhibit_Inhibit at h
 iterate 2 refine kj ?_
 replace h := Loop_e h; obtain ⟨n1, hl1⟩ := h
 refine LoopK.q (X := Runs (slices_IndexFunc_Inhibit_Inhibit_B1 A x0 q1) _) (fun x gh => [(8, it IntKind.i64 x.1.2)]) (fun x gh => []) (fun x => x.1.1) ⟨(n1, _), hl1⟩ [] hdz ?_
 rintro ⟨⟨n1, t8⟩, hr1⟩ gh1 g1 K1 Q1 hK1 hQ1
 obtain _ | n1 := n1
 ·exact (LoopN_z hr1).elim
 obtain ⟨v1, h, hv1⟩ := LoopN_e hr1
 cbv
 refine kj ?_
 replace h := br_e h; obtain ⟨hb, h⟩ | ⟨hb, h⟩ := h
 ·refine cdT hb ?_; cbv
  iterate 2 refine kj ?_
  replace h := ck_e h; obtain ⟨c1, h⟩ := h; refine ⟨c1, ?_⟩
  replace h := bd_e h; obtain ⟨w2, hw2, h⟩ := h
  refine CallK.mk _ (by first | rfl | simp [bare, bare.bares, hcap1]) (fun _ => PFun.to hP (hq1 _ _ hw2)) ?_
  cbv
  replace h := br_e h; obtain ⟨hb, h⟩ | ⟨hb, h⟩ := h
  ·refine cdT hb ?_; cbv
   refine kj ?_
   replace h := rt_e h; obtain ⟨_, h, rfl⟩ := h
   cases hv1; refine hQ1 _ _ ?_; cbv
   cases h; subst hR; exact ey
  ·refine cdF hb ?_; cbv
   refine kj ?_
   cases h
   exact hK1 _ ⟨(n1, _), hv1⟩ [] (Nat.lt_succ_self _) hdy
 ·refine cdF hb ?_; cbv
  replace h := rt_e h; obtain ⟨_, h, rfl⟩ := h
  cases hv1; refine hQ1 _ _ ?_; cbv
  refine kj ?_
  cases h; subst hR; exact ey
theorem slices_ContainsFunc_Inhibit_Inhibit_ok {A : Ar} (hA : A = std) {x0 : List Inhibit} {q1 : Inhibit → Option Bool} {g1 : Nat} {cap1 : List PV} (hcap1 : bare.bares cap1 = true) (hq1 : ∀ (y0 : Inhibit) (r : Bool), q1 y0 = some r → PFun cx g1 ((inhibitPV y0) :: cap1) (bl r)) {r : Bool} (h : slices_ContainsFunc_Inhibit_Inhibit A x0 q1 = some r) : PFun cx 110 [.d (.sl TyS.inhibit x0), .fn (.func g1) [] cap1] ((fun r : Bool => (bl r : PV)) r) := by
 refine PFun.walkF (fz := fun _ => false) hA cx_ok Tryz.func110 rfl rfl rfl fun P R hP hR => ?_
 cbv
 unfold slices_ContainsFunc_Inhibit_Inhibit at h
 iterate 2 refine kj ?_
 replace h := bd_e h; obtain ⟨w1, hw1, h⟩ := h
 refine CallK.mk _ (by first | rfl | simp [bare, bare.bares, hcap1]) (fun _ => PFun.to hP (slices_IndexFunc_Inhibit_Inhibit_ok hA hcap1 hq1 hw1)) ?_
 cbv
 cases h; subst hR; exact ey
theorem config_all_Inhibit_ok {A : Ar} (hA : A = std) {x0 : List Inhibit} {x1 : Int} {q2 : Inhibit → Option Bool} {g2 : Nat} {cap2 : List D} (hcap2 : capOK cap2) (hq2 : ∀ (y0 : Inhibit) (r : Bool), q2 y0 = some r → PFun cx g2 ((inhibitPV y0) :: un.uns cap2) (bl r)) {r : Bool} (h : config_all_Inhibit A x0 x1 q2 = some r) : PFun cx 67 [.d (.sl TyS.inhibit x0), it .i64 x1, .fn (.func g2) [] (un.uns cap2)] ((fun r : Bool => (bl r : PV)) r) := by
 rcases hcap2 with rfl | ⟨dscap2, rfl⟩
 ·refine PFun.walkF (fz := fun k => k == 5) hA cx_ok Tryz.func67 rfl rfl rfl fun P R hP hR => ?_
  cbv
  unfold config_all_Inhibit at h
  iterate 2 refine kj ?_
  iterate 2 refine cj ?_
  replace h := bd_e h; obtain ⟨w1, hw1, h⟩ := h
  refine CallK.mk _ (by rfl) (fun hc => PFun.to hP (slices_ContainsFunc_Inhibit_Inhibit_ok hA (by rfl) (fun _ _ hw => config_all_Inhibit_1_ok (capc0 := []) hA (by first | exact .inl rfl | exact .inr ⟨_, rfl⟩) hq2 hw) (gd_e hw1 hc))) ?_
  cbv
  iterate 2 refine cj ?_
  cases h; subst hR; exact ey
 ·refine PFun.walkF (fz := fun k => k == 5) hA cx_ok Tryz.func67 rfl rfl rfl fun P R hP hR => ?_
  cbv
  unfold config_all_Inhibit at h
  iterate 2 refine kj ?_
  iterate 2 refine cj ?_
  replace h := bd_e h; obtain ⟨w1, hw1, h⟩ := h
  refine CallK.mk _ (by rfl) (fun hc => PFun.to hP (slices_ContainsFunc_Inhibit_Inhibit_ok hA (by rfl) (fun _ _ hw => config_all_Inhibit_1_ok (capc0 := [D.ptr dscap2]) hA (by first | exact .inl rfl | exact .inr ⟨_, rfl⟩) hq2 hw) (gd_e hw1 hc))) ?_
  cbv
  iterate 2 refine cj ?_
  cases h; subst hR; exact ey
theorem config_all_Matcher_1_ok {A : Ar} (hA : A = std) {x0 : Matcher} {qc0 : Matcher → Option Bool} {gc0 : Nat} {capc0 : List D} (hcapc0 : capOK capc0) (hqc0 : ∀ (y0 : Matcher) (r : Bool), qc0 y0 = some r → PFun cx gc0 ((matcherPV y0) :: un.uns capc0) (bl r)) {r : Bool} (h : config_all_Matcher_1 A x0 qc0 = some r) : PFun cx 233 [matcherPV x0, .ip [.fun (.func gc0) [] capc0]] ((fun r : Bool => (bl r : PV)) r) := by
 rcases hcapc0 with rfl | ⟨dscapc0, rfl⟩
 all_goals
  refine PFun.walkF (fz := fun _ => false) hA cx_ok Tryz.func233 rfl rfl rfl fun P R hP hR => ?_
  cbv
  unfold config_all_Matcher_1 at h
  iterate 2 refine kj ?_
  replace h := bd_e h; obtain ⟨w1, hw1, h⟩ := h
  refine CallK.mk _ (by rfl) (fun _ => PFun.to hP (hqc0 _ _ hw1)) ?_
  cbv
  cases h; subst hR; exact ey
theorem slices_IndexFunc_Matcher_Matcher_ok {A : Ar} (hA : A = std) {x0 : List Matcher} {q1 : Matcher → Option Bool} {g1 : Nat} {cap1 : List PV} (hcap1 : bare.bares cap1 = true) (hq1 : ∀ (y0 : Matcher) (r : Bool), q1 y0 = some r → PFun cx g1 ((matcherPV y0) :: cap1) (bl r)) {r : Int} (h : slices_IndexFunc_Matcher_Matcher A x0 q1 = some r) : PFun cx 250 [.d (.sl TyS.matcher x0), .fn (.func g1) [] cap1] ((fun r : Int => (it .i64 r : PV)) r) := by
 refine PFun.walkF (fz := fun _ => false) hA cx_ok Tryz.func250 rfl rfl rfl fun P R hP hR => ?_
 cbv
 unfold slices_IndexFunc_Matcher_Matcher at h
 iterate 2 refine kj ?_
 replace h := Loop_e h; obtain ⟨n1, hl1⟩ := h
 refine LoopK.q (X := Runs (slices_IndexFunc_Matcher_Matcher_B1 A x0 q1) _) (fun x gh => [(8, it IntKind.i64 x.1.2)]) (fun x gh => []) (fun x => x.1.1) ⟨(n1, _), hl1⟩ [] hdz ?_
 rintro ⟨⟨n1, t8⟩, hr1⟩ gh1 g1 K1 Q1 hK1 hQ1
 obtain _ | n1 := n1
 ·exact (LoopN_z hr1).elim
 obtain ⟨v1, h, hv1⟩ := LoopN_e hr1
 cbv
 refine kj ?_
 replace h := br_e h; obtain ⟨hb, h⟩ | ⟨hb, h⟩ := h
 ·refine cdT hb ?_; cbv
  iterate 2 refine kj ?_
  replace h := ck_e h; obtain ⟨c1, h⟩ := h; refine ⟨c1, ?_⟩
  replace h := bd_e h; obtain ⟨w2, hw2, h⟩ := h
  refine CallK.mk _ (by first | rfl | simp [bare, bare.bares, hcap1]) (fun _ => PFun.to hP (hq1 _ _ hw2)) ?_
  cbv
  replace h := br_e h; obtain ⟨hb, h⟩ | ⟨hb, h⟩ := h
  ·refine cdT hb ?_; cbv
   refine kj ?_
   replace h := rt_e h; obtain ⟨_, h, rfl⟩ := h
   cases hv1; refine hQ1 _ _ ?_; cbv
   cases h; subst hR; exact ey
  ·refine cdF hb ?_; cbv
   refine kj ?_
   cases h
   exact hK1 _ ⟨(n1, _), hv1⟩ [] (Nat.lt_succ_self _) hdy
 ·refine cdF hb ?_; cbv
  replace h := rt_e h; obtain ⟨_, h, rfl⟩ := h
  cases hv1; refine hQ1 _ _ ?_; cbv
  refine kj ?_
  cases h; subst hR; exact ey
theorem slices_ContainsFunc_Matcher_Matcher_ok {A : Ar} (hA : A = std) {x0 : List Matcher} {q1 : Matcher → Option Bool} {g1 : Nat} {cap1 : List PV} (hcap1 : bare.bares cap1 = true) (hq1 : ∀ (y0 : Matcher) (r : Bool), q1 y0 = some r → PFun cx g1 ((matcherPV y0) :: cap1) (bl r)) {r : Bool} (h : slices_ContainsFunc_Matcher_Matcher A x0 q1 = some r) : PFun cx 187 [.d (.sl TyS.matcher x0), .fn (.func g1) [] cap1] ((fun r : Bool => (bl r : PV)) r) := by
 refine PFun.walkF (fz := fun _ => false) hA cx_ok Tryz.func187 rfl rfl rfl fun P R hP hR => ?_
 cbv
 unfold slices_ContainsFunc_Matcher_Matcher at h
 iterate 2 refine kj ?_
 replace h := bd_e h; obtain ⟨w1, hw1, h⟩ := h
 refine CallK.mk _ (by first | rfl | simp [bare, bare.bares, hcap1]) (fun _ => PFun.to hP (slices_IndexFunc_Matcher_Matcher_ok hA hcap1 hq1 hw1)) ?_
 cbv
 cases h; subst hR; exact ey
theorem config_all_Matcher_ok {A : Ar} (hA : A = std) {x0 : List Matcher} {x1 : Int} {q2 : Matcher → Option Bool} {g2 : Nat} {cap2 : List D} (hcap2 : capOK cap2) (hq2 : ∀ (y0 : Matcher) (r : Bool), q2 y0 = some r → PFun cx g2 ((matcherPV y0) :: un.uns cap2) (bl r)) {r : Bool} (h : config_all_Matcher A x0 x1 q2 = some r) : PFun cx 162 [.d (.sl TyS.matcher x0), it .i64 x1, .fn (.func g2) [] (un.uns cap2)] ((fun r : Bool => (bl r : PV)) r) := by
 rcases hcap2 with rfl | ⟨dscap2, rfl⟩
 ·refine PFun.walkF (fz := fun k => k == 5) hA cx_ok Tryz.func162 rfl rfl rfl fun P R hP hR => ?_
  cbv
  unfold config_all_Matcher at h
  iterate 2 refine kj ?_
  iterate 2 refine cj ?_
  replace h := bd_e h; obtain ⟨w1, hw1, h⟩ := h
  refine CallK.mk _ (by rfl) (fun hc => PFun.to hP (slices_ContainsFunc_Matcher_Matcher_ok hA (by rfl) (fun _ _ hw => config_all_Matcher_1_ok (capc0 := []) hA (by first | exact .inl rfl | exact .inr ⟨_, rfl⟩) hq2 hw) (gd_e hw1 hc))) ?_
  cbv
  iterate 2 refine cj ?_
  cases h; subst hR; exact ey
 ·refine PFun.walkF (fz := fun k => k == 5) hA cx_ok Tryz.func162 rfl rfl rfl fun P R hP hR => ?_
  cbv
  unfold config_all_Matcher at h
  iterate 2 refine kj ?_
  iterate 2 refine cj ?_
  replace h := bd_e h; obtain ⟨w1, hw1, h⟩ := h
  refine CallK.mk _ (by rfl) (fun hc => PFun.to hP (slices_ContainsFunc_Matcher_Matcher_ok hA (by rfl) (fun _ _ hw => config_all_Matcher_1_ok (capc0 := [D.ptr dscap2]) hA (by first | exact .inl rfl | exact .inr ⟨_, rfl⟩) hq2 hw) (gd_e hw1 hc))) ?_
  cbv
  iterate 2 refine cj ?_
  cases h; subst hR; exact ey
theorem matcher_plain_ok {A : Ar} (hA : A = std) {x0 : Int} {r : Bool} (h : matcher_plain A x0 = some r) : PFun cx 293 [it .u8 x0] ((fun r : Bool => (bl r : PV)) r) := by
 refine PFun.walkF (fz := fun _ => false) hA cx_ok Tryz.func293 rfl rfl rfl fun P R hP hR => ?_
 cbv
 unfold matcher_plain at h
 iterate 2 refine kj ?_
 iterate 6 refine cj ?_
 refine ⟨by subst hA; simp +contextual [vcm], ?_⟩
 iterate 5 refine cj ?_
 refine ⟨by subst hA; simp +contextual [vcm], ?_⟩
 iterate 2 refine cj ?_
 replace h := bd_e h; obtain ⟨w1, hw1, h⟩ := h
 refine CallK.mk _ (by rfl) (fun hc => PFun.to hP (strings_IndexByte_ok hA (gd_e hw1 hc))) ?_
 cbv
 iterate 2 refine cj ?_
 cases h; subst hR; exact ey
theorem matcher_word_1_ok {A : Ar} (hA : A = std) {x0 : Int} {r : Bool} (h : matcher_word_1 A x0 = some r) : PFun cx 292 [it .u8 x0] ((fun r : Bool => (bl r : PV)) r) := by
 refine PFun.walkF (fz := fun _ => false) hA cx_ok Tryz.func292 rfl rfl rfl fun P R hP hR => ?_
 cbv
 unfold matcher_word_1 at h
 iterate 2 refine kj ?_
 replace h := bd_e h; obtain ⟨w1, hw1, h⟩ := h
 refine CallK.mk _ (by rfl) (fun _ => PFun.to hP (matcher_plain_ok hA hw1)) ?_
 cbv
 cases h; subst hR; exact ey
theorem matcher_word_ok {A : Ar} (hA : A = std) {x0 : ByteArray} {r : Bool} (h : matcher_word A x0 = some r) : PFun cx 234 [st x0] ((fun r : Bool => (bl r : PV)) r) := by
 refine PFun.walkF (fz := fun _ => false) hA cx_ok Tryz.func234 rfl rfl rfl fun P R hP hR => ?_
 cbv
 unfold matcher_word at h
 iterate 2 refine kj ?_
 iterate 2 refine cj ?_
 replace h := bd_e h; obtain ⟨w1, hw1, h⟩ := h
 refine CallK.le _ _ (by rfl) (fun _ => ey) (fun hc => PFun.to hP (slices_ContainsFunc_byte_byte_ok hA (by rfl) (fun _ _ hw => matcher_word_1_ok hA hw) (gd_e hw1 hc))) ?_
 cbv
 iterate 2 refine cj ?_
 cases h; subst hR; exact ey
theorem matcher_signs_ok {A : Ar} (hA : A = std) {r : Unit} (h : matcher_signs A = some r) : PFunM cx 235 [] [] ((fun r : Unit => (.mp 2000 1 : PV)) r) ((fun r : Unit => ([⟨2000, 1, .map [(.int .i64 1, .d (.v (.string (ByteArray.mk (Array.mk [61]))))), (.int .i64 2, .d (.v (.string (ByteArray.mk (Array.mk [33, 61]))))), (.int .i64 3, .d (.v (.string (ByteArray.mk (Array.mk [61, 126]))))), (.int .i64 4, .d (.v (.string (ByteArray.mk (Array.mk [33, 126])))))]⟩] : List En)) r) := by
 refine PFunM.walkM (fz := fun _ => false) hA cx_ok Tryz.func235 rfl rfl fun P R hP hR => ?_
 cbv
 unfold matcher_signs at h
 iterate 2 refine kj ?_
 refine and_assoc.2 ?_
 refine ⟨by subst hA; simp +contextual [vcm], ?_⟩
 refine cj ?_
 refine and_assoc.2 ?_
 refine ⟨by subst hA; simp +contextual [vcm], ?_⟩
 refine and_assoc.2 ?_
 refine ⟨by subst hA; simp +contextual [vcm], ?_⟩
 refine cj ?_
 refine and_assoc.2 ?_
 refine ⟨by subst hA; simp +contextual [vcm], ?_⟩
 refine and_assoc.2 ?_
 refine ⟨by subst hA; simp +contextual [vcm], ?_⟩
 refine and_assoc.2 ?_
 refine ⟨by subst hA; simp +contextual [vcm], ?_⟩
 refine cj ?_
 cases h
 refine hR _ _ ⟨[(1, 3)], ⟨by rfl, ez, by rfl, ez⟩⟩
theorem matcher_Right_ok {A : Ar} (hA : A = std) {x0 : Matcher} {r : Bool} (h : matcher_Right A x0 = some r) : PFun cx 163 [matcherPV x0] ((fun r : Bool => (bl r : PV)) r) := by
 refine PFun.walkF (fz := fun _ => false) hA cx_ok Tryz.func163 rfl rfl rfl fun P R hP hR => ?_
 cbv
 unfold matcher_Right at h
 iterate 3 refine kj ?_
 replace h := br_e h; obtain ⟨hb, h⟩ | ⟨hb, h⟩ := h
 ·refine cdT hb ?_; cbv
  iterate 2 refine kj ?_
  replace h := Loop_e h; obtain ⟨n1, hl1⟩ := h
  refine LoopK.q (X := Runs (matcher_Right_B1 A x0) _) (fun x gh => [(14, it IntKind.i64 x.1.2)]) (fun x gh => [⟨1, 0, .box 105 [PV.d (D.v (Value.string x0.1)), PV.d (D.v (Value.int IntKind.i64 x0.2)), PV.d (D.sl TyS.str x0.3)]⟩]) (fun x => x.1.1) ⟨(n1, _), hl1⟩ [] hdz ?_
  rintro ⟨⟨n1, t14⟩, hr1⟩ gh1 g1 K1 Q1 hK1 hQ1
  obtain _ | n1 := n1
  ·exact (LoopN_z hr1).elim
  obtain ⟨v1, h, hv1⟩ := LoopN_e hr1
  cbv
  refine kj ?_
  replace h := br_e h; obtain ⟨hb, h⟩ | ⟨hb, h⟩ := h
  ·refine cdT hb ?_; cbv
   refine kj ?_
   replace h := ck_e h; obtain ⟨c1, h⟩ := h; refine ⟨c1, ?_⟩
   refine kj ?_
   replace h := bd_e h; obtain ⟨w2, hw2, h⟩ := h
   refine CallK.mk _ (by rfl) (fun _ => PFun.to hP (matcher_word_ok hA hw2)) ?_
   cbv
   iterate 7 refine cj ?_
   replace h := ck_e h; obtain ⟨c3, h⟩ := h; refine ⟨c3, ?_⟩
   iterate 4 refine cj ?_
   refine ⟨by subst hA; simp +contextual [vcm], ?_⟩
   refine cj ?_
   replace h := br_e h; obtain ⟨hb, h⟩ | ⟨hb, h⟩ := h
   ·refine cdT hb ?_; cbv
    refine kj ?_
    replace h := rt_e h; obtain ⟨_, h, rfl⟩ := h
    cases hv1; refine hQ1 _ _ ?_; cbv
    cases h; subst hR; exact ey
   ·refine cdF hb ?_; cbv
    refine kj ?_
    cases h
    exact hK1 _ ⟨(n1, _), hv1⟩ [] (Nat.lt_succ_self _) hdy
  ·refine cdF hb ?_; cbv
   replace h := rt_e h; obtain ⟨_, h, rfl⟩ := h
   cases hv1; refine hQ1 _ _ ?_; cbv
   refine kj ?_
   replace h := bd_e h; obtain ⟨w4, hw4, h⟩ := h
   refine CallK.mem 38 rfl rfl [] _ _ _ _ (fun _ => PFunM.to hP (matcher_signs_ok hA hw4)) (by rfl) (fun _ => ez) ez (by rfl) (by rfl) ?_
   cbv
   refine ⟨by first | exact keysOK_mesB hA _ | exact ⟨rfl⟩, ?_⟩
   replace h := bd_e h; obtain ⟨w5, hw5, h⟩ := h
   have hw5' := lookI_ok A x0.2 (fun x => st x) (ByteArray.mk (Array.mk [])) [(1, ByteArray.mk (Array.mk [61])), (2, ByteArray.mk (Array.mk [33, 61])), (3, ByteArray.mk (Array.mk [61, 126])), (4, ByteArray.mk (Array.mk [33, 126]))]
   rw [Option.some.inj hw5] at hw5'
   refine LookK.one _ _ hw5' ?_
   cbv
   iterate 2 refine kj ?_
   iterate 6 refine cj ?_
   replace h := bd_e h; obtain ⟨w6, hw6, h⟩ := h
   refine CallK.mk _ (by rfl) (fun hc => PFun.to hP (label_Right_ok hA (gd_e hw6 hc))) ?_
   cbv
   iterate 12 refine cj ?_
   cases h; subst hR; exact ey
 ·refine cdF hb ?_; cbv
  refine kj ?_
  replace h := Loop_e h; obtain ⟨n2, hl2⟩ := h
  refine LoopK.q (X := Runs (matcher_Right_B2 A x0) _) (fun x gh => [(14, it IntKind.i64 x.1.2)]) (fun x gh => [⟨1, 0, .box 105 [PV.d (D.v (Value.string x0.1)), PV.d (D.v (Value.int IntKind.i64 x0.2)), PV.d (D.sl TyS.str x0.3)]⟩]) (fun x => x.1.1) ⟨(n2, _), hl2⟩ [] hdz ?_
  rintro ⟨⟨n2, t14⟩, hr2⟩ gh2 g2 K2 Q2 hK2 hQ2
  obtain _ | n2 := n2
  ·exact (LoopN_z hr2).elim
  obtain ⟨v2, h, hv2⟩ := LoopN_e hr2
  cbv
  refine kj ?_
  replace h := br_e h; obtain ⟨hb, h⟩ | ⟨hb, h⟩ := h
  ·refine cdT hb ?_; cbv
   refine kj ?_
   replace h := ck_e h; obtain ⟨c7, h⟩ := h; refine ⟨c7, ?_⟩
   refine kj ?_
   replace h := bd_e h; obtain ⟨w8, hw8, h⟩ := h
   refine CallK.mk _ (by rfl) (fun _ => PFun.to hP (matcher_word_ok hA hw8)) ?_
   cbv
   iterate 7 refine cj ?_
   replace h := ck_e h; obtain ⟨c9, h⟩ := h; refine ⟨c9, ?_⟩
   iterate 4 refine cj ?_
   refine ⟨by subst hA; simp +contextual [vcm], ?_⟩
   refine cj ?_
   replace h := br_e h; obtain ⟨hb, h⟩ | ⟨hb, h⟩ := h
   ·refine cdT hb ?_; cbv
    refine kj ?_
    replace h := rt_e h; obtain ⟨_, h, rfl⟩ := h
    cases hv2; refine hQ2 _ _ ?_; cbv
    cases h; subst hR; exact ey
   ·refine cdF hb ?_; cbv
    refine kj ?_
    cases h
    exact hK2 _ ⟨(n2, _), hv2⟩ [] (Nat.lt_succ_self _) hdy
  ·refine cdF hb ?_; cbv
   replace h := rt_e h; obtain ⟨_, h, rfl⟩ := h
   cases hv2; refine hQ2 _ _ ?_; cbv
   refine kj ?_
   replace h := bd_e h; obtain ⟨w10, hw10, h⟩ := h
   refine CallK.mem 38 rfl rfl [] _ _ _ _ (fun _ => PFunM.to hP (matcher_signs_ok hA hw10)) (by rfl) (fun _ => ez) ez (by rfl) (by rfl) ?_
   cbv
   refine ⟨by first | exact keysOK_mesB hA _ | exact ⟨rfl⟩, ?_⟩
   replace h := bd_e h; obtain ⟨w11, hw11, h⟩ := h
   have hw11' := lookI_ok A x0.2 (fun x => st x) (ByteArray.mk (Array.mk [])) [(1, ByteArray.mk (Array.mk [61])), (2, ByteArray.mk (Array.mk [33, 61])), (3, ByteArray.mk (Array.mk [61, 126])), (4, ByteArray.mk (Array.mk [33, 126]))]
   rw [Option.some.inj hw11] at hw11'
   refine LookK.one _ _ hw11' ?_
   cbv
   iterate 2 refine kj ?_
   iterate 6 refine cj ?_
   replace h := bd_e h; obtain ⟨w12, hw12, h⟩ := h
   refine CallK.mk _ (by rfl) (fun hc => PFun.to hP (label_Right_ok hA (gd_e hw12 hc))) ?_
   cbv
   iterate 12 refine cj ?_
   cases h; subst hR; exact ey
theorem config_inhibits_ok {A : Ar} (hA : A = std) {x0 : Inhibit} {r : Bool} (h : config_inhibits A x0 = some r) : PFun cx 68 [inhibitPV x0] ((fun r : Bool => (bl r : PV)) r) := by
 refine PFun.walkF (fz := fun _ => false) hA cx_ok Tryz.func68 rfl rfl rfl fun P R hP hR => ?_
 cbv
 unfold config_inhibits at h
 iterate 2 refine kj ?_
 replace h := Loop_e h; obtain ⟨n1, hl1⟩ := h
 refine LoopK.q (X := Runs (config_inhibits_B1 A x0) _) (fun x gh => [(9, it IntKind.i64 x.1.2)]) (fun x gh => [⟨1, 0, .box 58 [PV.d (D.sl TyS.matcher x0.1), PV.d (D.sl TyS.matcher x0.2), PV.d (D.sl TyS.str x0.3)]⟩]) (fun x => x.1.1) ⟨(n1, _), hl1⟩ [] hdz ?_
 rintro ⟨⟨n1, t9⟩, hr1⟩ gh1 g1 K1 Q1 hK1 hQ1
 obtain _ | n1 := n1
 ·exact (LoopN_z hr1).elim
 obtain ⟨v1, h, hv1⟩ := LoopN_e hr1
 cbv
 refine kj ?_
 replace h := br_e h; obtain ⟨hb, h⟩ | ⟨hb, h⟩ := h
 ·refine cdT hb ?_; cbv
  refine kj ?_
  replace h := ck_e h; obtain ⟨c1, h⟩ := h; refine ⟨c1, ?_⟩
  refine kj ?_
  replace h := bd_e h; obtain ⟨w2, hw2, h⟩ := h
  refine CallK.mk _ (by rfl) (fun _ => PFun.to hP (label_Right_ok hA hw2)) ?_
  cbv
  iterate 7 refine cj ?_
  replace h := ck_e h; obtain ⟨c3, h⟩ := h; refine ⟨c3, ?_⟩
  iterate 4 refine cj ?_
  refine ⟨by subst hA; simp +contextual [vcm], ?_⟩
  refine cj ?_
  replace h := br_e h; obtain ⟨hb, h⟩ | ⟨hb, h⟩ := h
  ·refine cdT hb ?_; cbv
   refine kj ?_
   replace h := rt_e h; obtain ⟨_, h, rfl⟩ := h
   cases hv1; refine hQ1 _ _ ?_; cbv
   cases h; subst hR; exact ey
  ·refine cdF hb ?_; cbv
   refine kj ?_
   cases h
   exact hK1 _ ⟨(n1, _), hv1⟩ [] (Nat.lt_succ_self _) hdy
 ·refine cdF hb ?_; cbv
  replace h := rt_e h; obtain ⟨_, h, rfl⟩ := h
  cases hv1; refine hQ1 _ _ ?_; cbv
  refine kj ?_
  iterate 10 refine cj ?_
  refine kj ?_
  iterate 3 refine cj ?_
  replace h := bd_e h; obtain ⟨w4, hw4, h⟩ := h
  refine CallK.le _ _ (by rfl) (fun _ => ey) (fun hc => PFun.to hP (config_all_Matcher_ok (cap2 := []) hA (by first | exact .inl rfl | exact .inr ⟨_, rfl⟩) (fun _ _ hw => matcher_Right_ok hA hw) (gd_e hw4 hc))) ?_
  cbv
  iterate 4 refine cj ?_
  replace h := bd_e h; obtain ⟨w5, hw5, h⟩ := h
  refine CallK.le _ _ (by rfl) (fun _ => ey) (fun hc => PFun.to hP (config_all_Matcher_ok (cap2 := []) hA (by first | exact .inl rfl | exact .inr ⟨_, rfl⟩) (fun _ _ hw => matcher_Right_ok hA hw) (gd_e hw5 hc))) ?_
  cbv
  refine cj ?_
  cases h; subst hR; exact ey
theorem config_all_Hours_1_ok {A : Ar} (hA : A = std) {x0 : Hours} {qc0 : Hours → Option Bool} {gc0 : Nat} {capc0 : List D} (hcapc0 : capOK capc0) (hqc0 : ∀ (y0 : Hours) (r : Bool), qc0 y0 = some r → PFun cx gc0 ((hoursPV y0) :: un.uns capc0) (bl r)) {r : Bool} (h : config_all_Hours_1 A x0 qc0 = some r) : PFun cx 164 [hoursPV x0, .ip [.fun (.func gc0) [] capc0]] ((fun r : Bool => (bl r : PV)) r) := by
 rcases hcapc0 with rfl | ⟨dscapc0, rfl⟩
 all_goals
  refine PFun.walkF (fz := fun _ => false) hA cx_ok Tryz.func164 rfl rfl rfl fun P R hP hR => ?_
  cbv
  unfold config_all_Hours_1 at h
  iterate 2 refine kj ?_
  replace h := bd_e h; obtain ⟨w1, hw1, h⟩ := h
  refine CallK.mk _ (by rfl) (fun _ => PFun.to hP (hqc0 _ _ hw1)) ?_
  cbv
  cases h; subst hR; exact ey
theorem slices_IndexFunc_Hours_Hours_ok {A : Ar} (hA : A = std) {x0 : List Hours} {q1 : Hours → Option Bool} {g1 : Nat} {cap1 : List PV} (hcap1 : bare.bares cap1 = true) (hq1 : ∀ (y0 : Hours) (r : Bool), q1 y0 = some r → PFun cx g1 ((hoursPV y0) :: cap1) (bl r)) {r : Int} (h : slices_IndexFunc_Hours_Hours A x0 q1 = some r) : PFun cx 171 [.d (.sl TyS.hours x0), .fn (.func g1) [] cap1] ((fun r : Int => (it .i64 r : PV)) r) := by
 refine PFun.walkF (fz := fun _ => false) hA cx_ok Tryz.func171 rfl rfl rfl fun P R hP hR => ?_
 cbv
 unfold slices_IndexFunc_Hours_Hours at h
 iterate 2 refine kj ?_
 replace h := Loop_e h; obtain ⟨n1, hl1⟩ := h
 refine LoopK.q (X := Runs (slices_IndexFunc_Hours_Hours_B1 A x0 q1) _) (fun x gh => [(8, it IntKind.i64 x.1.2)]) (fun x gh => []) (fun x => x.1.1) ⟨(n1, _), hl1⟩ [] hdz ?_
 rintro ⟨⟨n1, t8⟩, hr1⟩ gh1 g1 K1 Q1 hK1 hQ1
 obtain _ | n1 := n1
 ·exact (LoopN_z hr1).elim
 obtain ⟨v1, h, hv1⟩ := LoopN_e hr1
 cbv
 refine kj ?_
 replace h := br_e h; obtain ⟨hb, h⟩ | ⟨hb, h⟩ := h
 ·refine cdT hb ?_; cbv
  iterate 2 refine kj ?_
  replace h := ck_e h; obtain ⟨c1, h⟩ := h; refine ⟨c1, ?_⟩
  replace h := bd_e h; obtain ⟨w2, hw2, h⟩ := h
  refine CallK.mk _ (by first | rfl | simp [bare, bare.bares, hcap1]) (fun _ => PFun.to hP (hq1 _ _ hw2)) ?_
  cbv
  replace h := br_e h; obtain ⟨hb, h⟩ | ⟨hb, h⟩ := h
  ·refine cdT hb ?_; cbv
   refine kj ?_
   replace h := rt_e h; obtain ⟨_, h, rfl⟩ := h
   cases hv1; refine hQ1 _ _ ?_; cbv
   cases h; subst hR; exact ey
  ·refine cdF hb ?_; cbv
   refine kj ?_
   cases h
   exact hK1 _ ⟨(n1, _), hv1⟩ [] (Nat.lt_succ_self _) hdy
 ·refine cdF hb ?_; cbv
  replace h := rt_e h; obtain ⟨_, h, rfl⟩ := h
  cases hv1; refine hQ1 _ _ ?_; cbv
  refine kj ?_
  cases h; subst hR; exact ey
theorem slices_ContainsFunc_Hours_Hours_ok {A : Ar} (hA : A = std) {x0 : List Hours} {q1 : Hours → Option Bool} {g1 : Nat} {cap1 : List PV} (hcap1 : bare.bares cap1 = true) (hq1 : ∀ (y0 : Hours) (r : Bool), q1 y0 = some r → PFun cx g1 ((hoursPV y0) :: cap1) (bl r)) {r : Bool} (h : slices_ContainsFunc_Hours_Hours A x0 q1 = some r) : PFun cx 78 [.d (.sl TyS.hours x0), .fn (.func g1) [] cap1] ((fun r : Bool => (bl r : PV)) r) := by
 refine PFun.walkF (fz := fun _ => false) hA cx_ok Tryz.func78 rfl rfl rfl fun P R hP hR => ?_
 cbv
 unfold slices_ContainsFunc_Hours_Hours at h
 iterate 2 refine kj ?_
 replace h := bd_e h; obtain ⟨w1, hw1, h⟩ := h
 refine CallK.mk _ (by first | rfl | simp [bare, bare.bares, hcap1]) (fun _ => PFun.to hP (slices_IndexFunc_Hours_Hours_ok hA hcap1 hq1 hw1)) ?_
 cbv
 cases h; subst hR; exact ey
theorem config_all_Hours_ok {A : Ar} (hA : A = std) {x0 : List Hours} {x1 : Int} {q2 : Hours → Option Bool} {g2 : Nat} {cap2 : List D} (hcap2 : capOK cap2) (hq2 : ∀ (y0 : Hours) (r : Bool), q2 y0 = some r → PFun cx g2 ((hoursPV y0) :: un.uns cap2) (bl r)) {r : Bool} (h : config_all_Hours A x0 x1 q2 = some r) : PFun cx 69 [.d (.sl TyS.hours x0), it .i64 x1, .fn (.func g2) [] (un.uns cap2)] ((fun r : Bool => (bl r : PV)) r) := by
 rcases hcap2 with rfl | ⟨dscap2, rfl⟩
 ·refine PFun.walkF (fz := fun k => k == 5) hA cx_ok Tryz.func69 rfl rfl rfl fun P R hP hR => ?_
  cbv
  unfold config_all_Hours at h
  iterate 2 refine kj ?_
  iterate 2 refine cj ?_
  replace h := bd_e h; obtain ⟨w1, hw1, h⟩ := h
  refine CallK.mk _ (by rfl) (fun hc => PFun.to hP (slices_ContainsFunc_Hours_Hours_ok hA (by rfl) (fun _ _ hw => config_all_Hours_1_ok (capc0 := []) hA (by first | exact .inl rfl | exact .inr ⟨_, rfl⟩) hq2 hw) (gd_e hw1 hc))) ?_
  cbv
  iterate 2 refine cj ?_
  cases h; subst hR; exact ey
 ·refine PFun.walkF (fz := fun k => k == 5) hA cx_ok Tryz.func69 rfl rfl rfl fun P R hP hR => ?_
  cbv
  unfold config_all_Hours at h
  iterate 2 refine kj ?_
  iterate 2 refine cj ?_
  replace h := bd_e h; obtain ⟨w1, hw1, h⟩ := h
  refine CallK.mk _ (by rfl) (fun hc => PFun.to hP (slices_ContainsFunc_Hours_Hours_ok hA (by rfl) (fun _ _ hw => config_all_Hours_1_ok (capc0 := [D.ptr dscap2]) hA (by first | exact .inl rfl | exact .inr ⟨_, rfl⟩) hq2 hw) (gd_e hw1 hc))) ?_
  cbv
  iterate 2 refine cj ?_
  cases h; subst hR; exact ey
theorem hours_Right_1_ok {A : Ar} (hA : A = std) {x0 : Int} {r : Bool} (h : hours_Right_1 A x0 = some r) : PFun cx 165 [it .u8 x0] ((fun r : Bool => (bl r : PV)) r) := by
 refine PFun.walkF (fz := fun _ => false) hA cx_ok Tryz.func165 rfl rfl rfl fun P R hP hR => ?_
 cbv
 unfold hours_Right_1 at h
 iterate 2 refine kj ?_
 iterate 6 refine cj ?_
 refine ⟨by subst hA; simp +contextual [vcm], ?_⟩
 iterate 3 refine cj ?_
 cases h; subst hR; exact ey
theorem hours_Right_ok {A : Ar} (hA : A = std) {x0 : Hours} {r : Bool} (h : hours_Right A x0 = some r) : PFun cx 70 [hoursPV x0] ((fun r : Bool => (bl r : PV)) r) := by
 refine PFun.walkF (fz := fun _ => false) hA cx_ok Tryz.func70 rfl rfl rfl fun P R hP hR => ?_
 cbv
 unfold hours_Right at h
 iterate 3 refine kj ?_
 iterate 10 refine cj ?_
 replace h := bd_e h; obtain ⟨w1, hw1, h⟩ := h
 refine CallK.le _ _ (by rfl) (fun _ => ey) (fun hc => PFun.to hP (slices_ContainsFunc_byte_byte_ok hA (by rfl) (fun _ _ hw => hours_Right_1_ok hA hw) (gd_e hw1 hc))) ?_
 cbv
 iterate 29 refine cj ?_
 cases h; subst hR; exact ey
theorem config_unique_Rule_ok {A : Ar} (hA : A = std) {x0 : List Rule} {q1 : Rule → Option ByteArray} {g1 : Nat} {cap1 : List PV} (hcap1 : bare.bares cap1 = true) (hq1 : ∀ (y0 : Rule) (r : ByteArray), q1 y0 = some r → PFun cx g1 ((rulePV y0) :: cap1) (st r)) {r : Bool} (h : config_unique_Rule A x0 q1 = some r) : PFun cx 71 [.d (.sl TyS.rule x0), .fn (.func g1) [] cap1] ((fun r : Bool => (bl r : PV)) r) := by
 refine PFun.walkF (fz := fun _ => false) hA cx_ok Tryz.func71 rfl rfl rfl fun P R hP hR => ?_
 cbv
 unfold config_unique_Rule at h
 iterate 3 refine kj ?_
 replace h := Loop_e h; obtain ⟨n1, hl1⟩ := h
 refine LoopK.q (X := Runs (config_unique_Rule_B1 A x0 q1) _) (fun x gh => [(11, it IntKind.i64 x.1.2.1)]) (fun x gh => [⟨8, 1, .map (A.mesB x.1.2.2)⟩]) (fun x => x.1.1) ⟨(n1, _), hl1⟩ [] hdz ?_
 rintro ⟨⟨n1, t11, map8⟩, hr1⟩ gh1 g1 K1 Q1 hK1 hQ1
 obtain _ | n1 := n1
 ·exact (LoopN_z hr1).elim
 obtain ⟨v1, h, hv1⟩ := LoopN_e hr1
 cbv
 refine kj ?_
 replace h := br_e h; obtain ⟨hb, h⟩ | ⟨hb, h⟩ := h
 ·refine cdT hb ?_; cbv
  refine kj ?_
  replace h := ck_e h; obtain ⟨c1, h⟩ := h; refine ⟨c1, ?_⟩
  refine kj ?_
  replace h := bd_e h; obtain ⟨w2, hw2, h⟩ := h
  refine CallK.mk _ (by first | rfl | simp [bare, bare.bares, hcap1]) (fun _ => PFun.to hP (hq1 _ _ hw2)) ?_
  cbv
  refine ⟨by first | exact keysOK_mesB hA _ | exact ⟨rfl⟩, ?_⟩
  replace h := bd_e h; obtain ⟨w3, hw3, h⟩ := h
  have hw3' := lookB_ok hA w2 false map8
  rw [Option.some.inj hw3] at hw3'
  refine LookK.one _ _ hw3' ?_
  cbv
  replace h := br_e h; obtain ⟨hb, h⟩ | ⟨hb, h⟩ := h
  ·refine cdT hb ?_; cbv
   refine kj ?_
   replace h := rt_e h; obtain ⟨_, h, rfl⟩ := h
   cases hv1; refine hQ1 _ _ ?_; cbv
   cases h; subst hR; exact ey
  ·refine cdF hb ?_; cbv
   refine kj ?_
   replace h := bd_e h; obtain ⟨w4, hw4, h⟩ := h
   refine CallK.mk _ (by first | rfl | simp [bare, bare.bares, hcap1]) (fun _ => PFun.to hP (hq1 _ _ hw4)) ?_
   cbv
   refine ⟨by first | exact keysOK_mesB hA _ | exact ⟨rfl⟩, ?_⟩
   replace h := ck_e h; obtain ⟨c5, h⟩ := h; refine ⟨c5, ?_⟩
   refine kj ?_
   cases h
   exact hK1 _ ⟨(n1, _), hv1⟩ [] (Nat.lt_succ_self _) hdy
 ·refine cdF hb ?_; cbv
  replace h := rt_e h; obtain ⟨_, h, rfl⟩ := h
  cases hv1; refine hQ1 _ _ ?_; cbv
  refine kj ?_
  cases h; subst hR; exact ey
theorem config_ruled_ok {A : Ar} (hA : A = std) {x0 : Rule} {r : ByteArray} (h : config_ruled A x0 = some r) : PFun cx 48 [rulePV x0] ((fun r : ByteArray => (st r : PV)) r) := by
 refine PFun.walkF (fz := fun _ => false) hA cx_ok Tryz.func48 rfl rfl rfl fun P R hP hR => ?_
 cbv
 unfold config_ruled at h
 iterate 2 refine kj ?_
 cases h; subst hR; exact ey
theorem config_unique_string_ok {A : Ar} (hA : A = std) {x0 : List ByteArray} {q1 : ByteArray → Option ByteArray} {g1 : Nat} {cap1 : List PV} (hcap1 : bare.bares cap1 = true) (hq1 : ∀ (y0 : ByteArray) (r : ByteArray), q1 y0 = some r → PFun cx g1 ((st y0) :: cap1) (st r)) {r : Bool} (h : config_unique_string A x0 q1 = some r) : PFun cx 72 [.d (.sl TyS.str x0), .fn (.func g1) [] cap1] ((fun r : Bool => (bl r : PV)) r) := by
 refine PFun.walkF (fz := fun _ => false) hA cx_ok Tryz.func72 rfl rfl rfl fun P R hP hR => ?_
 cbv
 unfold config_unique_string at h
 iterate 3 refine kj ?_
 replace h := Loop_e h; obtain ⟨n1, hl1⟩ := h
 refine LoopK.q (X := Runs (config_unique_string_B1 A x0 q1) _) (fun x gh => [(11, it IntKind.i64 x.1.2.1)]) (fun x gh => [⟨8, 1, .map (A.mesB x.1.2.2)⟩]) (fun x => x.1.1) ⟨(n1, _), hl1⟩ [] hdz ?_
 rintro ⟨⟨n1, t11, map8⟩, hr1⟩ gh1 g1 K1 Q1 hK1 hQ1
 obtain _ | n1 := n1
 ·exact (LoopN_z hr1).elim
 obtain ⟨v1, h, hv1⟩ := LoopN_e hr1
 cbv
 refine kj ?_
 replace h := br_e h; obtain ⟨hb, h⟩ | ⟨hb, h⟩ := h
 ·refine cdT hb ?_; cbv
  refine kj ?_
  replace h := ck_e h; obtain ⟨c1, h⟩ := h; refine ⟨c1, ?_⟩
  refine kj ?_
  replace h := bd_e h; obtain ⟨w2, hw2, h⟩ := h
  refine CallK.mk _ (by first | rfl | simp [bare, bare.bares, hcap1]) (fun _ => PFun.to hP (hq1 _ _ hw2)) ?_
  cbv
  refine ⟨by first | exact keysOK_mesB hA _ | exact ⟨rfl⟩, ?_⟩
  replace h := bd_e h; obtain ⟨w3, hw3, h⟩ := h
  have hw3' := lookB_ok hA w2 false map8
  rw [Option.some.inj hw3] at hw3'
  refine LookK.one _ _ hw3' ?_
  cbv
  replace h := br_e h; obtain ⟨hb, h⟩ | ⟨hb, h⟩ := h
  ·refine cdT hb ?_; cbv
   refine kj ?_
   replace h := rt_e h; obtain ⟨_, h, rfl⟩ := h
   cases hv1; refine hQ1 _ _ ?_; cbv
   cases h; subst hR; exact ey
  ·refine cdF hb ?_; cbv
   refine kj ?_
   replace h := bd_e h; obtain ⟨w4, hw4, h⟩ := h
   refine CallK.mk _ (by first | rfl | simp [bare, bare.bares, hcap1]) (fun _ => PFun.to hP (hq1 _ _ hw4)) ?_
   cbv
   refine ⟨by first | exact keysOK_mesB hA _ | exact ⟨rfl⟩, ?_⟩
   replace h := ck_e h; obtain ⟨c5, h⟩ := h; refine ⟨c5, ?_⟩
   refine kj ?_
   cases h
   exact hK1 _ ⟨(n1, _), hv1⟩ [] (Nat.lt_succ_self _) hdy
 ·refine cdF hb ?_; cbv
  replace h := rt_e h; obtain ⟨_, h, rfl⟩ := h
  cases hv1; refine hQ1 _ _ ?_; cbv
  refine kj ?_
  cases h; subst hR; exact ey
theorem config_itself_ok {A : Ar} (hA : A = std) {x0 : ByteArray} {r : ByteArray} (h : config_itself A x0 = some r) : PFun cx 50 [st x0] ((fun r : ByteArray => (st r : PV)) r) := by
 refine PFun.walkF (fz := fun _ => false) hA cx_ok Tryz.func50 rfl rfl rfl fun P R hP hR => ?_
 cbv
 unfold config_itself at h
 iterate 2 refine kj ?_
 cases h; subst hR; exact ey
theorem config_unique_Hours_ok {A : Ar} (hA : A = std) {x0 : List Hours} {q1 : Hours → Option ByteArray} {g1 : Nat} {cap1 : List PV} (hcap1 : bare.bares cap1 = true) (hq1 : ∀ (y0 : Hours) (r : ByteArray), q1 y0 = some r → PFun cx g1 ((hoursPV y0) :: cap1) (st r)) {r : Bool} (h : config_unique_Hours A x0 q1 = some r) : PFun cx 73 [.d (.sl TyS.hours x0), .fn (.func g1) [] cap1] ((fun r : Bool => (bl r : PV)) r) := by
 refine PFun.walkF (fz := fun _ => false) hA cx_ok Tryz.func73 rfl rfl rfl fun P R hP hR => ?_
 cbv
 unfold config_unique_Hours at h
 iterate 3 refine kj ?_
 replace h := Loop_e h; obtain ⟨n1, hl1⟩ := h
 refine LoopK.q (X := Runs (config_unique_Hours_B1 A x0 q1) _) (fun x gh => [(11, it IntKind.i64 x.1.2.1)]) (fun x gh => [⟨8, 1, .map (A.mesB x.1.2.2)⟩]) (fun x => x.1.1) ⟨(n1, _), hl1⟩ [] hdz ?_
 rintro ⟨⟨n1, t11, map8⟩, hr1⟩ gh1 g1 K1 Q1 hK1 hQ1
 obtain _ | n1 := n1
 ·exact (LoopN_z hr1).elim
 obtain ⟨v1, h, hv1⟩ := LoopN_e hr1
 cbv
 refine kj ?_
 replace h := br_e h; obtain ⟨hb, h⟩ | ⟨hb, h⟩ := h
 ·refine cdT hb ?_; cbv
  refine kj ?_
  replace h := ck_e h; obtain ⟨c1, h⟩ := h; refine ⟨c1, ?_⟩
  refine kj ?_
  replace h := bd_e h; obtain ⟨w2, hw2, h⟩ := h
  refine CallK.mk _ (by first | rfl | simp [bare, bare.bares, hcap1]) (fun _ => PFun.to hP (hq1 _ _ hw2)) ?_
  cbv
  refine ⟨by first | exact keysOK_mesB hA _ | exact ⟨rfl⟩, ?_⟩
  replace h := bd_e h; obtain ⟨w3, hw3, h⟩ := h
  have hw3' := lookB_ok hA w2 false map8
  rw [Option.some.inj hw3] at hw3'
  refine LookK.one _ _ hw3' ?_
  cbv
  replace h := br_e h; obtain ⟨hb, h⟩ | ⟨hb, h⟩ := h
  ·refine cdT hb ?_; cbv
   refine kj ?_
   replace h := rt_e h; obtain ⟨_, h, rfl⟩ := h
   cases hv1; refine hQ1 _ _ ?_; cbv
   cases h; subst hR; exact ey
  ·refine cdF hb ?_; cbv
   refine kj ?_
   replace h := bd_e h; obtain ⟨w4, hw4, h⟩ := h
   refine CallK.mk _ (by first | rfl | simp [bare, bare.bares, hcap1]) (fun _ => PFun.to hP (hq1 _ _ hw4)) ?_
   cbv
   refine ⟨by first | exact keysOK_mesB hA _ | exact ⟨rfl⟩, ?_⟩
   replace h := ck_e h; obtain ⟨c5, h⟩ := h; refine ⟨c5, ?_⟩
   refine kj ?_
   cases h
   exact hK1 _ ⟨(n1, _), hv1⟩ [] (Nat.lt_succ_self _) hdy
 ·refine cdF hb ?_; cbv
  replace h := rt_e h; obtain ⟨_, h, rfl⟩ := h
  cases hv1; refine hQ1 _ _ ?_; cbv
  refine kj ?_
  cases h; subst hR; exact ey
theorem config_houred_ok {A : Ar} (hA : A = std) {x0 : Hours} {r : ByteArray} (h : config_houred A x0 = some r) : PFun cx 52 [hoursPV x0] ((fun r : ByteArray => (st r : PV)) r) := by
 refine PFun.walkF (fz := fun _ => false) hA cx_ok Tryz.func52 rfl rfl rfl fun P R hP hR => ?_
 cbv
 unfold config_houred at h
 iterate 2 refine kj ?_
 cases h; subst hR; exact ey
theorem routes_may_1_ok {A : Ar} (hA : A = std) {x0 : Matcher} {r : Bool} (h : routes_may_1 A x0 = some r) : PFun cx 237 [matcherPV x0] ((fun r : Bool => (bl r : PV)) r) := by
 refine PFun.walkF (fz := fun _ => false) hA cx_ok Tryz.func237 rfl rfl rfl fun P R hP hR => ?_
 cbv
 unfold routes_may_1 at h
 iterate 2 refine kj ?_
 replace h := bd_e h; obtain ⟨w1, hw1, h⟩ := h
 refine CallK.mk _ (by rfl) (fun _ => PFun.to hP (matcher_Right_ok hA hw1)) ?_
 cbv
 cases h; subst hR; exact ey
theorem routes_word_ok {A : Ar} (hA : A = std) {x0 : ByteArray} {r : Bool} (h : routes_word A x0 = some r) : PFun cx 238 [st x0] ((fun r : Bool => (bl r : PV)) r) := by
 refine PFun.walkF (fz := fun _ => false) hA cx_ok Tryz.func238 rfl rfl rfl fun P R hP hR => ?_
 cbv
 unfold routes_word at h
 iterate 2 refine kj ?_
 replace h := bd_e h; obtain ⟨w1, hw1, h⟩ := h
 refine CallK.mk _ (by rfl) (fun _ => PFun.to hP (block_Right_ok hA hw1)) ?_
 cbv
 cases h; subst hR; exact ey
theorem routes_ordered_ok {A : Ar} (hA : A = std) {x0 : List ByteArray} {q1 : ByteArray → Option Bool} {g1 : Nat} {cap1 : List PV} (hcap1 : bare.bares cap1 = true) (hq1 : ∀ (y0 : ByteArray) (r : Bool), q1 y0 = some r → PFun cx g1 ((st y0) :: cap1) (bl r)) {r : Bool} (h : routes_ordered A x0 q1 = some r) : PFun cx 239 [.d (.sl TyS.str x0), .fn (.func g1) [] cap1] ((fun r : Bool => (bl r : PV)) r) := by
 refine PFun.walkF (fz := fun _ => false) hA cx_ok Tryz.func239 rfl rfl rfl fun P R hP hR => ?_
 cbv
 unfold routes_ordered at h
 iterate 2 refine kj ?_
 replace h := Loop_e h; obtain ⟨n1, hl1⟩ := h
 refine LoopK.q (X := Runs (routes_ordered_B1 A x0 q1) _) (fun x gh => [(4, bl x.1.2.1), (9, it IntKind.i64 x.1.2.2)]) (fun x gh => []) (fun x => x.1.1) ⟨(n1, _), hl1⟩ [] hdz ?_
 rintro ⟨⟨n1, t4, t9⟩, hr1⟩ gh1 g1 K1 Q1 hK1 hQ1
 obtain _ | n1 := n1
 ·exact (LoopN_z hr1).elim
 obtain ⟨v1, h, hv1⟩ := LoopN_e hr1
 cbv
 refine kj ?_
 replace h := br_e h; obtain ⟨hb, h⟩ | ⟨hb, h⟩ := h
 ·refine cdT hb ?_; cbv
  refine kj ?_
  replace h := ck_e h; obtain ⟨c1, h⟩ := h; refine ⟨c1, ?_⟩
  refine kj ?_
  replace h := bd_e h; obtain ⟨w2, hw2, h⟩ := h
  refine CallK.mk _ (by first | rfl | simp [bare, bare.bares, hcap1]) (fun _ => PFun.to hP (hq1 _ _ hw2)) ?_
  cbv
  iterate 5 refine cj ?_
  replace h := ck_e h; obtain ⟨c3, h⟩ := h; refine ⟨c3, ?_⟩
  iterate 4 refine cj ?_
  refine ⟨by subst hA; simp +contextual [vcm], ?_⟩
  refine cj ?_
  replace h := br_e h; obtain ⟨hb, h⟩ | ⟨hb, h⟩ := h
  ·refine cdT hb ?_; cbv
   refine kj ?_
   replace h := rt_e h; obtain ⟨_, h, rfl⟩ := h
   cases hv1; refine hQ1 _ _ ?_; cbv
   cases h; subst hR; exact ey
  ·refine cdF hb ?_; cbv
   refine kj ?_
   cases h
   exact hK1 _ ⟨(n1, _), hv1⟩ [] (Nat.lt_succ_self _) hdy
 ·refine cdF hb ?_; cbv
  replace h := rt_e h; obtain ⟨_, h, rfl⟩ := h
  cases hv1; refine hQ1 _ _ ?_; cbv
  refine kj ?_
  cases h; subst hR; exact ey
theorem routes_name_ok {A : Ar} (hA : A = std) {x0 : ByteArray} {r : Bool} (h : routes_name A x0 = some r) : PFun cx 240 [st x0] ((fun r : Bool => (bl r : PV)) r) := by
 refine PFun.walkF (fz := fun _ => false) hA cx_ok Tryz.func240 rfl rfl rfl fun P R hP hR => ?_
 cbv
 unfold routes_name at h
 iterate 2 refine kj ?_
 replace h := bd_e h; obtain ⟨w1, hw1, h⟩ := h
 refine CallK.mk _ (by rfl) (fun _ => PFun.to hP (label_Right_ok hA hw1)) ?_
 cbv
 cases h; subst hR; exact ey
theorem routes_times_1_ok {A : Ar} (hA : A = std) {x0 : Int} {c0 : Int} {r : Bool} (h : routes_times_1 A x0 c0 = some r) : PFun cx 295 [it .i64 x0, .ip [.v (.int .i64 c0)]] ((fun r : Bool => (bl r : PV)) r) := by
 refine PFun.walkF (fz := fun _ => false) hA cx_ok Tryz.func295 rfl rfl rfl fun P R hP hR => ?_
 cbv
 unfold routes_times_1 at h
 iterate 2 refine kj ?_
 iterate 2 refine cj ?_
 cases h; subst hR; exact ey
theorem slices_IndexFunc_int_int_ok {A : Ar} (hA : A = std) {x0 : List Int} {q1 : Int → Option Bool} {g1 : Nat} {cap1 : List PV} (hcap1 : bare.bares cap1 = true) (hq1 : ∀ (y0 : Int) (r : Bool), q1 y0 = some r → PFun cx g1 ((it .i64 y0) :: cap1) (bl r)) {r : Int} (h : slices_IndexFunc_int_int A x0 q1 = some r) : PFun cx 316 [.d (.sl TyS.int x0), .fn (.func g1) [] cap1] ((fun r : Int => (it .i64 r : PV)) r) := by
 refine PFun.walkF (fz := fun _ => false) hA cx_ok Tryz.func316 rfl rfl rfl fun P R hP hR => ?_
 cbv
 unfold slices_IndexFunc_int_int at h
 iterate 2 refine kj ?_
 replace h := Loop_e h; obtain ⟨n1, hl1⟩ := h
 refine LoopK.q (X := Runs (slices_IndexFunc_int_int_B1 A x0 q1) _) (fun x gh => [(8, it IntKind.i64 x.1.2)]) (fun x gh => []) (fun x => x.1.1) ⟨(n1, _), hl1⟩ [] hdz ?_
 rintro ⟨⟨n1, t8⟩, hr1⟩ gh1 g1 K1 Q1 hK1 hQ1
 obtain _ | n1 := n1
 ·exact (LoopN_z hr1).elim
 obtain ⟨v1, h, hv1⟩ := LoopN_e hr1
 cbv
 refine kj ?_
 replace h := br_e h; obtain ⟨hb, h⟩ | ⟨hb, h⟩ := h
 ·refine cdT hb ?_; cbv
  iterate 2 refine kj ?_
  replace h := ck_e h; obtain ⟨c1, h⟩ := h; refine ⟨c1, ?_⟩
  replace h := bd_e h; obtain ⟨w2, hw2, h⟩ := h
  refine CallK.mk _ (by first | rfl | simp [bare, bare.bares, hcap1]) (fun _ => PFun.to hP (hq1 _ _ hw2)) ?_
  cbv
  replace h := br_e h; obtain ⟨hb, h⟩ | ⟨hb, h⟩ := h
  ·refine cdT hb ?_; cbv
   refine kj ?_
   replace h := rt_e h; obtain ⟨_, h, rfl⟩ := h
   cases hv1; refine hQ1 _ _ ?_; cbv
   cases h; subst hR; exact ey
  ·refine cdF hb ?_; cbv
   refine kj ?_
   cases h
   exact hK1 _ ⟨(n1, _), hv1⟩ [] (Nat.lt_succ_self _) hdy
 ·refine cdF hb ?_; cbv
  replace h := rt_e h; obtain ⟨_, h, rfl⟩ := h
  cases hv1; refine hQ1 _ _ ?_; cbv
  refine kj ?_
  cases h; subst hR; exact ey
theorem slices_ContainsFunc_int_int_ok {A : Ar} (hA : A = std) {x0 : List Int} {q1 : Int → Option Bool} {g1 : Nat} {cap1 : List PV} (hcap1 : bare.bares cap1 = true) (hq1 : ∀ (y0 : Int) (r : Bool), q1 y0 = some r → PFun cx g1 ((it .i64 y0) :: cap1) (bl r)) {r : Bool} (h : slices_ContainsFunc_int_int A x0 q1 = some r) : PFun cx 294 [.d (.sl TyS.int x0), .fn (.func g1) [] cap1] ((fun r : Bool => (bl r : PV)) r) := by
 refine PFun.walkF (fz := fun _ => false) hA cx_ok Tryz.func294 rfl rfl rfl fun P R hP hR => ?_
 cbv
 unfold slices_ContainsFunc_int_int at h
 iterate 2 refine kj ?_
 replace h := bd_e h; obtain ⟨w1, hw1, h⟩ := h
 refine CallK.mk _ (by first | rfl | simp [bare, bare.bares, hcap1]) (fun _ => PFun.to hP (slices_IndexFunc_int_int_ok hA hcap1 hq1 hw1)) ?_
 cbv
 cases h; subst hR; exact ey
theorem routes_times_ok {A : Ar} (hA : A = std) {x0 : Int} {x1 : List Int} {r : Bool} (h : routes_times A x0 x1 = some r) : PFun cx 241 [it .i64 x0, .d (.sl TyS.int x1)] ((fun r : Bool => (bl r : PV)) r) := by
 refine PFun.walkF (fz := fun k => k == 2) hA cx_ok Tryz.func241 rfl rfl rfl fun P R hP hR => ?_
 cbv
 unfold routes_times at h
 iterate 2 refine kj ?_
 replace h := bd_e h; obtain ⟨w1, hw1, h⟩ := h
 refine CallK.mk _ (by rfl) (fun _ => PFun.to hP (slices_ContainsFunc_int_int_ok hA (by rfl) (fun _ _ hw => routes_times_1_ok hA hw) hw1)) ?_
 cbv
 cases h; subst hR; exact ey
theorem slices_IndexFunc_Route_Route_ok {A : Ar} (hA : A = std) {x0 : List Route} {q1 : Route → Option Bool} {g1 : Nat} {cap1 : List PV} (hcap1 : bare.bares cap1 = true) (hq1 : ∀ (y0 : Route) (r : Bool), q1 y0 = some r → PFun cx g1 ((routePV y0) :: cap1) (bl r)) {r : Int} (h : slices_IndexFunc_Route_Route A x0 q1 = some r) : PFun cx 251 [.d (.sl TyS.route x0), .fn (.func g1) [] cap1] ((fun r : Int => (it .i64 r : PV)) r) := by
 refine PFun.walkF (fz := fun _ => false) hA cx_ok Tryz.func251 rfl rfl rfl fun P R hP hR => ?_
 cbv
 unfold slices_IndexFunc_Route_Route at h
 iterate 2 refine kj ?_
 replace h := Loop_e h; obtain ⟨n1, hl1⟩ := h
 refine LoopK.q (X := Runs (slices_IndexFunc_Route_Route_B1 A x0 q1) _) (fun x gh => [(8, it IntKind.i64 x.1.2)]) (fun x gh => []) (fun x => x.1.1) ⟨(n1, _), hl1⟩ [] hdz ?_
 rintro ⟨⟨n1, t8⟩, hr1⟩ gh1 g1 K1 Q1 hK1 hQ1
 obtain _ | n1 := n1
 ·exact (LoopN_z hr1).elim
 obtain ⟨v1, h, hv1⟩ := LoopN_e hr1
 cbv
 refine kj ?_
 replace h := br_e h; obtain ⟨hb, h⟩ | ⟨hb, h⟩ := h
 ·refine cdT hb ?_; cbv
  iterate 2 refine kj ?_
  replace h := ck_e h; obtain ⟨c1, h⟩ := h; refine ⟨c1, ?_⟩
  replace h := bd_e h; obtain ⟨w2, hw2, h⟩ := h
  refine CallK.mk _ (by first | rfl | simp [bare, bare.bares, hcap1]) (fun _ => PFun.to hP (hq1 _ _ hw2)) ?_
  cbv
  replace h := br_e h; obtain ⟨hb, h⟩ | ⟨hb, h⟩ := h
  ·refine cdT hb ?_; cbv
   refine kj ?_
   replace h := rt_e h; obtain ⟨_, h, rfl⟩ := h
   cases hv1; refine hQ1 _ _ ?_; cbv
   cases h; subst hR; exact ey
  ·refine cdF hb ?_; cbv
   refine kj ?_
   cases h
   exact hK1 _ ⟨(n1, _), hv1⟩ [] (Nat.lt_succ_self _) hdy
 ·refine cdF hb ?_; cbv
  replace h := rt_e h; obtain ⟨_, h, rfl⟩ := h
  cases hv1; refine hQ1 _ _ ?_; cbv
  refine kj ?_
  cases h; subst hR; exact ey
theorem slices_ContainsFunc_Route_Route_ok {A : Ar} (hA : A = std) {x0 : List Route} {q1 : Route → Option Bool} {g1 : Nat} {cap1 : List PV} (hcap1 : bare.bares cap1 = true) (hq1 : ∀ (y0 : Route) (r : Bool), q1 y0 = some r → PFun cx g1 ((routePV y0) :: cap1) (bl r)) {r : Bool} (h : slices_ContainsFunc_Route_Route A x0 q1 = some r) : PFun cx 190 [.d (.sl TyS.route x0), .fn (.func g1) [] cap1] ((fun r : Bool => (bl r : PV)) r) := by
 refine PFun.walkF (fz := fun _ => false) hA cx_ok Tryz.func190 rfl rfl rfl fun P R hP hR => ?_
 cbv
 unfold slices_ContainsFunc_Route_Route at h
 iterate 2 refine kj ?_
 replace h := bd_e h; obtain ⟨w1, hw1, h⟩ := h
 refine CallK.mk _ (by first | rfl | simp [bare, bare.bares, hcap1]) (fun _ => PFun.to hP (slices_IndexFunc_Route_Route_ok hA hcap1 hq1 hw1)) ?_
 cbv
 cases h; subst hR; exact ey
theorem routes_may_2_ok {A : Ar} (hA : A = std) {rf : Route → Int → Option Bool} {x0 : Route} {c0 : Int} (hqr167 : ∀ (x0 : Route) (x1 : Int) (r : Bool), rf x0 x1 = some r → PFun cx 167 [routePV x0, it .i64 x1] (bl r)) {r : Bool} (h : routes_may_2 A rf x0 c0 = some r) : PFun cx 242 [routePV x0, .ip [.v (.int .i64 c0)]] ((fun r : Bool => (bl r : PV)) r) := by
 refine PFun.walkF (fz := fun _ => false) hA cx_ok Tryz.func242 rfl rfl rfl fun P R hP hR => ?_
 cbv
 unfold routes_may_2 at h
 iterate 2 refine kj ?_
 replace h := bd_e h; obtain ⟨w1, hw1, h⟩ := h
 refine CallK.mk _ (by rfl) (fun _ => PFun.to hP (hqr167 _ _ _ hw1)) ?_
 cbv
 cases h; subst hR; exact ey
theorem routes_may_S_ok {A : Ar} (hA : A = std) {rf : Route → Int → Option Bool} {x0 : Route} {x1 : Int} (hqr167 : ∀ (x0 : Route) (x1 : Int) (r : Bool), rf x0 x1 = some r → PFun cx 167 [routePV x0, it .i64 x1] (bl r)) {r : Bool} (h : routes_may_S A rf x0 x1 = some r) : PFun cx 167 [routePV x0, it .i64 x1] ((fun r : Bool => (bl r : PV)) r) := by
 refine PFun.walkF (fz := fun k => k == 3) hA cx_ok Tryz.func167 rfl rfl rfl fun P R hP hR => ?_
 cbv
 unfold routes_may_S at h
 iterate 3 refine kj ?_
 iterate 3 refine cj ?_
 replace h := bd_e h; obtain ⟨w1, hw1, h⟩ := h
 refine CallK.mk _ (by rfl) (fun hc => PFun.to hP (routes_word_ok hA (gd_e hw1 hc))) ?_
 cbv
 iterate 11 refine cj ?_
 replace h := bd_e h; obtain ⟨w2, hw2, h⟩ := h
 refine CallK.le _ _ (by rfl) (fun _ => ey) (fun hc => PFun.to hP (slices_ContainsFunc_Matcher_Matcher_ok hA (by rfl) (fun _ _ hw => routes_may_1_ok hA hw) (gd_e hw2 hc))) ?_
 cbv
 iterate 6 refine cj ?_
 replace h := br_e h; obtain ⟨hb, h⟩ | ⟨hb, h⟩ := h
 ·refine cdT hb ?_; cbv
  refine kj ?_
  cases h; subst hR; exact ey
 ·refine cdF hb ?_; cbv
  refine kj ?_
  replace h := bd_e h; obtain ⟨w3, hw3, h⟩ := h
  refine CallK.le _ _ (by rfl) (fun _ => ey) (fun _ => PFun.to hP (routes_ordered_ok hA (by rfl) (fun _ _ hw => routes_name_ok hA hw) hw3)) ?_
  cbv
  iterate 3 refine cj ?_
  replace h := bd_e h; obtain ⟨w4, hw4, h⟩ := h
  refine CallK.le _ _ (by rfl) (fun _ => ey) (fun hc => PFun.to hP (routes_ordered_ok hA (by rfl) (fun _ _ hw => routes_word_ok hA hw) (gd_e hw4 hc))) ?_
  cbv
  iterate 7 refine cj ?_
  replace h := bd_e h; obtain ⟨w5, hw5, h⟩ := h
  refine CallK.mk _ (by rfl) (fun hc => PFun.to hP (routes_times_ok hA (gd_e hw5 hc))) ?_
  cbv
  iterate 10 refine cj ?_
  replace h := bd_e h; obtain ⟨w6, hw6, h⟩ := h
  refine CallK.mk _ (by rfl) (fun hc => PFun.to hP (routes_times_ok hA (gd_e hw6 hc))) ?_
  cbv
  iterate 2 refine cj ?_
  replace h := br_e h; obtain ⟨hb, h⟩ | ⟨hb, h⟩ := h
  ·refine cdT hb ?_; cbv
   refine kj ?_
   cases h; subst hR; exact ey
  ·refine cdF hb ?_; cbv
   refine kj ?_
   replace h := bd_e h; obtain ⟨w7, hw7, h⟩ := h
   refine CallK.mk _ (by rfl) (fun _ => PFun.to hP (slices_ContainsFunc_Route_Route_ok hA (by rfl) (fun _ _ hw => routes_may_2_ok hA hqr167 hw) hw7)) ?_
   cbv
   cases h; subst hR; exact ey
theorem routes_may_N_ok {A : Ar} (hA : A = std) : ∀ (n : Nat) (x0 : Route) (x1 : Int) (r : Bool), routes_may_N A n x0 x1 = some r → PFun cx 167 [routePV x0, it .i64 x1] (bl r)
 | 0, _, _, _, h => by cases h
 | n + 1, x0, x1, r, h => routes_may_S_ok hA (fun _ _ _ hh => routes_may_N_ok hA n _ _ _ hh) h
theorem routes_may_ok {A : Ar} (hA : A = std) {x0 : Route} {x1 : Int} {r : Bool} (h : routes_may A x0 x1 = some r) : PFun cx 167 [routePV x0, it .i64 x1] (bl r) := routes_may_N_ok hA _ _ _ _ h
theorem routes_Right_ok {A : Ar} (hA : A = std) {x0 : Route} {r : Bool} (h : routes_Right A x0 = some r) : PFun cx 74 [routePV x0] ((fun r : Bool => (bl r : PV)) r) := by
 refine PFun.walkF (fz := fun _ => false) hA cx_ok Tryz.func74 rfl rfl rfl fun P R hP hR => ?_
 cbv
 unfold routes_Right at h
 iterate 2 refine kj ?_
 replace h := bd_e h; obtain ⟨w1, hw1, h⟩ := h
 refine CallK.mk _ (by rfl) (fun _ => PFun.to hP (routes_may_ok hA hw1)) ?_
 cbv
 cases h; subst hR; exact ey
theorem routes_Count_S_ok {A : Ar} (hA : A = std) {rf : Route → Option Int} {x0 : Route} (hqr75 : ∀ (x0 : Route) (r : Int), rf x0 = some r → PFun cx 75 [routePV x0] (it .i64 r)) {r : Int} (h : routes_Count_S A rf x0 = some r) : PFun cx 75 [routePV x0] ((fun r : Int => (it .i64 r : PV)) r) := by
 refine PFun.walkF (fz := fun _ => false) hA cx_ok Tryz.func75 rfl rfl rfl fun P R hP hR => ?_
 cbv
 unfold routes_Count_S at h
 iterate 3 refine kj ?_
 replace h := Loop_e h; obtain ⟨n1, hl1⟩ := h
 refine LoopK.q (X := Runs (routes_Count_S_B1 A rf x0) _) (fun x gh => [(3, it IntKind.i64 x.1.2.1), (9, it IntKind.i64 x.1.2.2)]) (fun x gh => [⟨1, 0, .box 27 [PV.d (D.v (Value.string x0.1)), PV.d (D.sl TyS.matcher x0.2), PV.d (D.sl TyS.str x0.3), PV.d (D.v (Value.int IntKind.i64 x0.4)), PV.d (D.v (Value.int IntKind.i64 x0.5)), PV.d (D.v (Value.int IntKind.i64 x0.6)), PV.d (D.sl TyS.str x0.7), PV.d (D.v (Value.bool x0.8)), PV.d (D.sl TyS.route x0.9)]⟩]) (fun x => x.1.1) ⟨(n1, _), hl1⟩ [] hdz ?_
 rintro ⟨⟨n1, n3, t9⟩, hr1⟩ gh1 g1 K1 Q1 hK1 hQ1
 obtain _ | n1 := n1
 ·exact (LoopN_z hr1).elim
 obtain ⟨v1, h, hv1⟩ := LoopN_e hr1
 cbv
 refine kj ?_
 replace h := br_e h; obtain ⟨hb, h⟩ | ⟨hb, h⟩ := h
 ·refine cdT hb ?_; cbv
  refine kj ?_
  replace h := ck_e h; obtain ⟨c1, h⟩ := h; refine ⟨c1, ?_⟩
  refine kj ?_
  replace h := bd_e h; obtain ⟨w2, hw2, h⟩ := h
  refine CallK.mk _ (by rfl) (fun _ => PFun.to hP (hqr75 _ _ hw2)) ?_
  cbv
  refine kj ?_
  cases h
  exact hK1 _ ⟨(n1, _), hv1⟩ [] (Nat.lt_succ_self _) hdy
 ·refine cdF hb ?_; cbv
  replace h := rt_e h; obtain ⟨_, h, rfl⟩ := h
  cases hv1; refine hQ1 _ _ ?_; cbv
  refine kj ?_
  cases h; subst hR; exact ey
theorem routes_Count_N_ok {A : Ar} (hA : A = std) : ∀ (n : Nat) (x0 : Route) (r : Int), routes_Count_N A n x0 = some r → PFun cx 75 [routePV x0] (it .i64 r)
 | 0, _, _, h => by cases h
 | n + 1, x0, r, h => routes_Count_S_ok hA (fun _ _ hh => routes_Count_N_ok hA n _ _ hh) h
theorem routes_Count_ok {A : Ar} (hA : A = std) {x0 : Route} {r : Int} (h : routes_Count A x0 = some r) : PFun cx 75 [routePV x0] (it .i64 r) := routes_Count_N_ok hA _ _ _ h
theorem routes_gather_string_1_S_ok {A : Ar} (hA : A = std) {rf : Route → (List ByteArray) → Option (List ByteArray)} {x0 : Route} {qc0 : Route → Option (List ByteArray)} {c1 : List ByteArray} {gc0 : Nat} {capc0 : List D} (hcapc0 : capOK capc0) (hqc0 : ∀ (y0 : Route) (r : List ByteArray), qc0 y0 = some r → PFun cx gc0 ((routePV y0) :: un.uns capc0) (.d (.sl TyS.str r))) (hqr243 : ∀ (x0 : Route) (c1 : List ByteArray) (r : List ByteArray), rf x0 c1 = some r → PFunM cx 243 [routePV x0, .ip [.fun (.func gc0) [] capc0], .bx 1000 0 0, .bx 1001 0 0] [⟨1000, 0, .box 24 [.os 1002 0 TyS.str c1]⟩, ⟨1001, 0, .box 229 [.fn (.func 243) [] [.ip [.fun (.func gc0) [] capc0], .bx 1000 0 0, .bx 1001 0 0]]⟩, ⟨1002, 0, .tok 9 TyS.str (A.nlen TyS.str c1)⟩] (.tu []) [⟨1000, 0, .box 24 [.os 2000 1 TyS.str r]⟩, ⟨1001, 0, .box 229 [.fn (.func 243) [] [.ip [.fun (.func gc0) [] capc0], .bx 1000 0 0, .bx 1001 0 0]]⟩, ⟨2000, 1, .tok 9 TyS.str (A.nlen TyS.str r)⟩]) {r : List ByteArray} (h : routes_gather_string_1_S A rf x0 qc0 c1 = some r) : PFunM cx 243 [routePV x0, .ip [.fun (.func gc0) [] capc0], .bx 1000 0 0, .bx 1001 0 0] [⟨1000, 0, .box 24 [.os 1002 0 TyS.str c1]⟩, ⟨1001, 0, .box 229 [.fn (.func 243) [] [.ip [.fun (.func gc0) [] capc0], .bx 1000 0 0, .bx 1001 0 0]]⟩, ⟨1002, 0, .tok 9 TyS.str (A.nlen TyS.str c1)⟩] ((fun r : List ByteArray => (.tu [] : PV)) r) ((fun r : List ByteArray => ([⟨1000, 0, .box 24 [.os 2000 1 TyS.str r]⟩, ⟨1001, 0, .box 229 [.fn (.func 243) [] [.ip [.fun (.func gc0) [] capc0], .bx 1000 0 0, .bx 1001 0 0]]⟩, ⟨2000, 1, .tok 9 TyS.str (A.nlen TyS.str r)⟩] : List En)) r) := by
 rcases hcapc0 with rfl | ⟨dscapc0, rfl⟩
 ·refine PFunM.walkM (fz := fun _ => false) hA cx_ok Tryz.func243 rfl rfl fun P R hP hR => ?_
  cbv
  unfold routes_gather_string_1_S at h
  iterate 2 refine kj ?_
  replace h := bd_e h; obtain ⟨w1, hw1, h⟩ := h
  refine CallK.mk _ (by rfl) (fun _ => PFun.to hP (hqc0 _ _ hw1)) ?_
  cbv
  replace h := Loop_e h; obtain ⟨n1, hl1⟩ := h
  refine LoopK.q (X := Runs (routes_gather_string_1_S_B2 A rf x0 w1) _) (fun x gh => [(13, it IntKind.i64 x.1.2.1)]) (fun x gh => [⟨4031, gh, .tok 9 TyS.str (A.nlen TyS.str x.1.2.2)⟩, ⟨4, 2, .box 27 [PV.d (D.v (Value.string x0.1)), PV.d (D.sl TyS.matcher x0.2), PV.d (D.sl TyS.str x0.3), PV.d (D.v (Value.int IntKind.i64 x0.4)), PV.d (D.v (Value.int IntKind.i64 x0.5)), PV.d (D.v (Value.int IntKind.i64 x0.6)), PV.d (D.sl TyS.str x0.7), PV.d (D.v (Value.bool x0.8)), PV.d (D.sl TyS.route x0.9)]⟩, ⟨1000, 0, .box 24 [.os 4031 gh TyS.str x.1.2.2]⟩, ⟨1001, 0, .box 229 [PV.fn (Fn.func 243) [] [PV.ip [D.fun (Fn.func gc0) [] []], PV.bx 1000 0 0, PV.bx 1001 0 0]]⟩]) (fun x => x.1.1) ⟨(n1, _), hl1⟩ [(4031, 1002, 0)] hdz ?_
  rintro ⟨⟨n1, t13, b0_1000⟩, hr1⟩ gh1 g1 K1 Q1 hK1 hQ1
  obtain _ | n1 := n1
  ·exact (LoopN_z hr1).elim
  obtain ⟨v1, h, hv1⟩ := LoopN_e hr1
  cbv
  refine kj ?_
  replace h := br_e h; obtain ⟨hb, h⟩ | ⟨hb, h⟩ := h
  ·refine cdT hb ?_; cbv
   refine kj ?_
   replace h := ck_e h; obtain ⟨c2, h⟩ := h; refine ⟨c2, ?_⟩
   refine kj ?_
   replace h := bd_e h; obtain ⟨w3, hw3, h⟩ := h
   refine CallK.mk _ (by rfl) (fun _ => PFun.to hP (slices_Contains_string_string_ok hA hw3)) ?_
   cbv
   replace h := br_e h; obtain ⟨hb, h⟩ | ⟨hb, h⟩ := h
   ·refine cdT hb ?_; cbv
    refine kj ?_
    replace h := ck_e h; obtain ⟨c4, h⟩ := h; refine ⟨c4, ?_⟩
    refine kj ?_
    cases h
    exact hK1 _ ⟨(n1, _), hv1⟩ [(4031, 24, g1.succ.succ.succ)] (Nat.lt_succ_self _) hdy
   ·refine cdF hb ?_; cbv
    refine kj ?_
    cases h
    exact hK1 _ ⟨(n1, _), hv1⟩ [(4031, 4031, gh1)] (Nat.lt_succ_self _) hdy
  ·refine cdF hb ?_; cbv
   replace h := rt_e h; obtain ⟨_, h, rfl⟩ := h
   cases hv1; refine hQ1 _ _ ?_; cbv
   refine kj ?_
   replace h := Loop_e h; obtain ⟨n2, hl2⟩ := h
   refine LoopK.q (X := Runs (routes_gather_string_1_S_B1 A rf x0) _) (fun x gh => [(29, it IntKind.i64 x.1.2.1)]) (fun x gh => [⟨4061, gh, .tok 9 TyS.str (A.nlen TyS.str x.1.2.2)⟩, ⟨4, 2, .box 27 [PV.d (D.v (Value.string x0.1)), PV.d (D.sl TyS.matcher x0.2), PV.d (D.sl TyS.str x0.3), PV.d (D.v (Value.int IntKind.i64 x0.4)), PV.d (D.v (Value.int IntKind.i64 x0.5)), PV.d (D.v (Value.int IntKind.i64 x0.6)), PV.d (D.sl TyS.str x0.7), PV.d (D.v (Value.bool x0.8)), PV.d (D.sl TyS.route x0.9)]⟩, ⟨1000, 0, .box 24 [.os 4061 gh TyS.str x.1.2.2]⟩, ⟨1001, 0, .box 229 [PV.fn (Fn.func 243) [] [PV.ip [D.fun (Fn.func gc0) [] []], PV.bx 1000 0 0, PV.bx 1001 0 0]]⟩]) (fun x => x.1.1) ⟨(n2, _), hl2⟩ [(4061, 4031, gh1)] hdz ?_
   rintro ⟨⟨n2, t29, b0_1000'⟩, hr2⟩ gh2 g2 K2 Q2 hK2 hQ2
   obtain _ | n2 := n2
   ·exact (LoopN_z hr2).elim
   obtain ⟨v2, h, hv2⟩ := LoopN_e hr2
   cbv
   refine kj ?_
   replace h := br_e h; obtain ⟨hb, h⟩ | ⟨hb, h⟩ := h
   ·refine cdT hb ?_; cbv
    refine kj ?_
    replace h := ck_e h; obtain ⟨c5, h⟩ := h; refine ⟨c5, ?_⟩
    refine kj ?_
    replace h := bd_e h; obtain ⟨w6, hw6, h⟩ := h
    refine CallK.mem 35 rfl rfl [(1000, 0), (1001, 0), (4061, gh2)] _ _ _ _ (fun _ => PFunM.to hP (hqr243 _ _ _ hw6)) (by rfl) (fun _ => ez) ez (by rfl) (by rfl) ?_
    cbv
    refine kj ?_
    cases h
    exact hK2 _ ⟨(n2, _), hv2⟩ [(4061, 35, g2.succ.succ)] (Nat.lt_succ_self _) hdy
   ·refine cdF hb ?_; cbv
    replace h := rt_e h; obtain ⟨_, h, rfl⟩ := h
    cases hv2; refine hQ2 _ _ ?_; cbv
    cases h
    refine hR _ _ ⟨[(4061, gh2)], ⟨by rfl, ez, by rfl, ez⟩⟩
 ·refine PFunM.walkM (fz := fun _ => false) hA cx_ok Tryz.func243 rfl rfl fun P R hP hR => ?_
  cbv
  unfold routes_gather_string_1_S at h
  iterate 2 refine kj ?_
  replace h := bd_e h; obtain ⟨w1, hw1, h⟩ := h
  refine CallK.mk _ (by rfl) (fun _ => PFun.to hP (hqc0 _ _ hw1)) ?_
  cbv
  replace h := Loop_e h; obtain ⟨n1, hl1⟩ := h
  refine LoopK.q (X := Runs (routes_gather_string_1_S_B2 A rf x0 w1) _) (fun x gh => [(13, it IntKind.i64 x.1.2.1)]) (fun x gh => [⟨4031, gh, .tok 9 TyS.str (A.nlen TyS.str x.1.2.2)⟩, ⟨4, 2, .box 27 [PV.d (D.v (Value.string x0.1)), PV.d (D.sl TyS.matcher x0.2), PV.d (D.sl TyS.str x0.3), PV.d (D.v (Value.int IntKind.i64 x0.4)), PV.d (D.v (Value.int IntKind.i64 x0.5)), PV.d (D.v (Value.int IntKind.i64 x0.6)), PV.d (D.sl TyS.str x0.7), PV.d (D.v (Value.bool x0.8)), PV.d (D.sl TyS.route x0.9)]⟩, ⟨1000, 0, .box 24 [.os 4031 gh TyS.str x.1.2.2]⟩, ⟨1001, 0, .box 229 [PV.fn (Fn.func 243) [] [PV.ip [D.fun (Fn.func gc0) [] [D.ptr dscapc0]], PV.bx 1000 0 0, PV.bx 1001 0 0]]⟩]) (fun x => x.1.1) ⟨(n1, _), hl1⟩ [(4031, 1002, 0)] hdz ?_
  rintro ⟨⟨n1, t13, b0_1000⟩, hr1⟩ gh1 g1 K1 Q1 hK1 hQ1
  obtain _ | n1 := n1
  ·exact (LoopN_z hr1).elim
  obtain ⟨v1, h, hv1⟩ := LoopN_e hr1
  cbv
  refine kj ?_
  replace h := br_e h; obtain ⟨hb, h⟩ | ⟨hb, h⟩ := h
  ·refine cdT hb ?_; cbv
   refine kj ?_
   replace h := ck_e h; obtain ⟨c2, h⟩ := h; refine ⟨c2, ?_⟩
   refine kj ?_
   replace h := bd_e h; obtain ⟨w3, hw3, h⟩ := h
   refine CallK.mk _ (by rfl) (fun _ => PFun.to hP (slices_Contains_string_string_ok hA hw3)) ?_
   cbv
   replace h := br_e h; obtain ⟨hb, h⟩ | ⟨hb, h⟩ := h
   ·refine cdT hb ?_; cbv
    refine kj ?_
    replace h := ck_e h; obtain ⟨c4, h⟩ := h; refine ⟨c4, ?_⟩
    refine kj ?_
    cases h
    exact hK1 _ ⟨(n1, _), hv1⟩ [(4031, 24, g1.succ.succ.succ)] (Nat.lt_succ_self _) hdy
   ·refine cdF hb ?_; cbv
    refine kj ?_
    cases h
    exact hK1 _ ⟨(n1, _), hv1⟩ [(4031, 4031, gh1)] (Nat.lt_succ_self _) hdy
  ·refine cdF hb ?_; cbv
   replace h := rt_e h; obtain ⟨_, h, rfl⟩ := h
   cases hv1; refine hQ1 _ _ ?_; cbv
   refine kj ?_
   replace h := Loop_e h; obtain ⟨n2, hl2⟩ := h
   refine LoopK.q (X := Runs (routes_gather_string_1_S_B1 A rf x0) _) (fun x gh => [(29, it IntKind.i64 x.1.2.1)]) (fun x gh => [⟨4061, gh, .tok 9 TyS.str (A.nlen TyS.str x.1.2.2)⟩, ⟨4, 2, .box 27 [PV.d (D.v (Value.string x0.1)), PV.d (D.sl TyS.matcher x0.2), PV.d (D.sl TyS.str x0.3), PV.d (D.v (Value.int IntKind.i64 x0.4)), PV.d (D.v (Value.int IntKind.i64 x0.5)), PV.d (D.v (Value.int IntKind.i64 x0.6)), PV.d (D.sl TyS.str x0.7), PV.d (D.v (Value.bool x0.8)), PV.d (D.sl TyS.route x0.9)]⟩, ⟨1000, 0, .box 24 [.os 4061 gh TyS.str x.1.2.2]⟩, ⟨1001, 0, .box 229 [PV.fn (Fn.func 243) [] [PV.ip [D.fun (Fn.func gc0) [] [D.ptr dscapc0]], PV.bx 1000 0 0, PV.bx 1001 0 0]]⟩]) (fun x => x.1.1) ⟨(n2, _), hl2⟩ [(4061, 4031, gh1)] hdz ?_
   rintro ⟨⟨n2, t29, b0_1000'⟩, hr2⟩ gh2 g2 K2 Q2 hK2 hQ2
   obtain _ | n2 := n2
   ·exact (LoopN_z hr2).elim
   obtain ⟨v2, h, hv2⟩ := LoopN_e hr2
   cbv
   refine kj ?_
   replace h := br_e h; obtain ⟨hb, h⟩ | ⟨hb, h⟩ := h
   ·refine cdT hb ?_; cbv
    refine kj ?_
    replace h := ck_e h; obtain ⟨c5, h⟩ := h; refine ⟨c5, ?_⟩
    refine kj ?_
    replace h := bd_e h; obtain ⟨w6, hw6, h⟩ := h
    refine CallK.mem 35 rfl rfl [(1000, 0), (1001, 0), (4061, gh2)] _ _ _ _ (fun _ => PFunM.to hP (hqr243 _ _ _ hw6)) (by rfl) (fun _ => ez) ez (by rfl) (by rfl) ?_
    cbv
    refine kj ?_
    cases h
    exact hK2 _ ⟨(n2, _), hv2⟩ [(4061, 35, g2.succ.succ)] (Nat.lt_succ_self _) hdy
   ·refine cdF hb ?_; cbv
    replace h := rt_e h; obtain ⟨_, h, rfl⟩ := h
    cases hv2; refine hQ2 _ _ ?_; cbv
    cases h
    refine hR _ _ ⟨[(4061, gh2)], ⟨by rfl, ez, by rfl, ez⟩⟩
theorem routes_gather_string_1_N_ok {A : Ar} (hA : A = std) {qc0 : Route → Option (List ByteArray)} {gc0 : Nat} {capc0 : List D} (hcapc0 : capOK capc0) (hqc0 : ∀ (y0 : Route) (r : List ByteArray), qc0 y0 = some r → PFun cx gc0 ((routePV y0) :: un.uns capc0) (.d (.sl TyS.str r))) : ∀ (n : Nat) (x0 : Route) (c1 : List ByteArray) (r : List ByteArray), routes_gather_string_1_N A qc0 n x0 c1 = some r → PFunM cx 243 [routePV x0, .ip [.fun (.func gc0) [] capc0], .bx 1000 0 0, .bx 1001 0 0] [⟨1000, 0, .box 24 [.os 1002 0 TyS.str c1]⟩, ⟨1001, 0, .box 229 [.fn (.func 243) [] [.ip [.fun (.func gc0) [] capc0], .bx 1000 0 0, .bx 1001 0 0]]⟩, ⟨1002, 0, .tok 9 TyS.str (A.nlen TyS.str c1)⟩] (.tu []) [⟨1000, 0, .box 24 [.os 2000 1 TyS.str r]⟩, ⟨1001, 0, .box 229 [.fn (.func 243) [] [.ip [.fun (.func gc0) [] capc0], .bx 1000 0 0, .bx 1001 0 0]]⟩, ⟨2000, 1, .tok 9 TyS.str (A.nlen TyS.str r)⟩]
 | 0, _, _, _, h => by cases h
 | n + 1, x0, c1, r, h => routes_gather_string_1_S_ok hA hcapc0 hqc0 (fun _ _ _ hh => routes_gather_string_1_N_ok hA hcapc0 hqc0 n _ _ _ hh) h
theorem routes_gather_string_1_ok {A : Ar} (hA : A = std) {x0 : Route} {qc0 : Route → Option (List ByteArray)} {c1 : List ByteArray} {gc0 : Nat} {capc0 : List D} (hcapc0 : capOK capc0) (hqc0 : ∀ (y0 : Route) (r : List ByteArray), qc0 y0 = some r → PFun cx gc0 ((routePV y0) :: un.uns capc0) (.d (.sl TyS.str r))) {r : List ByteArray} (h : routes_gather_string_1 A x0 qc0 c1 = some r) : PFunM cx 243 [routePV x0, .ip [.fun (.func gc0) [] capc0], .bx 1000 0 0, .bx 1001 0 0] [⟨1000, 0, .box 24 [.os 1002 0 TyS.str c1]⟩, ⟨1001, 0, .box 229 [.fn (.func 243) [] [.ip [.fun (.func gc0) [] capc0], .bx 1000 0 0, .bx 1001 0 0]]⟩, ⟨1002, 0, .tok 9 TyS.str (A.nlen TyS.str c1)⟩] (.tu []) [⟨1000, 0, .box 24 [.os 2000 1 TyS.str r]⟩, ⟨1001, 0, .box 229 [.fn (.func 243) [] [.ip [.fun (.func gc0) [] capc0], .bx 1000 0 0, .bx 1001 0 0]]⟩, ⟨2000, 1, .tok 9 TyS.str (A.nlen TyS.str r)⟩] := routes_gather_string_1_N_ok hA hcapc0 hqc0 _ _ _ _ h
theorem routes_gather_string_ok {A : Ar} (hA : A = std) {x0 : Route} {q1 : Route → Option (List ByteArray)} {g1 : Nat} {cap1 : List D} (hcap1 : capOK cap1) (hq1 : ∀ (y0 : Route) (r : List ByteArray), q1 y0 = some r → PFun cx g1 ((routePV y0) :: un.uns cap1) (.d (.sl TyS.str r))) {r : List ByteArray} (h : routes_gather_string A x0 q1 = some r) : PFun cx 168 [routePV x0, .fn (.func g1) [] (un.uns cap1)] ((fun r : List ByteArray => (.d (.sl TyS.str r) : PV)) r) := by
 rcases hcap1 with rfl | ⟨dscap1, rfl⟩
 ·refine PFun.walkF (fz := fun k => k == 3 || k == 131077) hA cx_ok Tryz.func168 rfl rfl rfl fun P R hP hR => ?_
  cbv
  unfold routes_gather_string at h
  iterate 5 refine kj ?_
  replace h := bd_e h; obtain ⟨w1, hw1, h⟩ := h
  refine CallK.mem 10 rfl rfl [(5, 1), (6, 2), (65541, 1)] _ _ _ _ (fun _ => PFunM.to hP (routes_gather_string_1_ok (capc0 := []) hA (by first | exact .inl rfl | exact .inr ⟨_, rfl⟩) hq1 hw1)) (by rfl) (fun _ => ez) ez (by rfl) (by rfl) ?_
  cbv
  refine kj ?_
  cases h; subst hR; exact ey
 ·refine PFun.walkF (fz := fun k => k == 3 || k == 131077) hA cx_ok Tryz.func168 rfl rfl rfl fun P R hP hR => ?_
  cbv
  unfold routes_gather_string at h
  iterate 5 refine kj ?_
  replace h := bd_e h; obtain ⟨w1, hw1, h⟩ := h
  refine CallK.mem 10 rfl rfl [(5, 1), (6, 2), (65541, 1)] _ _ _ _ (fun _ => PFunM.to hP (routes_gather_string_1_ok (capc0 := [D.ptr dscap1]) hA (by first | exact .inl rfl | exact .inr ⟨_, rfl⟩) hq1 hw1)) (by rfl) (fun _ => ez) ez (by rfl) (by rfl) ?_
  cbv
  refine kj ?_
  cases h; subst hR; exact ey
theorem routes_Names_1_ok {A : Ar} (hA : A = std) {x0 : Route} {r : List ByteArray} (h : routes_Names_1 A x0 = some r) : PFun cx 169 [routePV x0] ((fun r : List ByteArray => (.d (.sl TyS.str r) : PV)) r) := by
 refine PFun.walkF (fz := fun _ => false) hA cx_ok Tryz.func169 rfl rfl rfl fun P R hP hR => ?_
 cbv
 unfold routes_Names_1 at h
 iterate 2 refine kj ?_
 cases h; subst hR; exact ey
theorem routes_Names_2_ok {A : Ar} (hA : A = std) {x0 : Route} {r : List ByteArray} (h : routes_Names_2 A x0 = some r) : PFun cx 170 [routePV x0] ((fun r : List ByteArray => (.d (.sl TyS.str r) : PV)) r) := by
 refine PFun.walkF (fz := fun _ => false) hA cx_ok Tryz.func170 rfl rfl rfl fun P R hP hR => ?_
 cbv
 unfold routes_Names_2 at h
 iterate 2 refine kj ?_
 cases h; subst hR; exact ey
theorem routes_Names_ok {A : Ar} (hA : A = std) {x0 : Route} {r : (List ByteArray) × (List ByteArray)} (h : routes_Names A x0 = some r) : PFun cx 76 [routePV x0] ((fun r : (List ByteArray) × (List ByteArray) => (.tu [.d (.sl TyS.str r.1), .d (.sl TyS.str r.2)] : PV)) r) := by
 refine PFun.walkF (fz := fun _ => false) hA cx_ok Tryz.func76 rfl rfl rfl fun P R hP hR => ?_
 cbv
 unfold routes_Names at h
 iterate 2 refine kj ?_
 replace h := bd_e h; obtain ⟨w1, hw1, h⟩ := h
 refine CallK.le _ _ (by rfl) (fun _ => ey) (fun _ => PFun.to hP (routes_gather_string_ok (cap1 := []) hA (by first | exact .inl rfl | exact .inr ⟨_, rfl⟩) (fun _ _ hw => routes_Names_1_ok hA hw) hw1)) ?_
 cbv
 refine kj ?_
 replace h := bd_e h; obtain ⟨w2, hw2, h⟩ := h
 refine CallK.le _ _ (by rfl) (fun _ => ey) (fun _ => PFun.to hP (routes_gather_string_ok (cap1 := []) hA (by first | exact .inl rfl | exact .inr ⟨_, rfl⟩) (fun _ _ hw => routes_Names_2_ok hA hw) hw2)) ?_
 cbv
 cases h; subst hR; exact ey
theorem config_Right_1_1_ok {A : Ar} (hA : A = std) {x0 : Hours} {c0 : ByteArray} {r : Bool} (h : config_Right_1_1 A x0 c0 = some r) : PFun cx 79 [hoursPV x0, .ip [.v (.string c0)]] ((fun r : Bool => (bl r : PV)) r) := by
 refine PFun.walkF (fz := fun _ => false) hA cx_ok Tryz.func79 rfl rfl rfl fun P R hP hR => ?_
 cbv
 unfold config_Right_1_1 at h
 iterate 2 refine kj ?_
 cases h; subst hR; exact ey
theorem config_Right_1_ok {A : Ar} (hA : A = std) {x0 : ByteArray} {c0 : Config} {r : Bool} (h : config_Right_1 A x0 c0 = some r) : PFun cx 77 [st x0, .ip [.sl TyS.rule c0.Rules, .v (.string c0.Route.Receiver), .sl TyS.matcher c0.Route.Match, .sl TyS.str c0.Route.By, .v (.int .i64 c0.Route.Wait), .v (.int .i64 c0.Route.Every), .v (.int .i64 c0.Route.Repeat), .sl TyS.str c0.Route.Mute, .v (.bool c0.Route.On), .sl TyS.route c0.Route.Routes, .sl TyS.str c0.Receivers, .sl TyS.inhibit c0.Inhibits, .sl TyS.hours c0.Hours]] ((fun r : Bool => (bl r : PV)) r) := by
 refine PFun.walkF (fz := fun k => k == 2) hA cx_ok Tryz.func77 rfl rfl rfl fun P R hP hR => ?_
 cbv
 unfold config_Right_1 at h
 iterate 2 refine kj ?_
 replace h := bd_e h; obtain ⟨w1, hw1, h⟩ := h
 refine CallK.mk _ (by rfl) (fun _ => PFun.to hP (slices_ContainsFunc_Hours_Hours_ok hA (by rfl) (fun _ _ hw => config_Right_1_1_ok hA hw) hw1)) ?_
 cbv
 cases h; subst hR; exact ey
theorem config_Right_2_ok {A : Ar} (hA : A = std) {x0 : ByteArray} {c0 : Config} {r : Bool} (h : config_Right_2 A x0 c0 = some r) : PFun cx 80 [st x0, .ip [.sl TyS.rule c0.Rules, .v (.string c0.Route.Receiver), .sl TyS.matcher c0.Route.Match, .sl TyS.str c0.Route.By, .v (.int .i64 c0.Route.Wait), .v (.int .i64 c0.Route.Every), .v (.int .i64 c0.Route.Repeat), .sl TyS.str c0.Route.Mute, .v (.bool c0.Route.On), .sl TyS.route c0.Route.Routes, .sl TyS.str c0.Receivers, .sl TyS.inhibit c0.Inhibits, .sl TyS.hours c0.Hours]] ((fun r : Bool => (bl r : PV)) r) := by
 refine PFun.walkF (fz := fun _ => false) hA cx_ok Tryz.func80 rfl rfl rfl fun P R hP hR => ?_
 cbv
 unfold config_Right_2 at h
 iterate 2 refine kj ?_
 replace h := bd_e h; obtain ⟨w1, hw1, h⟩ := h
 refine CallK.mk _ (by rfl) (fun _ => PFun.to hP (slices_Contains_string_string_ok hA hw1)) ?_
 cbv
 cases h; subst hR; exact ey
theorem config_Right_ok {A : Ar} (hA : A = std) {x0 : Config} {r : Bool} (h : config_Right A x0 = some r) : PFun cx 17 [configPV x0] ((fun r : Bool => (bl r : PV)) r) := by
 refine PFun.walkF (fz := fun k => k == 1) hA cx_ok Tryz.func17 rfl rfl rfl fun P R hP hR => ?_
 cbv
 unfold config_Right at h
 iterate 2 refine kj ?_
 replace h := bd_e h; obtain ⟨w1, hw1, h⟩ := h
 refine CallK.le _ _ (by rfl) (fun _ => ey) (fun _ => PFun.to hP (config_all_Rule_ok (cap2 := []) hA (by first | exact .inl rfl | exact .inr ⟨_, rfl⟩) (fun _ _ hw => rules_Right_ok hA hw) hw1)) ?_
 cbv
 iterate 2 refine cj ?_
 replace h := bd_e h; obtain ⟨w2, hw2, h⟩ := h
 refine CallK.le _ _ (by rfl) (fun _ => ey) (fun hc => PFun.to hP (config_all_string_ok (cap2 := []) hA (by first | exact .inl rfl | exact .inr ⟨_, rfl⟩) (fun _ _ hw => config_word_ok hA hw) (gd_e hw2 hc))) ?_
 cbv
 iterate 3 refine cj ?_
 replace h := bd_e h; obtain ⟨w3, hw3, h⟩ := h
 refine CallK.le _ _ (by rfl) (fun _ => ey) (fun hc => PFun.to hP (config_all_Inhibit_ok (cap2 := []) hA (by first | exact .inl rfl | exact .inr ⟨_, rfl⟩) (fun _ _ hw => config_inhibits_ok hA hw) (gd_e hw3 hc))) ?_
 cbv
 iterate 3 refine cj ?_
 replace h := bd_e h; obtain ⟨w4, hw4, h⟩ := h
 refine CallK.le _ _ (by rfl) (fun _ => ey) (fun hc => PFun.to hP (config_all_Hours_ok (cap2 := []) hA (by first | exact .inl rfl | exact .inr ⟨_, rfl⟩) (fun _ _ hw => hours_Right_ok hA hw) (gd_e hw4 hc))) ?_
 cbv
 refine cj ?_
 refine kj ?_
 iterate 2 refine cj ?_
 replace h := bd_e h; obtain ⟨w5, hw5, h⟩ := h
 refine CallK.le _ _ (by rfl) (fun _ => ey) (fun hc => PFun.to hP (config_unique_Rule_ok hA (by rfl) (fun _ _ hw => config_ruled_ok hA hw) (gd_e hw5 hc))) ?_
 cbv
 iterate 4 refine cj ?_
 replace h := bd_e h; obtain ⟨w6, hw6, h⟩ := h
 refine CallK.le _ _ (by rfl) (fun _ => ey) (fun hc => PFun.to hP (config_unique_string_ok hA (by rfl) (fun _ _ hw => config_itself_ok hA hw) (gd_e hw6 hc))) ?_
 cbv
 iterate 4 refine cj ?_
 replace h := bd_e h; obtain ⟨w7, hw7, h⟩ := h
 refine CallK.le _ _ (by rfl) (fun _ => ey) (fun hc => PFun.to hP (config_unique_Hours_ok hA (by rfl) (fun _ _ hw => config_houred_ok hA hw) (gd_e hw7 hc))) ?_
 cbv
 iterate 2 refine cj ?_
 replace h := br_e h; obtain ⟨hb, h⟩ | ⟨hb, h⟩ := h
 ·refine cdT hb ?_; cbv
  refine kj ?_
  cases h; subst hR; exact ey
 ·refine cdF hb ?_; cbv
  refine kj ?_
  replace h := bd_e h; obtain ⟨w8, hw8, h⟩ := h
  refine CallK.mk _ (by rfl) (fun _ => PFun.to hP (routes_Right_ok hA hw8)) ?_
  cbv
  iterate 10 refine cj ?_
  replace h := bd_e h; obtain ⟨w9, hw9, h⟩ := h
  refine CallK.mk _ (by rfl) (fun hc => PFun.to hP (routes_Count_ok hA (gd_e hw9 hc))) ?_
  cbv
  iterate 2 refine cj ?_
  replace h := br_e h; obtain ⟨hb, h⟩ | ⟨hb, h⟩ := h
  ·refine cdT hb ?_; cbv
   refine kj ?_
   cases h; subst hR; exact ey
  ·refine cdF hb ?_; cbv
   refine kj ?_
   replace h := bd_e h; obtain ⟨w10, hw10, h⟩ := h
   refine CallK.mk _ (by rfl) (fun _ => PFun.to hP (routes_Names_ok hA hw10)) ?_
   cbv
   iterate 2 refine kj ?_
   replace h := bd_e h; obtain ⟨w11, hw11, h⟩ := h
   refine CallK.mk _ (by rfl) (fun _ => PFun.to hP (config_all_string_ok (cap2 := [D.ptr [D.sl TyS.rule x0.1, D.v (Value.string x0.2.1), D.sl TyS.matcher x0.2.2, D.sl TyS.str x0.2.3, D.v (Value.int IntKind.i64 x0.2.4), D.v (Value.int IntKind.i64 x0.2.5), D.v (Value.int IntKind.i64 x0.2.6), D.sl TyS.str x0.2.7, D.v (Value.bool x0.2.8), D.sl TyS.route x0.2.9, D.sl TyS.str x0.3, D.sl TyS.inhibit x0.4, D.sl TyS.hours x0.5]]) hA (by first | exact .inl rfl | exact .inr ⟨_, rfl⟩) (fun _ _ hw => config_Right_2_ok hA hw) hw11)) ?_
   cbv
   iterate 2 refine cj ?_
   replace h := bd_e h; obtain ⟨w12, hw12, h⟩ := h
   refine CallK.mk _ (by rfl) (fun hc => PFun.to hP (config_all_string_ok (cap2 := [D.ptr [D.sl TyS.rule x0.1, D.v (Value.string x0.2.1), D.sl TyS.matcher x0.2.2, D.sl TyS.str x0.2.3, D.v (Value.int IntKind.i64 x0.2.4), D.v (Value.int IntKind.i64 x0.2.5), D.v (Value.int IntKind.i64 x0.2.6), D.sl TyS.str x0.2.7, D.v (Value.bool x0.2.8), D.sl TyS.route x0.2.9, D.sl TyS.str x0.3, D.sl TyS.inhibit x0.4, D.sl TyS.hours x0.5]]) hA (by first | exact .inl rfl | exact .inr ⟨_, rfl⟩) (fun _ _ hw => config_Right_1_ok hA hw) (gd_e hw12 hc))) ?_
   cbv
   refine cj ?_
   cases h; subst hR; exact ey
theorem matcher_Text_ok {A : Ar} (hA : A = std) {x0 : Matcher} {r : ByteArray × Int} (h : matcher_Text A x0 = some r) : PFun cx 189 [matcherPV x0] ((fun r : ByteArray × Int => (.tu [st r.1, it .i64 r.2] : PV)) r) := by
 refine PFun.walkF (fz := fun _ => false) hA cx_ok Tryz.func189 rfl rfl rfl fun P R hP hR => ?_
 cbv
 unfold matcher_Text at h
 iterate 2 refine kj ?_
 replace h := bd_e h; obtain ⟨w1, hw1, h⟩ := h
 refine CallK.mk _ (by rfl) (fun _ => PFun.to hP (matcher_Right_ok hA hw1)) ?_
 cbv
 replace h := br_e h; obtain ⟨hb, h⟩ | ⟨hb, h⟩ := h
 ·refine cdT hb ?_; cbv
  refine kj ?_
  cases h; subst hR; exact ey
 ·refine cdF hb ?_; cbv
  refine kj ?_
  replace h := bd_e h; obtain ⟨w2, hw2, h⟩ := h
  refine CallK.mem 9 rfl rfl [] _ _ _ _ (fun _ => PFunM.to hP (matcher_signs_ok hA hw2)) (by rfl) (fun _ => ez) ez (by rfl) (by rfl) ?_
  cbv
  refine ⟨by first | exact keysOK_mesB hA _ | exact ⟨rfl⟩, ?_⟩
  replace h := bd_e h; obtain ⟨w3, hw3, h⟩ := h
  have hw3' := lookI_ok A x0.2 (fun x => st x) (ByteArray.mk (Array.mk [])) [(1, ByteArray.mk (Array.mk [61])), (2, ByteArray.mk (Array.mk [33, 61])), (3, ByteArray.mk (Array.mk [61, 126])), (4, ByteArray.mk (Array.mk [33, 126]))]
  rw [Option.some.inj hw3] at hw3'
  refine LookK.one _ _ hw3' ?_
  cbv
  replace h := ck_e h; obtain ⟨c4, h⟩ := h; refine ⟨c4, ?_⟩
  replace h := ck_e h; obtain ⟨c5, h⟩ := h; refine ⟨c5, ?_⟩
  replace h := bd_e h; obtain ⟨w6, hw6, h⟩ := h
  refine CallK.mk _ (by rfl) (fun _ => PFun.to hP (strings_Join_ok hA hw6)) ?_
  cbv
  replace h := ck_e h; obtain ⟨c7, h⟩ := h; refine ⟨c7, ?_⟩
  replace h := ck_e h; obtain ⟨c8, h⟩ := h; refine ⟨c8, ?_⟩
  refine kj ?_
  cases h; subst hR; exact ey
theorem frame_Number_ok {A : Ar} (hA : A = std) {x0 : Int} {r : ByteArray × Int} (h : frame_Number A x0 = some r) : PFun cx 206 [it .i64 x0] ((fun r : ByteArray × Int => (.tu [st r.1, it .i64 r.2] : PV)) r) := by
 refine PFun.walkF (fz := fun _ => false) hA cx_ok Tryz.func206 rfl rfl rfl fun P R hP hR => ?_
 cbv
 unfold frame_Number at h
 iterate 2 refine kj ?_
 iterate 2 refine cj ?_
 replace h := br_e h; obtain ⟨hb, h⟩ | ⟨hb, h⟩ := h
 ·refine cdT hb ?_; cbv
  refine kj ?_
  cases h; subst hR; exact ey
 ·refine cdF hb ?_; cbv
  refine kj ?_
  replace h := Loop_e h; obtain ⟨n1, hl1⟩ := h
  refine LoopK.q (X := Runs (frame_Number_B1 A) _) (fun x gh => [(0, it IntKind.i64 x.1.2.1), (4, .os 4031 gh TyS.byte x.1.2.2)]) (fun x gh => [⟨4031, gh, .tok 5 TyS.byte (A.nlen TyS.byte x.1.2.2)⟩]) (fun x => x.1.1) ⟨(n1, _), hl1⟩ [] hdz ?_
  rintro ⟨⟨n1, n0, out4⟩, hr1⟩ gh1 g1 K1 Q1 hK1 hQ1
  obtain _ | n1 := n1
  ·exact (LoopN_z hr1).elim
  obtain ⟨v1, h, hv1⟩ := LoopN_e hr1
  cbv
  refine kj ?_
  replace h := br_e h; obtain ⟨hb, h⟩ | ⟨hb, h⟩ := h
  ·refine cdT hb ?_; cbv
   refine kj ?_
   refine ⟨by subst hA; simp +contextual [vcm], ?_⟩
   refine and_assoc.2 ?_
   replace h := ck_e h; obtain ⟨c1, h⟩ := h; refine ⟨c1, ?_⟩
   refine cj ?_
   replace h := ck_e h; obtain ⟨c2, h⟩ := h; refine ⟨c2, ?_⟩
   refine kj ?_
   refine ⟨by subst hA; simp +contextual [vcm], ?_⟩
   cases h
   exact hK1 _ ⟨(n1, _), hv1⟩ [(4031, 21, g1.succ)] (Nat.lt_succ_self _) hdy
  ·refine cdF hb ?_; cbv
   replace h := rt_e h; obtain ⟨_, h, rfl⟩ := h
   cases hv1; refine hQ1 _ _ ?_; cbv
   refine kj ?_
   refine and_assoc.2 ?_
   replace h := ck_e h; obtain ⟨c3, h⟩ := h; refine ⟨c3, ?_⟩
   refine cj ?_
   replace h := ck_e h; obtain ⟨c4, h⟩ := h; refine ⟨c4, ?_⟩
   cases h; subst hR; exact ey
theorem strings_Builder_copyCheck_1_ok {A : Ar} (hA : A = std) {x0 : List UInt8} {r : List UInt8} (h : strings_Builder_copyCheck_1 A x0 = some r) : PFunM cx 216 [.bx 1000 0 0] [⟨1000, 0, .box 139 [.d (.v (.pointer none)), .os 1001 0 TyS.byte x0]⟩, ⟨1001, 0, .tok 5 TyS.byte (A.nlen TyS.byte x0)⟩] ((fun r : List UInt8 => (.tu [] : PV)) r) ((fun r : List UInt8 => ([⟨1000, 0, .box 139 [.np 1000 0, .os 2000 1 TyS.byte r]⟩, ⟨2000, 1, .tok 5 TyS.byte (A.nlen TyS.byte r)⟩] : List En)) r) := by
 refine PFunM.walkM (fz := fun _ => false) hA cx_ok Tryz.func216 rfl rfl fun P R hP hR => ?_
 cbv
 unfold strings_Builder_copyCheck_1 at h
 iterate 2 refine kj ?_
 replace h := bd_e h; obtain ⟨w1, hw1, h⟩ := h
 refine CallK.mem 10 rfl rfl [(1000, 0), (1001, 0)] _ _ _ _ (fun _ => PFunM.to hP (abi_NoEscape_ok hA hw1)) (by rfl) (fun _ => ez) ez (by rfl) (by rfl) ?_
 cbv
 cases h
 refine hR _ _ ⟨[(1001, 0)], ⟨by rfl, ez, by rfl, ez⟩⟩
theorem strings_Builder_copyCheck_2_ok {A : Ar} (hA : A = std) {x0 : List UInt8} {r : List UInt8} (h : strings_Builder_copyCheck_2 A x0 = some r) : PFunM cx 216 [.bx 1000 0 0] [⟨1000, 0, .box 139 [.bx 1000 0 0, .os 1001 0 TyS.byte x0]⟩, ⟨1001, 0, .tok 5 TyS.byte (A.nlen TyS.byte x0)⟩] ((fun r : List UInt8 => (.tu [] : PV)) r) ((fun r : List UInt8 => ([⟨1000, 0, .box 139 [.np 1000 0, .os 2000 1 TyS.byte r]⟩, ⟨2000, 1, .tok 5 TyS.byte (A.nlen TyS.byte r)⟩] : List En)) r) := by
 refine PFunM.walkM (fz := fun _ => false) hA cx_ok Tryz.func216 rfl rfl fun P R hP hR => ?_
 cbv
 unfold strings_Builder_copyCheck_2 at h
 iterate 2 refine kj ?_
 cases h
 refine hR _ _ ⟨[(1001, 0)], ⟨by rfl, ez, by rfl, ez⟩⟩
theorem strings_Builder_copyCheck_ok {A : Ar} (hA : A = std) {x0 : List UInt8} {r : List UInt8} (h : strings_Builder_copyCheck A x0 = some r) : PFunM cx 216 [.bx 1000 0 0] [⟨1000, 0, .box 139 [.np 1000 0, .os 1001 0 TyS.byte x0]⟩, ⟨1001, 0, .tok 5 TyS.byte (A.nlen TyS.byte x0)⟩] (.tu []) [⟨1000, 0, .box 139 [.np 1000 0, .os 2000 1 TyS.byte r]⟩, ⟨2000, 1, .tok 5 TyS.byte (A.nlen TyS.byte r)⟩] := by
 unfold strings_Builder_copyCheck at h
 obtain ⟨a, h1, h⟩ := bd_e h
 obtain ⟨b, h2, h⟩ := bd_e h
 obtain ⟨e, h⟩ := ck_e h
 cases h; subst e
 exact PFunM.np (strings_Builder_copyCheck_1_ok hA h1) (strings_Builder_copyCheck_2_ok hA h2)
theorem strings_Builder_WriteString_ok {A : Ar} (hA : A = std) {x0 : List UInt8} {x1 : ByteArray} {r : List UInt8} (h : strings_Builder_WriteString A x0 x1 = some r) : PFunM cx 261 [.bx 1000 0 0, st x1] [⟨1000, 0, .box 139 [.np 1000 0, .os 1001 0 TyS.byte x0]⟩, ⟨1001, 0, .tok 5 TyS.byte (A.nlen TyS.byte x0)⟩] ((fun r : List UInt8 => (.tu [it .i64 (A.slen x1), .d (.v .nilIface)] : PV)) r) ((fun r : List UInt8 => ([⟨1000, 0, .box 139 [.np 1000 0, .os 2000 1 TyS.byte r]⟩, ⟨2000, 1, .tok 5 TyS.byte (A.nlen TyS.byte r)⟩] : List En)) r) := by
 refine PFunM.walkM (fz := fun _ => false) hA cx_ok Tryz.func261 rfl rfl fun P R hP hR => ?_
 cbv
 unfold strings_Builder_WriteString at h
 iterate 2 refine kj ?_
 replace h := bd_e h; obtain ⟨w1, hw1, h⟩ := h
 refine CallK.mem 7 rfl rfl [(1000, 0), (1001, 0)] _ _ _ _ (fun _ => PFunM.to hP (strings_Builder_copyCheck_ok hA hw1)) (by rfl) (fun _ => ez) ez (by rfl) (by rfl) ?_
 cbv
 refine kj ?_
 replace h := ck_e h; obtain ⟨c2, h⟩ := h; refine ⟨c2, ?_⟩
 refine kj ?_
 cases h
 refine hR _ _ ⟨[(14, 4)], ⟨by rfl, ez, by rfl, ez⟩⟩
theorem frame_Bind_ok {A : Ar} (hA : A = std) {x0 : List ByteArray} {r : ByteArray × Int} (h : frame_Bind A x0 = some r) : PFun cx 205 [.d (.sl TyS.str x0)] ((fun r : ByteArray × Int => (.tu [st r.1, it .i64 r.2] : PV)) r) := by
 refine PFun.walkF (fz := fun k => k == 131076) hA cx_ok Tryz.func205 rfl rfl rfl fun P R hP hR => ?_
 cbv
 unfold frame_Bind at h
 iterate 2 refine kj ?_
 replace h := br_e h; obtain ⟨hb, h⟩ | ⟨hb, h⟩ := h
 ·refine cdT hb ?_; cbv
  refine kj ?_
  cases h; subst hR; exact ey
 ·refine cdF hb ?_; cbv
  iterate 2 refine kj ?_
  replace h := Loop_e h; obtain ⟨n1, hl1⟩ := h
  refine LoopK.q (X := Runs (frame_Bind_B1 A x0) _) (fun x gh => [(14, it IntKind.i64 x.1.2.1)]) (fun x gh => [⟨4031, gh, .tok 5 TyS.byte (A.nlen TyS.byte x.1.2.2)⟩, ⟨4, 2, .box 139 [PV.np 4 2, .os 4031 gh TyS.byte x.1.2.2]⟩]) (fun x => x.1.1) ⟨(n1, _), hl1⟩ [(4031, 65540, 2)] hdz ?_
  rintro ⟨⟨n1, t14, b1_4⟩, hr1⟩ gh1 g1 K1 Q1 hK1 hQ1
  obtain _ | n1 := n1
  ·exact (LoopN_z hr1).elim
  obtain ⟨v1, h, hv1⟩ := LoopN_e hr1
  cbv
  refine kj ?_
  replace h := br_e h; obtain ⟨hb, h⟩ | ⟨hb, h⟩ := h
  ·refine cdT hb ?_; cbv
   refine kj ?_
   replace h := ck_e h; obtain ⟨c1, h⟩ := h; refine ⟨c1, ?_⟩
   refine kj ?_
   replace h := br_e h; obtain ⟨hb, h⟩ | ⟨hb, h⟩ := h
   ·refine cdT hb ?_; cbv
    refine kj ?_
    replace h := rt_e h; obtain ⟨_, h, rfl⟩ := h
    cases hv1; refine hQ1 _ _ ?_; cbv
    cases h; subst hR; exact ey
   ·refine cdF hb ?_; cbv
    refine kj ?_
    replace h := bd_e h; obtain ⟨w2, hw2, h⟩ := h
    refine CallK.mk _ (by rfl) (fun _ => PFun.to hP (frame_Number_ok hA hw2)) ?_
    cbv
    refine kj ?_
    replace h := bd_e h; obtain ⟨w3, hw3, h⟩ := h
    refine CallK.mem 28 rfl rfl [(4, 2), (4031, gh1)] _ _ _ _ (fun _ => PFunM.to hP (strings_Builder_WriteString_ok hA hw3)) (by rfl) (fun _ => ez) ez (by rfl) (by rfl) ?_
    cbv
    refine kj ?_
    replace h := bd_e h; obtain ⟨w4, hw4, h⟩ := h
    refine CallK.mem 30 rfl rfl [(4, 2), (28, g1.succ.succ.succ.succ)] _ _ _ _ (fun _ => PFunM.to hP (strings_Builder_WriteString_ok hA hw4)) (by rfl) (fun _ => ez) ez (by rfl) (by rfl) ?_
    cbv
    refine kj ?_
    cases h
    exact hK1 _ ⟨(n1, _), hv1⟩ [(4031, 30, g1.succ.succ.succ.succ.succ)] (Nat.lt_succ_self _) hdy
  ·refine cdF hb ?_; cbv
   replace h := rt_e h; obtain ⟨_, h, rfl⟩ := h
   cases hv1; refine hQ1 _ _ ?_; cbv
   refine kj ?_
   replace h := bd_e h; obtain ⟨w5, hw5, h⟩ := h
   refine CallK.mem 32 rfl rfl [(4, 2), (4031, gh1)] _ _ _ _ (fun _ => PFunM.to hP (strings_Builder_String_ok hA hw5)) (by rfl) (fun _ => ez) ez (by rfl) (by rfl) ?_
   cbv
   cases h; subst hR; exact ey
theorem config_bind_ok {A : Ar} (hA : A = std) {x0 : Bool} {x1 : List ByteArray} {r : ByteArray × Bool} (h : config_bind A x0 x1 = some r) : PFunM cx 122 [.bx 1000 0 0, .d (.sl TyS.str x1)] [⟨1000, 0, .box 4 [bl x0]⟩] ((fun r : ByteArray × Bool => (st r.1 : PV)) r) ((fun r : ByteArray × Bool => ([⟨1000, 0, .box 4 [bl r.2]⟩] : List En)) r) := by
 refine PFunM.walkM (fz := fun _ => false) hA cx_ok Tryz.func122 rfl rfl fun P R hP hR => ?_
 cbv
 unfold config_bind at h
 iterate 2 refine kj ?_
 replace h := bd_e h; obtain ⟨w1, hw1, h⟩ := h
 refine CallK.mk _ (by rfl) (fun _ => PFun.to hP (frame_Bind_ok hA hw1)) ?_
 cbv
 refine kj ?_
 iterate 2 refine cj ?_
 refine kj ?_
 cases h
 refine hR _ _ ⟨[], ⟨by rfl, ez, by rfl, ez⟩⟩
theorem config_matchers_ok {A : Ar} (hA : A = std) {x0 : Bool} {x1 : List Matcher} {r : ByteArray × Bool} (h : config_matchers A x0 x1 = some r) : PFunM cx 133 [.bx 1000 0 0, .d (.sl TyS.matcher x1)] [⟨1000, 0, .box 4 [bl x0]⟩] ((fun r : ByteArray × Bool => (st r.1 : PV)) r) ((fun r : ByteArray × Bool => ([⟨1000, 0, .box 4 [bl r.2]⟩] : List En)) r) := by
 refine PFunM.walkM (fz := fun _ => false) hA cx_ok Tryz.func133 rfl rfl fun P R hP hR => ?_
 cbv
 unfold config_matchers at h
 iterate 3 refine kj ?_
 replace h := Loop_e h; obtain ⟨n1, hl1⟩ := h
 refine LoopK.q (X := Runs (config_matchers_B1 A x0 x1) _) (fun x gh => [(5, .os 4030 gh TyS.str x.1.2.1), (12, it IntKind.i64 x.1.2.2)]) (fun x gh => [⟨4030, gh, .tok 9 TyS.str (A.nlen TyS.str x.1.2.1)⟩, ⟨1000, 0, .box 4 [PV.d (D.v (Value.bool x0))]⟩]) (fun x => x.1.1) ⟨(n1, _), hl1⟩ [] hdz ?_
 rintro ⟨⟨n1, out5, t12⟩, hr1⟩ gh1 g1 K1 Q1 hK1 hQ1
 obtain _ | n1 := n1
 ·exact (LoopN_z hr1).elim
 obtain ⟨v1, h, hv1⟩ := LoopN_e hr1
 cbv
 refine kj ?_
 replace h := br_e h; obtain ⟨hb, h⟩ | ⟨hb, h⟩ := h
 ·refine cdT hb ?_; cbv
  refine kj ?_
  replace h := ck_e h; obtain ⟨c1, h⟩ := h; refine ⟨c1, ?_⟩
  refine kj ?_
  replace h := bd_e h; obtain ⟨w2, hw2, h⟩ := h
  refine CallK.mk _ (by rfl) (fun _ => PFun.to hP (matcher_Text_ok hA hw2)) ?_
  cbv
  refine kj ?_
  replace h := ck_e h; obtain ⟨c3, h⟩ := h; refine ⟨c3, ?_⟩
  refine kj ?_
  cases h
  exact hK1 _ ⟨(n1, _), hv1⟩ [(4030, 24, g1.succ.succ.succ)] (Nat.lt_succ_self _) hdy
 ·refine cdF hb ?_; cbv
  replace h := rt_e h; obtain ⟨_, h, rfl⟩ := h
  cases hv1; refine hQ1 _ _ ?_; cbv
  refine kj ?_
  replace h := bd_e h; obtain ⟨w4, hw4, h⟩ := h
  refine CallK.mem 28 rfl rfl [(1000, 0)] _ _ _ _ (fun _ => PFunM.to hP (config_bind_ok hA hw4)) (by rfl) (fun _ => ez) ez (by rfl) (by rfl) ?_
  cbv
  cases h
  refine hR _ _ ⟨[], ⟨by rfl, ez, by rfl, ez⟩⟩
theorem config_inhibit_ok {A : Ar} (hA : A = std) {x0 : Bool} {x1 : Inhibit} {r : ByteArray × Bool} (h : config_inhibit A x0 x1 = some r) : PFunM cx 46 [.bx 1000 0 0, inhibitPV x1] [⟨1000, 0, .box 4 [bl x0]⟩] ((fun r : ByteArray × Bool => (st r.1 : PV)) r) ((fun r : ByteArray × Bool => ([⟨1000, 0, .box 4 [bl r.2]⟩] : List En)) r) := by
 refine PFunM.walkM (fz := fun _ => false) hA cx_ok Tryz.func46 rfl rfl fun P R hP hR => ?_
 cbv
 unfold config_inhibit at h
 iterate 2 refine kj ?_
 replace h := bd_e h; obtain ⟨w1, hw1, h⟩ := h
 refine CallK.mem 9 rfl rfl [(1000, 0)] _ _ _ _ (fun _ => PFunM.to hP (config_matchers_ok hA hw1)) (by rfl) (fun _ => ez) ez (by rfl) (by rfl) ?_
 cbv
 replace h := bd_e h; obtain ⟨w2, hw2, h⟩ := h
 refine CallK.mem 13 rfl rfl [(1000, 0)] _ _ _ _ (fun _ => PFunM.to hP (config_matchers_ok hA hw2)) (by rfl) (fun _ => ez) ez (by rfl) (by rfl) ?_
 cbv
 replace h := bd_e h; obtain ⟨w3, hw3, h⟩ := h
 refine CallK.mem 17 rfl rfl [(1000, 0)] _ _ _ _ (fun _ => PFunM.to hP (config_bind_ok hA hw3)) (by rfl) (fun _ => ez) ez (by rfl) (by rfl) ?_
 cbv
 replace h := bd_e h; obtain ⟨w4, hw4, h⟩ := h
 refine CallK.mem 19 rfl rfl [(1000, 0)] _ _ _ _ (fun _ => PFunM.to hP (config_bind_ok hA hw4)) (by rfl) (fun _ => ez) ez (by rfl) (by rfl) ?_
 cbv
 refine kj ?_
 cases h
 refine hR _ _ ⟨[], ⟨by rfl, ez, by rfl, ez⟩⟩
theorem config_Normal_1_ok {A : Ar} (hA : A = std) {x0 : Inhibit} {c0 : Bool} {r : ByteArray × Bool} (h : config_Normal_1 A x0 c0 = some r) : PFunM cx 45 [inhibitPV x0, .bx 1000 0 0] [⟨1000, 0, .box 4 [bl c0]⟩] ((fun r : ByteArray × Bool => (st r.1 : PV)) r) ((fun r : ByteArray × Bool => ([⟨1000, 0, .box 4 [bl r.2]⟩] : List En)) r) := by
 refine PFunM.walkM (fz := fun _ => false) hA cx_ok Tryz.func45 rfl rfl fun P R hP hR => ?_
 cbv
 unfold config_Normal_1 at h
 iterate 2 refine kj ?_
 replace h := bd_e h; obtain ⟨w1, hw1, h⟩ := h
 refine CallK.mem 5 rfl rfl [(1000, 0)] _ _ _ _ (fun _ => PFunM.to hP (config_inhibit_ok hA hw1)) (by rfl) (fun _ => ez) ez (by rfl) (by rfl) ?_
 cbv
 cases h
 refine hR _ _ ⟨[], ⟨by rfl, ez, by rfl, ez⟩⟩
theorem slices_Clone_Rule_Rule_ok {A : Ar} (hA : A = std) {x0 : List Rule} {r : Int × List Rule} (h : slices_Clone_Rule_Rule A x0 = some r) : PFunM cx 134 [.d (.sl TyS.rule x0)] [] ((fun r : Int × List Rule => (.ms 2000 1 TyS.rule 0 r.1 : PV)) r) ((fun r : Int × List Rule => ([⟨2000, 1, .arr 43 TyS.rule r.2⟩] : List En)) r) := by
 refine PFunM.walkM (fz := fun k => k == 65541 || k == 65543 || k == 65538 || k == 65538 || k == 65538) hA cx_ok Tryz.func134 rfl rfl fun P R hP hR => ?_
 cbv
 unfold slices_Clone_Rule_Rule at h
 iterate 2 refine kj ?_
 replace h := both_e h; obtain ⟨h1, h2⟩ := h
 refine ⟨fun hc => ?_, ?_⟩
 ·have h := h1 hc
  clear h1 h2
  cbv
  refine kj ?_
  cases h
  refine hR _ _ ⟨[(2, 4)], ⟨by rfl, ez, by rfl, ez⟩⟩
 ·have h := h2
  clear h1 h2
  refine kj ?_
  replace h := ck_e h; obtain ⟨c1, h⟩ := h; refine ⟨c1, ?_⟩
  cases h
  refine hR _ _ ⟨[(7, 4)], ⟨by rfl, ez, by rfl, ez⟩⟩
theorem config_sorted_Rule_1_ok {A : Ar} (hA : A = std) {x0 : Rule} {x1 : Rule} {qc0 : Rule → Option ByteArray} {gc0 : Nat} {capc0 : List D} (hcapc0 : capOK capc0) (hqc0 : ∀ (y0 : Rule) (r : ByteArray), qc0 y0 = some r → PFun cx gc0 ((rulePV y0) :: un.uns capc0) (st r)) {r : Int} (h : config_sorted_Rule_1 A x0 x1 qc0 = some r) : PFun cx 136 [rulePV x0, rulePV x1, .ip [.fun (.func gc0) [] capc0]] ((fun r : Int => (it .i64 r : PV)) r) := by
 rcases hcapc0 with rfl | ⟨dscapc0, rfl⟩
 all_goals
  refine PFun.walkF (fz := fun _ => false) hA cx_ok Tryz.func136 rfl rfl rfl fun P R hP hR => ?_
  cbv
  unfold config_sorted_Rule_1 at h
  iterate 2 refine kj ?_
  replace h := bd_e h; obtain ⟨w1, hw1, h⟩ := h
  refine CallK.mk _ (by rfl) (fun _ => PFun.to hP (hqc0 _ _ hw1)) ?_
  cbv
  replace h := bd_e h; obtain ⟨w2, hw2, h⟩ := h
  refine CallK.mk _ (by rfl) (fun _ => PFun.to hP (hqc0 _ _ hw2)) ?_
  cbv
  replace h := bd_e h; obtain ⟨w3, hw3, h⟩ := h
  refine CallK.mk _ (by rfl) (fun _ => PFun.to hP (strings_Compare_ok hA hw3)) ?_
  cbv
  refine kj ?_
  cases h; subst hR; exact ey
theorem slices_insertionSortCmpFunc_Rule_ok {A : Ar} (hA : A = std) {x0 : List Rule} {n0 : Int} {x1 : Int} {x2 : Int} {q3 : Rule → Rule → Option Int} {g3 : Nat} {cap3 : List D} (hcap3 : capOK cap3) (hq3 : ∀ (y0 : Rule) (y1 : Rule) (r : Int), q3 y0 y1 = some r → PFun cx g3 ((rulePV y0) :: (rulePV y1) :: un.uns cap3) (it .i64 r)) {r : List Rule} (h : slices_insertionSortCmpFunc_Rule A x0 n0 x1 x2 q3 = some r) : PFunM cx 273 [.ms 1000 0 TyS.rule 0 n0, it .i64 x1, it .i64 x2, .fn (.func g3) [] (un.uns cap3)] [⟨1000, 0, .arr 43 TyS.rule x0⟩] ((fun r : List Rule => (.tu [] : PV)) r) ((fun r : List Rule => ([⟨1000, 0, .arr 43 TyS.rule r⟩] : List En)) r) := by
 rcases hcap3 with rfl | ⟨dscap3, rfl⟩
 all_goals
  refine PFunM.walkM (fz := fun _ => false) hA cx_ok Tryz.func273 rfl rfl fun P R hP hR => ?_
  cbv
  unfold slices_insertionSortCmpFunc_Rule at h
  refine kj ?_
  replace h := Loop_e h; obtain ⟨n1, hl1⟩ := h
  refine LoopK.q (X := Runs (slices_insertionSortCmpFunc_Rule_B2 A n0 x1 x2 q3) _) (fun x gh => [(8, it IntKind.i64 x.1.2.1)]) (fun x gh => [⟨1000, 0, .arr 43 TyS.rule x.1.2.2⟩]) (fun x => x.1.1) ⟨(n1, _), hl1⟩ [] hdz ?_
  rintro ⟨⟨n1, i8, row1000⟩, hr1⟩ gh1 g1 K1 Q1 hK1 hQ1
  obtain _ | n1 := n1
  ·exact (LoopN_z hr1).elim
  obtain ⟨v1, h, hv1⟩ := LoopN_e hr1
  cbv
  refine kj ?_
  replace h := br_e h; obtain ⟨hb, h⟩ | ⟨hb, h⟩ := h
  ·refine cdT hb ?_; cbv
   refine kj ?_
   replace h := Loop_e h; obtain ⟨n2, hl2⟩ := h
   refine LoopK.q (X := Runs (slices_insertionSortCmpFunc_Rule_B1 A n0 x1 q3 i8) _) (fun x gh => [(9, it IntKind.i64 x.1.2.1)]) (fun x gh => [⟨1000, 0, .arr 43 TyS.rule x.1.2.2⟩]) (fun x => x.1.1) ⟨(n2, _), hl2⟩ [] hdz ?_
   rintro ⟨⟨n2, j9, row1000'⟩, hr2⟩ gh2 g2 K2 Q2 hK2 hQ2
   obtain _ | n2 := n2
   ·exact (LoopN_z hr2).elim
   obtain ⟨v2, h, hv2⟩ := LoopN_e hr2
   cbv
   refine kj ?_
   iterate 2 refine cj ?_
   replace h := ck_e h; obtain ⟨c1, h⟩ := h; refine ⟨c1, ?_⟩
   iterate 2 refine cj ?_
   replace h := ck_e h; obtain ⟨c2, h⟩ := h; refine ⟨c2, ?_⟩
   iterate 3 refine cj ?_
   replace h := ck_e h; obtain ⟨c3, h⟩ := h; refine ⟨c3, ?_⟩
   iterate 2 refine cj ?_
   replace h := ck_e h; obtain ⟨c4, h⟩ := h; refine ⟨c4, ?_⟩
   iterate 3 refine cj ?_
   replace h := bd_e h; obtain ⟨w5, hw5, h⟩ := h
   refine CallK.mk _ (by rfl) (fun hc => PFun.to hP (hq3 _ _ _ (gd_e hw5 hc))) ?_
   cbv
   iterate 2 refine cj ?_
   refine kj ?_
   replace h := br_e h; obtain ⟨hb, h⟩ | ⟨hb, h⟩ := h
   ·refine cdT hb ?_; cbv
    refine kj ?_
    replace h := ck_e h; obtain ⟨c6, h⟩ := h; refine ⟨c6, ?_⟩
    replace h := ck_e h; obtain ⟨c7, h⟩ := h; refine ⟨c7, ?_⟩
    replace h := ck_e h; obtain ⟨c8, h⟩ := h; refine ⟨c8, ?_⟩
    replace h := ck_e h; obtain ⟨c9, h⟩ := h; refine ⟨c9, ?_⟩
    refine ⟨c8, ?_⟩
    refine ⟨c9, ?_⟩
    refine ⟨c6, ?_⟩
    replace h := ck_e h; obtain ⟨c10, h⟩ := h; refine ⟨c10, ?_⟩
    iterate 2 refine kj ?_
    cases h
    exact hK2 _ ⟨(n2, _), hv2⟩ [] (Nat.lt_succ_self _) hdy
   ·refine cdF hb ?_; cbv
    replace h := rt_e h; obtain ⟨_, h, rfl⟩ := h
    cases hv2; refine hQ2 _ _ ?_; cbv
    refine kj ?_
    cases h
    exact hK1 _ ⟨(n1, _), hv1⟩ [] (Nat.lt_succ_self _) hdy
  ·refine cdF hb ?_; cbv
   replace h := rt_e h; obtain ⟨_, h, rfl⟩ := h
   cases hv1; refine hQ1 _ _ ?_; cbv
   cases h
   refine hR _ _ ⟨[], ⟨by rfl, ez, by rfl, ez⟩⟩
theorem slices_stableCmpFunc_Rule_ok {A : Ar} (hA : A = std) {x0 : List Rule} {n0 : Int} {x1 : Int} {q2 : Rule → Rule → Option Int} {g2 : Nat} {cap2 : List D} (hcap2 : capOK cap2) (hq2 : ∀ (y0 : Rule) (y1 : Rule) (r : Int), q2 y0 y1 = some r → PFun cx g2 ((rulePV y0) :: (rulePV y1) :: un.uns cap2) (it .i64 r)) {r : List Rule} (h : slices_stableCmpFunc_Rule A x0 n0 x1 q2 = some r) : PFunM cx 217 [.ms 1000 0 TyS.rule 0 n0, it .i64 x1, .fn (.func g2) [] (un.uns cap2)] [⟨1000, 0, .arr 43 TyS.rule x0⟩] ((fun r : List Rule => (.tu [] : PV)) r) ((fun r : List Rule => ([⟨1000, 0, .arr 43 TyS.rule r⟩] : List En)) r) := by
 rcases hcap2 with rfl | ⟨dscap2, rfl⟩
 ·refine PFunM.walkM (fz := fun _ => false) hA cx_ok Tryz.func217 rfl rfl fun P R hP hR => ?_
  cbv
  unfold slices_stableCmpFunc_Rule at h
  iterate 2 refine kj ?_
  replace h := Loop_e h; obtain ⟨n1, hl1⟩ := h
  refine LoopK.q (X := Runs (slices_stableCmpFunc_Rule_B3 A n0 x1 q2) _) (fun x gh => [(7, it IntKind.i64 x.1.2.1), (8, it IntKind.i64 x.1.2.2.1)]) (fun x gh => [⟨1000, 0, .arr 43 TyS.rule x.1.2.2.2⟩]) (fun x => x.1.1) ⟨(n1, _), hl1⟩ [] hdz ?_
  rintro ⟨⟨n1, a7, b8, row1000⟩, hr1⟩ gh1 g1 K1 Q1 hK1 hQ1
  obtain _ | n1 := n1
  ·exact (LoopN_z hr1).elim
  obtain ⟨v1, h, hv1⟩ := LoopN_e hr1
  cbv
  refine kj ?_
  replace h := br_e h; obtain ⟨hb, h⟩ | ⟨hb, h⟩ := h
  ·refine cdT hb ?_; cbv
   refine kj ?_
   replace h := bd_e h; obtain ⟨w1, hw1, h⟩ := h
   refine CallK.mem 18 rfl rfl [(1000, 0)] _ _ _ _ (fun _ => PFunM.to hP (slices_insertionSortCmpFunc_Rule_ok (cap3 := []) hA (by first | exact .inl rfl | exact .inr ⟨_, rfl⟩) hq2 hw1)) (by rfl) (fun _ => ez) ez (by rfl) (by rfl) ?_
   cbv
   iterate 2 refine kj ?_
   cases h
   exact hK1 _ ⟨(n1, _), hv1⟩ [] (Nat.lt_succ_self _) hdy
  ·refine cdF hb ?_; cbv
   replace h := rt_e h; obtain ⟨_, h, rfl⟩ := h
   cases hv1; refine hQ1 _ _ ?_; cbv
   refine kj ?_
   replace h := bd_e h; obtain ⟨w2, hw2, h⟩ := h
   refine CallK.mem 27 rfl rfl [(1000, 0)] _ _ _ _ (fun _ => PFunM.to hP (slices_insertionSortCmpFunc_Rule_ok (cap3 := []) hA (by first | exact .inl rfl | exact .inr ⟨_, rfl⟩) hq2 hw2)) (by rfl) (fun _ => ez) ez (by rfl) (by rfl) ?_
   cbv
   replace h := Loop_e h; obtain ⟨n2, hl2⟩ := h
   refine LoopK.q (X := Runs (slices_stableCmpFunc_Rule_B2 A x1 w2) _) (fun x gh => [(6, it IntKind.i64 x.1.2)]) (fun x gh => [⟨1000, 0, Cell.arr 43 TyS.rule w2⟩]) (fun x => x.1.1) ⟨(n2, _), hl2⟩ [] hdz ?_
   rintro ⟨⟨n2, blockSize6⟩, hr2⟩ gh2 g2 K2 Q2 hK2 hQ2
   obtain _ | n2 := n2
   ·exact (LoopN_z hr2).elim
   obtain ⟨v2, h, hv2⟩ := LoopN_e hr2
   cbv
   refine kj ?_
   replace h := br_e h; obtain ⟨hb, h⟩ | ⟨hb, h⟩ := h
   ·refine cdT hb ?_; cbv
    refine kj ?_
    replace h := Loop_e h; obtain ⟨n3, hl3⟩ := h
    refine LoopK.q (X := Runs (slices_stableCmpFunc_Rule_B1 A x1 blockSize6) _) (fun x gh => [(7, it IntKind.i64 x.1.2.1), (8, it IntKind.i64 x.1.2.2)]) (fun x gh => [⟨1000, 0, Cell.arr 43 TyS.rule w2⟩]) (fun x => x.1.1) ⟨(n3, _), hl3⟩ [] hdz ?_
    rintro ⟨⟨n3, a7', b8'⟩, hr3⟩ gh3 g3 K3 Q3 hK3 hQ3
    obtain _ | n3 := n3
    ·exact (LoopN_z hr3).elim
    obtain ⟨v3, h, hv3⟩ := LoopN_e hr3
    cbv
    refine kj ?_
    replace h := br_e h; obtain ⟨hb, h⟩ | ⟨hb, h⟩ := h
    ·refine cdT hb ?_; cbv
     refine kj ?_
     cases h
    ·refine cdF hb ?_; cbv
     replace h := rt_e h; obtain ⟨_, h, rfl⟩ := h
     cases hv3; refine hQ3 _ _ ?_; cbv
     iterate 2 refine kj ?_
     replace h := br_e h; obtain ⟨hb, h⟩ | ⟨hb, h⟩ := h
     ·refine cdT hb ?_; cbv
      refine kj ?_
      cases h
     ·refine cdF hb ?_; cbv
      refine kj ?_
      cases h
      exact hK2 _ ⟨(n2, _), hv2⟩ [] (Nat.lt_succ_self _) hdy
   ·refine cdF hb ?_; cbv
    replace h := rt_e h; obtain ⟨_, h, rfl⟩ := h
    cases hv2; refine hQ2 _ _ ?_; cbv
    cases h
    refine hR _ _ ⟨[], ⟨by rfl, ez, by rfl, ez⟩⟩
 ·refine PFunM.walkM (fz := fun _ => false) hA cx_ok Tryz.func217 rfl rfl fun P R hP hR => ?_
  cbv
  unfold slices_stableCmpFunc_Rule at h
  iterate 2 refine kj ?_
  replace h := Loop_e h; obtain ⟨n1, hl1⟩ := h
  refine LoopK.q (X := Runs (slices_stableCmpFunc_Rule_B3 A n0 x1 q2) _) (fun x gh => [(7, it IntKind.i64 x.1.2.1), (8, it IntKind.i64 x.1.2.2.1)]) (fun x gh => [⟨1000, 0, .arr 43 TyS.rule x.1.2.2.2⟩]) (fun x => x.1.1) ⟨(n1, _), hl1⟩ [] hdz ?_
  rintro ⟨⟨n1, a7, b8, row1000⟩, hr1⟩ gh1 g1 K1 Q1 hK1 hQ1
  obtain _ | n1 := n1
  ·exact (LoopN_z hr1).elim
  obtain ⟨v1, h, hv1⟩ := LoopN_e hr1
  cbv
  refine kj ?_
  replace h := br_e h; obtain ⟨hb, h⟩ | ⟨hb, h⟩ := h
  ·refine cdT hb ?_; cbv
   refine kj ?_
   replace h := bd_e h; obtain ⟨w1, hw1, h⟩ := h
   refine CallK.mem 18 rfl rfl [(1000, 0)] _ _ _ _ (fun _ => PFunM.to hP (slices_insertionSortCmpFunc_Rule_ok (cap3 := [D.ptr dscap2]) hA (by first | exact .inl rfl | exact .inr ⟨_, rfl⟩) hq2 hw1)) (by rfl) (fun _ => ez) ez (by rfl) (by rfl) ?_
   cbv
   iterate 2 refine kj ?_
   cases h
   exact hK1 _ ⟨(n1, _), hv1⟩ [] (Nat.lt_succ_self _) hdy
  ·refine cdF hb ?_; cbv
   replace h := rt_e h; obtain ⟨_, h, rfl⟩ := h
   cases hv1; refine hQ1 _ _ ?_; cbv
   refine kj ?_
   replace h := bd_e h; obtain ⟨w2, hw2, h⟩ := h
   refine CallK.mem 27 rfl rfl [(1000, 0)] _ _ _ _ (fun _ => PFunM.to hP (slices_insertionSortCmpFunc_Rule_ok (cap3 := [D.ptr dscap2]) hA (by first | exact .inl rfl | exact .inr ⟨_, rfl⟩) hq2 hw2)) (by rfl) (fun _ => ez) ez (by rfl) (by rfl) ?_
   cbv
   replace h := Loop_e h; obtain ⟨n2, hl2⟩ := h
   refine LoopK.q (X := Runs (slices_stableCmpFunc_Rule_B2 A x1 w2) _) (fun x gh => [(6, it IntKind.i64 x.1.2)]) (fun x gh => [⟨1000, 0, Cell.arr 43 TyS.rule w2⟩]) (fun x => x.1.1) ⟨(n2, _), hl2⟩ [] hdz ?_
   rintro ⟨⟨n2, blockSize6⟩, hr2⟩ gh2 g2 K2 Q2 hK2 hQ2
   obtain _ | n2 := n2
   ·exact (LoopN_z hr2).elim
   obtain ⟨v2, h, hv2⟩ := LoopN_e hr2
   cbv
   refine kj ?_
   replace h := br_e h; obtain ⟨hb, h⟩ | ⟨hb, h⟩ := h
   ·refine cdT hb ?_; cbv
    refine kj ?_
    replace h := Loop_e h; obtain ⟨n3, hl3⟩ := h
    refine LoopK.q (X := Runs (slices_stableCmpFunc_Rule_B1 A x1 blockSize6) _) (fun x gh => [(7, it IntKind.i64 x.1.2.1), (8, it IntKind.i64 x.1.2.2)]) (fun x gh => [⟨1000, 0, Cell.arr 43 TyS.rule w2⟩]) (fun x => x.1.1) ⟨(n3, _), hl3⟩ [] hdz ?_
    rintro ⟨⟨n3, a7', b8'⟩, hr3⟩ gh3 g3 K3 Q3 hK3 hQ3
    obtain _ | n3 := n3
    ·exact (LoopN_z hr3).elim
    obtain ⟨v3, h, hv3⟩ := LoopN_e hr3
    cbv
    refine kj ?_
    replace h := br_e h; obtain ⟨hb, h⟩ | ⟨hb, h⟩ := h
    ·refine cdT hb ?_; cbv
     refine kj ?_
     cases h
    ·refine cdF hb ?_; cbv
     replace h := rt_e h; obtain ⟨_, h, rfl⟩ := h
     cases hv3; refine hQ3 _ _ ?_; cbv
     iterate 2 refine kj ?_
     replace h := br_e h; obtain ⟨hb, h⟩ | ⟨hb, h⟩ := h
     ·refine cdT hb ?_; cbv
      refine kj ?_
      cases h
     ·refine cdF hb ?_; cbv
      refine kj ?_
      cases h
      exact hK2 _ ⟨(n2, _), hv2⟩ [] (Nat.lt_succ_self _) hdy
   ·refine cdF hb ?_; cbv
    replace h := rt_e h; obtain ⟨_, h, rfl⟩ := h
    cases hv2; refine hQ2 _ _ ?_; cbv
    cases h
    refine hR _ _ ⟨[], ⟨by rfl, ez, by rfl, ez⟩⟩
theorem slices_SortStableFunc_Rule_Rule_ok {A : Ar} (hA : A = std) {x0 : List Rule} {n0 : Int} {q1 : Rule → Rule → Option Int} {g1 : Nat} {cap1 : List D} (hcap1 : capOK cap1) (hq1 : ∀ (y0 : Rule) (y1 : Rule) (r : Int), q1 y0 y1 = some r → PFun cx g1 ((rulePV y0) :: (rulePV y1) :: un.uns cap1) (it .i64 r)) {r : List Rule} (h : slices_SortStableFunc_Rule_Rule A x0 n0 q1 = some r) : PFunM cx 135 [.ms 1000 0 TyS.rule 0 n0, .fn (.func g1) [] (un.uns cap1)] [⟨1000, 0, .arr 43 TyS.rule x0⟩] ((fun r : List Rule => (.tu [] : PV)) r) ((fun r : List Rule => ([⟨1000, 0, .arr 43 TyS.rule r⟩] : List En)) r) := by
 rcases hcap1 with rfl | ⟨dscap1, rfl⟩
 ·refine PFunM.walkM (fz := fun _ => false) hA cx_ok Tryz.func135 rfl rfl fun P R hP hR => ?_
  cbv
  unfold slices_SortStableFunc_Rule_Rule at h
  refine kj ?_
  replace h := bd_e h; obtain ⟨w1, hw1, h⟩ := h
  refine CallK.mem 8 rfl rfl [(1000, 0)] _ _ _ _ (fun _ => PFunM.to hP (slices_stableCmpFunc_Rule_ok (cap2 := []) hA (by first | exact .inl rfl | exact .inr ⟨_, rfl⟩) hq1 hw1)) (by rfl) (fun _ => ez) ez (by rfl) (by rfl) ?_
  cbv
  cases h
  refine hR _ _ ⟨[], ⟨by rfl, ez, by rfl, ez⟩⟩
 ·refine PFunM.walkM (fz := fun _ => false) hA cx_ok Tryz.func135 rfl rfl fun P R hP hR => ?_
  cbv
  unfold slices_SortStableFunc_Rule_Rule at h
  refine kj ?_
  replace h := bd_e h; obtain ⟨w1, hw1, h⟩ := h
  refine CallK.mem 8 rfl rfl [(1000, 0)] _ _ _ _ (fun _ => PFunM.to hP (slices_stableCmpFunc_Rule_ok (cap2 := [D.ptr dscap1]) hA (by first | exact .inl rfl | exact .inr ⟨_, rfl⟩) hq1 hw1)) (by rfl) (fun _ => ez) ez (by rfl) (by rfl) ?_
  cbv
  cases h
  refine hR _ _ ⟨[], ⟨by rfl, ez, by rfl, ez⟩⟩
theorem config_sorted_Rule_ok {A : Ar} (hA : A = std) {x0 : List Rule} {q1 : Rule → Option ByteArray} {g1 : Nat} {cap1 : List D} (hcap1 : capOK cap1) (hq1 : ∀ (y0 : Rule) (r : ByteArray), q1 y0 = some r → PFun cx g1 ((rulePV y0) :: un.uns cap1) (st r)) {r : List Rule} (h : config_sorted_Rule A x0 q1 = some r) : PFun cx 47 [.d (.sl TyS.rule x0), .fn (.func g1) [] (un.uns cap1)] ((fun r : List Rule => (.d (.sl TyS.rule r) : PV)) r) := by
 rcases hcap1 with rfl | ⟨dscap1, rfl⟩
 ·refine PFun.walkF (fz := fun k => k == 3) hA cx_ok Tryz.func47 rfl rfl rfl fun P R hP hR => ?_
  cbv
  unfold config_sorted_Rule at h
  iterate 2 refine kj ?_
  replace h := bd_e h; obtain ⟨w1, hw1, h⟩ := h
  refine CallK.mem 7 rfl rfl [] _ _ _ _ (fun _ => PFunM.to hP (slices_Clone_Rule_Rule_ok hA hw1)) (by rfl) (fun _ => ez) ez (by rfl) (by rfl) ?_
  cbv
  refine kj ?_
  replace h := bd_e h; obtain ⟨w2, hw2, h⟩ := h
  refine CallK.mem 10 rfl rfl [(7, 1)] _ _ _ _ (fun _ => PFunM.to hP (slices_SortStableFunc_Rule_Rule_ok (cap1 := [D.ptr [D.fun (Fn.func g1) [] []]]) hA (by first | exact .inl rfl | exact .inr ⟨_, rfl⟩) (fun _ _ _ hw => config_sorted_Rule_1_ok (capc0 := []) hA (by first | exact .inl rfl | exact .inr ⟨_, rfl⟩) hq1 hw) hw2)) (by rfl) (fun _ => ez) ez (by rfl) (by rfl) ?_
  cbv
  refine kj ?_
  replace h := ck_e h; obtain ⟨c3, h⟩ := h; refine ⟨c3, ?_⟩
  cases h; subst hR; exact ey
 ·refine PFun.walkF (fz := fun k => k == 3) hA cx_ok Tryz.func47 rfl rfl rfl fun P R hP hR => ?_
  cbv
  unfold config_sorted_Rule at h
  iterate 2 refine kj ?_
  replace h := bd_e h; obtain ⟨w1, hw1, h⟩ := h
  refine CallK.mem 7 rfl rfl [] _ _ _ _ (fun _ => PFunM.to hP (slices_Clone_Rule_Rule_ok hA hw1)) (by rfl) (fun _ => ez) ez (by rfl) (by rfl) ?_
  cbv
  refine kj ?_
  replace h := bd_e h; obtain ⟨w2, hw2, h⟩ := h
  refine CallK.mem 10 rfl rfl [(7, 1)] _ _ _ _ (fun _ => PFunM.to hP (slices_SortStableFunc_Rule_Rule_ok (cap1 := [D.ptr [D.fun (Fn.func g1) [] [D.ptr dscap1]]]) hA (by first | exact .inl rfl | exact .inr ⟨_, rfl⟩) (fun _ _ _ hw => config_sorted_Rule_1_ok (capc0 := [D.ptr dscap1]) hA (by first | exact .inl rfl | exact .inr ⟨_, rfl⟩) hq1 hw) hw2)) (by rfl) (fun _ => ez) ez (by rfl) (by rfl) ?_
  cbv
  refine kj ?_
  replace h := ck_e h; obtain ⟨c3, h⟩ := h; refine ⟨c3, ?_⟩
  cases h; subst hR; exact ey
end Go.PL
