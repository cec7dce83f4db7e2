/- Texts of this claim: plain laws of what the program's functions compute. No condition of their own. -/
import Derived.Test.YtiddkdneoldkoaaGreatDoorAaFu
import Derived.Test.YtiddkdneoldkoaaGreatDoorAaLc
namespace Go.PL
set_option linter.unusedSimpArgs false
set_option linter.unusedVariables false
set_option linter.unusedSectionVars false
open Tys (Ty U)
open Enc (sz enc dflt tb ofB toB)
open Dec (dec dok)
set_option maxRecDepth 100000
open Go.Proofs
variable [GM]
theorem transhipmentlaw12_many_S_ok {A : Ar} (hA : A = std) {rf : Route → Int → Option Int} {x0 : Route} {x1 : Int} (hqr119 : ∀ (x0 : Route) (x1 : Int) (r : Int), rf x0 x1 = some r → PFun cx 119 [routePV x0, it .i64 x1] (it .i64 r)) {r : Int} (h : transhipmentlaw12_many_S A rf x0 x1 = some r) : PFun cx 119 [routePV x0, it .i64 x1] (it .i64 r) := by
 refine wF hA cx_ok Tryz.func119 fun P R hP hR => ?_
 cbv; unfold transhipmentlaw12_many_S at h
 iterate 3 refine kj ?_
 refine kl h (fun x _ => [(5, it .i64 x.1), (11, it .i64 x.2)]) (fun x gh => [⟨2, 0, .box 27 [st x0.1, .d (.sl .matcher x0.2), .d (.sl .str x0.3), it .i64 x0.4, it .i64 x0.5, it .i64 x0.6, .d (.sl .str x0.7), bl x0.8, .d (.sl .route x0.9)]⟩]) [] ?_
 rintro ⟨n5, t11⟩ gh1 g1 _ _ _ hK1 hQ1 h; cbv
 refine kj ?_
 refine bc h (fun hb h => ?_) fun hb h => ?_
 ·cbv
  refine kj ?_
  refine kk h fun c1 h => ?_
  refine kj ?_
  refine bc h (fun hb h => ?_) fun hb h => ?_
  ·cbv
   refine hQ1 _ h _ _ fun h => ?_; cbv
   refine kj ?_
   exact le h hR
  ·cbv
   refine kj ?_
   obtain ⟨w2, hw2, h⟩ := bd_e h; refine kc hP (hqr119 _ _ _ hw2) ?_; cbv
   refine kj ?_
   cases h; exact hK1 _ _ [] rfl hdy
 ·cbv
  refine hQ1 _ h _ _ fun h => ?_; cbv
  refine kj ?_
  exact le h hR
theorem transhipmentlaw12_many_N_ok {A : Ar} (hA : A = std) : ∀ (n : Nat) (x0 : Route) (x1 : Int) (r : Int), transhipmentlaw12_many_N A n x0 x1 = some r → PFun cx 119 [routePV x0, it .i64 x1] (it .i64 r)
 | 0, _, _, _, h => by cases h
 | n + 1, x0, x1, r, h => transhipmentlaw12_many_S_ok hA (fun _ _ _ hh => transhipmentlaw12_many_N_ok hA n _ _ _ hh) h
theorem transhipmentlaw12_many_ok {A : Ar} (hA : A = std) {x0 : Route} {x1 : Int} {r : Int} (h : transhipmentlaw12_many A x0 x1 = some r) : PFun cx 119 [routePV x0, it .i64 x1] (it .i64 r) := transhipmentlaw12_many_N_ok hA _ _ _ _ h
theorem transhipmentlaw12_big_ok {A : Ar} (hA : A = std) {x0 : Config} {r : Bool} (h : transhipmentlaw12_big A x0 = some r) : PFun cx 35 [configPV x0] (bl r) := by
 refine wF hA cx_ok Tryz.func35 fun P R hP hR => ?_
 cbv; unfold transhipmentlaw12_big at h
 iterate 2 refine kj ?_
 obtain ⟨w1, hw1, h⟩ := bd_e h; refine kc hP (transhipmentlaw12_many_ok hA hw1) ?_; cbv
 iterate 20 refine cj ?_
 exact le h hR
theorem slices_IndexFunc_Matcher_Matcher_ok {A : Ar} (hA : A = std) {x0 : List Matcher} {q1 : Matcher → Option Bool} {g1 : Nat} {cap1 : List PV} (hcap1 : bare.bares cap1 = true) (hq1 : ∀ (y0 : Matcher) (r : Bool), q1 y0 = some r → PFun cx g1 ((matcherPV y0) :: cap1) (bl r)) {r : Int} (h : slices_IndexFunc_Matcher_Matcher A x0 q1 = some r) : PFun cx 270 [.d (.sl TyS.matcher x0), .fn (.func g1) [] cap1] (it .i64 r) := by
 refine wF hA cx_ok Tryz.func270 fun P R hP hR => ?_
 cbv; unfold slices_IndexFunc_Matcher_Matcher at h
 iterate 2 refine kj ?_
 refine kl h (fun x _ => [(8, it .i64 x)]) (fun _ _ => []) [] ?_
 rintro t8 gh1 g1 _ _ _ hK1 hQ1 h; cbv
 refine kj ?_
 refine bc h (fun hb h => ?_) fun hb h => ?_
 ·cbv
  iterate 2 refine kj ?_
  refine kk h fun c1 h => ?_
  obtain ⟨w2, hw2, h⟩ := bd_e h; refine kc hP (hq1 _ _ hw2) ?_ (by first | rfl | simp [bare, bare.bares, hcap1]); cbv
  refine bc h (fun hb h => ?_) fun hb h => ?_
  ·cbv
   refine kj ?_
   refine hQ1 _ h _ _ fun h => ?_; cbv
   exact le h hR
  ·cbv
   refine kj ?_
   cases h; exact hK1 _ _ [] rfl hdy
 ·cbv
  refine hQ1 _ h _ _ fun h => ?_; cbv
  refine kj ?_
  exact le h hR
theorem slices_ContainsFunc_Matcher_Matcher_ok {A : Ar} (hA : A = std) {x0 : List Matcher} {q1 : Matcher → Option Bool} {g1 : Nat} {cap1 : List PV} (hcap1 : bare.bares cap1 = true) (hq1 : ∀ (y0 : Matcher) (r : Bool), q1 y0 = some r → PFun cx g1 ((matcherPV y0) :: cap1) (bl r)) {r : Bool} (h : slices_ContainsFunc_Matcher_Matcher A x0 q1 = some r) : PFun cx 191 [.d (.sl TyS.matcher x0), .fn (.func g1) [] cap1] (bl r) := by
 refine wF hA cx_ok Tryz.func191 fun P R hP hR => ?_
 cbv; unfold slices_ContainsFunc_Matcher_Matcher at h
 iterate 2 refine kj ?_
 obtain ⟨w1, hw1, h⟩ := bd_e h; refine kc hP (slices_IndexFunc_Matcher_Matcher_ok hA hcap1 hq1 hw1) ?_ (by first | rfl | simp [bare, bare.bares, hcap1]); cbv
 exact le h hR
theorem slices_IndexFunc_byte_byte_ok {A : Ar} (hA : A = std) {x0 : List UInt8} {q1 : Int → Option Bool} {g1 : Nat} {cap1 : List PV} (hcap1 : bare.bares cap1 = true) (hq1 : ∀ (y0 : Int) (r : Bool), q1 y0 = some r → PFun cx g1 ((it .u8 y0) :: cap1) (bl r)) {r : Int} (h : slices_IndexFunc_byte_byte A x0 q1 = some r) : PFun cx 235 [.d (.sl TyS.byte x0), .fn (.func g1) [] cap1] (it .i64 r) := by
 refine wF hA cx_ok Tryz.func235 fun P R hP hR => ?_
 cbv; unfold slices_IndexFunc_byte_byte at h
 iterate 2 refine kj ?_
 refine kl h (fun x _ => [(8, it .i64 x)]) (fun _ _ => []) [] ?_
 rintro t8 gh1 g1 _ _ _ hK1 hQ1 h; cbv
 refine kj ?_
 refine bc h (fun hb h => ?_) fun hb h => ?_
 ·cbv
  iterate 2 refine kj ?_
  refine kk h fun c1 h => ?_
  obtain ⟨w2, hw2, h⟩ := bd_e h; refine kc hP (hq1 _ _ hw2) ?_ (by first | rfl | simp [bare, bare.bares, hcap1]); cbv
  refine bc h (fun hb h => ?_) fun hb h => ?_
  ·cbv
   refine kj ?_
   refine hQ1 _ h _ _ fun h => ?_; cbv
   exact le h hR
  ·cbv
   refine kj ?_
   cases h; exact hK1 _ _ [] rfl hdy
 ·cbv
  refine hQ1 _ h _ _ fun h => ?_; cbv
  refine kj ?_
  exact le h hR
theorem slices_ContainsFunc_byte_byte_ok {A : Ar} (hA : A = std) {x0 : List UInt8} {q1 : Int → Option Bool} {g1 : Nat} {cap1 : List PV} (hcap1 : bare.bares cap1 = true) (hq1 : ∀ (y0 : Int) (r : Bool), q1 y0 = some r → PFun cx g1 ((it .u8 y0) :: cap1) (bl r)) {r : Bool} (h : slices_ContainsFunc_byte_byte A x0 q1 = some r) : PFun cx 149 [.d (.sl TyS.byte x0), .fn (.func g1) [] cap1] (bl r) := by
 refine wF hA cx_ok Tryz.func149 fun P R hP hR => ?_
 cbv; unfold slices_ContainsFunc_byte_byte at h
 iterate 2 refine kj ?_
 obtain ⟨w1, hw1, h⟩ := bd_e h; refine kc hP (slices_IndexFunc_byte_byte_ok hA hcap1 hq1 hw1) ?_ (by first | rfl | simp [bare, bare.bares, hcap1]); cbv
 exact le h hR
theorem matcher_plain_ok {A : Ar} (hA : A = std) {x0 : Int} {r : Bool} (h : matcher_plain A x0 = some r) : PFun cx 303 [it .u8 x0] (bl r) := by
 refine wF hA cx_ok Tryz.func303 fun P R hP hR => ?_
 cbv; unfold matcher_plain at h
 iterate 2 refine kj ?_
 iterate 6 refine cj ?_
 refine ⟨by subst hA; simp +contextual [vcm], ?_⟩
 iterate 5 refine cj ?_
 refine ⟨by subst hA; simp +contextual [vcm], ?_⟩
 iterate 2 refine cj ?_
 obtain ⟨w1, hw1, h⟩ := bd_e h; refine kg hP (fun hc => (strings_IndexByte_ok hA (gd_e hw1 hc))) ?_; cbv
 iterate 2 refine cj ?_
 exact le h hR
theorem matcher_word_1_ok {A : Ar} (hA : A = std) {x0 : Int} {r : Bool} (h : matcher_word_1 A x0 = some r) : PFun cx 302 [it .u8 x0] (bl r) := by
 refine wF hA cx_ok Tryz.func302 fun P R hP hR => ?_
 cbv; unfold matcher_word_1 at h
 iterate 2 refine kj ?_
 obtain ⟨w1, hw1, h⟩ := bd_e h; refine kc hP (matcher_plain_ok hA hw1) ?_; cbv
 exact le h hR
theorem matcher_word_ok {A : Ar} (hA : A = std) {x0 : ByteArray} {r : Bool} (h : matcher_word A x0 = some r) : PFun cx 233 [st x0] (bl r) := by
 refine wF hA cx_ok Tryz.func233 fun P R hP hR => ?_
 cbv; unfold matcher_word at h
 iterate 2 refine kj ?_
 iterate 2 refine cj ?_
 obtain ⟨w1, hw1, h⟩ := bd_e h; refine kf hP (fun hc => (slices_ContainsFunc_byte_byte_ok hA (by rfl) (fun _ _ hw => matcher_word_1_ok hA hw) (gd_e hw1 hc))) ?_; cbv
 iterate 2 refine cj ?_
 exact le h hR
theorem matcher_signs_ok {A : Ar} (hA : A = std) {r : Unit} (h : matcher_signs A = some r) : PFunM cx 234 [] [] (.mp 2000 1) [⟨2000, 1, .map [(.int .i64 1, .d (.v (.string (ByteArray.mk (Array.mk [61]))))), (.int .i64 2, .d (.v (.string (ByteArray.mk (Array.mk [33, 61]))))), (.int .i64 3, .d (.v (.string (ByteArray.mk (Array.mk [61, 126]))))), (.int .i64 4, .d (.v (.string (ByteArray.mk (Array.mk [33, 126])))))]⟩] := by
 refine PFunM.walkM (fz := fun _ => false) hA cx_ok Tryz.func234 rfl rfl fun P R hP hR => ?_
 cbv; unfold matcher_signs at h
 iterate 2 refine kj ?_
 refine and_assoc.2 ?_
 refine ⟨by subst hA; simp +contextual [vcm], ?_⟩
 refine cj ?_
 refine and_assoc.2 ?_
 refine ⟨by subst hA; simp +contextual [vcm], ?_⟩
 refine and_assoc.2 ?_
 refine ⟨by subst hA; simp +contextual [vcm], ?_⟩
 refine cj ?_
 refine and_assoc.2 ?_
 refine ⟨by subst hA; simp +contextual [vcm], ?_⟩
 refine and_assoc.2 ?_
 refine ⟨by subst hA; simp +contextual [vcm], ?_⟩
 refine and_assoc.2 ?_
 refine ⟨by subst hA; simp +contextual [vcm], ?_⟩
 refine cj ?_
 cases h
 refine hR _ _ ⟨[(1, 3)], ⟨by rfl, ez, by rfl, ez⟩⟩
theorem label_letter_ok {A : Ar} (hA : A = std) {x0 : Int} {r : Bool} (h : label_letter A x0 = some r) : PFun cx 333 [it .u8 x0] (bl r) := by
 refine wF hA cx_ok Tryz.func333 fun P R hP hR => ?_
 cbv; unfold label_letter at h
 iterate 2 refine kj ?_
 iterate 6 refine cj ?_
 refine ⟨by subst hA; simp +contextual [vcm], ?_⟩
 iterate 3 refine cj ?_
 exact le h hR
theorem label_name_ok {A : Ar} (hA : A = std) {x0 : ByteArray} {r : Bool} (h : label_name A x0 = some r) : PFun cx 296 [st x0] (bl r) := by
 refine wF hA cx_ok Tryz.func296 fun P R hP hR => ?_
 cbv; unfold label_name at h
 iterate 2 refine kj ?_
 refine kl h (fun x _ => [(2, bl x.1), (7, it .i64 x.2)]) (fun _ _ => []) [] ?_
 rintro ⟨t2, t7⟩ gh1 g1 _ _ _ hK1 hQ1 h; cbv
 refine kj ?_
 refine bc h (fun hb h => ?_) fun hb h => ?_
 ·cbv
  iterate 2 refine kj ?_
  refine kk h fun c1 h => ?_
  refine kj ?_
  obtain ⟨w2, hw2, h⟩ := bd_e h; refine kc hP (label_letter_ok hA hw2) ?_; cbv
  iterate 4 refine cj ?_
  refine ⟨by subst hA; simp +contextual [vcm], ?_⟩
  iterate 3 refine cj ?_
  refine ⟨by subst hA; simp +contextual [vcm], ?_⟩
  refine cj ?_
  refine bc h (fun hb h => ?_) fun hb h => ?_
  ·cbv
   refine kj ?_
   refine hQ1 _ h _ _ fun h => ?_; cbv
   exact le h hR
  ·cbv
   refine kj ?_
   cases h; exact hK1 _ _ [] rfl hdy
 ·cbv
  refine hQ1 _ h _ _ fun h => ?_; cbv
  refine kj ?_
  iterate 3 refine cj ?_
  exact le h hR
theorem label_value_1_ok {A : Ar} (hA : A = std) {x0 : Int} {r : Bool} (h : label_value_1 A x0 = some r) : PFun cx 334 [it .u8 x0] (bl r) := by
 refine wF hA cx_ok Tryz.func334 fun P R hP hR => ?_
 cbv; unfold label_value_1 at h
 iterate 2 refine kj ?_
 iterate 2 refine cj ?_
 exact le h hR
theorem label_value_ok {A : Ar} (hA : A = std) {x0 : ByteArray} {r : Bool} (h : label_value A x0 = some r) : PFun cx 297 [st x0] (bl r) := by
 refine wF hA cx_ok Tryz.func297 fun P R hP hR => ?_
 cbv; unfold label_value at h
 iterate 2 refine kj ?_
 iterate 5 refine cj ?_
 obtain ⟨w1, hw1, h⟩ := bd_e h; refine kf hP (fun hc => (slices_ContainsFunc_byte_byte_ok hA (by rfl) (fun _ _ hw => label_value_1_ok hA hw) (gd_e hw1 hc))) ?_; cbv
 iterate 2 refine cj ?_
 exact le h hR
theorem label_may_ok {A : Ar} (hA : A = std) {x0 : Label} {r : Bool} (h : label_may A x0 = some r) : PFun cx 226 [labelPV x0] (bl r) := by
 refine wF hA cx_ok Tryz.func226 fun P R hP hR => ?_
 cbv; unfold label_may at h
 iterate 2 refine kj ?_
 obtain ⟨w1, hw1, h⟩ := bd_e h; refine kc hP (label_name_ok hA hw1) ?_; cbv
 iterate 3 refine cj ?_
 obtain ⟨w2, hw2, h⟩ := bd_e h; refine kg hP (fun hc => (label_value_ok hA (gd_e hw2 hc))) ?_; cbv
 refine cj ?_
 exact le h hR
theorem label_Right_ok {A : Ar} (hA : A = std) {x0 : List Label} {r : Bool} (h : label_Right A x0 = some r) : PFun cx 139 [.d (.sl TyS.label x0)] (bl r) := by
 refine wF hA cx_ok Tryz.func139 fun P R hP hR => ?_
 cbv; unfold label_Right at h
 iterate 2 refine kj ?_
 refine kl h (fun x _ => [(7, it .i64 x)]) (fun _ _ => []) [] ?_
 rintro t7 gh1 g1 _ _ _ hK1 hQ1 h; cbv
 refine kj ?_
 refine bc h (fun hb h => ?_) fun hb h => ?_
 ·cbv
  refine kj ?_
  refine kk h fun c1 h => ?_
  refine kj ?_
  obtain ⟨w2, hw2, h⟩ := bd_e h; refine kc hP (label_may_ok hA hw2) ?_; cbv
  iterate 5 refine cj ?_
  refine kk h fun c3 h => ?_
  iterate 7 refine cj ?_
  refine ⟨by subst hA; simp +contextual [vcm], ?_⟩
  refine cj ?_
  refine kj ?_
  refine bc h (fun hb h => ?_) fun hb h => ?_
  ·cbv
   refine kj ?_
   refine hQ1 _ h _ _ fun h => ?_; cbv
   exact le h hR
  ·cbv
   refine kj ?_
   cases h; exact hK1 _ _ [] rfl hdy
 ·cbv
  refine hQ1 _ h _ _ fun h => ?_; cbv
  refine kj ?_
  exact le h hR
theorem matcher_Right_ok {A : Ar} (hA : A = std) {x0 : Matcher} {r : Bool} (h : matcher_Right A x0 = some r) : PFun cx 146 [matcherPV x0] (bl r) := by
 refine wF hA cx_ok Tryz.func146 fun P R hP hR => ?_
 cbv; unfold matcher_Right at h
 iterate 3 refine kj ?_
 refine bc h (fun hb h => ?_) fun hb h => ?_
 ·cbv
  iterate 2 refine kj ?_
  refine kl h (fun x _ => [(14, it .i64 x)]) (fun x gh => [⟨1, 0, .box 99 [st x0.1, it .i64 x0.2, .d (.sl .str x0.3)]⟩]) [] ?_
  rintro t14 gh1 g1 _ _ _ hK1 hQ1 h; cbv
  refine kj ?_
  refine bc h (fun hb h => ?_) fun hb h => ?_
  ·cbv
   refine kj ?_
   refine kk h fun c1 h => ?_
   refine kj ?_
   obtain ⟨w2, hw2, h⟩ := bd_e h; refine kc hP (matcher_word_ok hA hw2) ?_; cbv
   iterate 7 refine cj ?_
   refine kk h fun c3 h => ?_
   iterate 4 refine cj ?_
   refine ⟨by subst hA; simp +contextual [vcm], ?_⟩
   refine cj ?_
   refine bc h (fun hb h => ?_) fun hb h => ?_
   ·cbv
    refine kj ?_
    refine hQ1 _ h _ _ fun h => ?_; cbv
    exact le h hR
   ·cbv
    refine kj ?_
    cases h; exact hK1 _ _ [] rfl hdy
  ·cbv
   refine hQ1 _ h _ _ fun h => ?_; cbv
   refine kj ?_
   obtain ⟨w4, hw4, h⟩ := bd_e h; refine km hP [] (matcher_signs_ok hA hw4) ?_; cbv
   refine ⟨by first | exact keysOK_mesB hA _ | exact ⟨rfl⟩, ?_⟩
   obtain ⟨w5, hw5, h⟩ := bd_e h
   have hw5' := lookI_ok A x0.2 (fun x => st x) (ByteArray.mk (Array.mk [])) [(1, ByteArray.mk (Array.mk [61])), (2, ByteArray.mk (Array.mk [33, 61])), (3, ByteArray.mk (Array.mk [61, 126])), (4, ByteArray.mk (Array.mk [33, 126]))]
   rw [Option.some.inj hw5] at hw5'
   refine LookK.one _ _ hw5' ?_
   cbv
   iterate 2 refine kj ?_
   iterate 6 refine cj ?_
   obtain ⟨w6, hw6, h⟩ := bd_e h; refine kg hP (fun hc => (label_Right_ok hA (gd_e hw6 hc))) ?_; cbv
   iterate 12 refine cj ?_
   exact le h hR
 ·cbv
  refine kj ?_
  refine kl h (fun x _ => [(14, it .i64 x)]) (fun x gh => [⟨1, 0, .box 99 [st x0.1, it .i64 x0.2, .d (.sl .str x0.3)]⟩]) [] ?_
  rintro t14 gh2 g2 _ _ _ hK2 hQ2 h; cbv
  refine kj ?_
  refine bc h (fun hb h => ?_) fun hb h => ?_
  ·cbv
   refine kj ?_
   refine kk h fun c7 h => ?_
   refine kj ?_
   obtain ⟨w8, hw8, h⟩ := bd_e h; refine kc hP (matcher_word_ok hA hw8) ?_; cbv
   iterate 7 refine cj ?_
   refine kk h fun c9 h => ?_
   iterate 4 refine cj ?_
   refine ⟨by subst hA; simp +contextual [vcm], ?_⟩
   refine cj ?_
   refine bc h (fun hb h => ?_) fun hb h => ?_
   ·cbv
    refine kj ?_
    refine hQ2 _ h _ _ fun h => ?_; cbv
    exact le h hR
   ·cbv
    refine kj ?_
    cases h; exact hK2 _ _ [] rfl hdy
  ·cbv
   refine hQ2 _ h _ _ fun h => ?_; cbv
   refine kj ?_
   obtain ⟨w10, hw10, h⟩ := bd_e h; refine km hP [] (matcher_signs_ok hA hw10) ?_; cbv
   refine ⟨by first | exact keysOK_mesB hA _ | exact ⟨rfl⟩, ?_⟩
   obtain ⟨w11, hw11, h⟩ := bd_e h
   have hw11' := lookI_ok A x0.2 (fun x => st x) (ByteArray.mk (Array.mk [])) [(1, ByteArray.mk (Array.mk [61])), (2, ByteArray.mk (Array.mk [33, 61])), (3, ByteArray.mk (Array.mk [61, 126])), (4, ByteArray.mk (Array.mk [33, 126]))]
   rw [Option.some.inj hw11] at hw11'
   refine LookK.one _ _ hw11' ?_
   cbv
   iterate 2 refine kj ?_
   iterate 6 refine cj ?_
   obtain ⟨w12, hw12, h⟩ := bd_e h; refine kg hP (fun hc => (label_Right_ok hA (gd_e hw12 hc))) ?_; cbv
   iterate 12 refine cj ?_
   exact le h hR
theorem matcher_Text_ok {A : Ar} (hA : A = std) {x0 : Matcher} {r : ByteArray × Int} (h : matcher_Text A x0 = some r) : PFun cx 193 [matcherPV x0] (.tu [st r.1, it .i64 r.2]) := by
 refine wF hA cx_ok Tryz.func193 fun P R hP hR => ?_
 cbv; unfold matcher_Text at h
 iterate 2 refine kj ?_
 obtain ⟨w1, hw1, h⟩ := bd_e h; refine kc hP (matcher_Right_ok hA hw1) ?_; cbv
 refine bc h (fun hb h => ?_) fun hb h => ?_
 ·cbv
  refine kj ?_
  cases h; subst hR; exact ey
 ·cbv
  refine kj ?_
  obtain ⟨w2, hw2, h⟩ := bd_e h; refine km hP [] (matcher_signs_ok hA hw2) ?_; cbv
  refine ⟨by first | exact keysOK_mesB hA _ | exact ⟨rfl⟩, ?_⟩
  obtain ⟨w3, hw3, h⟩ := bd_e h
  have hw3' := lookI_ok A x0.2 (fun x => st x) (ByteArray.mk (Array.mk [])) [(1, ByteArray.mk (Array.mk [61])), (2, ByteArray.mk (Array.mk [33, 61])), (3, ByteArray.mk (Array.mk [61, 126])), (4, ByteArray.mk (Array.mk [33, 126]))]
  rw [Option.some.inj hw3] at hw3'
  refine LookK.one _ _ hw3' ?_
  cbv
  refine kk h fun c4 h => ?_
  refine kk h fun c5 h => ?_
  obtain ⟨w6, hw6, h⟩ := bd_e h; refine kc hP (strings_Join_ok hA hw6) ?_; cbv
  refine kk h fun c7 h => ?_
  refine kk h fun c8 h => ?_
  refine kj ?_
  cases h; subst hR; exact ey
theorem amfile_short_1_ok {A : Ar} (hA : A = std) {x0 : Matcher} {r : Bool} (h : amfile_short_1 A x0 = some r) : PFun cx 192 [matcherPV x0] (bl r) := by
 refine wF hA cx_ok Tryz.func192 fun P R hP hR => ?_
 cbv; unfold amfile_short_1 at h
 iterate 2 refine kj ?_
 obtain ⟨w1, hw1, h⟩ := bd_e h; refine kc hP (matcher_Text_ok hA hw1) ?_; cbv
 refine kj ?_
 exact le h hR
theorem amfile_short_ok {A : Ar} (hA : A = std) {x0 : List Matcher} {r : Bool} (h : amfile_short A x0 = some r) : PFun cx 115 [.d (.sl TyS.matcher x0)] (bl r) := by
 refine wF hA cx_ok Tryz.func115 fun P R hP hR => ?_
 cbv; unfold amfile_short at h
 iterate 2 refine kj ?_
 obtain ⟨w1, hw1, h⟩ := bd_e h; refine ke hP (slices_ContainsFunc_Matcher_Matcher_ok hA (by rfl) (fun _ _ hw => amfile_short_1_ok hA hw) hw1) ?_; cbv
 exact le h hR
theorem amfile_Holds_1_ok {A : Ar} (hA : A = std) {x0 : Inhibit} {r : Bool} (h : amfile_Holds_1 A x0 = some r) : PFun cx 114 [inhibitPV x0] (bl r) := by
 refine wF hA cx_ok Tryz.func114 fun P R hP hR => ?_
 cbv; unfold amfile_Holds_1 at h
 iterate 2 refine kj ?_
 obtain ⟨w1, hw1, h⟩ := bd_e h; refine kc hP (amfile_short_ok hA hw1) ?_; cbv
 iterate 3 refine cj ?_
 obtain ⟨w2, hw2, h⟩ := bd_e h; refine kg hP (fun hc => (amfile_short_ok hA (gd_e hw2 hc))) ?_; cbv
 iterate 2 refine cj ?_
 exact le h hR
theorem amfile_bare_ok {A : Ar} (hA : A = std) {x0 : Config} {r : Config} (h : amfile_bare A x0 = some r) : PFun cx 116 [configPV x0] (configPV r) := by
 refine wF hA cx_ok Tryz.func116 fun P R hP hR => ?_
 cbv; unfold amfile_bare at h
 iterate 3 refine kj ?_
 exact le h hR
theorem config_all_Rule_1_ok {A : Ar} (hA : A = std) {x0 : Rule} {qc0 : Rule → Option Bool} {gc0 : Nat} {capc0 : List D} (hcapc0 : capOK capc0) (hqc0 : ∀ (y0 : Rule) (r : Bool), qc0 y0 = some r → PFun cx gc0 ((rulePV y0) :: un.uns capc0) (bl r)) {r : Bool} (h : config_all_Rule_1 A x0 qc0 = some r) : PFun cx 136 [rulePV x0, .ip [.fun (.func gc0) [] capc0]] (bl r) := by
 rcases hcapc0 with rfl | ⟨dscapc0, rfl⟩
 all_goals
  refine wF hA cx_ok Tryz.func136 fun P R hP hR => ?_
  cbv; unfold config_all_Rule_1 at h
  iterate 2 refine kj ?_
  obtain ⟨w1, hw1, h⟩ := bd_e h; refine kc hP (hqc0 _ _ hw1) ?_; cbv
  exact le h hR
theorem slices_IndexFunc_Rule_Rule_ok {A : Ar} (hA : A = std) {x0 : List Rule} {q1 : Rule → Option Bool} {g1 : Nat} {cap1 : List PV} (hcap1 : bare.bares cap1 = true) (hq1 : ∀ (y0 : Rule) (r : Bool), q1 y0 = some r → PFun cx g1 ((rulePV y0) :: cap1) (bl r)) {r : Int} (h : slices_IndexFunc_Rule_Rule A x0 q1 = some r) : PFun cx 174 [.d (.sl TyS.rule x0), .fn (.func g1) [] cap1] (it .i64 r) := by
 refine wF hA cx_ok Tryz.func174 fun P R hP hR => ?_
 cbv; unfold slices_IndexFunc_Rule_Rule at h
 iterate 2 refine kj ?_
 refine kl h (fun x _ => [(8, it .i64 x)]) (fun _ _ => []) [] ?_
 rintro t8 gh1 g1 _ _ _ hK1 hQ1 h; cbv
 refine kj ?_
 refine bc h (fun hb h => ?_) fun hb h => ?_
 ·cbv
  iterate 2 refine kj ?_
  refine kk h fun c1 h => ?_
  obtain ⟨w2, hw2, h⟩ := bd_e h; refine kc hP (hq1 _ _ hw2) ?_ (by first | rfl | simp [bare, bare.bares, hcap1]); cbv
  refine bc h (fun hb h => ?_) fun hb h => ?_
  ·cbv
   refine kj ?_
   refine hQ1 _ h _ _ fun h => ?_; cbv
   exact le h hR
  ·cbv
   refine kj ?_
   cases h; exact hK1 _ _ [] rfl hdy
 ·cbv
  refine hQ1 _ h _ _ fun h => ?_; cbv
  refine kj ?_
  exact le h hR
theorem slices_ContainsFunc_Rule_Rule_ok {A : Ar} (hA : A = std) {x0 : List Rule} {q1 : Rule → Option Bool} {g1 : Nat} {cap1 : List PV} (hcap1 : bare.bares cap1 = true) (hq1 : ∀ (y0 : Rule) (r : Bool), q1 y0 = some r → PFun cx g1 ((rulePV y0) :: cap1) (bl r)) {r : Bool} (h : slices_ContainsFunc_Rule_Rule A x0 q1 = some r) : PFun cx 91 [.d (.sl TyS.rule x0), .fn (.func g1) [] cap1] (bl r) := by
 refine wF hA cx_ok Tryz.func91 fun P R hP hR => ?_
 cbv; unfold slices_ContainsFunc_Rule_Rule at h
 iterate 2 refine kj ?_
 obtain ⟨w1, hw1, h⟩ := bd_e h; refine kc hP (slices_IndexFunc_Rule_Rule_ok hA hcap1 hq1 hw1) ?_ (by first | rfl | simp [bare, bare.bares, hcap1]); cbv
 exact le h hR
theorem config_all_Rule_ok {A : Ar} (hA : A = std) {x0 : List Rule} {x1 : Int} {q2 : Rule → Option Bool} {g2 : Nat} {cap2 : List D} (hcap2 : capOK cap2) (hq2 : ∀ (y0 : Rule) (r : Bool), q2 y0 = some r → PFun cx g2 ((rulePV y0) :: un.uns cap2) (bl r)) {r : Bool} (h : config_all_Rule A x0 x1 q2 = some r) : PFun cx 46 [.d (.sl TyS.rule x0), it .i64 x1, .fn (.func g2) [] (un.uns cap2)] (bl r) := by
 rcases hcap2 with rfl | ⟨dscap2, rfl⟩
 ·refine PFun.walkF (fz := fun k => k == 5) hA cx_ok Tryz.func46 rfl rfl rfl fun P R hP hR => ?_
  cbv; unfold config_all_Rule at h
  iterate 2 refine kj ?_
  iterate 2 refine cj ?_
  obtain ⟨w1, hw1, h⟩ := bd_e h; refine kg hP (fun hc => (slices_ContainsFunc_Rule_Rule_ok hA (by rfl) (fun _ _ hw => config_all_Rule_1_ok (capc0 := []) hA (by first | exact .inl rfl | exact .inr ⟨_, rfl⟩) hq2 hw) (gd_e hw1 hc))) ?_; cbv
  iterate 2 refine cj ?_
  exact le h hR
 ·refine PFun.walkF (fz := fun k => k == 5) hA cx_ok Tryz.func46 rfl rfl rfl fun P R hP hR => ?_
  cbv; unfold config_all_Rule at h
  iterate 2 refine kj ?_
  iterate 2 refine cj ?_
  obtain ⟨w1, hw1, h⟩ := bd_e h; refine kg hP (fun hc => (slices_ContainsFunc_Rule_Rule_ok hA (by rfl) (fun _ _ hw => config_all_Rule_1_ok (capc0 := [D.ptr dscap2]) hA (by first | exact .inl rfl | exact .inr ⟨_, rfl⟩) hq2 hw) (gd_e hw1 hc))) ?_; cbv
  iterate 2 refine cj ?_
  exact le h hR
theorem slices_IndexFunc_Def_Def_ok {A : Ar} (hA : A = std) {x0 : List Def} {q1 : Def → Option Bool} {g1 : Nat} {cap1 : List PV} (hcap1 : bare.bares cap1 = true) (hq1 : ∀ (y0 : Def) (r : Bool), q1 y0 = some r → PFun cx g1 ((defPV y0) :: cap1) (bl r)) {r : Int} (h : slices_IndexFunc_Def_Def A x0 q1 = some r) : PFun cx 298 [.d (.sl TyS.dfn x0), .fn (.func g1) [] cap1] (it .i64 r) := by
 refine wF hA cx_ok Tryz.func298 fun P R hP hR => ?_
 cbv; unfold slices_IndexFunc_Def_Def at h
 iterate 2 refine kj ?_
 refine kl h (fun x _ => [(8, it .i64 x)]) (fun _ _ => []) [] ?_
 rintro t8 gh1 g1 _ _ _ hK1 hQ1 h; cbv
 refine kj ?_
 refine bc h (fun hb h => ?_) fun hb h => ?_
 ·cbv
  iterate 2 refine kj ?_
  refine kk h fun c1 h => ?_
  obtain ⟨w2, hw2, h⟩ := bd_e h; refine kc hP (hq1 _ _ hw2) ?_ (by first | rfl | simp [bare, bare.bares, hcap1]); cbv
  refine bc h (fun hb h => ?_) fun hb h => ?_
  ·cbv
   refine kj ?_
   refine hQ1 _ h _ _ fun h => ?_; cbv
   exact le h hR
  ·cbv
   refine kj ?_
   cases h; exact hK1 _ _ [] rfl hdy
 ·cbv
  refine hQ1 _ h _ _ fun h => ?_; cbv
  refine kj ?_
  exact le h hR
theorem slices_ContainsFunc_Def_Def_ok {A : Ar} (hA : A = std) {x0 : List Def} {q1 : Def → Option Bool} {g1 : Nat} {cap1 : List PV} (hcap1 : bare.bares cap1 = true) (hq1 : ∀ (y0 : Def) (r : Bool), q1 y0 = some r → PFun cx g1 ((defPV y0) :: cap1) (bl r)) {r : Bool} (h : slices_ContainsFunc_Def_Def A x0 q1 = some r) : PFun cx 229 [.d (.sl TyS.dfn x0), .fn (.func g1) [] cap1] (bl r) := by
 refine wF hA cx_ok Tryz.func229 fun P R hP hR => ?_
 cbv; unfold slices_ContainsFunc_Def_Def at h
 iterate 2 refine kj ?_
 obtain ⟨w1, hw1, h⟩ := bd_e h; refine kc hP (slices_IndexFunc_Def_Def_ok hA hcap1 hq1 hw1) ?_ (by first | rfl | simp [bare, bare.bares, hcap1]); cbv
 exact le h hR
theorem block_word_1_ok {A : Ar} (hA : A = std) {x0 : Int} {r : Bool} (h : block_word_1 A x0 = some r) : PFun cx 335 [it .u8 x0] (bl r) := by
 refine wF hA cx_ok Tryz.func335 fun P R hP hR => ?_
 cbv; unfold block_word_1 at h
 iterate 2 refine kj ?_
 iterate 6 refine cj ?_
 refine ⟨by subst hA; simp +contextual [vcm], ?_⟩
 iterate 3 refine cj ?_
 exact le h hR
theorem block_word_ok {A : Ar} (hA : A = std) {x0 : ByteArray} {r : Bool} (h : block_word A x0 = some r) : PFun cx 299 [st x0] (bl r) := by
 refine wF hA cx_ok Tryz.func299 fun P R hP hR => ?_
 cbv; unfold block_word at h
 iterate 3 refine kj ?_
 iterate 6 refine cj ?_
 obtain ⟨w1, hw1, h⟩ := bd_e h; refine kf hP (fun hc => (slices_ContainsFunc_byte_byte_ok hA (by rfl) (fun _ _ hw => block_word_1_ok hA hw) (gd_e hw1 hc))) ?_; cbv
 iterate 2 refine cj ?_
 exact le h hR
theorem slices_Index_string_string_ok {A : Ar} (hA : A = std) {x0 : List ByteArray} {x1 : ByteArray} {r : Int} (h : slices_Index_string_string A x0 x1 = some r) : PFun cx 155 [.d (.sl TyS.str x0), st x1] (it .i64 r) := by
 refine wF hA cx_ok Tryz.func155 fun P R hP hR => ?_
 cbv; unfold slices_Index_string_string at h
 iterate 2 refine kj ?_
 refine kl h (fun x _ => [(8, it .i64 x)]) (fun _ _ => []) [] ?_
 rintro t8 gh1 g1 _ _ _ hK1 hQ1 h; cbv
 refine kj ?_
 refine bc h (fun hb h => ?_) fun hb h => ?_
 ·cbv
  iterate 2 refine kj ?_
  refine kk h fun c1 h => ?_
  refine bc h (fun hb h => ?_) fun hb h => ?_
  ·cbv
   refine kj ?_
   refine hQ1 _ h _ _ fun h => ?_; cbv
   exact le h hR
  ·cbv
   refine kj ?_
   cases h; exact hK1 _ _ [] rfl hdy
 ·cbv
  refine hQ1 _ h _ _ fun h => ?_; cbv
  refine kj ?_
  exact le h hR
theorem slices_Contains_string_string_ok {A : Ar} (hA : A = std) {x0 : List ByteArray} {x1 : ByteArray} {r : Bool} (h : slices_Contains_string_string A x0 x1 = some r) : PFun cx 67 [.d (.sl TyS.str x0), st x1] (bl r) := by
 refine wF hA cx_ok Tryz.func67 fun P R hP hR => ?_
 cbv; unfold slices_Contains_string_string at h
 iterate 2 refine kj ?_
 obtain ⟨w1, hw1, h⟩ := bd_e h; refine kc hP (slices_Index_string_string_ok hA hw1) ?_; cbv
 exact le h hR
theorem slices_IndexFunc_string_string_ok {A : Ar} (hA : A = std) {x0 : List ByteArray} {q1 : ByteArray → Option Bool} {g1 : Nat} {cap1 : List PV} (hcap1 : bare.bares cap1 = true) (hq1 : ∀ (y0 : ByteArray) (r : Bool), q1 y0 = some r → PFun cx g1 ((st y0) :: cap1) (bl r)) {r : Int} (h : slices_IndexFunc_string_string A x0 q1 = some r) : PFun cx 228 [.d (.sl TyS.str x0), .fn (.func g1) [] cap1] (it .i64 r) := by
 refine wF hA cx_ok Tryz.func228 fun P R hP hR => ?_
 cbv; unfold slices_IndexFunc_string_string at h
 iterate 2 refine kj ?_
 refine kl h (fun x _ => [(8, it .i64 x)]) (fun _ _ => []) [] ?_
 rintro t8 gh1 g1 _ _ _ hK1 hQ1 h; cbv
 refine kj ?_
 refine bc h (fun hb h => ?_) fun hb h => ?_
 ·cbv
  iterate 2 refine kj ?_
  refine kk h fun c1 h => ?_
  obtain ⟨w2, hw2, h⟩ := bd_e h; refine kc hP (hq1 _ _ hw2) ?_ (by first | rfl | simp [bare, bare.bares, hcap1]); cbv
  refine bc h (fun hb h => ?_) fun hb h => ?_
  ·cbv
   refine kj ?_
   refine hQ1 _ h _ _ fun h => ?_; cbv
   exact le h hR
  ·cbv
   refine kj ?_
   cases h; exact hK1 _ _ [] rfl hdy
 ·cbv
  refine hQ1 _ h _ _ fun h => ?_; cbv
  refine kj ?_
  exact le h hR
theorem slices_ContainsFunc_string_string_ok {A : Ar} (hA : A = std) {x0 : List ByteArray} {q1 : ByteArray → Option Bool} {g1 : Nat} {cap1 : List PV} (hcap1 : bare.bares cap1 = true) (hq1 : ∀ (y0 : ByteArray) (r : Bool), q1 y0 = some r → PFun cx g1 ((st y0) :: cap1) (bl r)) {r : Bool} (h : slices_ContainsFunc_string_string A x0 q1 = some r) : PFun cx 141 [.d (.sl TyS.str x0), .fn (.func g1) [] cap1] (bl r) := by
 refine wF hA cx_ok Tryz.func141 fun P R hP hR => ?_
 cbv; unfold slices_ContainsFunc_string_string at h
 iterate 2 refine kj ?_
 obtain ⟨w1, hw1, h⟩ := bd_e h; refine kc hP (slices_IndexFunc_string_string_ok hA hcap1 hq1 hw1) ?_ (by first | rfl | simp [bare, bare.bares, hcap1]); cbv
 exact le h hR
theorem block_value_1_ok {A : Ar} (hA : A = std) {x0 : Int} {r : Bool} (h : block_value_1 A x0 = some r) : PFun cx 336 [it .u8 x0] (bl r) := by
 refine wF hA cx_ok Tryz.func336 fun P R hP hR => ?_
 cbv; unfold block_value_1 at h
 iterate 2 refine kj ?_
 iterate 4 refine cj ?_
 exact le h hR
theorem block_value_ok {A : Ar} (hA : A = std) {x0 : ByteArray} {r : Bool} (h : block_value A x0 = some r) : PFun cx 301 [st x0] (bl r) := by
 refine wF hA cx_ok Tryz.func301 fun P R hP hR => ?_
 cbv; unfold block_value at h
 iterate 3 refine kj ?_
 iterate 4 refine cj ?_
 obtain ⟨w1, hw1, h⟩ := bd_e h; refine kg hP (fun hc => (strings_Trim_ok hA (gd_e hw1 hc))) ?_; cbv
 iterate 6 refine cj ?_
 obtain ⟨w2, hw2, h⟩ := bd_e h; refine kf hP (fun hc => (slices_ContainsFunc_byte_byte_ok hA (by rfl) (fun _ _ hw => block_value_1_ok hA hw) (gd_e hw2 hc))) ?_; cbv
 iterate 2 refine cj ?_
 exact le h hR
theorem block_may_1_ok {A : Ar} (hA : A = std) {x0 : ByteArray} {r : Bool} (h : block_may_1 A x0 = some r) : PFun cx 300 [st x0] (bl r) := by
 refine wF hA cx_ok Tryz.func300 fun P R hP hR => ?_
 cbv; unfold block_may_1 at h
 iterate 2 refine kj ?_
 obtain ⟨w1, hw1, h⟩ := bd_e h; refine kc hP (block_value_ok hA hw1) ?_; cbv
 exact le h hR
theorem block_may_ok {A : Ar} (hA : A = std) {x0 : Def} {r : Bool} (h : block_may A x0 = some r) : PFun cx 231 [defPV x0] (bl r) := by
 refine wF hA cx_ok Tryz.func231 fun P R hP hR => ?_
 cbv; unfold block_may at h
 iterate 2 refine kj ?_
 refine kl h (fun x _ => [(8, it .i64 x)]) (fun x gh => [⟨1, 0, .box 118 [st x0.1, .d (.sl .str x0.2), .d (.sl .str x0.3)]⟩]) [] ?_
 rintro t8 gh1 g1 _ _ _ hK1 hQ1 h; cbv
 refine kj ?_
 refine bc h (fun hb h => ?_) fun hb h => ?_
 ·cbv
  refine kj ?_
  refine kk h fun c1 h => ?_
  refine kj ?_
  obtain ⟨w2, hw2, h⟩ := bd_e h; refine kc hP (block_word_ok hA hw2) ?_; cbv
  iterate 4 refine cj ?_
  refine kk h fun c3 h => ?_
  iterate 2 refine cj ?_
  obtain ⟨w4, hw4, h⟩ := bd_e h; refine kg hP (fun hc => (slices_Contains_string_string_ok hA (gd_e hw4 hc))) ?_; cbv
  refine cj ?_
  refine bc h (fun hb h => ?_) fun hb h => ?_
  ·cbv
   refine kj ?_
   refine hQ1 _ h _ _ fun h => ?_; cbv
   exact le h hR
  ·cbv
   refine kj ?_
   cases h; exact hK1 _ _ [] rfl hdy
 ·cbv
  refine hQ1 _ h _ _ fun h => ?_; cbv
  refine kj ?_
  obtain ⟨w5, hw5, h⟩ := bd_e h; refine kc hP (block_word_ok hA hw5) ?_; cbv
  iterate 17 refine cj ?_
  obtain ⟨w6, hw6, h⟩ := bd_e h; refine kf hP (fun hc => (slices_ContainsFunc_string_string_ok hA (by rfl) (fun _ _ hw => block_may_1_ok hA hw) (gd_e hw6 hc))) ?_; cbv
  iterate 2 refine cj ?_
  exact le h hR
theorem block_Right_1_ok {A : Ar} (hA : A = std) {x0 : Def} {r : Bool} (h : block_Right_1 A x0 = some r) : PFun cx 230 [defPV x0] (bl r) := by
 refine wF hA cx_ok Tryz.func230 fun P R hP hR => ?_
 cbv; unfold block_Right_1 at h
 iterate 2 refine kj ?_
 obtain ⟨w1, hw1, h⟩ := bd_e h; refine kc hP (block_may_ok hA hw1) ?_; cbv
 exact le h hR
theorem block_Right_ok {A : Ar} (hA : A = std) {x0 : List Def} {r : Bool} (h : block_Right A x0 = some r) : PFun cx 143 [.d (.sl TyS.dfn x0)] (bl r) := by
 refine wF hA cx_ok Tryz.func143 fun P R hP hR => ?_
 cbv; unfold block_Right at h
 iterate 2 refine kj ?_
 refine cj ?_
 obtain ⟨w1, hw1, h⟩ := bd_e h; refine kf hP (fun hc => (slices_ContainsFunc_Def_Def_ok hA (by rfl) (fun _ _ hw => block_Right_1_ok hA hw) (gd_e hw1 hc))) ?_; cbv
 iterate 2 refine cj ?_
 exact le h hR
theorem rules_word_ok {A : Ar} (hA : A = std) {x0 : ByteArray} {r : Bool} (h : rules_word A x0 = some r) : PFun cx 137 [st x0] (bl r) := by
 refine wF hA cx_ok Tryz.func137 fun P R hP hR => ?_
 cbv; unfold rules_word at h
 iterate 2 refine kj ?_
 obtain ⟨w1, hw1, h⟩ := bd_e h; refine kc hP (block_Right_ok hA hw1) ?_; cbv
 exact le h hR
theorem rules_time_ok {A : Ar} (hA : A = std) {x0 : Int} {r : Bool} (h : rules_time A x0 = some r) : PFun cx 138 [it .i64 x0] (bl r) := by
 refine wF hA cx_ok Tryz.func138 fun P R hP hR => ?_
 cbv; unfold rules_time at h
 iterate 2 refine kj ?_
 iterate 2 refine cj ?_
 exact le h hR
theorem label_Get_1_ok {A : Ar} (hA : A = std) {x0 : Label} {c0 : ByteArray} {r : Bool} (h : label_Get_1 A x0 c0 = some r) : PFun cx 227 [labelPV x0, .ip [.v (.string c0)]] (bl r) := by
 refine wF hA cx_ok Tryz.func227 fun P R hP hR => ?_
 cbv; unfold label_Get_1 at h
 iterate 2 refine kj ?_
 exact le h hR
theorem slices_IndexFunc_Label_Label_ok {A : Ar} (hA : A = std) {x0 : List Label} {q1 : Label → Option Bool} {g1 : Nat} {cap1 : List PV} (hcap1 : bare.bares cap1 = true) (hq1 : ∀ (y0 : Label) (r : Bool), q1 y0 = some r → PFun cx g1 ((labelPV y0) :: cap1) (bl r)) {r : Int} (h : slices_IndexFunc_Label_Label A x0 q1 = some r) : PFun cx 175 [.d (.sl TyS.label x0), .fn (.func g1) [] cap1] (it .i64 r) := by
 refine wF hA cx_ok Tryz.func175 fun P R hP hR => ?_
 cbv; unfold slices_IndexFunc_Label_Label at h
 iterate 2 refine kj ?_
 refine kl h (fun x _ => [(8, it .i64 x)]) (fun _ _ => []) [] ?_
 rintro t8 gh1 g1 _ _ _ hK1 hQ1 h; cbv
 refine kj ?_
 refine bc h (fun hb h => ?_) fun hb h => ?_
 ·cbv
  iterate 2 refine kj ?_
  refine kk h fun c1 h => ?_
  obtain ⟨w2, hw2, h⟩ := bd_e h; refine kc hP (hq1 _ _ hw2) ?_ (by first | rfl | simp [bare, bare.bares, hcap1]); cbv
  refine bc h (fun hb h => ?_) fun hb h => ?_
  ·cbv
   refine kj ?_
   refine hQ1 _ h _ _ fun h => ?_; cbv
   exact le h hR
  ·cbv
   refine kj ?_
   cases h; exact hK1 _ _ [] rfl hdy
 ·cbv
  refine hQ1 _ h _ _ fun h => ?_; cbv
  refine kj ?_
  exact le h hR
theorem label_Get_ok {A : Ar} (hA : A = std) {x0 : List Label} {x1 : ByteArray} {r : ByteArray} (h : label_Get A x0 x1 = some r) : PFun cx 140 [.d (.sl TyS.label x0), st x1] (st r) := by
 refine PFun.walkF (fz := fun k => k == 3) hA cx_ok Tryz.func140 rfl rfl rfl fun P R hP hR => ?_
 cbv; unfold label_Get at h
 iterate 2 refine kj ?_
 obtain ⟨w1, hw1, h⟩ := bd_e h; refine kc hP (slices_IndexFunc_Label_Label_ok hA (by rfl) (fun _ _ hw => label_Get_1_ok hA hw) hw1) ?_; cbv
 refine kj ?_
 refine bc h (fun hb h => ?_) fun hb h => ?_
 ·cbv
  refine kj ?_
  exact le h hR
 ·cbv
  refine kj ?_
  refine kk h fun c2 h => ?_
  exact le h hR
theorem rules_Right_ok {A : Ar} (hA : A = std) {x0 : Rule} {r : Bool} (h : rules_Right A x0 = some r) : PFun cx 47 [rulePV x0] (bl r) := by
 refine wF hA cx_ok Tryz.func47 fun P R hP hR => ?_
 cbv; unfold rules_Right at h
 iterate 2 refine kj ?_
 obtain ⟨w1, hw1, h⟩ := bd_e h; refine kc hP (rules_word_ok hA hw1) ?_; cbv
 iterate 3 refine cj ?_
 obtain ⟨w2, hw2, h⟩ := bd_e h; refine kg hP (fun hc => (rules_word_ok hA (gd_e hw2 hc))) ?_; cbv
 iterate 9 refine cj ?_
 refine kj ?_
 obtain ⟨w3, hw3, h⟩ := bd_e h; refine kc hP (rules_time_ok hA hw3) ?_; cbv
 iterate 3 refine cj ?_
 obtain ⟨w4, hw4, h⟩ := bd_e h; refine kg hP (fun hc => (rules_time_ok hA (gd_e hw4 hc))) ?_; cbv
 iterate 9 refine cj ?_
 refine kj ?_
 iterate 17 refine cj ?_
 obtain ⟨w5, hw5, h⟩ := bd_e h; refine kg hP (fun hc => (label_Right_ok hA (gd_e hw5 hc))) ?_; cbv
 iterate 4 refine cj ?_
 obtain ⟨w6, hw6, h⟩ := bd_e h; refine kg hP (fun hc => (label_Get_ok hA (gd_e hw6 hc))) ?_; cbv
 iterate 2 refine cj ?_
 exact le h hR
theorem config_all_string_1_ok {A : Ar} (hA : A = std) {x0 : ByteArray} {qc0 : ByteArray → Option Bool} {gc0 : Nat} {capc0 : List D} (hcapc0 : capOK capc0) (hqc0 : ∀ (y0 : ByteArray) (r : Bool), qc0 y0 = some r → PFun cx gc0 ((st y0) :: un.uns capc0) (bl r)) {r : Bool} (h : config_all_string_1 A x0 qc0 = some r) : PFun cx 142 [st x0, .ip [.fun (.func gc0) [] capc0]] (bl r) := by
 rcases hcapc0 with rfl | ⟨dscapc0, rfl⟩
 all_goals
  refine wF hA cx_ok Tryz.func142 fun P R hP hR => ?_
  cbv; unfold config_all_string_1 at h
  iterate 2 refine kj ?_
  obtain ⟨w1, hw1, h⟩ := bd_e h; refine kc hP (hqc0 _ _ hw1) ?_; cbv
  exact le h hR
theorem config_all_string_ok {A : Ar} (hA : A = std) {x0 : List ByteArray} {x1 : Int} {q2 : ByteArray → Option Bool} {g2 : Nat} {cap2 : List D} (hcap2 : capOK cap2) (hq2 : ∀ (y0 : ByteArray) (r : Bool), q2 y0 = some r → PFun cx g2 ((st y0) :: un.uns cap2) (bl r)) {r : Bool} (h : config_all_string A x0 x1 q2 = some r) : PFun cx 48 [.d (.sl TyS.str x0), it .i64 x1, .fn (.func g2) [] (un.uns cap2)] (bl r) := by
 rcases hcap2 with rfl | ⟨dscap2, rfl⟩
 ·refine PFun.walkF (fz := fun k => k == 5) hA cx_ok Tryz.func48 rfl rfl rfl fun P R hP hR => ?_
  cbv; unfold config_all_string at h
  iterate 2 refine kj ?_
  iterate 2 refine cj ?_
  obtain ⟨w1, hw1, h⟩ := bd_e h; refine kg hP (fun hc => (slices_ContainsFunc_string_string_ok hA (by rfl) (fun _ _ hw => config_all_string_1_ok (capc0 := []) hA (by first | exact .inl rfl | exact .inr ⟨_, rfl⟩) hq2 hw) (gd_e hw1 hc))) ?_; cbv
  iterate 2 refine cj ?_
  exact le h hR
 ·refine PFun.walkF (fz := fun k => k == 5) hA cx_ok Tryz.func48 rfl rfl rfl fun P R hP hR => ?_
  cbv; unfold config_all_string at h
  iterate 2 refine kj ?_
  iterate 2 refine cj ?_
  obtain ⟨w1, hw1, h⟩ := bd_e h; refine kg hP (fun hc => (slices_ContainsFunc_string_string_ok hA (by rfl) (fun _ _ hw => config_all_string_1_ok (capc0 := [D.ptr dscap2]) hA (by first | exact .inl rfl | exact .inr ⟨_, rfl⟩) hq2 hw) (gd_e hw1 hc))) ?_; cbv
  iterate 2 refine cj ?_
  exact le h hR
theorem config_word_ok {A : Ar} (hA : A = std) {x0 : ByteArray} {r : Bool} (h : config_word A x0 = some r) : PFun cx 49 [st x0] (bl r) := by
 refine wF hA cx_ok Tryz.func49 fun P R hP hR => ?_
 cbv; unfold config_word at h
 iterate 2 refine kj ?_
 obtain ⟨w1, hw1, h⟩ := bd_e h; refine kc hP (block_Right_ok hA hw1) ?_; cbv
 exact le h hR
theorem config_all_Inhibit_1_ok {A : Ar} (hA : A = std) {x0 : Inhibit} {qc0 : Inhibit → Option Bool} {gc0 : Nat} {capc0 : List D} (hcapc0 : capOK capc0) (hqc0 : ∀ (y0 : Inhibit) (r : Bool), qc0 y0 = some r → PFun cx gc0 ((inhibitPV y0) :: un.uns capc0) (bl r)) {r : Bool} (h : config_all_Inhibit_1 A x0 qc0 = some r) : PFun cx 144 [inhibitPV x0, .ip [.fun (.func gc0) [] capc0]] (bl r) := by
 rcases hcapc0 with rfl | ⟨dscapc0, rfl⟩
 all_goals
  refine wF hA cx_ok Tryz.func144 fun P R hP hR => ?_
  cbv; unfold config_all_Inhibit_1 at h
  iterate 2 refine kj ?_
  obtain ⟨w1, hw1, h⟩ := bd_e h; refine kc hP (hqc0 _ _ hw1) ?_; cbv
  exact le h hR
theorem slices_IndexFunc_Inhibit_Inhibit_ok {A : Ar} (hA : A = std) {x0 : List Inhibit} {q1 : Inhibit → Option Bool} {g1 : Nat} {cap1 : List PV} (hcap1 : bare.bares cap1 = true) (hq1 : ∀ (y0 : Inhibit) (r : Bool), q1 y0 = some r → PFun cx g1 ((inhibitPV y0) :: cap1) (bl r)) {r : Int} (h : slices_IndexFunc_Inhibit_Inhibit A x0 q1 = some r) : PFun cx 196 [.d (.sl TyS.inhibit x0), .fn (.func g1) [] cap1] (it .i64 r) := by
 refine wF hA cx_ok Tryz.func196 fun P R hP hR => ?_
 cbv; unfold slices_IndexFunc_Inhibit_Inhibit at h
 iterate 2 refine kj ?_
 refine kl h (fun x _ => [(8, it .i64 x)]) (fun _ _ => []) [] ?_
 rintro t8 gh1 g1 _ _ _ hK1 hQ1 h; cbv
 refine kj ?_
 refine bc h (fun hb h => ?_) fun hb h => ?_
 ·cbv
  iterate 2 refine kj ?_
  refine kk h fun c1 h => ?_
  obtain ⟨w2, hw2, h⟩ := bd_e h; refine kc hP (hq1 _ _ hw2) ?_ (by first | rfl | simp [bare, bare.bares, hcap1]); cbv
  refine bc h (fun hb h => ?_) fun hb h => ?_
  ·cbv
   refine kj ?_
   refine hQ1 _ h _ _ fun h => ?_; cbv
   exact le h hR
  ·cbv
   refine kj ?_
   cases h; exact hK1 _ _ [] rfl hdy
 ·cbv
  refine hQ1 _ h _ _ fun h => ?_; cbv
  refine kj ?_
  exact le h hR
theorem slices_ContainsFunc_Inhibit_Inhibit_ok {A : Ar} (hA : A = std) {x0 : List Inhibit} {q1 : Inhibit → Option Bool} {g1 : Nat} {cap1 : List PV} (hcap1 : bare.bares cap1 = true) (hq1 : ∀ (y0 : Inhibit) (r : Bool), q1 y0 = some r → PFun cx g1 ((inhibitPV y0) :: cap1) (bl r)) {r : Bool} (h : slices_ContainsFunc_Inhibit_Inhibit A x0 q1 = some r) : PFun cx 118 [.d (.sl TyS.inhibit x0), .fn (.func g1) [] cap1] (bl r) := by
 refine wF hA cx_ok Tryz.func118 fun P R hP hR => ?_
 cbv; unfold slices_ContainsFunc_Inhibit_Inhibit at h
 iterate 2 refine kj ?_
 obtain ⟨w1, hw1, h⟩ := bd_e h; refine kc hP (slices_IndexFunc_Inhibit_Inhibit_ok hA hcap1 hq1 hw1) ?_ (by first | rfl | simp [bare, bare.bares, hcap1]); cbv
 exact le h hR
theorem config_all_Inhibit_ok {A : Ar} (hA : A = std) {x0 : List Inhibit} {x1 : Int} {q2 : Inhibit → Option Bool} {g2 : Nat} {cap2 : List D} (hcap2 : capOK cap2) (hq2 : ∀ (y0 : Inhibit) (r : Bool), q2 y0 = some r → PFun cx g2 ((inhibitPV y0) :: un.uns cap2) (bl r)) {r : Bool} (h : config_all_Inhibit A x0 x1 q2 = some r) : PFun cx 50 [.d (.sl TyS.inhibit x0), it .i64 x1, .fn (.func g2) [] (un.uns cap2)] (bl r) := by
 rcases hcap2 with rfl | ⟨dscap2, rfl⟩
 ·refine PFun.walkF (fz := fun k => k == 5) hA cx_ok Tryz.func50 rfl rfl rfl fun P R hP hR => ?_
  cbv; unfold config_all_Inhibit at h
  iterate 2 refine kj ?_
  iterate 2 refine cj ?_
  obtain ⟨w1, hw1, h⟩ := bd_e h; refine kg hP (fun hc => (slices_ContainsFunc_Inhibit_Inhibit_ok hA (by rfl) (fun _ _ hw => config_all_Inhibit_1_ok (capc0 := []) hA (by first | exact .inl rfl | exact .inr ⟨_, rfl⟩) hq2 hw) (gd_e hw1 hc))) ?_; cbv
  iterate 2 refine cj ?_
  exact le h hR
 ·refine PFun.walkF (fz := fun k => k == 5) hA cx_ok Tryz.func50 rfl rfl rfl fun P R hP hR => ?_
  cbv; unfold config_all_Inhibit at h
  iterate 2 refine kj ?_
  iterate 2 refine cj ?_
  obtain ⟨w1, hw1, h⟩ := bd_e h; refine kg hP (fun hc => (slices_ContainsFunc_Inhibit_Inhibit_ok hA (by rfl) (fun _ _ hw => config_all_Inhibit_1_ok (capc0 := [D.ptr dscap2]) hA (by first | exact .inl rfl | exact .inr ⟨_, rfl⟩) hq2 hw) (gd_e hw1 hc))) ?_; cbv
  iterate 2 refine cj ?_
  exact le h hR
theorem config_all_Matcher_1_ok {A : Ar} (hA : A = std) {x0 : Matcher} {qc0 : Matcher → Option Bool} {gc0 : Nat} {capc0 : List D} (hcapc0 : capOK capc0) (hqc0 : ∀ (y0 : Matcher) (r : Bool), qc0 y0 = some r → PFun cx gc0 ((matcherPV y0) :: un.uns capc0) (bl r)) {r : Bool} (h : config_all_Matcher_1 A x0 qc0 = some r) : PFun cx 232 [matcherPV x0, .ip [.fun (.func gc0) [] capc0]] (bl r) := by
 rcases hcapc0 with rfl | ⟨dscapc0, rfl⟩
 all_goals
  refine wF hA cx_ok Tryz.func232 fun P R hP hR => ?_
  cbv; unfold config_all_Matcher_1 at h
  iterate 2 refine kj ?_
  obtain ⟨w1, hw1, h⟩ := bd_e h; refine kc hP (hqc0 _ _ hw1) ?_; cbv
  exact le h hR
theorem config_all_Matcher_ok {A : Ar} (hA : A = std) {x0 : List Matcher} {x1 : Int} {q2 : Matcher → Option Bool} {g2 : Nat} {cap2 : List D} (hcap2 : capOK cap2) (hq2 : ∀ (y0 : Matcher) (r : Bool), q2 y0 = some r → PFun cx g2 ((matcherPV y0) :: un.uns cap2) (bl r)) {r : Bool} (h : config_all_Matcher A x0 x1 q2 = some r) : PFun cx 145 [.d (.sl TyS.matcher x0), it .i64 x1, .fn (.func g2) [] (un.uns cap2)] (bl r) := by
 rcases hcap2 with rfl | ⟨dscap2, rfl⟩
 ·refine PFun.walkF (fz := fun k => k == 5) hA cx_ok Tryz.func145 rfl rfl rfl fun P R hP hR => ?_
  cbv; unfold config_all_Matcher at h
  iterate 2 refine kj ?_
  iterate 2 refine cj ?_
  obtain ⟨w1, hw1, h⟩ := bd_e h; refine kg hP (fun hc => (slices_ContainsFunc_Matcher_Matcher_ok hA (by rfl) (fun _ _ hw => config_all_Matcher_1_ok (capc0 := []) hA (by first | exact .inl rfl | exact .inr ⟨_, rfl⟩) hq2 hw) (gd_e hw1 hc))) ?_; cbv
  iterate 2 refine cj ?_
  exact le h hR
 ·refine PFun.walkF (fz := fun k => k == 5) hA cx_ok Tryz.func145 rfl rfl rfl fun P R hP hR => ?_
  cbv; unfold config_all_Matcher at h
  iterate 2 refine kj ?_
  iterate 2 refine cj ?_
  obtain ⟨w1, hw1, h⟩ := bd_e h; refine kg hP (fun hc => (slices_ContainsFunc_Matcher_Matcher_ok hA (by rfl) (fun _ _ hw => config_all_Matcher_1_ok (capc0 := [D.ptr dscap2]) hA (by first | exact .inl rfl | exact .inr ⟨_, rfl⟩) hq2 hw) (gd_e hw1 hc))) ?_; cbv
  iterate 2 refine cj ?_
  exact le h hR
theorem config_inhibits_ok {A : Ar} (hA : A = std) {x0 : Inhibit} {r : Bool} (h : config_inhibits A x0 = some r) : PFun cx 51 [inhibitPV x0] (bl r) := by
 refine wF hA cx_ok Tryz.func51 fun P R hP hR => ?_
 cbv; unfold config_inhibits at h
 iterate 2 refine kj ?_
 refine kl h (fun x _ => [(9, it .i64 x)]) (fun x gh => [⟨1, 0, .box 63 [.d (.sl .matcher x0.1), .d (.sl .matcher x0.2), .d (.sl .str x0.3)]⟩]) [] ?_
 rintro t9 gh1 g1 _ _ _ hK1 hQ1 h; cbv
 refine kj ?_
 refine bc h (fun hb h => ?_) fun hb h => ?_
 ·cbv
  refine kj ?_
  refine kk h fun c1 h => ?_
  refine kj ?_
  obtain ⟨w2, hw2, h⟩ := bd_e h; refine kc hP (label_Right_ok hA hw2) ?_; cbv
  iterate 7 refine cj ?_
  refine kk h fun c3 h => ?_
  iterate 4 refine cj ?_
  refine ⟨by subst hA; simp +contextual [vcm], ?_⟩
  refine cj ?_
  refine bc h (fun hb h => ?_) fun hb h => ?_
  ·cbv
   refine kj ?_
   refine hQ1 _ h _ _ fun h => ?_; cbv
   exact le h hR
  ·cbv
   refine kj ?_
   cases h; exact hK1 _ _ [] rfl hdy
 ·cbv
  refine hQ1 _ h _ _ fun h => ?_; cbv
  refine kj ?_
  iterate 10 refine cj ?_
  refine kj ?_
  iterate 3 refine cj ?_
  obtain ⟨w4, hw4, h⟩ := bd_e h; refine kf hP (fun hc => (config_all_Matcher_ok (cap2 := []) hA (by first | exact .inl rfl | exact .inr ⟨_, rfl⟩) (fun _ _ hw => matcher_Right_ok hA hw) (gd_e hw4 hc))) ?_; cbv
  iterate 4 refine cj ?_
  obtain ⟨w5, hw5, h⟩ := bd_e h; refine kf hP (fun hc => (config_all_Matcher_ok (cap2 := []) hA (by first | exact .inl rfl | exact .inr ⟨_, rfl⟩) (fun _ _ hw => matcher_Right_ok hA hw) (gd_e hw5 hc))) ?_; cbv
  refine cj ?_
  exact le h hR
theorem config_all_Hours_1_ok {A : Ar} (hA : A = std) {x0 : Hours} {qc0 : Hours → Option Bool} {gc0 : Nat} {capc0 : List D} (hcapc0 : capOK capc0) (hqc0 : ∀ (y0 : Hours) (r : Bool), qc0 y0 = some r → PFun cx gc0 ((hoursPV y0) :: un.uns capc0) (bl r)) {r : Bool} (h : config_all_Hours_1 A x0 qc0 = some r) : PFun cx 147 [hoursPV x0, .ip [.fun (.func gc0) [] capc0]] (bl r) := by
 rcases hcapc0 with rfl | ⟨dscapc0, rfl⟩
 all_goals
  refine wF hA cx_ok Tryz.func147 fun P R hP hR => ?_
  cbv; unfold config_all_Hours_1 at h
  iterate 2 refine kj ?_
  obtain ⟨w1, hw1, h⟩ := bd_e h; refine kc hP (hqc0 _ _ hw1) ?_; cbv
  exact le h hR
theorem slices_IndexFunc_Hours_Hours_ok {A : Ar} (hA : A = std) {x0 : List Hours} {q1 : Hours → Option Bool} {g1 : Nat} {cap1 : List PV} (hcap1 : bare.bares cap1 = true) (hq1 : ∀ (y0 : Hours) (r : Bool), q1 y0 = some r → PFun cx g1 ((hoursPV y0) :: cap1) (bl r)) {r : Int} (h : slices_IndexFunc_Hours_Hours A x0 q1 = some r) : PFun cx 154 [.d (.sl TyS.hours x0), .fn (.func g1) [] cap1] (it .i64 r) := by
 refine wF hA cx_ok Tryz.func154 fun P R hP hR => ?_
 cbv; unfold slices_IndexFunc_Hours_Hours at h
 iterate 2 refine kj ?_
 refine kl h (fun x _ => [(8, it .i64 x)]) (fun _ _ => []) [] ?_
 rintro t8 gh1 g1 _ _ _ hK1 hQ1 h; cbv
 refine kj ?_
 refine bc h (fun hb h => ?_) fun hb h => ?_
 ·cbv
  iterate 2 refine kj ?_
  refine kk h fun c1 h => ?_
  obtain ⟨w2, hw2, h⟩ := bd_e h; refine kc hP (hq1 _ _ hw2) ?_ (by first | rfl | simp [bare, bare.bares, hcap1]); cbv
  refine bc h (fun hb h => ?_) fun hb h => ?_
  ·cbv
   refine kj ?_
   refine hQ1 _ h _ _ fun h => ?_; cbv
   exact le h hR
  ·cbv
   refine kj ?_
   cases h; exact hK1 _ _ [] rfl hdy
 ·cbv
  refine hQ1 _ h _ _ fun h => ?_; cbv
  refine kj ?_
  exact le h hR
theorem slices_ContainsFunc_Hours_Hours_ok {A : Ar} (hA : A = std) {x0 : List Hours} {q1 : Hours → Option Bool} {g1 : Nat} {cap1 : List PV} (hcap1 : bare.bares cap1 = true) (hq1 : ∀ (y0 : Hours) (r : Bool), q1 y0 = some r → PFun cx g1 ((hoursPV y0) :: cap1) (bl r)) {r : Bool} (h : slices_ContainsFunc_Hours_Hours A x0 q1 = some r) : PFun cx 64 [.d (.sl TyS.hours x0), .fn (.func g1) [] cap1] (bl r) := by
 refine wF hA cx_ok Tryz.func64 fun P R hP hR => ?_
 cbv; unfold slices_ContainsFunc_Hours_Hours at h
 iterate 2 refine kj ?_
 obtain ⟨w1, hw1, h⟩ := bd_e h; refine kc hP (slices_IndexFunc_Hours_Hours_ok hA hcap1 hq1 hw1) ?_ (by first | rfl | simp [bare, bare.bares, hcap1]); cbv
 exact le h hR
theorem config_all_Hours_ok {A : Ar} (hA : A = std) {x0 : List Hours} {x1 : Int} {q2 : Hours → Option Bool} {g2 : Nat} {cap2 : List D} (hcap2 : capOK cap2) (hq2 : ∀ (y0 : Hours) (r : Bool), q2 y0 = some r → PFun cx g2 ((hoursPV y0) :: un.uns cap2) (bl r)) {r : Bool} (h : config_all_Hours A x0 x1 q2 = some r) : PFun cx 52 [.d (.sl TyS.hours x0), it .i64 x1, .fn (.func g2) [] (un.uns cap2)] (bl r) := by
 rcases hcap2 with rfl | ⟨dscap2, rfl⟩
 ·refine PFun.walkF (fz := fun k => k == 5) hA cx_ok Tryz.func52 rfl rfl rfl fun P R hP hR => ?_
  cbv; unfold config_all_Hours at h
  iterate 2 refine kj ?_
  iterate 2 refine cj ?_
  obtain ⟨w1, hw1, h⟩ := bd_e h; refine kg hP (fun hc => (slices_ContainsFunc_Hours_Hours_ok hA (by rfl) (fun _ _ hw => config_all_Hours_1_ok (capc0 := []) hA (by first | exact .inl rfl | exact .inr ⟨_, rfl⟩) hq2 hw) (gd_e hw1 hc))) ?_; cbv
  iterate 2 refine cj ?_
  exact le h hR
 ·refine PFun.walkF (fz := fun k => k == 5) hA cx_ok Tryz.func52 rfl rfl rfl fun P R hP hR => ?_
  cbv; unfold config_all_Hours at h
  iterate 2 refine kj ?_
  iterate 2 refine cj ?_
  obtain ⟨w1, hw1, h⟩ := bd_e h; refine kg hP (fun hc => (slices_ContainsFunc_Hours_Hours_ok hA (by rfl) (fun _ _ hw => config_all_Hours_1_ok (capc0 := [D.ptr dscap2]) hA (by first | exact .inl rfl | exact .inr ⟨_, rfl⟩) hq2 hw) (gd_e hw1 hc))) ?_; cbv
  iterate 2 refine cj ?_
  exact le h hR
theorem hours_Right_1_ok {A : Ar} (hA : A = std) {x0 : Int} {r : Bool} (h : hours_Right_1 A x0 = some r) : PFun cx 148 [it .u8 x0] (bl r) := by
 refine wF hA cx_ok Tryz.func148 fun P R hP hR => ?_
 cbv; unfold hours_Right_1 at h
 iterate 2 refine kj ?_
 iterate 6 refine cj ?_
 refine ⟨by subst hA; simp +contextual [vcm], ?_⟩
 iterate 3 refine cj ?_
 exact le h hR
theorem hours_Right_ok {A : Ar} (hA : A = std) {x0 : Hours} {r : Bool} (h : hours_Right A x0 = some r) : PFun cx 53 [hoursPV x0] (bl r) := by
 refine wF hA cx_ok Tryz.func53 fun P R hP hR => ?_
 cbv; unfold hours_Right at h
 iterate 3 refine kj ?_
 iterate 10 refine cj ?_
 obtain ⟨w1, hw1, h⟩ := bd_e h; refine kf hP (fun hc => (slices_ContainsFunc_byte_byte_ok hA (by rfl) (fun _ _ hw => hours_Right_1_ok hA hw) (gd_e hw1 hc))) ?_; cbv
 iterate 29 refine cj ?_
 exact le h hR
theorem config_unique_Rule_ok {A : Ar} (hA : A = std) {x0 : List Rule} {q1 : Rule → Option ByteArray} {g1 : Nat} {cap1 : List PV} (hcap1 : bare.bares cap1 = true) (hq1 : ∀ (y0 : Rule) (r : ByteArray), q1 y0 = some r → PFun cx g1 ((rulePV y0) :: cap1) (st r)) {r : Bool} (h : config_unique_Rule A x0 q1 = some r) : PFun cx 54 [.d (.sl TyS.rule x0), .fn (.func g1) [] cap1] (bl r) := by
 refine wF hA cx_ok Tryz.func54 fun P R hP hR => ?_
 cbv; unfold config_unique_Rule at h
 iterate 3 refine kj ?_
 refine kl h (fun x _ => [(11, it .i64 x.1)]) (fun x gh => [⟨8, 1, .map (A.mesB x.2)⟩]) [] ?_
 rintro ⟨t11, map8⟩ gh1 g1 _ _ _ hK1 hQ1 h; cbv
 refine kj ?_
 refine bc h (fun hb h => ?_) fun hb h => ?_
 ·cbv
  refine kj ?_
  refine kk h fun c1 h => ?_
  refine kj ?_
  obtain ⟨w2, hw2, h⟩ := bd_e h; refine kc hP (hq1 _ _ hw2) ?_ (by first | rfl | simp [bare, bare.bares, hcap1]); cbv
  refine ⟨by first | exact keysOK_mesB hA _ | exact ⟨rfl⟩, ?_⟩
  obtain ⟨w3, hw3, h⟩ := bd_e h
  have hw3' := lookB_ok hA w2 false map8
  rw [Option.some.inj hw3] at hw3'
  refine LookK.one _ _ hw3' ?_
  cbv
  refine bc h (fun hb h => ?_) fun hb h => ?_
  ·cbv
   refine kj ?_
   refine hQ1 _ h _ _ fun h => ?_; cbv
   exact le h hR
  ·cbv
   refine kj ?_
   obtain ⟨w4, hw4, h⟩ := bd_e h; refine kc hP (hq1 _ _ hw4) ?_ (by first | rfl | simp [bare, bare.bares, hcap1]); cbv
   refine ⟨by first | exact keysOK_mesB hA _ | exact ⟨rfl⟩, ?_⟩
   refine kk h fun c5 h => ?_
   refine kj ?_
   cases h; exact hK1 _ _ [] rfl hdy
 ·cbv
  refine hQ1 _ h _ _ fun h => ?_; cbv
  refine kj ?_
  exact le h hR
theorem config_ruled_ok {A : Ar} (hA : A = std) {x0 : Rule} {r : ByteArray} (h : config_ruled A x0 = some r) : PFun cx 55 [rulePV x0] (st r) := by
 refine wF hA cx_ok Tryz.func55 fun P R hP hR => ?_
 cbv; unfold config_ruled at h
 iterate 2 refine kj ?_
 exact le h hR
theorem config_unique_string_ok {A : Ar} (hA : A = std) {x0 : List ByteArray} {q1 : ByteArray → Option ByteArray} {g1 : Nat} {cap1 : List PV} (hcap1 : bare.bares cap1 = true) (hq1 : ∀ (y0 : ByteArray) (r : ByteArray), q1 y0 = some r → PFun cx g1 ((st y0) :: cap1) (st r)) {r : Bool} (h : config_unique_string A x0 q1 = some r) : PFun cx 56 [.d (.sl TyS.str x0), .fn (.func g1) [] cap1] (bl r) := by
 refine wF hA cx_ok Tryz.func56 fun P R hP hR => ?_
 cbv; unfold config_unique_string at h
 iterate 3 refine kj ?_
 refine kl h (fun x _ => [(11, it .i64 x.1)]) (fun x gh => [⟨8, 1, .map (A.mesB x.2)⟩]) [] ?_
 rintro ⟨t11, map8⟩ gh1 g1 _ _ _ hK1 hQ1 h; cbv
 refine kj ?_
 refine bc h (fun hb h => ?_) fun hb h => ?_
 ·cbv
  refine kj ?_
  refine kk h fun c1 h => ?_
  refine kj ?_
  obtain ⟨w2, hw2, h⟩ := bd_e h; refine kc hP (hq1 _ _ hw2) ?_ (by first | rfl | simp [bare, bare.bares, hcap1]); cbv
  refine ⟨by first | exact keysOK_mesB hA _ | exact ⟨rfl⟩, ?_⟩
  obtain ⟨w3, hw3, h⟩ := bd_e h
  have hw3' := lookB_ok hA w2 false map8
  rw [Option.some.inj hw3] at hw3'
  refine LookK.one _ _ hw3' ?_
  cbv
  refine bc h (fun hb h => ?_) fun hb h => ?_
  ·cbv
   refine kj ?_
   refine hQ1 _ h _ _ fun h => ?_; cbv
   exact le h hR
  ·cbv
   refine kj ?_
   obtain ⟨w4, hw4, h⟩ := bd_e h; refine kc hP (hq1 _ _ hw4) ?_ (by first | rfl | simp [bare, bare.bares, hcap1]); cbv
   refine ⟨by first | exact keysOK_mesB hA _ | exact ⟨rfl⟩, ?_⟩
   refine kk h fun c5 h => ?_
   refine kj ?_
   cases h; exact hK1 _ _ [] rfl hdy
 ·cbv
  refine hQ1 _ h _ _ fun h => ?_; cbv
  refine kj ?_
  exact le h hR
theorem config_itself_ok {A : Ar} (hA : A = std) {x0 : ByteArray} {r : ByteArray} (h : config_itself A x0 = some r) : PFun cx 57 [st x0] (st r) := by
 refine wF hA cx_ok Tryz.func57 fun P R hP hR => ?_
 cbv; unfold config_itself at h
 iterate 2 refine kj ?_
 exact le h hR
theorem config_unique_Hours_ok {A : Ar} (hA : A = std) {x0 : List Hours} {q1 : Hours → Option ByteArray} {g1 : Nat} {cap1 : List PV} (hcap1 : bare.bares cap1 = true) (hq1 : ∀ (y0 : Hours) (r : ByteArray), q1 y0 = some r → PFun cx g1 ((hoursPV y0) :: cap1) (st r)) {r : Bool} (h : config_unique_Hours A x0 q1 = some r) : PFun cx 58 [.d (.sl TyS.hours x0), .fn (.func g1) [] cap1] (bl r) := by
 refine wF hA cx_ok Tryz.func58 fun P R hP hR => ?_
 cbv; unfold config_unique_Hours at h
 iterate 3 refine kj ?_
 refine kl h (fun x _ => [(11, it .i64 x.1)]) (fun x gh => [⟨8, 1, .map (A.mesB x.2)⟩]) [] ?_
 rintro ⟨t11, map8⟩ gh1 g1 _ _ _ hK1 hQ1 h; cbv
 refine kj ?_
 refine bc h (fun hb h => ?_) fun hb h => ?_
 ·cbv
  refine kj ?_
  refine kk h fun c1 h => ?_
  refine kj ?_
  obtain ⟨w2, hw2, h⟩ := bd_e h; refine kc hP (hq1 _ _ hw2) ?_ (by first | rfl | simp [bare, bare.bares, hcap1]); cbv
  refine ⟨by first | exact keysOK_mesB hA _ | exact ⟨rfl⟩, ?_⟩
  obtain ⟨w3, hw3, h⟩ := bd_e h
  have hw3' := lookB_ok hA w2 false map8
  rw [Option.some.inj hw3] at hw3'
  refine LookK.one _ _ hw3' ?_
  cbv
  refine bc h (fun hb h => ?_) fun hb h => ?_
  ·cbv
   refine kj ?_
   refine hQ1 _ h _ _ fun h => ?_; cbv
   exact le h hR
  ·cbv
   refine kj ?_
   obtain ⟨w4, hw4, h⟩ := bd_e h; refine kc hP (hq1 _ _ hw4) ?_ (by first | rfl | simp [bare, bare.bares, hcap1]); cbv
   refine ⟨by first | exact keysOK_mesB hA _ | exact ⟨rfl⟩, ?_⟩
   refine kk h fun c5 h => ?_
   refine kj ?_
   cases h; exact hK1 _ _ [] rfl hdy
 ·cbv
  refine hQ1 _ h _ _ fun h => ?_; cbv
  refine kj ?_
  exact le h hR
theorem config_houred_ok {A : Ar} (hA : A = std) {x0 : Hours} {r : ByteArray} (h : config_houred A x0 = some r) : PFun cx 59 [hoursPV x0] (st r) := by
 refine wF hA cx_ok Tryz.func59 fun P R hP hR => ?_
 cbv; unfold config_houred at h
 iterate 2 refine kj ?_
 exact le h hR
theorem routes_may_1_ok {A : Ar} (hA : A = std) {x0 : Matcher} {r : Bool} (h : routes_may_1 A x0 = some r) : PFun cx 236 [matcherPV x0] (bl r) := by
 refine wF hA cx_ok Tryz.func236 fun P R hP hR => ?_
 cbv; unfold routes_may_1 at h
 iterate 2 refine kj ?_
 obtain ⟨w1, hw1, h⟩ := bd_e h; refine kc hP (matcher_Right_ok hA hw1) ?_; cbv
 exact le h hR
theorem routes_word_ok {A : Ar} (hA : A = std) {x0 : ByteArray} {r : Bool} (h : routes_word A x0 = some r) : PFun cx 237 [st x0] (bl r) := by
 refine wF hA cx_ok Tryz.func237 fun P R hP hR => ?_
 cbv; unfold routes_word at h
 iterate 2 refine kj ?_
 obtain ⟨w1, hw1, h⟩ := bd_e h; refine kc hP (block_Right_ok hA hw1) ?_; cbv
 exact le h hR
theorem routes_ordered_ok {A : Ar} (hA : A = std) {x0 : List ByteArray} {q1 : ByteArray → Option Bool} {g1 : Nat} {cap1 : List PV} (hcap1 : bare.bares cap1 = true) (hq1 : ∀ (y0 : ByteArray) (r : Bool), q1 y0 = some r → PFun cx g1 ((st y0) :: cap1) (bl r)) {r : Bool} (h : routes_ordered A x0 q1 = some r) : PFun cx 238 [.d (.sl TyS.str x0), .fn (.func g1) [] cap1] (bl r) := by
 refine wF hA cx_ok Tryz.func238 fun P R hP hR => ?_
 cbv; unfold routes_ordered at h
 iterate 2 refine kj ?_
 refine kl h (fun x _ => [(4, bl x.1), (9, it .i64 x.2)]) (fun _ _ => []) [] ?_
 rintro ⟨t4, t9⟩ gh1 g1 _ _ _ hK1 hQ1 h; cbv
 refine kj ?_
 refine bc h (fun hb h => ?_) fun hb h => ?_
 ·cbv
  refine kj ?_
  refine kk h fun c1 h => ?_
  refine kj ?_
  obtain ⟨w2, hw2, h⟩ := bd_e h; refine kc hP (hq1 _ _ hw2) ?_ (by first | rfl | simp [bare, bare.bares, hcap1]); cbv
  iterate 5 refine cj ?_
  refine kk h fun c3 h => ?_
  iterate 4 refine cj ?_
  refine ⟨by subst hA; simp +contextual [vcm], ?_⟩
  refine cj ?_
  refine bc h (fun hb h => ?_) fun hb h => ?_
  ·cbv
   refine kj ?_
   refine hQ1 _ h _ _ fun h => ?_; cbv
   exact le h hR
  ·cbv
   refine kj ?_
   cases h; exact hK1 _ _ [] rfl hdy
 ·cbv
  refine hQ1 _ h _ _ fun h => ?_; cbv
  refine kj ?_
  exact le h hR
theorem routes_name_ok {A : Ar} (hA : A = std) {x0 : ByteArray} {r : Bool} (h : routes_name A x0 = some r) : PFun cx 239 [st x0] (bl r) := by
 refine wF hA cx_ok Tryz.func239 fun P R hP hR => ?_
 cbv; unfold routes_name at h
 iterate 2 refine kj ?_
 obtain ⟨w1, hw1, h⟩ := bd_e h; refine kc hP (label_Right_ok hA hw1) ?_; cbv
 exact le h hR
theorem routes_times_1_ok {A : Ar} (hA : A = std) {x0 : Int} {c0 : Int} {r : Bool} (h : routes_times_1 A x0 c0 = some r) : PFun cx 305 [it .i64 x0, .ip [.v (.int .i64 c0)]] (bl r) := by
 refine wF hA cx_ok Tryz.func305 fun P R hP hR => ?_
 cbv; unfold routes_times_1 at h
 iterate 2 refine kj ?_
 iterate 2 refine cj ?_
 exact le h hR
theorem slices_IndexFunc_int_int_ok {A : Ar} (hA : A = std) {x0 : List Int} {q1 : Int → Option Bool} {g1 : Nat} {cap1 : List PV} (hcap1 : bare.bares cap1 = true) (hq1 : ∀ (y0 : Int) (r : Bool), q1 y0 = some r → PFun cx g1 ((it .i64 y0) :: cap1) (bl r)) {r : Int} (h : slices_IndexFunc_int_int A x0 q1 = some r) : PFun cx 339 [.d (.sl TyS.int x0), .fn (.func g1) [] cap1] (it .i64 r) := by
 refine wF hA cx_ok Tryz.func339 fun P R hP hR => ?_
 cbv; unfold slices_IndexFunc_int_int at h
 iterate 2 refine kj ?_
 refine kl h (fun x _ => [(8, it .i64 x)]) (fun _ _ => []) [] ?_
 rintro t8 gh1 g1 _ _ _ hK1 hQ1 h; cbv
 refine kj ?_
 refine bc h (fun hb h => ?_) fun hb h => ?_
 ·cbv
  iterate 2 refine kj ?_
  refine kk h fun c1 h => ?_
  obtain ⟨w2, hw2, h⟩ := bd_e h; refine kc hP (hq1 _ _ hw2) ?_ (by first | rfl | simp [bare, bare.bares, hcap1]); cbv
  refine bc h (fun hb h => ?_) fun hb h => ?_
  ·cbv
   refine kj ?_
   refine hQ1 _ h _ _ fun h => ?_; cbv
   exact le h hR
  ·cbv
   refine kj ?_
   cases h; exact hK1 _ _ [] rfl hdy
 ·cbv
  refine hQ1 _ h _ _ fun h => ?_; cbv
  refine kj ?_
  exact le h hR
theorem slices_ContainsFunc_int_int_ok {A : Ar} (hA : A = std) {x0 : List Int} {q1 : Int → Option Bool} {g1 : Nat} {cap1 : List PV} (hcap1 : bare.bares cap1 = true) (hq1 : ∀ (y0 : Int) (r : Bool), q1 y0 = some r → PFun cx g1 ((it .i64 y0) :: cap1) (bl r)) {r : Bool} (h : slices_ContainsFunc_int_int A x0 q1 = some r) : PFun cx 304 [.d (.sl TyS.int x0), .fn (.func g1) [] cap1] (bl r) := by
 refine wF hA cx_ok Tryz.func304 fun P R hP hR => ?_
 cbv; unfold slices_ContainsFunc_int_int at h
 iterate 2 refine kj ?_
 obtain ⟨w1, hw1, h⟩ := bd_e h; refine kc hP (slices_IndexFunc_int_int_ok hA hcap1 hq1 hw1) ?_ (by first | rfl | simp [bare, bare.bares, hcap1]); cbv
 exact le h hR
theorem routes_times_ok {A : Ar} (hA : A = std) {x0 : Int} {x1 : List Int} {r : Bool} (h : routes_times A x0 x1 = some r) : PFun cx 240 [it .i64 x0, .d (.sl TyS.int x1)] (bl r) := by
 refine PFun.walkF (fz := fun k => k == 2) hA cx_ok Tryz.func240 rfl rfl rfl fun P R hP hR => ?_
 cbv; unfold routes_times at h
 iterate 2 refine kj ?_
 obtain ⟨w1, hw1, h⟩ := bd_e h; refine kc hP (slices_ContainsFunc_int_int_ok hA (by rfl) (fun _ _ hw => routes_times_1_ok hA hw) hw1) ?_; cbv
 exact le h hR
theorem slices_IndexFunc_Route_Route_ok {A : Ar} (hA : A = std) {x0 : List Route} {q1 : Route → Option Bool} {g1 : Nat} {cap1 : List PV} (hcap1 : bare.bares cap1 = true) (hq1 : ∀ (y0 : Route) (r : Bool), q1 y0 = some r → PFun cx g1 ((routePV y0) :: cap1) (bl r)) {r : Int} (h : slices_IndexFunc_Route_Route A x0 q1 = some r) : PFun cx 271 [.d (.sl TyS.route x0), .fn (.func g1) [] cap1] (it .i64 r) := by
 refine wF hA cx_ok Tryz.func271 fun P R hP hR => ?_
 cbv; unfold slices_IndexFunc_Route_Route at h
 iterate 2 refine kj ?_
 refine kl h (fun x _ => [(8, it .i64 x)]) (fun _ _ => []) [] ?_
 rintro t8 gh1 g1 _ _ _ hK1 hQ1 h; cbv
 refine kj ?_
 refine bc h (fun hb h => ?_) fun hb h => ?_
 ·cbv
  iterate 2 refine kj ?_
  refine kk h fun c1 h => ?_
  obtain ⟨w2, hw2, h⟩ := bd_e h; refine kc hP (hq1 _ _ hw2) ?_ (by first | rfl | simp [bare, bare.bares, hcap1]); cbv
  refine bc h (fun hb h => ?_) fun hb h => ?_
  ·cbv
   refine kj ?_
   refine hQ1 _ h _ _ fun h => ?_; cbv
   exact le h hR
  ·cbv
   refine kj ?_
   cases h; exact hK1 _ _ [] rfl hdy
 ·cbv
  refine hQ1 _ h _ _ fun h => ?_; cbv
  refine kj ?_
  exact le h hR
theorem slices_ContainsFunc_Route_Route_ok {A : Ar} (hA : A = std) {x0 : List Route} {q1 : Route → Option Bool} {g1 : Nat} {cap1 : List PV} (hcap1 : bare.bares cap1 = true) (hq1 : ∀ (y0 : Route) (r : Bool), q1 y0 = some r → PFun cx g1 ((routePV y0) :: cap1) (bl r)) {r : Bool} (h : slices_ContainsFunc_Route_Route A x0 q1 = some r) : PFun cx 194 [.d (.sl TyS.route x0), .fn (.func g1) [] cap1] (bl r) := by
 refine wF hA cx_ok Tryz.func194 fun P R hP hR => ?_
 cbv; unfold slices_ContainsFunc_Route_Route at h
 iterate 2 refine kj ?_
 obtain ⟨w1, hw1, h⟩ := bd_e h; refine kc hP (slices_IndexFunc_Route_Route_ok hA hcap1 hq1 hw1) ?_ (by first | rfl | simp [bare, bare.bares, hcap1]); cbv
 exact le h hR
theorem routes_may_2_ok {A : Ar} (hA : A = std) {rf : Route → Int → Option Bool} {x0 : Route} {c0 : Int} (hqr150 : ∀ (x0 : Route) (x1 : Int) (r : Bool), rf x0 x1 = some r → PFun cx 150 [routePV x0, it .i64 x1] (bl r)) {r : Bool} (h : routes_may_2 A rf x0 c0 = some r) : PFun cx 241 [routePV x0, .ip [.v (.int .i64 c0)]] (bl r) := by
 refine wF hA cx_ok Tryz.func241 fun P R hP hR => ?_
 cbv; unfold routes_may_2 at h
 iterate 2 refine kj ?_
 obtain ⟨w1, hw1, h⟩ := bd_e h; refine kc hP (hqr150 _ _ _ hw1) ?_; cbv
 exact le h hR
theorem routes_may_S_ok {A : Ar} (hA : A = std) {rf : Route → Int → Option Bool} {x0 : Route} {x1 : Int} (hqr150 : ∀ (x0 : Route) (x1 : Int) (r : Bool), rf x0 x1 = some r → PFun cx 150 [routePV x0, it .i64 x1] (bl r)) {r : Bool} (h : routes_may_S A rf x0 x1 = some r) : PFun cx 150 [routePV x0, it .i64 x1] (bl r) := by
 refine PFun.walkF (fz := fun k => k == 3) hA cx_ok Tryz.func150 rfl rfl rfl fun P R hP hR => ?_
 cbv; unfold routes_may_S at h
 iterate 3 refine kj ?_
 iterate 3 refine cj ?_
 obtain ⟨w1, hw1, h⟩ := bd_e h; refine kg hP (fun hc => (routes_word_ok hA (gd_e hw1 hc))) ?_; cbv
 iterate 11 refine cj ?_
 obtain ⟨w2, hw2, h⟩ := bd_e h; refine kf hP (fun hc => (slices_ContainsFunc_Matcher_Matcher_ok hA (by rfl) (fun _ _ hw => routes_may_1_ok hA hw) (gd_e hw2 hc))) ?_; cbv
 iterate 6 refine cj ?_
 refine bc h (fun hb h => ?_) fun hb h => ?_
 ·cbv
  refine kj ?_
  exact le h hR
 ·cbv
  refine kj ?_
  obtain ⟨w3, hw3, h⟩ := bd_e h; refine ke hP (routes_ordered_ok hA (by rfl) (fun _ _ hw => routes_name_ok hA hw) hw3) ?_; cbv
  iterate 3 refine cj ?_
  obtain ⟨w4, hw4, h⟩ := bd_e h; refine kf hP (fun hc => (routes_ordered_ok hA (by rfl) (fun _ _ hw => routes_word_ok hA hw) (gd_e hw4 hc))) ?_; cbv
  iterate 7 refine cj ?_
  obtain ⟨w5, hw5, h⟩ := bd_e h; refine kg hP (fun hc => (routes_times_ok hA (gd_e hw5 hc))) ?_; cbv
  iterate 10 refine cj ?_
  obtain ⟨w6, hw6, h⟩ := bd_e h; refine kg hP (fun hc => (routes_times_ok hA (gd_e hw6 hc))) ?_; cbv
  iterate 2 refine cj ?_
  refine bc h (fun hb h => ?_) fun hb h => ?_
  ·cbv
   refine kj ?_
   exact le h hR
  ·cbv
   refine kj ?_
   obtain ⟨w7, hw7, h⟩ := bd_e h; refine kc hP (slices_ContainsFunc_Route_Route_ok hA (by rfl) (fun _ _ hw => routes_may_2_ok hA hqr150 hw) hw7) ?_; cbv
   exact le h hR
theorem routes_may_N_ok {A : Ar} (hA : A = std) : ∀ (n : Nat) (x0 : Route) (x1 : Int) (r : Bool), routes_may_N A n x0 x1 = some r → PFun cx 150 [routePV x0, it .i64 x1] (bl r)
 | 0, _, _, _, h => by cases h
 | n + 1, x0, x1, r, h => routes_may_S_ok hA (fun _ _ _ hh => routes_may_N_ok hA n _ _ _ hh) h
theorem routes_may_ok {A : Ar} (hA : A = std) {x0 : Route} {x1 : Int} {r : Bool} (h : routes_may A x0 x1 = some r) : PFun cx 150 [routePV x0, it .i64 x1] (bl r) := routes_may_N_ok hA _ _ _ _ h
theorem routes_Right_ok {A : Ar} (hA : A = std) {x0 : Route} {r : Bool} (h : routes_Right A x0 = some r) : PFun cx 60 [routePV x0] (bl r) := by
 refine wF hA cx_ok Tryz.func60 fun P R hP hR => ?_
 cbv; unfold routes_Right at h
 iterate 2 refine kj ?_
 obtain ⟨w1, hw1, h⟩ := bd_e h; refine kc hP (routes_may_ok hA hw1) ?_; cbv
 exact le h hR
theorem routes_Count_S_ok {A : Ar} (hA : A = std) {rf : Route → Option Int} {x0 : Route} (hqr61 : ∀ (x0 : Route) (r : Int), rf x0 = some r → PFun cx 61 [routePV x0] (it .i64 r)) {r : Int} (h : routes_Count_S A rf x0 = some r) : PFun cx 61 [routePV x0] (it .i64 r) := by
 refine wF hA cx_ok Tryz.func61 fun P R hP hR => ?_
 cbv; unfold routes_Count_S at h
 iterate 3 refine kj ?_
 refine kl h (fun x _ => [(3, it .i64 x.1), (9, it .i64 x.2)]) (fun x gh => [⟨1, 0, .box 27 [st x0.1, .d (.sl .matcher x0.2), .d (.sl .str x0.3), it .i64 x0.4, it .i64 x0.5, it .i64 x0.6, .d (.sl .str x0.7), bl x0.8, .d (.sl .route x0.9)]⟩]) [] ?_
 rintro ⟨n3, t9⟩ gh1 g1 _ _ _ hK1 hQ1 h; cbv
 refine kj ?_
 refine bc h (fun hb h => ?_) fun hb h => ?_
 ·cbv
  refine kj ?_
  refine kk h fun c1 h => ?_
  refine kj ?_
  obtain ⟨w2, hw2, h⟩ := bd_e h; refine kc hP (hqr61 _ _ hw2) ?_; cbv
  refine kj ?_
  cases h; exact hK1 _ _ [] rfl hdy
 ·cbv
  refine hQ1 _ h _ _ fun h => ?_; cbv
  refine kj ?_
  exact le h hR
theorem routes_Count_N_ok {A : Ar} (hA : A = std) : ∀ (n : Nat) (x0 : Route) (r : Int), routes_Count_N A n x0 = some r → PFun cx 61 [routePV x0] (it .i64 r)
 | 0, _, _, h => by cases h
 | n + 1, x0, r, h => routes_Count_S_ok hA (fun _ _ hh => routes_Count_N_ok hA n _ _ hh) h
theorem routes_Count_ok {A : Ar} (hA : A = std) {x0 : Route} {r : Int} (h : routes_Count A x0 = some r) : PFun cx 61 [routePV x0] (it .i64 r) := routes_Count_N_ok hA _ _ _ h
theorem routes_gather_string_1_S_ok {A : Ar} (hA : A = std) {rf : Route → (List ByteArray) → Option (List ByteArray)} {x0 : Route} {qc0 : Route → Option (List ByteArray)} {c1 : List ByteArray} {gc0 : Nat} {capc0 : List D} (hcapc0 : capOK capc0) (hqc0 : ∀ (y0 : Route) (r : List ByteArray), qc0 y0 = some r → PFun cx gc0 ((routePV y0) :: un.uns capc0) (.d (.sl TyS.str r))) (hqr242 : ∀ (x0 : Route) (c1 : List ByteArray) (r : List ByteArray), rf x0 c1 = some r → PFunM cx 242 [routePV x0, .ip [.fun (.func gc0) [] capc0], .bx 1000 0 0, .bx 1001 0 0] [⟨1000, 0, .box 24 [.os 1002 0 TyS.str c1]⟩, ⟨1001, 0, .box 231 [.fn (.func 242) [] [.ip [.fun (.func gc0) [] capc0], .bx 1000 0 0, .bx 1001 0 0]]⟩, ⟨1002, 0, .tok 9 TyS.str (A.nlen TyS.str c1)⟩] (.tu []) [⟨1000, 0, .box 24 [.os 2000 1 TyS.str r]⟩, ⟨1001, 0, .box 231 [.fn (.func 242) [] [.ip [.fun (.func gc0) [] capc0], .bx 1000 0 0, .bx 1001 0 0]]⟩, ⟨2000, 1, .tok 9 TyS.str (A.nlen TyS.str r)⟩]) {r : List ByteArray} (h : routes_gather_string_1_S A rf x0 qc0 c1 = some r) : PFunM cx 242 [routePV x0, .ip [.fun (.func gc0) [] capc0], .bx 1000 0 0, .bx 1001 0 0] [⟨1000, 0, .box 24 [.os 1002 0 TyS.str c1]⟩, ⟨1001, 0, .box 231 [.fn (.func 242) [] [.ip [.fun (.func gc0) [] capc0], .bx 1000 0 0, .bx 1001 0 0]]⟩, ⟨1002, 0, .tok 9 TyS.str (A.nlen TyS.str c1)⟩] (.tu []) [⟨1000, 0, .box 24 [.os 2000 1 TyS.str r]⟩, ⟨1001, 0, .box 231 [.fn (.func 242) [] [.ip [.fun (.func gc0) [] capc0], .bx 1000 0 0, .bx 1001 0 0]]⟩, ⟨2000, 1, .tok 9 TyS.str (A.nlen TyS.str r)⟩] := by
 rcases hcapc0 with rfl | ⟨dscapc0, rfl⟩
 ·refine PFunM.walkM (fz := fun _ => false) hA cx_ok Tryz.func242 rfl rfl fun P R hP hR => ?_
  cbv; unfold routes_gather_string_1_S at h
  iterate 2 refine kj ?_
  obtain ⟨w1, hw1, h⟩ := bd_e h; refine kc hP (hqc0 _ _ hw1) ?_; cbv
  refine kl h (fun x _ => [(13, it .i64 x.1)]) (fun x gh => [⟨4031, gh, .tok 9 TyS.str (A.nlen TyS.str x.2)⟩, ⟨4, 2, .box 27 [st x0.1, .d (.sl .matcher x0.2), .d (.sl .str x0.3), it .i64 x0.4, it .i64 x0.5, it .i64 x0.6, .d (.sl .str x0.7), bl x0.8, .d (.sl .route x0.9)]⟩, ⟨1000, 0, .box 24 [.os 4031 gh TyS.str x.2]⟩, ⟨1001, 0, .box 231 [PV.fn (Fn.func 242) [] [PV.ip [D.fun (Fn.func gc0) [] []], PV.bx 1000 0 0, PV.bx 1001 0 0]]⟩]) [(4031, 1002, 0)] ?_
  rintro ⟨t13, b0_1000⟩ gh1 g1 _ _ _ hK1 hQ1 h; cbv
  refine kj ?_
  refine bc h (fun hb h => ?_) fun hb h => ?_
  ·cbv
   refine kj ?_
   refine kk h fun c2 h => ?_
   refine kj ?_
   obtain ⟨w3, hw3, h⟩ := bd_e h; refine kc hP (slices_Contains_string_string_ok hA hw3) ?_; cbv
   refine bc h (fun hb h => ?_) fun hb h => ?_
   ·cbv
    refine kj ?_
    refine kk h fun c4 h => ?_
    refine kj ?_
    cases h; exact hK1 _ _ [(4031, 24, g1.succ.succ.succ)] rfl hdy
   ·cbv
    refine kj ?_
    cases h; exact hK1 _ _ [(4031, 4031, gh1)] rfl hdy
  ·cbv
   refine hQ1 _ h _ _ fun h => ?_; cbv
   refine kj ?_
   refine kl h (fun x _ => [(29, it .i64 x.1)]) (fun x gh => [⟨4061, gh, .tok 9 TyS.str (A.nlen TyS.str x.2)⟩, ⟨4, 2, .box 27 [st x0.1, .d (.sl .matcher x0.2), .d (.sl .str x0.3), it .i64 x0.4, it .i64 x0.5, it .i64 x0.6, .d (.sl .str x0.7), bl x0.8, .d (.sl .route x0.9)]⟩, ⟨1000, 0, .box 24 [.os 4061 gh TyS.str x.2]⟩, ⟨1001, 0, .box 231 [PV.fn (Fn.func 242) [] [PV.ip [D.fun (Fn.func gc0) [] []], PV.bx 1000 0 0, PV.bx 1001 0 0]]⟩]) [(4061, 4031, gh1)] ?_
   rintro ⟨t29, b0_1000'⟩ gh2 g2 _ _ _ hK2 hQ2 h; cbv
   refine kj ?_
   refine bc h (fun hb h => ?_) fun hb h => ?_
   ·cbv
    refine kj ?_
    refine kk h fun c5 h => ?_
    refine kj ?_
    obtain ⟨w6, hw6, h⟩ := bd_e h; refine km hP [(1000, 0), (1001, 0), (4061, gh2)] (hqr242 _ _ _ hw6) ?_; cbv
    refine kj ?_
    cases h; exact hK2 _ _ [(4061, 35, g2.succ.succ)] rfl hdy
   ·cbv
    refine hQ2 _ h _ _ fun h => ?_; cbv
    cases h
    refine hR _ _ ⟨[(4061, gh2)], ⟨by rfl, ez, by rfl, ez⟩⟩
 ·refine PFunM.walkM (fz := fun _ => false) hA cx_ok Tryz.func242 rfl rfl fun P R hP hR => ?_
  cbv; unfold routes_gather_string_1_S at h
  iterate 2 refine kj ?_
  obtain ⟨w1, hw1, h⟩ := bd_e h; refine kc hP (hqc0 _ _ hw1) ?_; cbv
  refine kl h (fun x _ => [(13, it .i64 x.1)]) (fun x gh => [⟨4031, gh, .tok 9 TyS.str (A.nlen TyS.str x.2)⟩, ⟨4, 2, .box 27 [st x0.1, .d (.sl .matcher x0.2), .d (.sl .str x0.3), it .i64 x0.4, it .i64 x0.5, it .i64 x0.6, .d (.sl .str x0.7), bl x0.8, .d (.sl .route x0.9)]⟩, ⟨1000, 0, .box 24 [.os 4031 gh TyS.str x.2]⟩, ⟨1001, 0, .box 231 [PV.fn (Fn.func 242) [] [PV.ip [D.fun (Fn.func gc0) [] [D.ptr dscapc0]], PV.bx 1000 0 0, PV.bx 1001 0 0]]⟩]) [(4031, 1002, 0)] ?_
  rintro ⟨t13, b0_1000⟩ gh1 g1 _ _ _ hK1 hQ1 h; cbv
  refine kj ?_
  refine bc h (fun hb h => ?_) fun hb h => ?_
  ·cbv
   refine kj ?_
   refine kk h fun c2 h => ?_
   refine kj ?_
   obtain ⟨w3, hw3, h⟩ := bd_e h; refine kc hP (slices_Contains_string_string_ok hA hw3) ?_; cbv
   refine bc h (fun hb h => ?_) fun hb h => ?_
   ·cbv
    refine kj ?_
    refine kk h fun c4 h => ?_
    refine kj ?_
    cases h; exact hK1 _ _ [(4031, 24, g1.succ.succ.succ)] rfl hdy
   ·cbv
    refine kj ?_
    cases h; exact hK1 _ _ [(4031, 4031, gh1)] rfl hdy
  ·cbv
   refine hQ1 _ h _ _ fun h => ?_; cbv
   refine kj ?_
   refine kl h (fun x _ => [(29, it .i64 x.1)]) (fun x gh => [⟨4061, gh, .tok 9 TyS.str (A.nlen TyS.str x.2)⟩, ⟨4, 2, .box 27 [st x0.1, .d (.sl .matcher x0.2), .d (.sl .str x0.3), it .i64 x0.4, it .i64 x0.5, it .i64 x0.6, .d (.sl .str x0.7), bl x0.8, .d (.sl .route x0.9)]⟩, ⟨1000, 0, .box 24 [.os 4061 gh TyS.str x.2]⟩, ⟨1001, 0, .box 231 [PV.fn (Fn.func 242) [] [PV.ip [D.fun (Fn.func gc0) [] [D.ptr dscapc0]], PV.bx 1000 0 0, PV.bx 1001 0 0]]⟩]) [(4061, 4031, gh1)] ?_
   rintro ⟨t29, b0_1000'⟩ gh2 g2 _ _ _ hK2 hQ2 h; cbv
   refine kj ?_
   refine bc h (fun hb h => ?_) fun hb h => ?_
   ·cbv
    refine kj ?_
    refine kk h fun c5 h => ?_
    refine kj ?_
    obtain ⟨w6, hw6, h⟩ := bd_e h; refine km hP [(1000, 0), (1001, 0), (4061, gh2)] (hqr242 _ _ _ hw6) ?_; cbv
    refine kj ?_
    cases h; exact hK2 _ _ [(4061, 35, g2.succ.succ)] rfl hdy
   ·cbv
    refine hQ2 _ h _ _ fun h => ?_; cbv
    cases h
    refine hR _ _ ⟨[(4061, gh2)], ⟨by rfl, ez, by rfl, ez⟩⟩
theorem routes_gather_string_1_N_ok {A : Ar} (hA : A = std) {qc0 : Route → Option (List ByteArray)} {gc0 : Nat} {capc0 : List D} (hcapc0 : capOK capc0) (hqc0 : ∀ (y0 : Route) (r : List ByteArray), qc0 y0 = some r → PFun cx gc0 ((routePV y0) :: un.uns capc0) (.d (.sl TyS.str r))) : ∀ (n : Nat) (x0 : Route) (c1 : List ByteArray) (r : List ByteArray), routes_gather_string_1_N A qc0 n x0 c1 = some r → PFunM cx 242 [routePV x0, .ip [.fun (.func gc0) [] capc0], .bx 1000 0 0, .bx 1001 0 0] [⟨1000, 0, .box 24 [.os 1002 0 TyS.str c1]⟩, ⟨1001, 0, .box 231 [.fn (.func 242) [] [.ip [.fun (.func gc0) [] capc0], .bx 1000 0 0, .bx 1001 0 0]]⟩, ⟨1002, 0, .tok 9 TyS.str (A.nlen TyS.str c1)⟩] (.tu []) [⟨1000, 0, .box 24 [.os 2000 1 TyS.str r]⟩, ⟨1001, 0, .box 231 [.fn (.func 242) [] [.ip [.fun (.func gc0) [] capc0], .bx 1000 0 0, .bx 1001 0 0]]⟩, ⟨2000, 1, .tok 9 TyS.str (A.nlen TyS.str r)⟩]
 | 0, _, _, _, h => by cases h
 | n + 1, x0, c1, r, h => routes_gather_string_1_S_ok hA hcapc0 hqc0 (fun _ _ _ hh => routes_gather_string_1_N_ok hA hcapc0 hqc0 n _ _ _ hh) h
theorem routes_gather_string_1_ok {A : Ar} (hA : A = std) {x0 : Route} {qc0 : Route → Option (List ByteArray)} {c1 : List ByteArray} {gc0 : Nat} {capc0 : List D} (hcapc0 : capOK capc0) (hqc0 : ∀ (y0 : Route) (r : List ByteArray), qc0 y0 = some r → PFun cx gc0 ((routePV y0) :: un.uns capc0) (.d (.sl TyS.str r))) {r : List ByteArray} (h : routes_gather_string_1 A x0 qc0 c1 = some r) : PFunM cx 242 [routePV x0, .ip [.fun (.func gc0) [] capc0], .bx 1000 0 0, .bx 1001 0 0] [⟨1000, 0, .box 24 [.os 1002 0 TyS.str c1]⟩, ⟨1001, 0, .box 231 [.fn (.func 242) [] [.ip [.fun (.func gc0) [] capc0], .bx 1000 0 0, .bx 1001 0 0]]⟩, ⟨1002, 0, .tok 9 TyS.str (A.nlen TyS.str c1)⟩] (.tu []) [⟨1000, 0, .box 24 [.os 2000 1 TyS.str r]⟩, ⟨1001, 0, .box 231 [.fn (.func 242) [] [.ip [.fun (.func gc0) [] capc0], .bx 1000 0 0, .bx 1001 0 0]]⟩, ⟨2000, 1, .tok 9 TyS.str (A.nlen TyS.str r)⟩] := routes_gather_string_1_N_ok hA hcapc0 hqc0 _ _ _ _ h
theorem routes_gather_string_ok {A : Ar} (hA : A = std) {x0 : Route} {q1 : Route → Option (List ByteArray)} {g1 : Nat} {cap1 : List D} (hcap1 : capOK cap1) (hq1 : ∀ (y0 : Route) (r : List ByteArray), q1 y0 = some r → PFun cx g1 ((routePV y0) :: un.uns cap1) (.d (.sl TyS.str r))) {r : List ByteArray} (h : routes_gather_string A x0 q1 = some r) : PFun cx 151 [routePV x0, .fn (.func g1) [] (un.uns cap1)] (.d (.sl TyS.str r)) := by
 rcases hcap1 with rfl | ⟨dscap1, rfl⟩
 ·refine PFun.walkF (fz := fun k => k == 3 || k == 131077) hA cx_ok Tryz.func151 rfl rfl rfl fun P R hP hR => ?_
  cbv; unfold routes_gather_string at h
  iterate 5 refine kj ?_
  obtain ⟨w1, hw1, h⟩ := bd_e h; refine km hP [(5, 1), (6, 2), (65541, 1)] (routes_gather_string_1_ok (capc0 := []) hA (by first | exact .inl rfl | exact .inr ⟨_, rfl⟩) hq1 hw1) ?_; cbv
  refine kj ?_
  cases h; subst hR; exact ey
 ·refine PFun.walkF (fz := fun k => k == 3 || k == 131077) hA cx_ok Tryz.func151 rfl rfl rfl fun P R hP hR => ?_
  cbv; unfold routes_gather_string at h
  iterate 5 refine kj ?_
  obtain ⟨w1, hw1, h⟩ := bd_e h; refine km hP [(5, 1), (6, 2), (65541, 1)] (routes_gather_string_1_ok (capc0 := [D.ptr dscap1]) hA (by first | exact .inl rfl | exact .inr ⟨_, rfl⟩) hq1 hw1) ?_; cbv
  refine kj ?_
  cases h; subst hR; exact ey
theorem routes_Names_1_ok {A : Ar} (hA : A = std) {x0 : Route} {r : List ByteArray} (h : routes_Names_1 A x0 = some r) : PFun cx 152 [routePV x0] (.d (.sl TyS.str r)) := by
 refine wF hA cx_ok Tryz.func152 fun P R hP hR => ?_
 cbv; unfold routes_Names_1 at h
 iterate 2 refine kj ?_
 cases h; subst hR; exact ey
theorem routes_Names_2_ok {A : Ar} (hA : A = std) {x0 : Route} {r : List ByteArray} (h : routes_Names_2 A x0 = some r) : PFun cx 153 [routePV x0] (.d (.sl TyS.str r)) := by
 refine wF hA cx_ok Tryz.func153 fun P R hP hR => ?_
 cbv; unfold routes_Names_2 at h
 iterate 2 refine kj ?_
 cases h; subst hR; exact ey
theorem routes_Names_ok {A : Ar} (hA : A = std) {x0 : Route} {r : (List ByteArray) × (List ByteArray)} (h : routes_Names A x0 = some r) : PFun cx 62 [routePV x0] (.tu [.d (.sl TyS.str r.1), .d (.sl TyS.str r.2)]) := by
 refine wF hA cx_ok Tryz.func62 fun P R hP hR => ?_
 cbv; unfold routes_Names at h
 iterate 2 refine kj ?_
 obtain ⟨w1, hw1, h⟩ := bd_e h; refine ke hP (routes_gather_string_ok (cap1 := []) hA (by first | exact .inl rfl | exact .inr ⟨_, rfl⟩) (fun _ _ hw => routes_Names_1_ok hA hw) hw1) ?_; cbv
 refine kj ?_
 obtain ⟨w2, hw2, h⟩ := bd_e h; refine ke hP (routes_gather_string_ok (cap1 := []) hA (by first | exact .inl rfl | exact .inr ⟨_, rfl⟩) (fun _ _ hw => routes_Names_2_ok hA hw) hw2) ?_; cbv
 cases h; subst hR; exact ey
theorem config_Right_1_1_ok {A : Ar} (hA : A = std) {x0 : Hours} {c0 : ByteArray} {r : Bool} (h : config_Right_1_1 A x0 c0 = some r) : PFun cx 65 [hoursPV x0, .ip [.v (.string c0)]] (bl r) := by
 refine wF hA cx_ok Tryz.func65 fun P R hP hR => ?_
 cbv; unfold config_Right_1_1 at h
 iterate 2 refine kj ?_
 exact le h hR
theorem config_Right_1_ok {A : Ar} (hA : A = std) {x0 : ByteArray} {c0 : Config} {r : Bool} (h : config_Right_1 A x0 c0 = some r) : PFun cx 63 [st x0, .ip [.sl TyS.rule c0.Rules, .v (.string c0.Route.Receiver), .sl TyS.matcher c0.Route.Match, .sl TyS.str c0.Route.By, .v (.int .i64 c0.Route.Wait), .v (.int .i64 c0.Route.Every), .v (.int .i64 c0.Route.Repeat), .sl TyS.str c0.Route.Mute, .v (.bool c0.Route.On), .sl TyS.route c0.Route.Routes, .sl TyS.str c0.Receivers, .sl TyS.inhibit c0.Inhibits, .sl TyS.hours c0.Hours]] (bl r) := by
 refine PFun.walkF (fz := fun k => k == 2) hA cx_ok Tryz.func63 rfl rfl rfl fun P R hP hR => ?_
 cbv; unfold config_Right_1 at h
 iterate 2 refine kj ?_
 obtain ⟨w1, hw1, h⟩ := bd_e h; refine kc hP (slices_ContainsFunc_Hours_Hours_ok hA (by rfl) (fun _ _ hw => config_Right_1_1_ok hA hw) hw1) ?_; cbv
 exact le h hR
theorem config_Right_2_ok {A : Ar} (hA : A = std) {x0 : ByteArray} {c0 : Config} {r : Bool} (h : config_Right_2 A x0 c0 = some r) : PFun cx 66 [st x0, .ip [.sl TyS.rule c0.Rules, .v (.string c0.Route.Receiver), .sl TyS.matcher c0.Route.Match, .sl TyS.str c0.Route.By, .v (.int .i64 c0.Route.Wait), .v (.int .i64 c0.Route.Every), .v (.int .i64 c0.Route.Repeat), .sl TyS.str c0.Route.Mute, .v (.bool c0.Route.On), .sl TyS.route c0.Route.Routes, .sl TyS.str c0.Receivers, .sl TyS.inhibit c0.Inhibits, .sl TyS.hours c0.Hours]] (bl r) := by
 refine wF hA cx_ok Tryz.func66 fun P R hP hR => ?_
 cbv; unfold config_Right_2 at h
 iterate 2 refine kj ?_
 obtain ⟨w1, hw1, h⟩ := bd_e h; refine kc hP (slices_Contains_string_string_ok hA hw1) ?_; cbv
 exact le h hR
theorem config_Right_ok {A : Ar} (hA : A = std) {x0 : Config} {r : Bool} (h : config_Right A x0 = some r) : PFun cx 16 [configPV x0] (bl r) := by
 refine PFun.walkF (fz := fun k => k == 1) hA cx_ok Tryz.func16 rfl rfl rfl fun P R hP hR => ?_
 cbv; unfold config_Right at h
 iterate 2 refine kj ?_
 obtain ⟨w1, hw1, h⟩ := bd_e h; refine ke hP (config_all_Rule_ok (cap2 := []) hA (by first | exact .inl rfl | exact .inr ⟨_, rfl⟩) (fun _ _ hw => rules_Right_ok hA hw) hw1) ?_; cbv
 iterate 2 refine cj ?_
 obtain ⟨w2, hw2, h⟩ := bd_e h; refine kf hP (fun hc => (config_all_string_ok (cap2 := []) hA (by first | exact .inl rfl | exact .inr ⟨_, rfl⟩) (fun _ _ hw => config_word_ok hA hw) (gd_e hw2 hc))) ?_; cbv
 iterate 3 refine cj ?_
 obtain ⟨w3, hw3, h⟩ := bd_e h; refine kf hP (fun hc => (config_all_Inhibit_ok (cap2 := []) hA (by first | exact .inl rfl | exact .inr ⟨_, rfl⟩) (fun _ _ hw => config_inhibits_ok hA hw) (gd_e hw3 hc))) ?_; cbv
 iterate 3 refine cj ?_
 obtain ⟨w4, hw4, h⟩ := bd_e h; refine kf hP (fun hc => (config_all_Hours_ok (cap2 := []) hA (by first | exact .inl rfl | exact .inr ⟨_, rfl⟩) (fun _ _ hw => hours_Right_ok hA hw) (gd_e hw4 hc))) ?_; cbv
 refine cj ?_
 refine kj ?_
 iterate 2 refine cj ?_
 obtain ⟨w5, hw5, h⟩ := bd_e h; refine kf hP (fun hc => (config_unique_Rule_ok hA (by rfl) (fun _ _ hw => config_ruled_ok hA hw) (gd_e hw5 hc))) ?_; cbv
 iterate 4 refine cj ?_
 obtain ⟨w6, hw6, h⟩ := bd_e h; refine kf hP (fun hc => (config_unique_string_ok hA (by rfl) (fun _ _ hw => config_itself_ok hA hw) (gd_e hw6 hc))) ?_; cbv
 iterate 4 refine cj ?_
 obtain ⟨w7, hw7, h⟩ := bd_e h; refine kf hP (fun hc => (config_unique_Hours_ok hA (by rfl) (fun _ _ hw => config_houred_ok hA hw) (gd_e hw7 hc))) ?_; cbv
 iterate 2 refine cj ?_
 refine bc h (fun hb h => ?_) fun hb h => ?_
 ·cbv
  refine kj ?_
  exact le h hR
 ·cbv
  refine kj ?_
  obtain ⟨w8, hw8, h⟩ := bd_e h; refine kc hP (routes_Right_ok hA hw8) ?_; cbv
  iterate 10 refine cj ?_
  obtain ⟨w9, hw9, h⟩ := bd_e h; refine kg hP (fun hc => (routes_Count_ok hA (gd_e hw9 hc))) ?_; cbv
  iterate 2 refine cj ?_
  refine bc h (fun hb h => ?_) fun hb h => ?_
  ·cbv
   refine kj ?_
   exact le h hR
  ·cbv
   refine kj ?_
   obtain ⟨w10, hw10, h⟩ := bd_e h; refine kc hP (routes_Names_ok hA hw10) ?_; cbv
   iterate 2 refine kj ?_
   obtain ⟨w11, hw11, h⟩ := bd_e h; refine kc hP (config_all_string_ok (cap2 := [D.ptr [D.sl TyS.rule x0.1, D.v (Value.string x0.2.1), D.sl TyS.matcher x0.2.2, D.sl TyS.str x0.2.3, D.v (Value.int .i64 x0.2.4), D.v (Value.int .i64 x0.2.5), D.v (Value.int .i64 x0.2.6), D.sl TyS.str x0.2.7, D.v (Value.bool x0.2.8), D.sl TyS.route x0.2.9, D.sl TyS.str x0.3, D.sl TyS.inhibit x0.4, D.sl TyS.hours x0.5]]) hA (by first | exact .inl rfl | exact .inr ⟨_, rfl⟩) (fun _ _ hw => config_Right_2_ok hA hw) hw11) ?_; cbv
   iterate 2 refine cj ?_
   obtain ⟨w12, hw12, h⟩ := bd_e h; refine kg hP (fun hc => (config_all_string_ok (cap2 := [D.ptr [D.sl TyS.rule x0.1, D.v (Value.string x0.2.1), D.sl TyS.matcher x0.2.2, D.sl TyS.str x0.2.3, D.v (Value.int .i64 x0.2.4), D.v (Value.int .i64 x0.2.5), D.v (Value.int .i64 x0.2.6), D.sl TyS.str x0.2.7, D.v (Value.bool x0.2.8), D.sl TyS.route x0.2.9, D.sl TyS.str x0.3, D.sl TyS.inhibit x0.4, D.sl TyS.hours x0.5]]) hA (by first | exact .inl rfl | exact .inr ⟨_, rfl⟩) (fun _ _ hw => config_Right_1_ok hA hw) (gd_e hw12 hc))) ?_; cbv
   refine cj ?_
   exact le h hR
theorem amfile_flat_1_ok {A : Ar} (hA : A = std) {rf : Route → Int → Option Bool} {x0 : Route} {c0 : Int} (hqr117 : ∀ (x0 : Route) (x1 : Int) (r : Bool), rf x0 x1 = some r → PFun cx 117 [routePV x0, it .i64 x1] (bl r)) {r : Bool} (h : amfile_flat_1 A rf x0 c0 = some r) : PFun cx 195 [routePV x0, .ip [.v (.int .i64 c0)]] (bl r) := by
 refine wF hA cx_ok Tryz.func195 fun P R hP hR => ?_
 cbv; unfold amfile_flat_1 at h
 iterate 2 refine kj ?_
 obtain ⟨w1, hw1, h⟩ := bd_e h; refine kc hP (hqr117 _ _ _ hw1) ?_; cbv
 exact le h hR
theorem amfile_flat_S_ok {A : Ar} (hA : A = std) {rf : Route → Int → Option Bool} {x0 : Route} {x1 : Int} (hqr117 : ∀ (x0 : Route) (x1 : Int) (r : Bool), rf x0 x1 = some r → PFun cx 117 [routePV x0, it .i64 x1] (bl r)) {r : Bool} (h : amfile_flat_S A rf x0 x1 = some r) : PFun cx 117 [routePV x0, it .i64 x1] (bl r) := by
 refine PFun.walkF (fz := fun k => k == 3) hA cx_ok Tryz.func117 rfl rfl rfl fun P R hP hR => ?_
 cbv; unfold amfile_flat_S at h
 iterate 2 refine kj ?_
 iterate 3 refine cj ?_
 obtain ⟨w1, hw1, h⟩ := bd_e h; refine kg hP (fun hc => (amfile_short_ok hA (gd_e hw1 hc))) ?_; cbv
 iterate 5 refine cj ?_
 obtain ⟨w2, hw2, h⟩ := bd_e h; refine kg hP (fun hc => (slices_ContainsFunc_Route_Route_ok hA (by rfl) (fun _ _ hw => amfile_flat_1_ok hA hqr117 hw) (gd_e hw2 hc))) ?_; cbv
 iterate 2 refine cj ?_
 exact le h hR
theorem amfile_flat_N_ok {A : Ar} (hA : A = std) : ∀ (n : Nat) (x0 : Route) (x1 : Int) (r : Bool), amfile_flat_N A n x0 x1 = some r → PFun cx 117 [routePV x0, it .i64 x1] (bl r)
 | 0, _, _, _, h => by cases h
 | n + 1, x0, x1, r, h => amfile_flat_S_ok hA (fun _ _ _ hh => amfile_flat_N_ok hA n _ _ _ hh) h
theorem amfile_flat_ok {A : Ar} (hA : A = std) {x0 : Route} {x1 : Int} {r : Bool} (h : amfile_flat A x0 x1 = some r) : PFun cx 117 [routePV x0, it .i64 x1] (bl r) := amfile_flat_N_ok hA _ _ _ _ h
theorem amfile_Holds_ok {A : Ar} (hA : A = std) {x0 : Config} {r : Bool} (h : amfile_Holds A x0 = some r) : PFun cx 34 [configPV x0] (bl r) := by
 refine wF hA cx_ok Tryz.func34 fun P R hP hR => ?_
 cbv; unfold amfile_Holds at h
 iterate 3 refine kj ?_
 obtain ⟨w1, hw1, h⟩ := bd_e h; refine kc hP (amfile_bare_ok hA hw1) ?_; cbv
 obtain ⟨w2, hw2, h⟩ := bd_e h; refine kc hP (config_Right_ok hA hw2) ?_; cbv
 iterate 3 refine cj ?_
 obtain ⟨w3, hw3, h⟩ := bd_e h; refine kg hP (fun hc => (amfile_flat_ok hA (gd_e hw3 hc))) ?_; cbv
 iterate 5 refine cj ?_
 obtain ⟨w4, hw4, h⟩ := bd_e h; refine kf hP (fun hc => (slices_ContainsFunc_Inhibit_Inhibit_ok hA (by rfl) (fun _ _ hw => amfile_Holds_1_ok hA hw) (gd_e hw4 hc))) ?_; cbv
 iterate 2 refine cj ?_
 exact le h hR
theorem frame_Number_ok {A : Ar} (hA : A = std) {x0 : Int} {r : ByteArray × Int} (h : frame_Number A x0 = some r) : PFun cx 221 [it .i64 x0] (.tu [st r.1, it .i64 r.2]) := by
 refine wF hA cx_ok Tryz.func221 fun P R hP hR => ?_
 cbv; unfold frame_Number at h
 iterate 2 refine kj ?_
 iterate 2 refine cj ?_
 refine bc h (fun hb h => ?_) fun hb h => ?_
 ·cbv
  refine kj ?_
  cases h; subst hR; exact ey
 ·cbv
  refine kj ?_
  refine kl h (fun x gh => [(0, it .i64 x.1), (4, .os 4031 gh TyS.byte x.2)]) (fun x gh => [⟨4031, gh, .tok 5 TyS.byte (A.nlen TyS.byte x.2)⟩]) [] ?_
  rintro ⟨n0, out4⟩ gh1 g1 _ _ _ hK1 hQ1 h; cbv
  refine kj ?_
  refine bc h (fun hb h => ?_) fun hb h => ?_
  ·cbv
   refine kj ?_
   refine ⟨by subst hA; simp +contextual [vcm], ?_⟩
   refine and_assoc.2 ?_
   refine kk h fun c1 h => ?_
   refine cj ?_
   refine kk h fun c2 h => ?_
   refine kj ?_
   refine ⟨by subst hA; simp +contextual [vcm], ?_⟩
   cases h; exact hK1 _ _ [(4031, 21, g1.succ)] rfl hdy
  ·cbv
   refine hQ1 _ h _ _ fun h => ?_; cbv
   refine kj ?_
   refine and_assoc.2 ?_
   refine kk h fun c3 h => ?_
   refine cj ?_
   refine kk h fun c4 h => ?_
   cases h; subst hR; exact ey
theorem strings_Builder_copyCheck_1_ok {A : Ar} (hA : A = std) {x0 : List UInt8} {r : List UInt8} (h : strings_Builder_copyCheck_1 A x0 = some r) : PFunM cx 225 [.bx 1000 0 0] [⟨1000, 0, .box 147 [.d (.v (.pointer none)), .os 1001 0 TyS.byte x0]⟩, ⟨1001, 0, .tok 5 TyS.byte (A.nlen TyS.byte x0)⟩] (.tu []) [⟨1000, 0, .box 147 [.np 1000 0, .os 2000 1 TyS.byte r]⟩, ⟨2000, 1, .tok 5 TyS.byte (A.nlen TyS.byte r)⟩] := by
 refine PFunM.walkM (fz := fun _ => false) hA cx_ok Tryz.func225 rfl rfl fun P R hP hR => ?_
 cbv; unfold strings_Builder_copyCheck_1 at h
 iterate 2 refine kj ?_
 obtain ⟨w1, hw1, h⟩ := bd_e h; refine km hP [(1000, 0), (1001, 0)] (abi_NoEscape_ok hA hw1) ?_; cbv
 cases h
 refine hR _ _ ⟨[(1001, 0)], ⟨by rfl, ez, by rfl, ez⟩⟩
theorem strings_Builder_copyCheck_2_ok {A : Ar} (hA : A = std) {x0 : List UInt8} {r : List UInt8} (h : strings_Builder_copyCheck_2 A x0 = some r) : PFunM cx 225 [.bx 1000 0 0] [⟨1000, 0, .box 147 [.bx 1000 0 0, .os 1001 0 TyS.byte x0]⟩, ⟨1001, 0, .tok 5 TyS.byte (A.nlen TyS.byte x0)⟩] (.tu []) [⟨1000, 0, .box 147 [.np 1000 0, .os 2000 1 TyS.byte r]⟩, ⟨2000, 1, .tok 5 TyS.byte (A.nlen TyS.byte r)⟩] := by
 refine PFunM.walkM (fz := fun _ => false) hA cx_ok Tryz.func225 rfl rfl fun P R hP hR => ?_
 cbv; unfold strings_Builder_copyCheck_2 at h
 iterate 2 refine kj ?_
 cases h
 refine hR _ _ ⟨[(1001, 0)], ⟨by rfl, ez, by rfl, ez⟩⟩
theorem strings_Builder_copyCheck_ok {A : Ar} (hA : A = std) {x0 : List UInt8} {r : List UInt8} (h : strings_Builder_copyCheck A x0 = some r) : PFunM cx 225 [.bx 1000 0 0] [⟨1000, 0, .box 147 [.np 1000 0, .os 1001 0 TyS.byte x0]⟩, ⟨1001, 0, .tok 5 TyS.byte (A.nlen TyS.byte x0)⟩] (.tu []) [⟨1000, 0, .box 147 [.np 1000 0, .os 2000 1 TyS.byte r]⟩, ⟨2000, 1, .tok 5 TyS.byte (A.nlen TyS.byte r)⟩] := by
 unfold strings_Builder_copyCheck at h
 obtain ⟨a, h1, h⟩ := bd_e h
 obtain ⟨b, h2, h⟩ := bd_e h
 obtain ⟨e, h⟩ := ck_e h
 cases h; subst e
 exact PFunM.np (strings_Builder_copyCheck_1_ok hA h1) (strings_Builder_copyCheck_2_ok hA h2)
theorem strings_Builder_WriteString_ok {A : Ar} (hA : A = std) {x0 : List UInt8} {x1 : ByteArray} {r : List UInt8} (h : strings_Builder_WriteString A x0 x1 = some r) : PFunM cx 168 [.bx 1000 0 0, st x1] [⟨1000, 0, .box 147 [.np 1000 0, .os 1001 0 TyS.byte x0]⟩, ⟨1001, 0, .tok 5 TyS.byte (A.nlen TyS.byte x0)⟩] (.tu [it .i64 (A.slen x1), .d (.v .nilIface)]) [⟨1000, 0, .box 147 [.np 1000 0, .os 2000 1 TyS.byte r]⟩, ⟨2000, 1, .tok 5 TyS.byte (A.nlen TyS.byte r)⟩] := by
 refine PFunM.walkM (fz := fun _ => false) hA cx_ok Tryz.func168 rfl rfl fun P R hP hR => ?_
 cbv; unfold strings_Builder_WriteString at h
 iterate 2 refine kj ?_
 obtain ⟨w1, hw1, h⟩ := bd_e h; refine km hP [(1000, 0), (1001, 0)] (strings_Builder_copyCheck_ok hA hw1) ?_; cbv
 refine kj ?_
 refine kk h fun c2 h => ?_
 refine kj ?_
 cases h
 refine hR _ _ ⟨[(14, 4)], ⟨by rfl, ez, by rfl, ez⟩⟩
theorem frame_Bind_ok {A : Ar} (hA : A = std) {x0 : List ByteArray} {r : ByteArray × Int} (h : frame_Bind A x0 = some r) : PFun cx 220 [.d (.sl TyS.str x0)] (.tu [st r.1, it .i64 r.2]) := by
 refine PFun.walkF (fz := fun k => k == 131076) hA cx_ok Tryz.func220 rfl rfl rfl fun P R hP hR => ?_
 cbv; unfold frame_Bind at h
 iterate 2 refine kj ?_
 refine bc h (fun hb h => ?_) fun hb h => ?_
 ·cbv
  refine kj ?_
  cases h; subst hR; exact ey
 ·cbv
  iterate 2 refine kj ?_
  refine kl h (fun x _ => [(14, it .i64 x.1)]) (fun x gh => [⟨4031, gh, .tok 5 TyS.byte (A.nlen TyS.byte x.2)⟩, ⟨4, 2, .box 147 [PV.np 4 2, .os 4031 gh TyS.byte x.2]⟩]) [(4031, 65540, 2)] ?_
  rintro ⟨t14, b1_4⟩ gh1 g1 _ _ _ hK1 hQ1 h; cbv
  refine kj ?_
  refine bc h (fun hb h => ?_) fun hb h => ?_
  ·cbv
   refine kj ?_
   refine kk h fun c1 h => ?_
   refine kj ?_
   refine bc h (fun hb h => ?_) fun hb h => ?_
   ·cbv
    refine kj ?_
    refine hQ1 _ h _ _ fun h => ?_; cbv
    cases h; subst hR; exact ey
   ·cbv
    refine kj ?_
    obtain ⟨w2, hw2, h⟩ := bd_e h; refine kc hP (frame_Number_ok hA hw2) ?_; cbv
    refine kj ?_
    obtain ⟨w3, hw3, h⟩ := bd_e h; refine km hP [(4, 2), (4031, gh1)] (strings_Builder_WriteString_ok hA hw3) ?_; cbv
    refine kj ?_
    obtain ⟨w4, hw4, h⟩ := bd_e h; refine km hP [(4, 2), (28, g1.succ.succ.succ.succ)] (strings_Builder_WriteString_ok hA hw4) ?_; cbv
    refine kj ?_
    cases h; exact hK1 _ _ [(4031, 30, g1.succ.succ.succ.succ.succ)] rfl hdy
  ·cbv
   refine hQ1 _ h _ _ fun h => ?_; cbv
   refine kj ?_
   obtain ⟨w5, hw5, h⟩ := bd_e h; refine km hP [(4, 2), (4031, gh1)] (strings_Builder_String_ok hA hw5) ?_; cbv
   cases h; subst hR; exact ey
theorem config_bind_ok {A : Ar} (hA : A = std) {x0 : Bool} {x1 : List ByteArray} {r : ByteArray × Bool} (h : config_bind A x0 x1 = some r) : PFunM cx 131 [.bx 1000 0 0, .d (.sl TyS.str x1)] [⟨1000, 0, .box 4 [bl x0]⟩] (st r.1) [⟨1000, 0, .box 4 [bl r.2]⟩] := by
 refine PFunM.walkM (fz := fun _ => false) hA cx_ok Tryz.func131 rfl rfl fun P R hP hR => ?_
 cbv; unfold config_bind at h
 iterate 2 refine kj ?_
 obtain ⟨w1, hw1, h⟩ := bd_e h; refine kc hP (frame_Bind_ok hA hw1) ?_; cbv
 refine kj ?_
 iterate 2 refine cj ?_
 refine kj ?_
 cases h
 refine hR _ _ ⟨[], ⟨by rfl, ez, by rfl, ez⟩⟩
theorem config_matchers_ok {A : Ar} (hA : A = std) {x0 : Bool} {x1 : List Matcher} {r : ByteArray × Bool} (h : config_matchers A x0 x1 = some r) : PFunM cx 219 [.bx 1000 0 0, .d (.sl TyS.matcher x1)] [⟨1000, 0, .box 4 [bl x0]⟩] (st r.1) [⟨1000, 0, .box 4 [bl r.2]⟩] := by
 refine PFunM.walkM (fz := fun _ => false) hA cx_ok Tryz.func219 rfl rfl fun P R hP hR => ?_
 cbv; unfold config_matchers at h
 iterate 3 refine kj ?_
 refine kl h (fun x gh => [(5, .os 4030 gh TyS.str x.1), (12, it .i64 x.2)]) (fun x gh => [⟨4030, gh, .tok 9 TyS.str (A.nlen TyS.str x.1)⟩, ⟨1000, 0, .box 4 [bl x0]⟩]) [] ?_
 rintro ⟨out5, t12⟩ gh1 g1 _ _ _ hK1 hQ1 h; cbv
 refine kj ?_
 refine bc h (fun hb h => ?_) fun hb h => ?_
 ·cbv
  refine kj ?_
  refine kk h fun c1 h => ?_
  refine kj ?_
  obtain ⟨w2, hw2, h⟩ := bd_e h; refine kc hP (matcher_Text_ok hA hw2) ?_; cbv
  refine kj ?_
  refine kk h fun c3 h => ?_
  refine kj ?_
  cases h; exact hK1 _ _ [(4030, 24, g1.succ.succ.succ)] rfl hdy
 ·cbv
  refine hQ1 _ h _ _ fun h => ?_; cbv
  refine kj ?_
  obtain ⟨w4, hw4, h⟩ := bd_e h; refine km hP [(1000, 0)] (config_bind_ok hA hw4) ?_; cbv
  cases h
  refine hR _ _ ⟨[], ⟨by rfl, ez, by rfl, ez⟩⟩
theorem config_inhibit_ok {A : Ar} (hA : A = std) {x0 : Bool} {x1 : Inhibit} {r : ByteArray × Bool} (h : config_inhibit A x0 x1 = some r) : PFunM cx 130 [.bx 1000 0 0, inhibitPV x1] [⟨1000, 0, .box 4 [bl x0]⟩] (st r.1) [⟨1000, 0, .box 4 [bl r.2]⟩] := by
 refine PFunM.walkM (fz := fun _ => false) hA cx_ok Tryz.func130 rfl rfl fun P R hP hR => ?_
 cbv; unfold config_inhibit at h
 iterate 2 refine kj ?_
 obtain ⟨w1, hw1, h⟩ := bd_e h; refine km hP [(1000, 0)] (config_matchers_ok hA hw1) ?_; cbv
 obtain ⟨w2, hw2, h⟩ := bd_e h; refine km hP [(1000, 0)] (config_matchers_ok hA hw2) ?_; cbv
 obtain ⟨w3, hw3, h⟩ := bd_e h; refine km hP [(1000, 0)] (config_bind_ok hA hw3) ?_; cbv
 obtain ⟨w4, hw4, h⟩ := bd_e h; refine km hP [(1000, 0)] (config_bind_ok hA hw4) ?_; cbv
 refine kj ?_
 cases h
 refine hR _ _ ⟨[], ⟨by rfl, ez, by rfl, ez⟩⟩
theorem config_Normal_1_ok {A : Ar} (hA : A = std) {x0 : Inhibit} {c0 : Bool} {r : ByteArray × Bool} (h : config_Normal_1 A x0 c0 = some r) : PFunM cx 156 [inhibitPV x0, .bx 1000 0 0] [⟨1000, 0, .box 4 [bl c0]⟩] (st r.1) [⟨1000, 0, .box 4 [bl r.2]⟩] := by
 refine PFunM.walkM (fz := fun _ => false) hA cx_ok Tryz.func156 rfl rfl fun P R hP hR => ?_
 cbv; unfold config_Normal_1 at h
 iterate 2 refine kj ?_
 obtain ⟨w1, hw1, h⟩ := bd_e h; refine km hP [(1000, 0)] (config_inhibit_ok hA hw1) ?_; cbv
 cases h
 refine hR _ _ ⟨[], ⟨by rfl, ez, by rfl, ez⟩⟩
theorem slices_Clone_Rule_Rule_ok {A : Ar} (hA : A = std) {x0 : List Rule} {r : Int × List Rule} (h : slices_Clone_Rule_Rule A x0 = some r) : PFunM cx 243 [.d (.sl TyS.rule x0)] [] (.ms 2000 1 TyS.rule 0 r.1) [⟨2000, 1, .arr 36 TyS.rule r.2⟩] := by
 refine PFunM.walkM (fz := fun k => k == 65541 || k == 65543 || k == 65538 || k == 65538 || k == 65538) hA cx_ok Tryz.func243 rfl rfl fun P R hP hR => ?_
 cbv; unfold slices_Clone_Rule_Rule at h
 iterate 2 refine kj ?_
 obtain ⟨h1, h2⟩ := both_e h
 refine ⟨fun hc => ?_, ?_⟩
 ·have h := h1 hc
  clear h1 h2
  cbv
  refine kj ?_
  cases h
  refine hR _ _ ⟨[(2, 4)], ⟨by rfl, ez, by rfl, ez⟩⟩
 ·have h := h2
  clear h1 h2
  refine kj ?_
  refine kk h fun c1 h => ?_
  cases h
  refine hR _ _ ⟨[(7, 4)], ⟨by rfl, ez, by rfl, ez⟩⟩
theorem config_sorted_Rule_1_ok {A : Ar} (hA : A = std) {x0 : Rule} {x1 : Rule} {qc0 : Rule → Option ByteArray} {gc0 : Nat} {capc0 : List D} (hcapc0 : capOK capc0) (hqc0 : ∀ (y0 : Rule) (r : ByteArray), qc0 y0 = some r → PFun cx gc0 ((rulePV y0) :: un.uns capc0) (st r)) {r : Int} (h : config_sorted_Rule_1 A x0 x1 qc0 = some r) : PFun cx 245 [rulePV x0, rulePV x1, .ip [.fun (.func gc0) [] capc0]] (it .i64 r) := by
 rcases hcapc0 with rfl | ⟨dscapc0, rfl⟩
 all_goals
  refine wF hA cx_ok Tryz.func245 fun P R hP hR => ?_
  cbv; unfold config_sorted_Rule_1 at h
  iterate 2 refine kj ?_
  obtain ⟨w1, hw1, h⟩ := bd_e h; refine kc hP (hqc0 _ _ hw1) ?_; cbv
  obtain ⟨w2, hw2, h⟩ := bd_e h; refine kc hP (hqc0 _ _ hw2) ?_; cbv
  obtain ⟨w3, hw3, h⟩ := bd_e h; refine kc hP (strings_Compare_ok hA hw3) ?_; cbv
  refine kj ?_
  exact le h hR
theorem slices_insertionSortCmpFunc_Rule_ok {A : Ar} (hA : A = std) {x0 : List Rule} {n0 : Int} {x1 : Int} {x2 : Int} {q3 : Rule → Rule → Option Int} {g3 : Nat} {cap3 : List D} (hcap3 : capOK cap3) (hq3 : ∀ (y0 : Rule) (y1 : Rule) (r : Int), q3 y0 y1 = some r → PFun cx g3 ((rulePV y0) :: (rulePV y1) :: un.uns cap3) (it .i64 r)) {r : List Rule} (h : slices_insertionSortCmpFunc_Rule A x0 n0 x1 x2 q3 = some r) : PFunM cx 340 [.ms 1000 0 TyS.rule 0 n0, it .i64 x1, it .i64 x2, .fn (.func g3) [] (un.uns cap3)] [⟨1000, 0, .arr 36 TyS.rule x0⟩] (.tu []) [⟨1000, 0, .arr 36 TyS.rule r⟩] := by
 rcases hcap3 with rfl | ⟨dscap3, rfl⟩
 all_goals
  refine PFunM.walkM (fz := fun _ => false) hA cx_ok Tryz.func340 rfl rfl fun P R hP hR => ?_
  cbv; unfold slices_insertionSortCmpFunc_Rule at h
  refine kj ?_
  refine kl h (fun x _ => [(8, it .i64 x.1)]) (fun x gh => [⟨1000, 0, .arr 36 TyS.rule x.2⟩]) [] ?_
  rintro ⟨i8, row1000⟩ gh1 g1 _ _ _ hK1 hQ1 h; cbv
  refine kj ?_
  refine bc h (fun hb h => ?_) fun hb h => ?_
  ·cbv
   refine kj ?_
   refine kl h (fun x _ => [(9, it .i64 x.1)]) (fun x gh => [⟨1000, 0, .arr 36 TyS.rule x.2⟩]) [] ?_
   rintro ⟨j9, row1000'⟩ gh2 g2 _ _ _ hK2 hQ2 h; cbv
   refine kj ?_
   iterate 2 refine cj ?_
   refine kk h fun c1 h => ?_
   iterate 2 refine cj ?_
   refine kk h fun c2 h => ?_
   iterate 3 refine cj ?_
   refine kk h fun c3 h => ?_
   iterate 2 refine cj ?_
   refine kk h fun c4 h => ?_
   iterate 3 refine cj ?_
   obtain ⟨w5, hw5, h⟩ := bd_e h; refine kg hP (fun hc => (hq3 _ _ _ (gd_e hw5 hc))) ?_; cbv
   iterate 2 refine cj ?_
   refine kj ?_
   refine bc h (fun hb h => ?_) fun hb h => ?_
   ·cbv
    refine kj ?_
    refine kk h fun c6 h => ?_
    refine kk h fun c7 h => ?_
    refine kk h fun c8 h => ?_
    refine kk h fun c9 h => ?_
    refine ⟨c8, ?_⟩
    refine ⟨c9, ?_⟩
    refine ⟨c6, ?_⟩
    refine kk h fun c10 h => ?_
    iterate 2 refine kj ?_
    cases h; exact hK2 _ _ [] rfl hdy
   ·cbv
    refine hQ2 _ h _ _ fun h => ?_; cbv
    refine kj ?_
    cases h; exact hK1 _ _ [] rfl hdy
  ·cbv
   refine hQ1 _ h _ _ fun h => ?_; cbv
   cases h
   refine hR _ _ ⟨[], ⟨by rfl, ez, by rfl, ez⟩⟩
theorem slices_stableCmpFunc_Rule_ok {A : Ar} (hA : A = std) {x0 : List Rule} {n0 : Int} {x1 : Int} {q2 : Rule → Rule → Option Int} {g2 : Nat} {cap2 : List D} (hcap2 : capOK cap2) (hq2 : ∀ (y0 : Rule) (y1 : Rule) (r : Int), q2 y0 y1 = some r → PFun cx g2 ((rulePV y0) :: (rulePV y1) :: un.uns cap2) (it .i64 r)) {r : List Rule} (h : slices_stableCmpFunc_Rule A x0 n0 x1 q2 = some r) : PFunM cx 306 [.ms 1000 0 TyS.rule 0 n0, it .i64 x1, .fn (.func g2) [] (un.uns cap2)] [⟨1000, 0, .arr 36 TyS.rule x0⟩] (.tu []) [⟨1000, 0, .arr 36 TyS.rule r⟩] := by
 rcases hcap2 with rfl | ⟨dscap2, rfl⟩
 ·refine PFunM.walkM (fz := fun _ => false) hA cx_ok Tryz.func306 rfl rfl fun P R hP hR => ?_
  cbv; unfold slices_stableCmpFunc_Rule at h
  iterate 2 refine kj ?_
  refine kl h (fun x _ => [(7, it .i64 x.1), (8, it .i64 x.2.1)]) (fun x gh => [⟨1000, 0, .arr 36 TyS.rule x.2.2⟩]) [] ?_
  rintro ⟨a7, b8, row1000⟩ gh1 g1 _ _ _ hK1 hQ1 h; cbv
  refine kj ?_
  refine bc h (fun hb h => ?_) fun hb h => ?_
  ·cbv
   refine kj ?_
   obtain ⟨w1, hw1, h⟩ := bd_e h; refine km hP [(1000, 0)] (slices_insertionSortCmpFunc_Rule_ok (cap3 := []) hA (by first | exact .inl rfl | exact .inr ⟨_, rfl⟩) hq2 hw1) ?_; cbv
   iterate 2 refine kj ?_
   cases h; exact hK1 _ _ [] rfl hdy
  ·cbv
   refine hQ1 _ h _ _ fun h => ?_; cbv
   refine kj ?_
   obtain ⟨w2, hw2, h⟩ := bd_e h; refine km hP [(1000, 0)] (slices_insertionSortCmpFunc_Rule_ok (cap3 := []) hA (by first | exact .inl rfl | exact .inr ⟨_, rfl⟩) hq2 hw2) ?_; cbv
   refine kl h (fun x _ => [(6, it .i64 x)]) (fun _ _ => [⟨1000, 0, Cell.arr 36 TyS.rule w2⟩]) [] ?_
   rintro blockSize6 gh2 g2 _ _ _ hK2 hQ2 h; cbv
   refine kj ?_
   refine bc h (fun hb h => ?_) fun hb h => ?_
   ·cbv
    refine kj ?_
    refine kl h (fun x _ => [(7, it .i64 x.1), (8, it .i64 x.2)]) (fun _ _ => [⟨1000, 0, Cell.arr 36 TyS.rule w2⟩]) [] ?_
    rintro ⟨a7', b8'⟩ gh3 g3 _ _ _ hK3 hQ3 h; cbv
    refine kj ?_
    refine bc h (fun hb h => ?_) fun hb h => ?_
    ·cbv
     refine kj ?_
     cases h
    ·cbv
     refine hQ3 _ h _ _ fun h => ?_; cbv
     iterate 2 refine kj ?_
     refine bc h (fun hb h => ?_) fun hb h => ?_
     ·cbv
      refine kj ?_
      cases h
     ·cbv
      refine kj ?_
      cases h; exact hK2 _ _ [] rfl hdy
   ·cbv
    refine hQ2 _ h _ _ fun h => ?_; cbv
    cases h
    refine hR _ _ ⟨[], ⟨by rfl, ez, by rfl, ez⟩⟩
 ·refine PFunM.walkM (fz := fun _ => false) hA cx_ok Tryz.func306 rfl rfl fun P R hP hR => ?_
  cbv; unfold slices_stableCmpFunc_Rule at h
  iterate 2 refine kj ?_
  refine kl h (fun x _ => [(7, it .i64 x.1), (8, it .i64 x.2.1)]) (fun x gh => [⟨1000, 0, .arr 36 TyS.rule x.2.2⟩]) [] ?_
  rintro ⟨a7, b8, row1000⟩ gh1 g1 _ _ _ hK1 hQ1 h; cbv
  refine kj ?_
  refine bc h (fun hb h => ?_) fun hb h => ?_
  ·cbv
   refine kj ?_
   obtain ⟨w1, hw1, h⟩ := bd_e h; refine km hP [(1000, 0)] (slices_insertionSortCmpFunc_Rule_ok (cap3 := [D.ptr dscap2]) hA (by first | exact .inl rfl | exact .inr ⟨_, rfl⟩) hq2 hw1) ?_; cbv
   iterate 2 refine kj ?_
   cases h; exact hK1 _ _ [] rfl hdy
  ·cbv
   refine hQ1 _ h _ _ fun h => ?_; cbv
   refine kj ?_
   obtain ⟨w2, hw2, h⟩ := bd_e h; refine km hP [(1000, 0)] (slices_insertionSortCmpFunc_Rule_ok (cap3 := [D.ptr dscap2]) hA (by first | exact .inl rfl | exact .inr ⟨_, rfl⟩) hq2 hw2) ?_; cbv
   refine kl h (fun x _ => [(6, it .i64 x)]) (fun _ _ => [⟨1000, 0, Cell.arr 36 TyS.rule w2⟩]) [] ?_
   rintro blockSize6 gh2 g2 _ _ _ hK2 hQ2 h; cbv
   refine kj ?_
   refine bc h (fun hb h => ?_) fun hb h => ?_
   ·cbv
    refine kj ?_
    refine kl h (fun x _ => [(7, it .i64 x.1), (8, it .i64 x.2)]) (fun _ _ => [⟨1000, 0, Cell.arr 36 TyS.rule w2⟩]) [] ?_
    rintro ⟨a7', b8'⟩ gh3 g3 _ _ _ hK3 hQ3 h; cbv
    refine kj ?_
    refine bc h (fun hb h => ?_) fun hb h => ?_
    ·cbv
     refine kj ?_
     cases h
    ·cbv
     refine hQ3 _ h _ _ fun h => ?_; cbv
     iterate 2 refine kj ?_
     refine bc h (fun hb h => ?_) fun hb h => ?_
     ·cbv
      refine kj ?_
      cases h
     ·cbv
      refine kj ?_
      cases h; exact hK2 _ _ [] rfl hdy
   ·cbv
    refine hQ2 _ h _ _ fun h => ?_; cbv
    cases h
    refine hR _ _ ⟨[], ⟨by rfl, ez, by rfl, ez⟩⟩
theorem slices_SortStableFunc_Rule_Rule_ok {A : Ar} (hA : A = std) {x0 : List Rule} {n0 : Int} {q1 : Rule → Rule → Option Int} {g1 : Nat} {cap1 : List D} (hcap1 : capOK cap1) (hq1 : ∀ (y0 : Rule) (y1 : Rule) (r : Int), q1 y0 y1 = some r → PFun cx g1 ((rulePV y0) :: (rulePV y1) :: un.uns cap1) (it .i64 r)) {r : List Rule} (h : slices_SortStableFunc_Rule_Rule A x0 n0 q1 = some r) : PFunM cx 244 [.ms 1000 0 TyS.rule 0 n0, .fn (.func g1) [] (un.uns cap1)] [⟨1000, 0, .arr 36 TyS.rule x0⟩] (.tu []) [⟨1000, 0, .arr 36 TyS.rule r⟩] := by
 rcases hcap1 with rfl | ⟨dscap1, rfl⟩
 ·refine PFunM.walkM (fz := fun _ => false) hA cx_ok Tryz.func244 rfl rfl fun P R hP hR => ?_
  cbv; unfold slices_SortStableFunc_Rule_Rule at h
  refine kj ?_
  obtain ⟨w1, hw1, h⟩ := bd_e h; refine km hP [(1000, 0)] (slices_stableCmpFunc_Rule_ok (cap2 := []) hA (by first | exact .inl rfl | exact .inr ⟨_, rfl⟩) hq1 hw1) ?_; cbv
  cases h
  refine hR _ _ ⟨[], ⟨by rfl, ez, by rfl, ez⟩⟩
 ·refine PFunM.walkM (fz := fun _ => false) hA cx_ok Tryz.func244 rfl rfl fun P R hP hR => ?_
  cbv; unfold slices_SortStableFunc_Rule_Rule at h
  refine kj ?_
  obtain ⟨w1, hw1, h⟩ := bd_e h; refine km hP [(1000, 0)] (slices_stableCmpFunc_Rule_ok (cap2 := [D.ptr dscap1]) hA (by first | exact .inl rfl | exact .inr ⟨_, rfl⟩) hq1 hw1) ?_; cbv
  cases h
  refine hR _ _ ⟨[], ⟨by rfl, ez, by rfl, ez⟩⟩
theorem config_sorted_Rule_ok {A : Ar} (hA : A = std) {x0 : List Rule} {q1 : Rule → Option ByteArray} {g1 : Nat} {cap1 : List D} (hcap1 : capOK cap1) (hq1 : ∀ (y0 : Rule) (r : ByteArray), q1 y0 = some r → PFun cx g1 ((rulePV y0) :: un.uns cap1) (st r)) {r : List Rule} (h : config_sorted_Rule A x0 q1 = some r) : PFun cx 157 [.d (.sl TyS.rule x0), .fn (.func g1) [] (un.uns cap1)] (.d (.sl TyS.rule r)) := by
 rcases hcap1 with rfl | ⟨dscap1, rfl⟩
 ·refine PFun.walkF (fz := fun k => k == 3) hA cx_ok Tryz.func157 rfl rfl rfl fun P R hP hR => ?_
  cbv; unfold config_sorted_Rule at h
  iterate 2 refine kj ?_
  obtain ⟨w1, hw1, h⟩ := bd_e h; refine km hP [] (slices_Clone_Rule_Rule_ok hA hw1) ?_; cbv
  refine kj ?_
  obtain ⟨w2, hw2, h⟩ := bd_e h; refine km hP [(7, 1)] (slices_SortStableFunc_Rule_Rule_ok (cap1 := [D.ptr [D.fun (Fn.func g1) [] []]]) hA (by first | exact .inl rfl | exact .inr ⟨_, rfl⟩) (fun _ _ _ hw => config_sorted_Rule_1_ok (capc0 := []) hA (by first | exact .inl rfl | exact .inr ⟨_, rfl⟩) hq1 hw) hw2) ?_; cbv
  refine kj ?_
  refine kk h fun c3 h => ?_
  cases h; subst hR; exact ey
 ·refine PFun.walkF (fz := fun k => k == 3) hA cx_ok Tryz.func157 rfl rfl rfl fun P R hP hR => ?_
  cbv; unfold config_sorted_Rule at h
  iterate 2 refine kj ?_
  obtain ⟨w1, hw1, h⟩ := bd_e h; refine km hP [] (slices_Clone_Rule_Rule_ok hA hw1) ?_; cbv
  refine kj ?_
  obtain ⟨w2, hw2, h⟩ := bd_e h; refine km hP [(7, 1)] (slices_SortStableFunc_Rule_Rule_ok (cap1 := [D.ptr [D.fun (Fn.func g1) [] [D.ptr dscap1]]]) hA (by first | exact .inl rfl | exact .inr ⟨_, rfl⟩) (fun _ _ _ hw => config_sorted_Rule_1_ok (capc0 := [D.ptr dscap1]) hA (by first | exact .inl rfl | exact .inr ⟨_, rfl⟩) hq1 hw) hw2) ?_; cbv
  refine kj ?_
  refine kk h fun c3 h => ?_
  cases h; subst hR; exact ey
theorem slices_Clone_string_string_ok {A : Ar} (hA : A = std) {x0 : List ByteArray} {r : Int × List ByteArray} (h : slices_Clone_string_string A x0 = some r) : PFunM cx 247 [.d (.sl TyS.str x0)] [] (.ms 2000 1 TyS.str 0 r.1) [⟨2000, 1, .arr 9 TyS.str r.2⟩] := by
 refine PFunM.walkM (fz := fun k => k == 65541 || k == 65543 || k == 65538 || k == 65538 || k == 65538) hA cx_ok Tryz.func247 rfl rfl fun P R hP hR => ?_
 cbv; unfold slices_Clone_string_string at h
 iterate 2 refine kj ?_
 obtain ⟨h1, h2⟩ := both_e h
 refine ⟨fun hc => ?_, ?_⟩
 ·have h := h1 hc
  clear h1 h2
  cbv
  refine kj ?_
  cases h
  refine hR _ _ ⟨[(2, 4)], ⟨by rfl, ez, by rfl, ez⟩⟩
 ·have h := h2
  clear h1 h2
  refine kj ?_
  refine kk h fun c1 h => ?_
  cases h
  refine hR _ _ ⟨[(7, 4)], ⟨by rfl, ez, by rfl, ez⟩⟩
theorem config_sorted_string_1_ok {A : Ar} (hA : A = std) {x0 : ByteArray} {x1 : ByteArray} {qc0 : ByteArray → Option ByteArray} {gc0 : Nat} {capc0 : List D} (hcapc0 : capOK capc0) (hqc0 : ∀ (y0 : ByteArray) (r : ByteArray), qc0 y0 = some r → PFun cx gc0 ((st y0) :: un.uns capc0) (st r)) {r : Int} (h : config_sorted_string_1 A x0 x1 qc0 = some r) : PFun cx 249 [st x0, st x1, .ip [.fun (.func gc0) [] capc0]] (it .i64 r) := by
 rcases hcapc0 with rfl | ⟨dscapc0, rfl⟩
 all_goals
  refine wF hA cx_ok Tryz.func249 fun P R hP hR => ?_
  cbv; unfold config_sorted_string_1 at h
  iterate 2 refine kj ?_
  obtain ⟨w1, hw1, h⟩ := bd_e h; refine kc hP (hqc0 _ _ hw1) ?_; cbv
  obtain ⟨w2, hw2, h⟩ := bd_e h; refine kc hP (hqc0 _ _ hw2) ?_; cbv
  obtain ⟨w3, hw3, h⟩ := bd_e h; refine kc hP (strings_Compare_ok hA hw3) ?_; cbv
  refine kj ?_
  exact le h hR
theorem slices_insertionSortCmpFunc_string_ok {A : Ar} (hA : A = std) {x0 : List ByteArray} {n0 : Int} {x1 : Int} {x2 : Int} {q3 : ByteArray → ByteArray → Option Int} {g3 : Nat} {cap3 : List D} (hcap3 : capOK cap3) (hq3 : ∀ (y0 : ByteArray) (y1 : ByteArray) (r : Int), q3 y0 y1 = some r → PFun cx g3 ((st y0) :: (st y1) :: un.uns cap3) (it .i64 r)) {r : List ByteArray} (h : slices_insertionSortCmpFunc_string A x0 n0 x1 x2 q3 = some r) : PFunM cx 343 [.ms 1000 0 TyS.str 0 n0, it .i64 x1, it .i64 x2, .fn (.func g3) [] (un.uns cap3)] [⟨1000, 0, .arr 9 TyS.str x0⟩] (.tu []) [⟨1000, 0, .arr 9 TyS.str r⟩] := by
 rcases hcap3 with rfl | ⟨dscap3, rfl⟩
 all_goals
  refine PFunM.walkM (fz := fun _ => false) hA cx_ok Tryz.func343 rfl rfl fun P R hP hR => ?_
  cbv; unfold slices_insertionSortCmpFunc_string at h
  refine kj ?_
  refine kl h (fun x _ => [(8, it .i64 x.1)]) (fun x gh => [⟨1000, 0, .arr 9 TyS.str x.2⟩]) [] ?_
  rintro ⟨i8, row1000⟩ gh1 g1 _ _ _ hK1 hQ1 h; cbv
  refine kj ?_
  refine bc h (fun hb h => ?_) fun hb h => ?_
  ·cbv
   refine kj ?_
   refine kl h (fun x _ => [(9, it .i64 x.1)]) (fun x gh => [⟨1000, 0, .arr 9 TyS.str x.2⟩]) [] ?_
   rintro ⟨j9, row1000'⟩ gh2 g2 _ _ _ hK2 hQ2 h; cbv
   refine kj ?_
   iterate 2 refine cj ?_
   refine kk h fun c1 h => ?_
   iterate 2 refine cj ?_
   refine kk h fun c2 h => ?_
   iterate 3 refine cj ?_
   refine kk h fun c3 h => ?_
   iterate 2 refine cj ?_
   refine kk h fun c4 h => ?_
   iterate 3 refine cj ?_
   obtain ⟨w5, hw5, h⟩ := bd_e h; refine kg hP (fun hc => (hq3 _ _ _ (gd_e hw5 hc))) ?_; cbv
   iterate 2 refine cj ?_
   refine kj ?_
   refine bc h (fun hb h => ?_) fun hb h => ?_
   ·cbv
    refine kj ?_
    refine kk h fun c6 h => ?_
    refine kk h fun c7 h => ?_
    refine kk h fun c8 h => ?_
    refine kk h fun c9 h => ?_
    refine ⟨c8, ?_⟩
    refine ⟨c9, ?_⟩
    refine ⟨c6, ?_⟩
    refine kk h fun c10 h => ?_
    iterate 2 refine kj ?_
    cases h; exact hK2 _ _ [] rfl hdy
   ·cbv
    refine hQ2 _ h _ _ fun h => ?_; cbv
    refine kj ?_
    cases h; exact hK1 _ _ [] rfl hdy
  ·cbv
   refine hQ1 _ h _ _ fun h => ?_; cbv
   cases h
   refine hR _ _ ⟨[], ⟨by rfl, ez, by rfl, ez⟩⟩
theorem slices_stableCmpFunc_string_ok {A : Ar} (hA : A = std) {x0 : List ByteArray} {n0 : Int} {x1 : Int} {q2 : ByteArray → ByteArray → Option Int} {g2 : Nat} {cap2 : List D} (hcap2 : capOK cap2) (hq2 : ∀ (y0 : ByteArray) (y1 : ByteArray) (r : Int), q2 y0 y1 = some r → PFun cx g2 ((st y0) :: (st y1) :: un.uns cap2) (it .i64 r)) {r : List ByteArray} (h : slices_stableCmpFunc_string A x0 n0 x1 q2 = some r) : PFunM cx 308 [.ms 1000 0 TyS.str 0 n0, it .i64 x1, .fn (.func g2) [] (un.uns cap2)] [⟨1000, 0, .arr 9 TyS.str x0⟩] (.tu []) [⟨1000, 0, .arr 9 TyS.str r⟩] := by
 rcases hcap2 with rfl | ⟨dscap2, rfl⟩
 ·refine PFunM.walkM (fz := fun _ => false) hA cx_ok Tryz.func308 rfl rfl fun P R hP hR => ?_
  cbv; unfold slices_stableCmpFunc_string at h
  iterate 2 refine kj ?_
  refine kl h (fun x _ => [(7, it .i64 x.1), (8, it .i64 x.2.1)]) (fun x gh => [⟨1000, 0, .arr 9 TyS.str x.2.2⟩]) [] ?_
  rintro ⟨a7, b8, row1000⟩ gh1 g1 _ _ _ hK1 hQ1 h; cbv
  refine kj ?_
  refine bc h (fun hb h => ?_) fun hb h => ?_
  ·cbv
   refine kj ?_
   obtain ⟨w1, hw1, h⟩ := bd_e h; refine km hP [(1000, 0)] (slices_insertionSortCmpFunc_string_ok (cap3 := []) hA (by first | exact .inl rfl | exact .inr ⟨_, rfl⟩) hq2 hw1) ?_; cbv
   iterate 2 refine kj ?_
   cases h; exact hK1 _ _ [] rfl hdy
  ·cbv
   refine hQ1 _ h _ _ fun h => ?_; cbv
   refine kj ?_
   obtain ⟨w2, hw2, h⟩ := bd_e h; refine km hP [(1000, 0)] (slices_insertionSortCmpFunc_string_ok (cap3 := []) hA (by first | exact .inl rfl | exact .inr ⟨_, rfl⟩) hq2 hw2) ?_; cbv
   refine kl h (fun x _ => [(6, it .i64 x)]) (fun _ _ => [⟨1000, 0, Cell.arr 9 TyS.str w2⟩]) [] ?_
   rintro blockSize6 gh2 g2 _ _ _ hK2 hQ2 h; cbv
   refine kj ?_
   refine bc h (fun hb h => ?_) fun hb h => ?_
   ·cbv
    refine kj ?_
    refine kl h (fun x _ => [(7, it .i64 x.1), (8, it .i64 x.2)]) (fun _ _ => [⟨1000, 0, Cell.arr 9 TyS.str w2⟩]) [] ?_
    rintro ⟨a7', b8'⟩ gh3 g3 _ _ _ hK3 hQ3 h; cbv
    refine kj ?_
    refine bc h (fun hb h => ?_) fun hb h => ?_
    ·cbv
     refine kj ?_
     cases h
    ·cbv
     refine hQ3 _ h _ _ fun h => ?_; cbv
     iterate 2 refine kj ?_
     refine bc h (fun hb h => ?_) fun hb h => ?_
     ·cbv
      refine kj ?_
      cases h
     ·cbv
      refine kj ?_
      cases h; exact hK2 _ _ [] rfl hdy
   ·cbv
    refine hQ2 _ h _ _ fun h => ?_; cbv
    cases h
    refine hR _ _ ⟨[], ⟨by rfl, ez, by rfl, ez⟩⟩
 ·refine PFunM.walkM (fz := fun _ => false) hA cx_ok Tryz.func308 rfl rfl fun P R hP hR => ?_
  cbv; unfold slices_stableCmpFunc_string at h
  iterate 2 refine kj ?_
  refine kl h (fun x _ => [(7, it .i64 x.1), (8, it .i64 x.2.1)]) (fun x gh => [⟨1000, 0, .arr 9 TyS.str x.2.2⟩]) [] ?_
  rintro ⟨a7, b8, row1000⟩ gh1 g1 _ _ _ hK1 hQ1 h; cbv
  refine kj ?_
  refine bc h (fun hb h => ?_) fun hb h => ?_
  ·cbv
   refine kj ?_
   obtain ⟨w1, hw1, h⟩ := bd_e h; refine km hP [(1000, 0)] (slices_insertionSortCmpFunc_string_ok (cap3 := [D.ptr dscap2]) hA (by first | exact .inl rfl | exact .inr ⟨_, rfl⟩) hq2 hw1) ?_; cbv
   iterate 2 refine kj ?_
   cases h; exact hK1 _ _ [] rfl hdy
  ·cbv
   refine hQ1 _ h _ _ fun h => ?_; cbv
   refine kj ?_
   obtain ⟨w2, hw2, h⟩ := bd_e h; refine km hP [(1000, 0)] (slices_insertionSortCmpFunc_string_ok (cap3 := [D.ptr dscap2]) hA (by first | exact .inl rfl | exact .inr ⟨_, rfl⟩) hq2 hw2) ?_; cbv
   refine kl h (fun x _ => [(6, it .i64 x)]) (fun _ _ => [⟨1000, 0, Cell.arr 9 TyS.str w2⟩]) [] ?_
   rintro blockSize6 gh2 g2 _ _ _ hK2 hQ2 h; cbv
   refine kj ?_
   refine bc h (fun hb h => ?_) fun hb h => ?_
   ·cbv
    refine kj ?_
    refine kl h (fun x _ => [(7, it .i64 x.1), (8, it .i64 x.2)]) (fun _ _ => [⟨1000, 0, Cell.arr 9 TyS.str w2⟩]) [] ?_
    rintro ⟨a7', b8'⟩ gh3 g3 _ _ _ hK3 hQ3 h; cbv
    refine kj ?_
    refine bc h (fun hb h => ?_) fun hb h => ?_
    ·cbv
     refine kj ?_
     cases h
    ·cbv
     refine hQ3 _ h _ _ fun h => ?_; cbv
     iterate 2 refine kj ?_
     refine bc h (fun hb h => ?_) fun hb h => ?_
     ·cbv
      refine kj ?_
      cases h
     ·cbv
      refine kj ?_
      cases h; exact hK2 _ _ [] rfl hdy
   ·cbv
    refine hQ2 _ h _ _ fun h => ?_; cbv
    cases h
    refine hR _ _ ⟨[], ⟨by rfl, ez, by rfl, ez⟩⟩
theorem slices_SortStableFunc_string_string_ok {A : Ar} (hA : A = std) {x0 : List ByteArray} {n0 : Int} {q1 : ByteArray → ByteArray → Option Int} {g1 : Nat} {cap1 : List D} (hcap1 : capOK cap1) (hq1 : ∀ (y0 : ByteArray) (y1 : ByteArray) (r : Int), q1 y0 y1 = some r → PFun cx g1 ((st y0) :: (st y1) :: un.uns cap1) (it .i64 r)) {r : List ByteArray} (h : slices_SortStableFunc_string_string A x0 n0 q1 = some r) : PFunM cx 248 [.ms 1000 0 TyS.str 0 n0, .fn (.func g1) [] (un.uns cap1)] [⟨1000, 0, .arr 9 TyS.str x0⟩] (.tu []) [⟨1000, 0, .arr 9 TyS.str r⟩] := by
 rcases hcap1 with rfl | ⟨dscap1, rfl⟩
 ·refine PFunM.walkM (fz := fun _ => false) hA cx_ok Tryz.func248 rfl rfl fun P R hP hR => ?_
  cbv; unfold slices_SortStableFunc_string_string at h
  refine kj ?_
  obtain ⟨w1, hw1, h⟩ := bd_e h; refine km hP [(1000, 0)] (slices_stableCmpFunc_string_ok (cap2 := []) hA (by first | exact .inl rfl | exact .inr ⟨_, rfl⟩) hq1 hw1) ?_; cbv
  cases h
  refine hR _ _ ⟨[], ⟨by rfl, ez, by rfl, ez⟩⟩
 ·refine PFunM.walkM (fz := fun _ => false) hA cx_ok Tryz.func248 rfl rfl fun P R hP hR => ?_
  cbv; unfold slices_SortStableFunc_string_string at h
  refine kj ?_
  obtain ⟨w1, hw1, h⟩ := bd_e h; refine km hP [(1000, 0)] (slices_stableCmpFunc_string_ok (cap2 := [D.ptr dscap1]) hA (by first | exact .inl rfl | exact .inr ⟨_, rfl⟩) hq1 hw1) ?_; cbv
  cases h
  refine hR _ _ ⟨[], ⟨by rfl, ez, by rfl, ez⟩⟩
theorem config_sorted_string_ok {A : Ar} (hA : A = std) {x0 : List ByteArray} {q1 : ByteArray → Option ByteArray} {g1 : Nat} {cap1 : List D} (hcap1 : capOK cap1) (hq1 : ∀ (y0 : ByteArray) (r : ByteArray), q1 y0 = some r → PFun cx g1 ((st y0) :: un.uns cap1) (st r)) {r : List ByteArray} (h : config_sorted_string A x0 q1 = some r) : PFun cx 158 [.d (.sl TyS.str x0), .fn (.func g1) [] (un.uns cap1)] (.d (.sl TyS.str r)) := by
 rcases hcap1 with rfl | ⟨dscap1, rfl⟩
 ·refine PFun.walkF (fz := fun k => k == 3) hA cx_ok Tryz.func158 rfl rfl rfl fun P R hP hR => ?_
  cbv; unfold config_sorted_string at h
  iterate 2 refine kj ?_
  obtain ⟨w1, hw1, h⟩ := bd_e h; refine km hP [] (slices_Clone_string_string_ok hA hw1) ?_; cbv
  refine kj ?_
  obtain ⟨w2, hw2, h⟩ := bd_e h; refine km hP [(7, 1)] (slices_SortStableFunc_string_string_ok (cap1 := [D.ptr [D.fun (Fn.func g1) [] []]]) hA (by first | exact .inl rfl | exact .inr ⟨_, rfl⟩) (fun _ _ _ hw => config_sorted_string_1_ok (capc0 := []) hA (by first | exact .inl rfl | exact .inr ⟨_, rfl⟩) hq1 hw) hw2) ?_; cbv
  refine kj ?_
  refine kk h fun c3 h => ?_
  cases h; subst hR; exact ey
 ·refine PFun.walkF (fz := fun k => k == 3) hA cx_ok Tryz.func158 rfl rfl rfl fun P R hP hR => ?_
  cbv; unfold config_sorted_string at h
  iterate 2 refine kj ?_
  obtain ⟨w1, hw1, h⟩ := bd_e h; refine km hP [] (slices_Clone_string_string_ok hA hw1) ?_; cbv
  refine kj ?_
  obtain ⟨w2, hw2, h⟩ := bd_e h; refine km hP [(7, 1)] (slices_SortStableFunc_string_string_ok (cap1 := [D.ptr [D.fun (Fn.func g1) [] [D.ptr dscap1]]]) hA (by first | exact .inl rfl | exact .inr ⟨_, rfl⟩) (fun _ _ _ hw => config_sorted_string_1_ok (capc0 := [D.ptr dscap1]) hA (by first | exact .inl rfl | exact .inr ⟨_, rfl⟩) hq1 hw) hw2) ?_; cbv
  refine kj ?_
  refine kk h fun c3 h => ?_
  cases h; subst hR; exact ey
theorem slices_Clone_Hours_Hours_ok {A : Ar} (hA : A = std) {x0 : List Hours} {r : Int × List Hours} (h : slices_Clone_Hours_Hours A x0 = some r) : PFunM cx 250 [.d (.sl TyS.hours x0)] [] (.ms 2000 1 TyS.hours 0 r.1) [⟨2000, 1, .arr 67 TyS.hours r.2⟩] := by
 refine PFunM.walkM (fz := fun k => k == 65541 || k == 65543 || k == 65538 || k == 65538 || k == 65538) hA cx_ok Tryz.func250 rfl rfl fun P R hP hR => ?_
 cbv; unfold slices_Clone_Hours_Hours at h
 iterate 2 refine kj ?_
 obtain ⟨h1, h2⟩ := both_e h
 refine ⟨fun hc => ?_, ?_⟩
 ·have h := h1 hc
  clear h1 h2
  cbv
  refine kj ?_
  cases h
  refine hR _ _ ⟨[(2, 4)], ⟨by rfl, ez, by rfl, ez⟩⟩
 ·have h := h2
  clear h1 h2
  refine kj ?_
  refine kk h fun c1 h => ?_
  cases h
  refine hR _ _ ⟨[(7, 4)], ⟨by rfl, ez, by rfl, ez⟩⟩
theorem config_sorted_Hours_1_ok {A : Ar} (hA : A = std) {x0 : Hours} {x1 : Hours} {qc0 : Hours → Option ByteArray} {gc0 : Nat} {capc0 : List D} (hcapc0 : capOK capc0) (hqc0 : ∀ (y0 : Hours) (r : ByteArray), qc0 y0 = some r → PFun cx gc0 ((hoursPV y0) :: un.uns capc0) (st r)) {r : Int} (h : config_sorted_Hours_1 A x0 x1 qc0 = some r) : PFun cx 252 [hoursPV x0, hoursPV x1, .ip [.fun (.func gc0) [] capc0]] (it .i64 r) := by
 rcases hcapc0 with rfl | ⟨dscapc0, rfl⟩
 all_goals
  refine wF hA cx_ok Tryz.func252 fun P R hP hR => ?_
  cbv; unfold config_sorted_Hours_1 at h
  iterate 2 refine kj ?_
  obtain ⟨w1, hw1, h⟩ := bd_e h; refine kc hP (hqc0 _ _ hw1) ?_; cbv
  obtain ⟨w2, hw2, h⟩ := bd_e h; refine kc hP (hqc0 _ _ hw2) ?_; cbv
  obtain ⟨w3, hw3, h⟩ := bd_e h; refine kc hP (strings_Compare_ok hA hw3) ?_; cbv
  refine kj ?_
  exact le h hR
theorem slices_insertionSortCmpFunc_Hours_ok {A : Ar} (hA : A = std) {x0 : List Hours} {n0 : Int} {x1 : Int} {x2 : Int} {q3 : Hours → Hours → Option Int} {g3 : Nat} {cap3 : List D} (hcap3 : capOK cap3) (hq3 : ∀ (y0 : Hours) (y1 : Hours) (r : Int), q3 y0 y1 = some r → PFun cx g3 ((hoursPV y0) :: (hoursPV y1) :: un.uns cap3) (it .i64 r)) {r : List Hours} (h : slices_insertionSortCmpFunc_Hours A x0 n0 x1 x2 q3 = some r) : PFunM cx 345 [.ms 1000 0 TyS.hours 0 n0, it .i64 x1, it .i64 x2, .fn (.func g3) [] (un.uns cap3)] [⟨1000, 0, .arr 67 TyS.hours x0⟩] (.tu []) [⟨1000, 0, .arr 67 TyS.hours r⟩] := by
 rcases hcap3 with rfl | ⟨dscap3, rfl⟩
 all_goals
  refine PFunM.walkM (fz := fun _ => false) hA cx_ok Tryz.func345 rfl rfl fun P R hP hR => ?_
  cbv; unfold slices_insertionSortCmpFunc_Hours at h
  refine kj ?_
  refine kl h (fun x _ => [(8, it .i64 x.1)]) (fun x gh => [⟨1000, 0, .arr 67 TyS.hours x.2⟩]) [] ?_
  rintro ⟨i8, row1000⟩ gh1 g1 _ _ _ hK1 hQ1 h; cbv
  refine kj ?_
  refine bc h (fun hb h => ?_) fun hb h => ?_
  ·cbv
   refine kj ?_
   refine kl h (fun x _ => [(9, it .i64 x.1)]) (fun x gh => [⟨1000, 0, .arr 67 TyS.hours x.2⟩]) [] ?_
   rintro ⟨j9, row1000'⟩ gh2 g2 _ _ _ hK2 hQ2 h; cbv
   refine kj ?_
   iterate 2 refine cj ?_
   refine kk h fun c1 h => ?_
   iterate 2 refine cj ?_
   refine kk h fun c2 h => ?_
   iterate 3 refine cj ?_
   refine kk h fun c3 h => ?_
   iterate 2 refine cj ?_
   refine kk h fun c4 h => ?_
   iterate 3 refine cj ?_
   obtain ⟨w5, hw5, h⟩ := bd_e h; refine kg hP (fun hc => (hq3 _ _ _ (gd_e hw5 hc))) ?_; cbv
   iterate 2 refine cj ?_
   refine kj ?_
   refine bc h (fun hb h => ?_) fun hb h => ?_
   ·cbv
    refine kj ?_
    refine kk h fun c6 h => ?_
    refine kk h fun c7 h => ?_
    refine kk h fun c8 h => ?_
    refine kk h fun c9 h => ?_
    refine ⟨c8, ?_⟩
    refine ⟨c9, ?_⟩
    refine ⟨c6, ?_⟩
    refine kk h fun c10 h => ?_
    iterate 2 refine kj ?_
    cases h; exact hK2 _ _ [] rfl hdy
   ·cbv
    refine hQ2 _ h _ _ fun h => ?_; cbv
    refine kj ?_
    cases h; exact hK1 _ _ [] rfl hdy
  ·cbv
   refine hQ1 _ h _ _ fun h => ?_; cbv
   cases h
   refine hR _ _ ⟨[], ⟨by rfl, ez, by rfl, ez⟩⟩
theorem slices_stableCmpFunc_Hours_ok {A : Ar} (hA : A = std) {x0 : List Hours} {n0 : Int} {x1 : Int} {q2 : Hours → Hours → Option Int} {g2 : Nat} {cap2 : List D} (hcap2 : capOK cap2) (hq2 : ∀ (y0 : Hours) (y1 : Hours) (r : Int), q2 y0 y1 = some r → PFun cx g2 ((hoursPV y0) :: (hoursPV y1) :: un.uns cap2) (it .i64 r)) {r : List Hours} (h : slices_stableCmpFunc_Hours A x0 n0 x1 q2 = some r) : PFunM cx 309 [.ms 1000 0 TyS.hours 0 n0, it .i64 x1, .fn (.func g2) [] (un.uns cap2)] [⟨1000, 0, .arr 67 TyS.hours x0⟩] (.tu []) [⟨1000, 0, .arr 67 TyS.hours r⟩] := by
 rcases hcap2 with rfl | ⟨dscap2, rfl⟩
 ·refine PFunM.walkM (fz := fun _ => false) hA cx_ok Tryz.func309 rfl rfl fun P R hP hR => ?_
  cbv; unfold slices_stableCmpFunc_Hours at h
  iterate 2 refine kj ?_
  refine kl h (fun x _ => [(7, it .i64 x.1), (8, it .i64 x.2.1)]) (fun x gh => [⟨1000, 0, .arr 67 TyS.hours x.2.2⟩]) [] ?_
  rintro ⟨a7, b8, row1000⟩ gh1 g1 _ _ _ hK1 hQ1 h; cbv
  refine kj ?_
  refine bc h (fun hb h => ?_) fun hb h => ?_
  ·cbv
   refine kj ?_
   obtain ⟨w1, hw1, h⟩ := bd_e h; refine km hP [(1000, 0)] (slices_insertionSortCmpFunc_Hours_ok (cap3 := []) hA (by first | exact .inl rfl | exact .inr ⟨_, rfl⟩) hq2 hw1) ?_; cbv
   iterate 2 refine kj ?_
   cases h; exact hK1 _ _ [] rfl hdy
  ·cbv
   refine hQ1 _ h _ _ fun h => ?_; cbv
   refine kj ?_
   obtain ⟨w2, hw2, h⟩ := bd_e h; refine km hP [(1000, 0)] (slices_insertionSortCmpFunc_Hours_ok (cap3 := []) hA (by first | exact .inl rfl | exact .inr ⟨_, rfl⟩) hq2 hw2) ?_; cbv
   refine kl h (fun x _ => [(6, it .i64 x)]) (fun _ _ => [⟨1000, 0, Cell.arr 67 TyS.hours w2⟩]) [] ?_
   rintro blockSize6 gh2 g2 _ _ _ hK2 hQ2 h; cbv
   refine kj ?_
   refine bc h (fun hb h => ?_) fun hb h => ?_
   ·cbv
    refine kj ?_
    refine kl h (fun x _ => [(7, it .i64 x.1), (8, it .i64 x.2)]) (fun _ _ => [⟨1000, 0, Cell.arr 67 TyS.hours w2⟩]) [] ?_
    rintro ⟨a7', b8'⟩ gh3 g3 _ _ _ hK3 hQ3 h; cbv
    refine kj ?_
    refine bc h (fun hb h => ?_) fun hb h => ?_
    ·cbv
     refine kj ?_
     cases h
    ·cbv
     refine hQ3 _ h _ _ fun h => ?_; cbv
     iterate 2 refine kj ?_
     refine bc h (fun hb h => ?_) fun hb h => ?_
     ·cbv
      refine kj ?_
      cases h
     ·cbv
      refine kj ?_
      cases h; exact hK2 _ _ [] rfl hdy
   ·cbv
    refine hQ2 _ h _ _ fun h => ?_; cbv
    cases h
    refine hR _ _ ⟨[], ⟨by rfl, ez, by rfl, ez⟩⟩
 ·refine PFunM.walkM (fz := fun _ => false) hA cx_ok Tryz.func309 rfl rfl fun P R hP hR => ?_
  cbv; unfold slices_stableCmpFunc_Hours at h
  iterate 2 refine kj ?_
  refine kl h (fun x _ => [(7, it .i64 x.1), (8, it .i64 x.2.1)]) (fun x gh => [⟨1000, 0, .arr 67 TyS.hours x.2.2⟩]) [] ?_
  rintro ⟨a7, b8, row1000⟩ gh1 g1 _ _ _ hK1 hQ1 h; cbv
  refine kj ?_
  refine bc h (fun hb h => ?_) fun hb h => ?_
  ·cbv
   refine kj ?_
   obtain ⟨w1, hw1, h⟩ := bd_e h; refine km hP [(1000, 0)] (slices_insertionSortCmpFunc_Hours_ok (cap3 := [D.ptr dscap2]) hA (by first | exact .inl rfl | exact .inr ⟨_, rfl⟩) hq2 hw1) ?_; cbv
   iterate 2 refine kj ?_
   cases h; exact hK1 _ _ [] rfl hdy
  ·cbv
   refine hQ1 _ h _ _ fun h => ?_; cbv
   refine kj ?_
   obtain ⟨w2, hw2, h⟩ := bd_e h; refine km hP [(1000, 0)] (slices_insertionSortCmpFunc_Hours_ok (cap3 := [D.ptr dscap2]) hA (by first | exact .inl rfl | exact .inr ⟨_, rfl⟩) hq2 hw2) ?_; cbv
   refine kl h (fun x _ => [(6, it .i64 x)]) (fun _ _ => [⟨1000, 0, Cell.arr 67 TyS.hours w2⟩]) [] ?_
   rintro blockSize6 gh2 g2 _ _ _ hK2 hQ2 h; cbv
   refine kj ?_
   refine bc h (fun hb h => ?_) fun hb h => ?_
   ·cbv
    refine kj ?_
    refine kl h (fun x _ => [(7, it .i64 x.1), (8, it .i64 x.2)]) (fun _ _ => [⟨1000, 0, Cell.arr 67 TyS.hours w2⟩]) [] ?_
    rintro ⟨a7', b8'⟩ gh3 g3 _ _ _ hK3 hQ3 h; cbv
    refine kj ?_
    refine bc h (fun hb h => ?_) fun hb h => ?_
    ·cbv
     refine kj ?_
     cases h
    ·cbv
     refine hQ3 _ h _ _ fun h => ?_; cbv
     iterate 2 refine kj ?_
     refine bc h (fun hb h => ?_) fun hb h => ?_
     ·cbv
      refine kj ?_
      cases h
     ·cbv
      refine kj ?_
      cases h; exact hK2 _ _ [] rfl hdy
   ·cbv
    refine hQ2 _ h _ _ fun h => ?_; cbv
    cases h
    refine hR _ _ ⟨[], ⟨by rfl, ez, by rfl, ez⟩⟩
theorem slices_SortStableFunc_Hours_Hours_ok {A : Ar} (hA : A = std) {x0 : List Hours} {n0 : Int} {q1 : Hours → Hours → Option Int} {g1 : Nat} {cap1 : List D} (hcap1 : capOK cap1) (hq1 : ∀ (y0 : Hours) (y1 : Hours) (r : Int), q1 y0 y1 = some r → PFun cx g1 ((hoursPV y0) :: (hoursPV y1) :: un.uns cap1) (it .i64 r)) {r : List Hours} (h : slices_SortStableFunc_Hours_Hours A x0 n0 q1 = some r) : PFunM cx 251 [.ms 1000 0 TyS.hours 0 n0, .fn (.func g1) [] (un.uns cap1)] [⟨1000, 0, .arr 67 TyS.hours x0⟩] (.tu []) [⟨1000, 0, .arr 67 TyS.hours r⟩] := by
 rcases hcap1 with rfl | ⟨dscap1, rfl⟩
 ·refine PFunM.walkM (fz := fun _ => false) hA cx_ok Tryz.func251 rfl rfl fun P R hP hR => ?_
  cbv; unfold slices_SortStableFunc_Hours_Hours at h
  refine kj ?_
  obtain ⟨w1, hw1, h⟩ := bd_e h; refine km hP [(1000, 0)] (slices_stableCmpFunc_Hours_ok (cap2 := []) hA (by first | exact .inl rfl | exact .inr ⟨_, rfl⟩) hq1 hw1) ?_; cbv
  cases h
  refine hR _ _ ⟨[], ⟨by rfl, ez, by rfl, ez⟩⟩
 ·refine PFunM.walkM (fz := fun _ => false) hA cx_ok Tryz.func251 rfl rfl fun P R hP hR => ?_
  cbv; unfold slices_SortStableFunc_Hours_Hours at h
  refine kj ?_
  obtain ⟨w1, hw1, h⟩ := bd_e h; refine km hP [(1000, 0)] (slices_stableCmpFunc_Hours_ok (cap2 := [D.ptr dscap1]) hA (by first | exact .inl rfl | exact .inr ⟨_, rfl⟩) hq1 hw1) ?_; cbv
  cases h
  refine hR _ _ ⟨[], ⟨by rfl, ez, by rfl, ez⟩⟩
theorem config_sorted_Hours_ok {A : Ar} (hA : A = std) {x0 : List Hours} {q1 : Hours → Option ByteArray} {g1 : Nat} {cap1 : List D} (hcap1 : capOK cap1) (hq1 : ∀ (y0 : Hours) (r : ByteArray), q1 y0 = some r → PFun cx g1 ((hoursPV y0) :: un.uns cap1) (st r)) {r : List Hours} (h : config_sorted_Hours A x0 q1 = some r) : PFun cx 159 [.d (.sl TyS.hours x0), .fn (.func g1) [] (un.uns cap1)] (.d (.sl TyS.hours r)) := by
 rcases hcap1 with rfl | ⟨dscap1, rfl⟩
 ·refine PFun.walkF (fz := fun k => k == 3) hA cx_ok Tryz.func159 rfl rfl rfl fun P R hP hR => ?_
  cbv; unfold config_sorted_Hours at h
  iterate 2 refine kj ?_
  obtain ⟨w1, hw1, h⟩ := bd_e h; refine km hP [] (slices_Clone_Hours_Hours_ok hA hw1) ?_; cbv
  refine kj ?_
  obtain ⟨w2, hw2, h⟩ := bd_e h; refine km hP [(7, 1)] (slices_SortStableFunc_Hours_Hours_ok (cap1 := [D.ptr [D.fun (Fn.func g1) [] []]]) hA (by first | exact .inl rfl | exact .inr ⟨_, rfl⟩) (fun _ _ _ hw => config_sorted_Hours_1_ok (capc0 := []) hA (by first | exact .inl rfl | exact .inr ⟨_, rfl⟩) hq1 hw) hw2) ?_; cbv
  refine kj ?_
  refine kk h fun c3 h => ?_
  cases h; subst hR; exact ey
 ·refine PFun.walkF (fz := fun k => k == 3) hA cx_ok Tryz.func159 rfl rfl rfl fun P R hP hR => ?_
  cbv; unfold config_sorted_Hours at h
  iterate 2 refine kj ?_
  obtain ⟨w1, hw1, h⟩ := bd_e h; refine km hP [] (slices_Clone_Hours_Hours_ok hA hw1) ?_; cbv
  refine kj ?_
  obtain ⟨w2, hw2, h⟩ := bd_e h; refine km hP [(7, 1)] (slices_SortStableFunc_Hours_Hours_ok (cap1 := [D.ptr [D.fun (Fn.func g1) [] [D.ptr dscap1]]]) hA (by first | exact .inl rfl | exact .inr ⟨_, rfl⟩) (fun _ _ _ hw => config_sorted_Hours_1_ok (capc0 := [D.ptr dscap1]) hA (by first | exact .inl rfl | exact .inr ⟨_, rfl⟩) hq1 hw) hw2) ?_; cbv
  refine kj ?_
  refine kk h fun c3 h => ?_
  cases h; subst hR; exact ey
theorem slices_Clone_Inhibit_Inhibit_ok {A : Ar} (hA : A = std) {x0 : List Inhibit} {r : Int × List Inhibit} (h : slices_Clone_Inhibit_Inhibit A x0 = some r) : PFunM cx 253 [.d (.sl TyS.inhibit x0)] [] (.ms 2000 1 TyS.inhibit 0 r.1) [⟨2000, 1, .arr 63 TyS.inhibit r.2⟩] := by
 refine PFunM.walkM (fz := fun k => k == 65541 || k == 65543 || k == 65538 || k == 65538 || k == 65538) hA cx_ok Tryz.func253 rfl rfl fun P R hP hR => ?_
 cbv; unfold slices_Clone_Inhibit_Inhibit at h
 iterate 2 refine kj ?_
 obtain ⟨h1, h2⟩ := both_e h
 refine ⟨fun hc => ?_, ?_⟩
 ·have h := h1 hc
  clear h1 h2
  cbv
  refine kj ?_
  cases h
  refine hR _ _ ⟨[(2, 4)], ⟨by rfl, ez, by rfl, ez⟩⟩
 ·have h := h2
  clear h1 h2
  refine kj ?_
  refine kk h fun c1 h => ?_
  cases h
  refine hR _ _ ⟨[(7, 4)], ⟨by rfl, ez, by rfl, ez⟩⟩
theorem config_sorted_Inhibit_1_ok {A : Ar} (hA : A = std) {x0 : Inhibit} {x1 : Inhibit} {c0 : Bool} {r : Int × Bool} (h : config_sorted_Inhibit_1 A x0 x1 c0 = some r) : PFunM cx 255 [inhibitPV x0, inhibitPV x1, .bx 1000 0 0] [⟨1000, 0, .box 125 [.fn (.func 156) [] [.bx 1001 0 0]]⟩, ⟨1001, 0, .box 4 [bl c0]⟩] (it .i64 r.1) [⟨1000, 0, .box 125 [.fn (.func 156) [] [.bx 1001 0 0]]⟩, ⟨1001, 0, .box 4 [bl r.2]⟩] := by
 refine PFunM.walkM (fz := fun _ => false) hA cx_ok Tryz.func255 rfl rfl fun P R hP hR => ?_
 cbv; unfold config_sorted_Inhibit_1 at h
 iterate 2 refine kj ?_
 obtain ⟨w1, hw1, h⟩ := bd_e h; refine km hP [(1001, 0)] (config_Normal_1_ok hA hw1) ?_; cbv
 obtain ⟨w2, hw2, h⟩ := bd_e h; refine km hP [(1001, 0)] (config_Normal_1_ok hA hw2) ?_; cbv
 obtain ⟨w3, hw3, h⟩ := bd_e h; refine kc hP (strings_Compare_ok hA hw3) ?_; cbv
 refine kj ?_
 cases h
 refine hR _ _ ⟨[], ⟨by rfl, ez, by rfl, ez⟩⟩
theorem slices_insertionSortCmpFunc_Inhibit_ok {A : Ar} (hA : A = std) {x0 : List Inhibit} {n0 : Int} {x1 : Int} {x2 : Int} {c0 : Bool} {r : List Inhibit × Bool} (h : slices_insertionSortCmpFunc_Inhibit A x0 n0 x1 x2 c0 = some r) : PFunM cx 347 [.ms 1000 0 TyS.inhibit 0 n0, it .i64 x1, it .i64 x2, .fn (.func 255) [] [.bx 1001 0 0]] [⟨1000, 0, .arr 63 TyS.inhibit x0⟩, ⟨1001, 0, .box 125 [.fn (.func 156) [] [.bx 1002 0 0]]⟩, ⟨1002, 0, .box 4 [bl c0]⟩] (.tu []) [⟨1000, 0, .arr 63 TyS.inhibit r.1⟩, ⟨1001, 0, .box 125 [.fn (.func 156) [] [.bx 1002 0 0]]⟩, ⟨1002, 0, .box 4 [bl r.2]⟩] := by
 refine PFunM.walkM (fz := fun k => k == 196629) hA cx_ok Tryz.func347 rfl rfl fun P R hP hR => ?_
 cbv; unfold slices_insertionSortCmpFunc_Inhibit at h
 refine kj ?_
 refine kl h (fun x _ => [(8, it .i64 x.1)]) (fun x gh => [⟨1001, 0, .box 125 [PV.fn (Fn.func 156) [] [PV.bx 1002 0 0]]⟩, ⟨1002, 0, .box 4 [bl x.2.1]⟩, ⟨1000, 0, .arr 63 TyS.inhibit x.2.2⟩]) [] ?_
 rintro ⟨i8, b0_1002, row1000⟩ gh1 g1 _ _ _ hK1 hQ1 h; cbv
 refine kj ?_
 refine bc h (fun hb h => ?_) fun hb h => ?_
 ·cbv
  refine kj ?_
  refine kl h (fun x _ => [(9, it .i64 x.1)]) (fun x gh => [⟨1001, 0, .box 125 [PV.fn (Fn.func 156) [] [PV.bx 1002 0 0]]⟩, ⟨1002, 0, .box 4 [bl x.2.1]⟩, ⟨1000, 0, .arr 63 TyS.inhibit x.2.2⟩]) [] ?_
  rintro ⟨j9, b0_1002', row1000'⟩ gh2 g2 _ _ _ hK2 hQ2 h; cbv
  refine kj ?_
  obtain ⟨hb, h⟩ | ⟨hb, h⟩ := br_e h
  ·refine selT hb ?_
   cbv
   refine kk h fun c1 h => ?_
   refine kk h fun c2 h => ?_
   refine kk h fun c3 h => ?_
   refine kk h fun c4 h => ?_
   obtain ⟨w5, hw5, h⟩ := bd_e h; refine km hP [(1001, 0), (1002, 0)] (config_sorted_Inhibit_1_ok hA hw5) ?_; cbv
   refine kj ?_
   refine bc h (fun hb h => ?_) fun hb h => ?_
   ·cbv
    refine kj ?_
    refine ⟨c3, ?_⟩
    refine ⟨c4, ?_⟩
    refine ⟨c1, ?_⟩
    refine ⟨c2, ?_⟩
    refine ⟨c1, ?_⟩
    refine ⟨c2, ?_⟩
    refine ⟨c3, ?_⟩
    refine kk h fun c6 h => ?_
    iterate 2 refine kj ?_
    cases h; exact hK2 _ _ [] rfl hdy
   ·cbv
    refine hQ2 _ h _ _ fun h => ?_; cbv
    refine kj ?_
    cases h; exact hK1 _ _ [] rfl hdy
  ·refine selF hb ?_
   cbv
   refine kj ?_
   refine bc h (fun hb h => ?_) fun hb h => ?_
   ·cbv
    refine kj ?_
    refine kk h fun c7 h => ?_
    refine kk h fun c8 h => ?_
    refine kk h fun c9 h => ?_
    refine kk h fun c10 h => ?_
    refine ⟨c9, ?_⟩
    refine ⟨c10, ?_⟩
    refine ⟨c7, ?_⟩
    refine kk h fun c11 h => ?_
    iterate 2 refine kj ?_
    cases h; exact hK2 _ _ [] rfl hdy
   ·cbv
    refine hQ2 _ h _ _ fun h => ?_; cbv
    refine kj ?_
    cases h; exact hK1 _ _ [] rfl hdy
 ·cbv
  refine hQ1 _ h _ _ fun h => ?_; cbv
  cases h
  refine hR _ _ ⟨[], ⟨by rfl, ez, by rfl, ez⟩⟩
theorem slices_stableCmpFunc_Inhibit_ok {A : Ar} (hA : A = std) {x0 : List Inhibit} {n0 : Int} {x1 : Int} {c0 : Bool} {r : List Inhibit × Bool} (h : slices_stableCmpFunc_Inhibit A x0 n0 x1 c0 = some r) : PFunM cx 310 [.ms 1000 0 TyS.inhibit 0 n0, it .i64 x1, .fn (.func 255) [] [.bx 1001 0 0]] [⟨1000, 0, .arr 63 TyS.inhibit x0⟩, ⟨1001, 0, .box 125 [.fn (.func 156) [] [.bx 1002 0 0]]⟩, ⟨1002, 0, .box 4 [bl c0]⟩] (.tu []) [⟨1000, 0, .arr 63 TyS.inhibit r.1⟩, ⟨1001, 0, .box 125 [.fn (.func 156) [] [.bx 1002 0 0]]⟩, ⟨1002, 0, .box 4 [bl r.2]⟩] := by
 refine PFunM.walkM (fz := fun _ => false) hA cx_ok Tryz.func310 rfl rfl fun P R hP hR => ?_
 cbv; unfold slices_stableCmpFunc_Inhibit at h
 iterate 2 refine kj ?_
 refine kl h (fun x _ => [(7, it .i64 x.1), (8, it .i64 x.2.1)]) (fun x gh => [⟨1001, 0, .box 125 [PV.fn (Fn.func 156) [] [PV.bx 1002 0 0]]⟩, ⟨1002, 0, .box 4 [bl x.2.2.1]⟩, ⟨1000, 0, .arr 63 TyS.inhibit x.2.2.2⟩]) [] ?_
 rintro ⟨a7, b8, b0_1002, row1000⟩ gh1 g1 _ _ _ hK1 hQ1 h; cbv
 refine kj ?_
 refine bc h (fun hb h => ?_) fun hb h => ?_
 ·cbv
  refine kj ?_
  obtain ⟨w1, hw1, h⟩ := bd_e h; refine km hP [(1000, 0), (1001, 0), (1002, 0)] (slices_insertionSortCmpFunc_Inhibit_ok hA hw1) ?_; cbv
  iterate 2 refine kj ?_
  cases h; exact hK1 _ _ [] rfl hdy
 ·cbv
  refine hQ1 _ h _ _ fun h => ?_; cbv
  refine kj ?_
  obtain ⟨w2, hw2, h⟩ := bd_e h; refine km hP [(1000, 0), (1001, 0), (1002, 0)] (slices_insertionSortCmpFunc_Inhibit_ok hA hw2) ?_; cbv
  refine kl h (fun x _ => [(6, it .i64 x)]) (fun x gh => [⟨1001, 0, .box 125 [PV.fn (Fn.func 156) [] [PV.bx 1002 0 0]]⟩, ⟨1002, 0, .box 4 [bl w2.2]⟩, ⟨1000, 0, Cell.arr 63 TyS.inhibit w2.1⟩]) [] ?_
  rintro blockSize6 gh2 g2 _ _ _ hK2 hQ2 h; cbv
  refine kj ?_
  refine bc h (fun hb h => ?_) fun hb h => ?_
  ·cbv
   refine kj ?_
   refine kl h (fun x _ => [(7, it .i64 x.1), (8, it .i64 x.2)]) (fun x gh => [⟨1001, 0, .box 125 [PV.fn (Fn.func 156) [] [PV.bx 1002 0 0]]⟩, ⟨1002, 0, .box 4 [bl w2.2]⟩, ⟨1000, 0, Cell.arr 63 TyS.inhibit w2.1⟩]) [] ?_
   rintro ⟨a7', b8'⟩ gh3 g3 _ _ _ hK3 hQ3 h; cbv
   refine kj ?_
   refine bc h (fun hb h => ?_) fun hb h => ?_
   ·cbv
    refine kj ?_
    cases h
   ·cbv
    refine hQ3 _ h _ _ fun h => ?_; cbv
    iterate 2 refine kj ?_
    refine bc h (fun hb h => ?_) fun hb h => ?_
    ·cbv
     refine kj ?_
     cases h
    ·cbv
     refine kj ?_
     cases h; exact hK2 _ _ [] rfl hdy
  ·cbv
   refine hQ2 _ h _ _ fun h => ?_; cbv
   cases h
   refine hR _ _ ⟨[], ⟨by rfl, ez, by rfl, ez⟩⟩
theorem slices_SortStableFunc_Inhibit_Inhibit_ok {A : Ar} (hA : A = std) {x0 : List Inhibit} {n0 : Int} {c0 : Bool} {r : List Inhibit × Bool} (h : slices_SortStableFunc_Inhibit_Inhibit A x0 n0 c0 = some r) : PFunM cx 254 [.ms 1000 0 TyS.inhibit 0 n0, .fn (.func 255) [] [.bx 1001 0 0]] [⟨1000, 0, .arr 63 TyS.inhibit x0⟩, ⟨1001, 0, .box 125 [.fn (.func 156) [] [.bx 1002 0 0]]⟩, ⟨1002, 0, .box 4 [bl c0]⟩] (.tu []) [⟨1000, 0, .arr 63 TyS.inhibit r.1⟩, ⟨1001, 0, .box 125 [.fn (.func 156) [] [.bx 1002 0 0]]⟩, ⟨1002, 0, .box 4 [bl r.2]⟩] := by
 refine PFunM.walkM (fz := fun _ => false) hA cx_ok Tryz.func254 rfl rfl fun P R hP hR => ?_
 cbv; unfold slices_SortStableFunc_Inhibit_Inhibit at h
 refine kj ?_
 obtain ⟨w1, hw1, h⟩ := bd_e h; refine km hP [(1000, 0), (1001, 0), (1002, 0)] (slices_stableCmpFunc_Inhibit_ok hA hw1) ?_; cbv
 cases h
 refine hR _ _ ⟨[], ⟨by rfl, ez, by rfl, ez⟩⟩
theorem config_sorted_Inhibit_ok {A : Ar} (hA : A = std) {x0 : List Inhibit} {c0 : Bool} {r : Int × List Inhibit × Bool} (h : config_sorted_Inhibit A x0 c0 = some r) : PFunM cx 161 [.d (.sl TyS.inhibit x0), .fn (.func 156) [] [.bx 1000 0 0]] [⟨1000, 0, .box 4 [bl c0]⟩] (.ms 2000 1 TyS.inhibit 0 r.1) [⟨1000, 0, .box 4 [bl r.2.2]⟩, ⟨2000, 1, .arr 63 TyS.inhibit r.2.1⟩] := by
 refine PFunM.walkM (fz := fun _ => false) hA cx_ok Tryz.func161 rfl rfl fun P R hP hR => ?_
 cbv; unfold config_sorted_Inhibit at h
 iterate 2 refine kj ?_
 obtain ⟨w1, hw1, h⟩ := bd_e h; refine km hP [] (slices_Clone_Inhibit_Inhibit_ok hA hw1) ?_; cbv
 refine kj ?_
 obtain ⟨w2, hw2, h⟩ := bd_e h; refine km hP [(7, 3), (3, 2), (1000, 0)] (slices_SortStableFunc_Inhibit_Inhibit_ok hA hw2) ?_; cbv
 refine kj ?_
 cases h
 refine hR _ _ ⟨[(7, 3)], ⟨by rfl, ez, by rfl, ez⟩⟩
theorem config_Normal_2_ok {A : Ar} (hA : A = std) {x0 : Inhibit} {x1 : Inhibit} {c0 : Bool} {r : Bool × Bool} (h : config_Normal_2 A x0 x1 c0 = some r) : PFunM cx 162 [inhibitPV x0, inhibitPV x1, .bx 1000 0 0] [⟨1000, 0, .box 125 [.fn (.func 156) [] [.bx 1001 0 0]]⟩, ⟨1001, 0, .box 4 [bl c0]⟩] (bl r.1) [⟨1000, 0, .box 125 [.fn (.func 156) [] [.bx 1001 0 0]]⟩, ⟨1001, 0, .box 4 [bl r.2]⟩] := by
 refine PFunM.walkM (fz := fun _ => false) hA cx_ok Tryz.func162 rfl rfl fun P R hP hR => ?_
 cbv; unfold config_Normal_2 at h
 iterate 2 refine kj ?_
 obtain ⟨w1, hw1, h⟩ := bd_e h; refine km hP [(1001, 0)] (config_Normal_1_ok hA hw1) ?_; cbv
 obtain ⟨w2, hw2, h⟩ := bd_e h; refine km hP [(1001, 0)] (config_Normal_1_ok hA hw2) ?_; cbv
 refine kj ?_
 cases h
 refine hR _ _ ⟨[], ⟨by rfl, ez, by rfl, ez⟩⟩
theorem slices_CompactFunc_Inhibit_Inhibit_ok {A : Ar} (hA : A = std) {x0 : List Inhibit} {n0 : Int} {c0 : Bool} {r : Int × Int × List Inhibit × Bool} (h : slices_CompactFunc_Inhibit_Inhibit A x0 n0 c0 = some r) : PFunM cx 160 [.ms 1000 0 TyS.inhibit 0 n0, .fn (.func 162) [] [.bx 1001 0 0]] [⟨1000, 0, .arr 63 TyS.inhibit x0⟩, ⟨1001, 0, .box 125 [.fn (.func 156) [] [.bx 1002 0 0]]⟩, ⟨1002, 0, .box 4 [bl c0]⟩] (.ms 1000 0 TyS.inhibit r.1 r.2.1) [⟨1000, 0, .arr 63 TyS.inhibit r.2.2.1⟩, ⟨1001, 0, .box 125 [.fn (.func 156) [] [.bx 1002 0 0]]⟩, ⟨1002, 0, .box 4 [bl r.2.2.2]⟩] := by
 refine PFunM.walkM (fz := fun _ => false) hA cx_ok Tryz.func160 rfl rfl fun P R hP hR => ?_
 cbv; unfold slices_CompactFunc_Inhibit_Inhibit at h
 iterate 2 refine kj ?_
 refine bc h (fun hb h => ?_) fun hb h => ?_
 ·cbv
  refine kj ?_
  cases h
  refine hR _ _ ⟨[], ⟨by rfl, ez, by rfl, ez⟩⟩
 ·cbv
  refine kj ?_
  refine kl h (fun x _ => [(5, it .i64 x.1)]) (fun x gh => [⟨1001, 0, .box 125 [PV.fn (Fn.func 156) [] [PV.bx 1002 0 0]]⟩, ⟨1002, 0, .box 4 [bl x.2]⟩, ⟨1000, 0, Cell.arr 63 TyS.inhibit x0⟩]) [] ?_
  rintro ⟨t5, b0_1002⟩ gh1 g1 _ _ _ hK1 hQ1 h; cbv
  refine kj ?_
  refine bc h (fun hb h => ?_) fun hb h => ?_
  ·cbv
   refine kj ?_
   refine kk h fun c1 h => ?_
   refine kk h fun c2 h => ?_
   refine kk h fun c3 h => ?_
   refine kk h fun c4 h => ?_
   obtain ⟨w5, hw5, h⟩ := bd_e h; refine km hP [(1001, 0), (1002, 0)] (config_Normal_2_ok hA hw5) ?_; cbv
   refine kj ?_
   refine bc h (fun hb h => ?_) fun hb h => ?_
   ·cbv
    refine kj ?_
    refine kk h fun c6 h => ?_
    refine kj ?_
    refine kl h (fun x _ => [(5, it .i64 x.1), (7, it .i64 x.2.1)]) (fun x gh => [⟨1001, 0, .box 125 [PV.fn (Fn.func 156) [] [PV.bx 1002 0 0]]⟩, ⟨1002, 0, .box 4 [bl x.2.2.1]⟩, ⟨1000, 0, .arr 63 TyS.inhibit x.2.2.2⟩]) [] ?_
    rintro ⟨t5', t7, b0_1002', row1000⟩ gh2 g2 _ _ _ hK2 hQ2 h; cbv
    refine kj ?_
    refine bc h (fun hb h => ?_) fun hb h => ?_
    ·cbv
     refine kj ?_
     refine kk h fun c7 h => ?_
     refine kk h fun c8 h => ?_
     refine kk h fun c9 h => ?_
     refine kk h fun c10 h => ?_
     obtain ⟨w11, hw11, h⟩ := bd_e h; refine km hP [(1001, 0), (1002, 0)] (config_Normal_2_ok hA hw11) ?_; cbv
     refine kj ?_
     refine bc h (fun hb h => ?_) fun hb h => ?_
     ·cbv
      refine kj ?_
      refine ⟨c7, ?_⟩
      refine ⟨c8, ?_⟩
      refine kk h fun c12 h => ?_
      refine kk h fun c13 h => ?_
      iterate 2 refine kj ?_
      cases h; exact hK2 _ _ [] rfl hdy
     ·cbv
      refine kj ?_
      cases h; exact hK2 _ _ [] rfl hdy
    ·cbv
     refine hQ2 _ h _ _ fun h => ?_; cbv
     refine kj ?_
     refine kk h fun c14 h => ?_
     refine kk h fun c15 h => ?_
     refine kj ?_
     refine kk h fun c16 h => ?_
     refine hQ1 _ h _ _ fun h => ?_; cbv
     cases h
     refine hR _ _ ⟨[], ⟨by rfl, ez, by rfl, ez⟩⟩
   ·cbv
    refine kj ?_
    cases h; exact hK1 _ _ [] rfl hdy
  ·cbv
   refine hQ1 _ h _ _ fun h => ?_; cbv
   refine kj ?_
   cases h
   refine hR _ _ ⟨[], ⟨by rfl, ez, by rfl, ez⟩⟩
theorem config_Normal_ok {A : Ar} (hA : A = std) {x0 : Config} {r : Config × Int} (h : config_Normal A x0 = some r) : PFun cx 68 [configPV x0] (.tu [configPV r.1, it .i64 r.2]) := by
 refine wF hA cx_ok Tryz.func68 fun P R hP hR => ?_
 cbv; unfold config_Normal at h
 iterate 2 refine kj ?_
 obtain ⟨w1, hw1, h⟩ := bd_e h; refine kc hP (config_Right_ok hA hw1) ?_; cbv
 refine bc h (fun hb h => ?_) fun hb h => ?_
 ·cbv
  refine kj ?_
  cases h; subst hR; exact ey
 ·cbv
  iterate 3 refine kj ?_
  obtain ⟨w2, hw2, h⟩ := bd_e h; refine ke hP (config_sorted_Rule_ok (cap1 := []) hA (by first | exact .inl rfl | exact .inr ⟨_, rfl⟩) (fun _ _ hw => config_ruled_ok hA hw) hw2) ?_; cbv
  obtain ⟨w3, hw3, h⟩ := bd_e h; refine ke hP (config_sorted_string_ok (cap1 := []) hA (by first | exact .inl rfl | exact .inr ⟨_, rfl⟩) (fun _ _ hw => config_itself_ok hA hw) hw3) ?_; cbv
  obtain ⟨w4, hw4, h⟩ := bd_e h; refine ke hP (config_sorted_Hours_ok (cap1 := []) hA (by first | exact .inl rfl | exact .inr ⟨_, rfl⟩) (fun _ _ hw => config_houred_ok hA hw) hw4) ?_; cbv
  iterate 2 refine kj ?_
  obtain ⟨w5, hw5, h⟩ := bd_e h; refine km hP [(4, 2)] (config_sorted_Inhibit_ok hA hw5) ?_; cbv
  obtain ⟨w6, hw6, h⟩ := bd_e h; refine km hP [(26, 5), (5, 3), (4, 2)] (slices_CompactFunc_Inhibit_Inhibit_ok hA hw6) ?_; cbv
  refine kj ?_
  refine kk h fun c7 h => ?_
  cases h; subst hR; exact ey
theorem amfile_tops_ok {A : Ar} (hA : A = std) {r : List ByteArray} (h : amfile_tops A = some r) : PFun cx 201 [] (.d (.sl TyS.str r)) := by
 refine wF hA cx_ok Tryz.func201 fun P R hP hR => ?_
 cbv; unfold amfile_tops at h
 iterate 2 refine kj ?_
 cases h; subst hR; exact ey
theorem amfile_routed_ok {A : Ar} (hA : A = std) {r : List ByteArray} (h : amfile_routed A = some r) : PFun cx 275 [] (.d (.sl TyS.str r)) := by
 refine wF hA cx_ok Tryz.func275 fun P R hP hR => ?_
 cbv; unfold amfile_routed at h
 iterate 2 refine kj ?_
 cases h; subst hR; exact ey
theorem amfile_word_ok {A : Ar} (hA : A = std) {x0 : ByteArray} {r : Node} (h : amfile_word A x0 = some r) : PFun cx 204 [st x0] (nodePV r) := by
 refine wF hA cx_ok Tryz.func204 fun P R hP hR => ?_
 cbv; unfold amfile_word at h
 iterate 2 refine kj ?_
 exact le h hR
theorem amfile_row_Matcher_ok {A : Ar} (hA : A = std) {x0 : List Matcher} {q1 : Matcher → Option Node} {g1 : Nat} (hq1 : ∀ (y0 : Matcher) (r : Node), q1 y0 = some r → PFun cx g1 ((matcherPV y0) :: []) (nodePV r)) {r : Node} (h : amfile_row_Matcher A x0 q1 = some r) : PFun cx 276 [.d (.sl TyS.matcher x0), .fn (.func g1) [] []] (nodePV r) := by
 refine wF hA cx_ok Tryz.func276 fun P R hP hR => ?_
 cbv; unfold amfile_row_Matcher at h
 iterate 3 refine kj ?_
 refine kl h (fun x _ => [(11, it .i64 x.1)]) (fun x gh => [⟨4031, gh, .tok 135 TyS.node (A.nlen TyS.node x.2)⟩, ⟨5, 1, .box 135 [it .i64 2, PV.d (D.v (Value.string (ByteArray.mk (Array.mk [])))), PV.d (D.v (Value.slice none 0 0)), .os 4031 gh TyS.node x.2]⟩, ⟨4, 0, .box 135 [it .i64 0, PV.d (D.v (Value.string (ByteArray.mk (Array.mk [])))), PV.d (D.v (Value.slice none 0 0)), PV.d (D.v (Value.slice none 0 0))]⟩]) [] ?_
 rintro ⟨t11, b3_5⟩ gh1 g1 _ _ _ hK1 hQ1 h; cbv
 refine kj ?_
 refine bc h (fun hb h => ?_) fun hb h => ?_
 ·cbv
  refine kj ?_
  refine kk h fun c1 h => ?_
  refine kj ?_
  obtain ⟨w2, hw2, h⟩ := bd_e h; refine kc hP (hq1 _ _ hw2) ?_; cbv
  refine kk h fun c3 h => ?_
  iterate 2 refine kj ?_
  cases h; exact hK1 _ _ [(4031, 21, g1.succ.succ)] rfl hdy
 ·cbv
  refine hQ1 _ h _ _ fun h => ?_; cbv
  refine kj ?_
  exact le h hR
theorem amfile_match_ok {A : Ar} (hA : A = std) {x0 : Matcher} {r : Node} (h : amfile_match A x0 = some r) : PFun cx 277 [matcherPV x0] (nodePV r) := by
 refine wF hA cx_ok Tryz.func277 fun P R hP hR => ?_
 cbv; unfold amfile_match at h
 iterate 2 refine kj ?_
 obtain ⟨w1, hw1, h⟩ := bd_e h; refine kc hP (matcher_Text_ok hA hw1) ?_; cbv
 refine kj ?_
 obtain ⟨w2, hw2, h⟩ := bd_e h; refine kc hP (amfile_word_ok hA hw2) ?_; cbv
 exact le h hR
theorem amfile_row_string_ok {A : Ar} (hA : A = std) {x0 : List ByteArray} {q1 : ByteArray → Option Node} {g1 : Nat} (hq1 : ∀ (y0 : ByteArray) (r : Node), q1 y0 = some r → PFun cx g1 ((st y0) :: []) (nodePV r)) {r : Node} (h : amfile_row_string A x0 q1 = some r) : PFun cx 203 [.d (.sl TyS.str x0), .fn (.func g1) [] []] (nodePV r) := by
 refine wF hA cx_ok Tryz.func203 fun P R hP hR => ?_
 cbv; unfold amfile_row_string at h
 iterate 3 refine kj ?_
 refine kl h (fun x _ => [(11, it .i64 x.1)]) (fun x gh => [⟨4031, gh, .tok 135 TyS.node (A.nlen TyS.node x.2)⟩, ⟨5, 1, .box 135 [it .i64 2, PV.d (D.v (Value.string (ByteArray.mk (Array.mk [])))), PV.d (D.v (Value.slice none 0 0)), .os 4031 gh TyS.node x.2]⟩, ⟨4, 0, .box 135 [it .i64 0, PV.d (D.v (Value.string (ByteArray.mk (Array.mk [])))), PV.d (D.v (Value.slice none 0 0)), PV.d (D.v (Value.slice none 0 0))]⟩]) [] ?_
 rintro ⟨t11, b3_5⟩ gh1 g1 _ _ _ hK1 hQ1 h; cbv
 refine kj ?_
 refine bc h (fun hb h => ?_) fun hb h => ?_
 ·cbv
  refine kj ?_
  refine kk h fun c1 h => ?_
  refine kj ?_
  obtain ⟨w2, hw2, h⟩ := bd_e h; refine kc hP (hq1 _ _ hw2) ?_; cbv
  refine kk h fun c3 h => ?_
  iterate 2 refine kj ?_
  cases h; exact hK1 _ _ [(4031, 21, g1.succ.succ)] rfl hdy
 ·cbv
  refine hQ1 _ h _ _ fun h => ?_; cbv
  refine kj ?_
  exact le h hR
theorem amfile_number_ok {A : Ar} (hA : A = std) {x0 : Int} {r : Node} (h : amfile_number A x0 = some r) : PFun cx 278 [it .i64 x0] (nodePV r) := by
 refine wF hA cx_ok Tryz.func278 fun P R hP hR => ?_
 cbv; unfold amfile_number at h
 iterate 2 refine kj ?_
 obtain ⟨w1, hw1, h⟩ := bd_e h; refine kc hP (strconv_Itoa_ok hA hw1) ?_; cbv
 obtain ⟨w2, hw2, h⟩ := bd_e h; refine kc hP (amfile_word_ok hA hw2) ?_; cbv
 exact le h hR
theorem amfile_row_Route_ok {A : Ar} (hA : A = std) {x0 : List Route} {q1 : Route → Option Node} {g1 : Nat} (hq1 : ∀ (y0 : Route) (r : Node), q1 y0 = some r → PFun cx g1 ((routePV y0) :: []) (nodePV r)) {r : Node} (h : amfile_row_Route A x0 q1 = some r) : PFun cx 279 [.d (.sl TyS.route x0), .fn (.func g1) [] []] (nodePV r) := by
 refine wF hA cx_ok Tryz.func279 fun P R hP hR => ?_
 cbv; unfold amfile_row_Route at h
 iterate 3 refine kj ?_
 refine kl h (fun x _ => [(11, it .i64 x.1)]) (fun x gh => [⟨4031, gh, .tok 135 TyS.node (A.nlen TyS.node x.2)⟩, ⟨5, 1, .box 135 [it .i64 2, PV.d (D.v (Value.string (ByteArray.mk (Array.mk [])))), PV.d (D.v (Value.slice none 0 0)), .os 4031 gh TyS.node x.2]⟩, ⟨4, 0, .box 135 [it .i64 0, PV.d (D.v (Value.string (ByteArray.mk (Array.mk [])))), PV.d (D.v (Value.slice none 0 0)), PV.d (D.v (Value.slice none 0 0))]⟩]) [] ?_
 rintro ⟨t11, b3_5⟩ gh1 g1 _ _ _ hK1 hQ1 h; cbv
 refine kj ?_
 refine bc h (fun hb h => ?_) fun hb h => ?_
 ·cbv
  refine kj ?_
  refine kk h fun c1 h => ?_
  refine kj ?_
  obtain ⟨w2, hw2, h⟩ := bd_e h; refine kc hP (hq1 _ _ hw2) ?_; cbv
  refine kk h fun c3 h => ?_
  iterate 2 refine kj ?_
  cases h; exact hK1 _ _ [(4031, 21, g1.succ.succ)] rfl hdy
 ·cbv
  refine hQ1 _ h _ _ fun h => ?_; cbv
  refine kj ?_
  exact le h hR
theorem amfile_table_ok {A : Ar} (hA : A = std) {x0 : List ByteArray} {x1 : List Node} {r : Node} (h : amfile_table A x0 x1 = some r) : PFun cx 200 [.d (.sl TyS.str x0), .d (.sl TyS.node x1)] (nodePV r) := by
 refine wF hA cx_ok Tryz.func200 fun P R hP hR => ?_
 cbv; unfold amfile_table at h
 iterate 2 refine kj ?_
 exact le h hR
theorem amfile_route_S_ok {A : Ar} (hA : A = std) {rf : Route → Option Node} {x0 : Route} (hqr202 : ∀ (x0 : Route) (r : Node), rf x0 = some r → PFun cx 202 [routePV x0] (nodePV r)) {r : Node} (h : amfile_route_S A rf x0 = some r) : PFun cx 202 [routePV x0] (nodePV r) := by
 refine wF hA cx_ok Tryz.func202 fun P R hP hR => ?_
 cbv; unfold amfile_route_S at h
 iterate 3 refine kj ?_
 refine bc h (fun hb h => ?_) fun hb h => ?_
 ·cbv
  iterate 2 refine kj ?_
  obtain ⟨w1, hw1, h⟩ := bd_e h; refine kc hP (amfile_routed_ok hA hw1) ?_; cbv
  obtain ⟨w2, hw2, h⟩ := bd_e h; refine kc hP (amfile_word_ok hA hw2) ?_; cbv
  obtain ⟨w3, hw3, h⟩ := bd_e h; refine ke hP (amfile_row_Matcher_ok hA (fun _ _ hw => amfile_match_ok hA hw) hw3) ?_; cbv
  obtain ⟨w4, hw4, h⟩ := bd_e h; refine ke hP (amfile_row_string_ok hA (fun _ _ hw => amfile_word_ok hA hw) hw4) ?_; cbv
  obtain ⟨w5, hw5, h⟩ := bd_e h; refine kc hP (amfile_number_ok hA hw5) ?_; cbv
  obtain ⟨w6, hw6, h⟩ := bd_e h; refine kc hP (amfile_number_ok hA hw6) ?_; cbv
  obtain ⟨w7, hw7, h⟩ := bd_e h; refine kc hP (amfile_number_ok hA hw7) ?_; cbv
  obtain ⟨w8, hw8, h⟩ := bd_e h; refine ke hP (amfile_row_string_ok hA (fun _ _ hw => amfile_word_ok hA hw) hw8) ?_; cbv
  obtain ⟨w9, hw9, h⟩ := bd_e h; refine kc hP (amfile_word_ok hA hw9) ?_; cbv
  obtain ⟨w10, hw10, h⟩ := bd_e h; refine ke hP (amfile_row_Route_ok hA hqr202 hw10) ?_; cbv
  obtain ⟨w11, hw11, h⟩ := bd_e h; refine kc hP (amfile_table_ok hA hw11) ?_; cbv
  refine kj ?_
  exact le h hR
 ·cbv
  refine kj ?_
  obtain ⟨w12, hw12, h⟩ := bd_e h; refine kc hP (amfile_routed_ok hA hw12) ?_; cbv
  obtain ⟨w13, hw13, h⟩ := bd_e h; refine kc hP (amfile_word_ok hA hw13) ?_; cbv
  obtain ⟨w14, hw14, h⟩ := bd_e h; refine ke hP (amfile_row_Matcher_ok hA (fun _ _ hw => amfile_match_ok hA hw) hw14) ?_; cbv
  obtain ⟨w15, hw15, h⟩ := bd_e h; refine ke hP (amfile_row_string_ok hA (fun _ _ hw => amfile_word_ok hA hw) hw15) ?_; cbv
  obtain ⟨w16, hw16, h⟩ := bd_e h; refine kc hP (amfile_number_ok hA hw16) ?_; cbv
  obtain ⟨w17, hw17, h⟩ := bd_e h; refine kc hP (amfile_number_ok hA hw17) ?_; cbv
  obtain ⟨w18, hw18, h⟩ := bd_e h; refine kc hP (amfile_number_ok hA hw18) ?_; cbv
  obtain ⟨w19, hw19, h⟩ := bd_e h; refine ke hP (amfile_row_string_ok hA (fun _ _ hw => amfile_word_ok hA hw) hw19) ?_; cbv
  obtain ⟨w20, hw20, h⟩ := bd_e h; refine kc hP (amfile_word_ok hA hw20) ?_; cbv
  obtain ⟨w21, hw21, h⟩ := bd_e h; refine ke hP (amfile_row_Route_ok hA hqr202 hw21) ?_; cbv
  obtain ⟨w22, hw22, h⟩ := bd_e h; refine kc hP (amfile_table_ok hA hw22) ?_; cbv
  refine kj ?_
  exact le h hR
theorem amfile_route_N_ok {A : Ar} (hA : A = std) : ∀ (n : Nat) (x0 : Route) (r : Node), amfile_route_N A n x0 = some r → PFun cx 202 [routePV x0] (nodePV r)
 | 0, _, _, h => by cases h
 | n + 1, x0, r, h => amfile_route_S_ok hA (fun _ _ hh => amfile_route_N_ok hA n _ _ hh) h
theorem amfile_route_ok {A : Ar} (hA : A = std) {x0 : Route} {r : Node} (h : amfile_route A x0 = some r) : PFun cx 202 [routePV x0] (nodePV r) := amfile_route_N_ok hA _ _ _ h
theorem amfile_row_Inhibit_ok {A : Ar} (hA : A = std) {x0 : List Inhibit} {q1 : Inhibit → Option Node} {g1 : Nat} (hq1 : ∀ (y0 : Inhibit) (r : Node), q1 y0 = some r → PFun cx g1 ((inhibitPV y0) :: []) (nodePV r)) {r : Node} (h : amfile_row_Inhibit A x0 q1 = some r) : PFun cx 205 [.d (.sl TyS.inhibit x0), .fn (.func g1) [] []] (nodePV r) := by
 refine wF hA cx_ok Tryz.func205 fun P R hP hR => ?_
 cbv; unfold amfile_row_Inhibit at h
 iterate 3 refine kj ?_
 refine kl h (fun x _ => [(11, it .i64 x.1)]) (fun x gh => [⟨4031, gh, .tok 135 TyS.node (A.nlen TyS.node x.2)⟩, ⟨5, 1, .box 135 [it .i64 2, PV.d (D.v (Value.string (ByteArray.mk (Array.mk [])))), PV.d (D.v (Value.slice none 0 0)), .os 4031 gh TyS.node x.2]⟩, ⟨4, 0, .box 135 [it .i64 0, PV.d (D.v (Value.string (ByteArray.mk (Array.mk [])))), PV.d (D.v (Value.slice none 0 0)), PV.d (D.v (Value.slice none 0 0))]⟩]) [] ?_
 rintro ⟨t11, b3_5⟩ gh1 g1 _ _ _ hK1 hQ1 h; cbv
 refine kj ?_
 refine bc h (fun hb h => ?_) fun hb h => ?_
 ·cbv
  refine kj ?_
  refine kk h fun c1 h => ?_
  refine kj ?_
  obtain ⟨w2, hw2, h⟩ := bd_e h; refine kc hP (hq1 _ _ hw2) ?_; cbv
  refine kk h fun c3 h => ?_
  iterate 2 refine kj ?_
  cases h; exact hK1 _ _ [(4031, 21, g1.succ.succ)] rfl hdy
 ·cbv
  refine hQ1 _ h _ _ fun h => ?_; cbv
  refine kj ?_
  exact le h hR
theorem amfile_quiet_ok {A : Ar} (hA : A = std) {x0 : Inhibit} {r : Node} (h : amfile_quiet A x0 = some r) : PFun cx 206 [inhibitPV x0] (nodePV r) := by
 refine wF hA cx_ok Tryz.func206 fun P R hP hR => ?_
 cbv; unfold amfile_quiet at h
 iterate 2 refine kj ?_
 obtain ⟨w1, hw1, h⟩ := bd_e h; refine ke hP (amfile_row_Matcher_ok hA (fun _ _ hw => amfile_match_ok hA hw) hw1) ?_; cbv
 obtain ⟨w2, hw2, h⟩ := bd_e h; refine ke hP (amfile_row_Matcher_ok hA (fun _ _ hw => amfile_match_ok hA hw) hw2) ?_; cbv
 obtain ⟨w3, hw3, h⟩ := bd_e h; refine ke hP (amfile_row_string_ok hA (fun _ _ hw => amfile_word_ok hA hw) hw3) ?_; cbv
 obtain ⟨w4, hw4, h⟩ := bd_e h; refine kc hP (amfile_table_ok hA hw4) ?_; cbv
 refine kj ?_
 exact le h hR
theorem amfile_row_Hours_ok {A : Ar} (hA : A = std) {x0 : List Hours} {q1 : Hours → Option Node} {g1 : Nat} (hq1 : ∀ (y0 : Hours) (r : Node), q1 y0 = some r → PFun cx g1 ((hoursPV y0) :: []) (nodePV r)) {r : Node} (h : amfile_row_Hours A x0 q1 = some r) : PFun cx 207 [.d (.sl TyS.hours x0), .fn (.func g1) [] []] (nodePV r) := by
 refine wF hA cx_ok Tryz.func207 fun P R hP hR => ?_
 cbv; unfold amfile_row_Hours at h
 iterate 3 refine kj ?_
 refine kl h (fun x _ => [(11, it .i64 x.1)]) (fun x gh => [⟨4031, gh, .tok 135 TyS.node (A.nlen TyS.node x.2)⟩, ⟨5, 1, .box 135 [it .i64 2, PV.d (D.v (Value.string (ByteArray.mk (Array.mk [])))), PV.d (D.v (Value.slice none 0 0)), .os 4031 gh TyS.node x.2]⟩, ⟨4, 0, .box 135 [it .i64 0, PV.d (D.v (Value.string (ByteArray.mk (Array.mk [])))), PV.d (D.v (Value.slice none 0 0)), PV.d (D.v (Value.slice none 0 0))]⟩]) [] ?_
 rintro ⟨t11, b3_5⟩ gh1 g1 _ _ _ hK1 hQ1 h; cbv
 refine kj ?_
 refine bc h (fun hb h => ?_) fun hb h => ?_
 ·cbv
  refine kj ?_
  refine kk h fun c1 h => ?_
  refine kj ?_
  obtain ⟨w2, hw2, h⟩ := bd_e h; refine kc hP (hq1 _ _ hw2) ?_; cbv
  refine kk h fun c3 h => ?_
  iterate 2 refine kj ?_
  cases h; exact hK1 _ _ [(4031, 21, g1.succ.succ)] rfl hdy
 ·cbv
  refine hQ1 _ h _ _ fun h => ?_; cbv
  refine kj ?_
  exact le h hR
theorem hours_two_ok {A : Ar} (hA : A = std) {x0 : Int} {r : ByteArray} (h : hours_two A x0 = some r) : PFun cx 290 [it .i64 x0] (st r) := by
 refine wF hA cx_ok Tryz.func290 fun P R hP hR => ?_
 cbv; unfold hours_two at h
 iterate 2 refine kj ?_
 iterate 2 (refine ⟨by subst hA; simp +contextual [vcm], ?_⟩)
 refine and_assoc.2 ?_
 refine kk h fun c1 h => ?_
 refine and_assoc.2 ?_
 refine kk h fun c2 h => ?_
 refine cj ?_
 exact le h hR
theorem hours_clock_ok {A : Ar} (hA : A = std) {x0 : Int} {r : ByteArray} (h : hours_clock A x0 = some r) : PFun cx 218 [it .i64 x0] (st r) := by
 refine wF hA cx_ok Tryz.func218 fun P R hP hR => ?_
 cbv; unfold hours_clock at h
 iterate 2 refine kj ?_
 refine ⟨by subst hA; simp +contextual [vcm], ?_⟩
 obtain ⟨w1, hw1, h⟩ := bd_e h; refine kc hP (hours_two_ok hA hw1) ?_; cbv
 refine kk h fun c2 h => ?_
 refine ⟨by subst hA; simp +contextual [vcm], ?_⟩
 obtain ⟨w3, hw3, h⟩ := bd_e h; refine kc hP (hours_two_ok hA hw3) ?_; cbv
 refine kk h fun c4 h => ?_
 exact le h hR
theorem hours_Text_ok {A : Ar} (hA : A = std) {x0 : Hours} {r : ByteArray × Int} (h : hours_Text A x0 = some r) : PFun cx 129 [hoursPV x0] (.tu [st r.1, it .i64 r.2]) := by
 refine wF hA cx_ok Tryz.func129 fun P R hP hR => ?_
 cbv; unfold hours_Text at h
 iterate 2 refine kj ?_
 obtain ⟨w1, hw1, h⟩ := bd_e h; refine kc hP (hours_Right_ok hA hw1) ?_; cbv
 refine bc h (fun hb h => ?_) fun hb h => ?_
 ·cbv
  refine kj ?_
  cases h; subst hR; exact ey
 ·cbv
  iterate 2 refine kj ?_
  refine kl h (fun x gh => [(4, .os 4030 gh TyS.str x.1), (11, it .i64 x.2)]) (fun x gh => [⟨4030, gh, .tok 9 TyS.str (A.nlen TyS.str x.1)⟩, ⟨1, 0, .box 67 [st x0.1, it .i64 x0.2, it .i64 x0.3, it .i64 x0.4]⟩]) [] ?_
  rintro ⟨l4, t11⟩ gh1 g1 _ _ _ hK1 hQ1 h; cbv
  refine kj ?_
  refine bc h (fun hb h => ?_) fun hb h => ?_
  ·cbv
   refine kj ?_
   refine kk h fun c2 h => ?_
   refine kj ?_
   refine kk h fun c3 h => ?_
   refine bc h (fun hb h => ?_) fun hb h => ?_
   ·cbv
    refine kj ?_
    refine kk h fun c4 h => ?_
    refine kj ?_
    cases h; exact hK1 _ _ [(4030, 24, g1.succ.succ.succ)] rfl hdy
   ·cbv
    refine kj ?_
    cases h; exact hK1 _ _ [(4030, 4030, gh1)] rfl hdy
  ·cbv
   refine hQ1 _ h _ _ fun h => ?_; cbv
   refine kj ?_
   obtain ⟨w5, hw5, h⟩ := bd_e h; refine kc hP (strings_Join_ok hA hw5) ?_; cbv
   refine kk h fun c6 h => ?_
   obtain ⟨w7, hw7, h⟩ := bd_e h; refine kc hP (hours_clock_ok hA hw7) ?_; cbv
   refine kk h fun c8 h => ?_
   refine kk h fun c9 h => ?_
   obtain ⟨w10, hw10, h⟩ := bd_e h; refine kc hP (hours_clock_ok hA hw10) ?_; cbv
   refine kk h fun c11 h => ?_
   refine kj ?_
   cases h; subst hR; exact ey
theorem amfile_span_ok {A : Ar} (hA : A = std) {x0 : Hours} {r : Node} (h : amfile_span A x0 = some r) : PFun cx 208 [hoursPV x0] (nodePV r) := by
 refine wF hA cx_ok Tryz.func208 fun P R hP hR => ?_
 cbv; unfold amfile_span at h
 iterate 2 refine kj ?_
 obtain ⟨w1, hw1, h⟩ := bd_e h; refine kc hP (hours_Text_ok hA hw1) ?_; cbv
 refine kj ?_
 obtain ⟨w2, hw2, h⟩ := bd_e h; refine kc hP (amfile_word_ok hA hw2) ?_; cbv
 obtain ⟨w3, hw3, h⟩ := bd_e h; refine kc hP (amfile_word_ok hA hw3) ?_; cbv
 obtain ⟨w4, hw4, h⟩ := bd_e h; refine kc hP (amfile_table_ok hA hw4) ?_; cbv
 exact le h hR
theorem amfile_node_ok {A : Ar} (hA : A = std) {x0 : Config} {r : Node} (h : amfile_node A x0 = some r) : PFun cx 122 [configPV x0] (nodePV r) := by
 refine wF hA cx_ok Tryz.func122 fun P R hP hR => ?_
 cbv; unfold amfile_node at h
 iterate 2 refine kj ?_
 obtain ⟨w1, hw1, h⟩ := bd_e h; refine kc hP (amfile_tops_ok hA hw1) ?_; cbv
 obtain ⟨w2, hw2, h⟩ := bd_e h; refine kc hP (amfile_route_ok hA hw2) ?_; cbv
 obtain ⟨w3, hw3, h⟩ := bd_e h; refine ke hP (amfile_row_string_ok hA (fun _ _ hw => amfile_word_ok hA hw) hw3) ?_; cbv
 obtain ⟨w4, hw4, h⟩ := bd_e h; refine ke hP (amfile_row_Inhibit_ok hA (fun _ _ hw => amfile_quiet_ok hA hw) hw4) ?_; cbv
 obtain ⟨w5, hw5, h⟩ := bd_e h; refine ke hP (amfile_row_Hours_ok hA (fun _ _ hw => amfile_span_ok hA hw) hw5) ?_; cbv
 obtain ⟨w6, hw6, h⟩ := bd_e h; refine kc hP (amfile_table_ok hA hw6) ?_; cbv
 refine kj ?_
 exact le h hR
theorem outline_word_1_ok {A : Ar} (hA : A = std) {x0 : Int} {r : Bool} (h : outline_word_1 A x0 = some r) : PFun cx 355 [it .u8 x0] (bl r) := by
 refine wF hA cx_ok Tryz.func355 fun P R hP hR => ?_
 cbv; unfold outline_word_1 at h
 iterate 2 refine kj ?_
 iterate 2 refine cj ?_
 exact le h hR
theorem outline_word_ok {A : Ar} (hA : A = std) {x0 : ByteArray} {r : Bool} (h : outline_word A x0 = some r) : PFun cx 321 [st x0] (bl r) := by
 refine wF hA cx_ok Tryz.func321 fun P R hP hR => ?_
 cbv; unfold outline_word at h
 iterate 2 refine kj ?_
 iterate 2 refine cj ?_
 obtain ⟨w1, hw1, h⟩ := bd_e h; refine kf hP (fun hc => (slices_ContainsFunc_byte_byte_ok hA (by rfl) (fun _ _ hw => outline_word_1_ok hA hw) (gd_e hw1 hc))) ?_; cbv
 iterate 2 refine cj ?_
 exact le h hR
theorem outline_small_ok {A : Ar} (hA : A = std) {x0 : Int} {r : Bool} (h : outline_small A x0 = some r) : PFun cx 379 [it .u8 x0] (bl r) := by
 refine wF hA cx_ok Tryz.func379 fun P R hP hR => ?_
 cbv; unfold outline_small at h
 iterate 2 refine kj ?_
 iterate 6 refine cj ?_
 refine ⟨by subst hA; simp +contextual [vcm], ?_⟩
 iterate 3 refine cj ?_
 exact le h hR
theorem outline_name_1_ok {A : Ar} (hA : A = std) {x0 : Int} {r : Bool} (h : outline_name_1 A x0 = some r) : PFun cx 378 [it .u8 x0] (bl r) := by
 refine wF hA cx_ok Tryz.func378 fun P R hP hR => ?_
 cbv; unfold outline_name_1 at h
 iterate 2 refine kj ?_
 obtain ⟨w1, hw1, h⟩ := bd_e h; refine kc hP (outline_small_ok hA hw1) ?_; cbv
 exact le h hR
theorem outline_name_ok {A : Ar} (hA : A = std) {x0 : ByteArray} {r : Bool} (h : outline_name A x0 = some r) : PFun cx 356 [st x0] (bl r) := by
 refine wF hA cx_ok Tryz.func356 fun P R hP hR => ?_
 cbv; unfold outline_name at h
 iterate 2 refine kj ?_
 iterate 5 refine cj ?_
 obtain ⟨w1, hw1, h⟩ := bd_e h; refine kf hP (fun hc => (slices_ContainsFunc_byte_byte_ok hA (by rfl) (fun _ _ hw => outline_name_1_ok hA hw) (gd_e hw1 hc))) ?_; cbv
 iterate 2 refine cj ?_
 exact le h hR
theorem outline_names_ok {A : Ar} (hA : A = std) {x0 : List ByteArray} {x1 : Int} {r : Bool} (h : outline_names A x0 x1 = some r) : PFun cx 322 [.d (.sl TyS.str x0), it .i64 x1] (bl r) := by
 refine wF hA cx_ok Tryz.func322 fun P R hP hR => ?_
 cbv; unfold outline_names at h
 iterate 2 refine kj ?_
 refine kl h (fun x _ => [(9, it .i64 x)]) (fun _ _ => []) [] ?_
 rintro t9 gh1 g1 _ _ _ hK1 hQ1 h; cbv
 refine kj ?_
 refine bc h (fun hb h => ?_) fun hb h => ?_
 ·cbv
  refine kj ?_
  refine kk h fun c1 h => ?_
  refine kj ?_
  obtain ⟨w2, hw2, h⟩ := bd_e h; refine kc hP (outline_name_ok hA hw2) ?_; cbv
  iterate 2 refine cj ?_
  refine kk h fun c3 h => ?_
  iterate 2 refine cj ?_
  obtain ⟨w4, hw4, h⟩ := bd_e h; refine kg hP (fun hc => (slices_Contains_string_string_ok hA (gd_e hw4 hc))) ?_; cbv
  refine cj ?_
  refine bc h (fun hb h => ?_) fun hb h => ?_
  ·cbv
   refine kj ?_
   refine hQ1 _ h _ _ fun h => ?_; cbv
   exact le h hR
  ·cbv
   refine kj ?_
   cases h; exact hK1 _ _ [] rfl hdy
 ·cbv
  refine hQ1 _ h _ _ fun h => ?_; cbv
  refine kj ?_
  exact le h hR
theorem slices_IndexFunc_Node_Node_ok {A : Ar} (hA : A = std) {x0 : List Node} {q1 : Node → Option Bool} {g1 : Nat} {cap1 : List PV} (hcap1 : bare.bares cap1 = true) (hq1 : ∀ (y0 : Node) (r : Bool), q1 y0 = some r → PFun cx g1 ((nodePV y0) :: cap1) (bl r)) {r : Int} (h : slices_IndexFunc_Node_Node A x0 q1 = some r) : PFun cx 357 [.d (.sl TyS.node x0), .fn (.func g1) [] cap1] (it .i64 r) := by
 refine wF hA cx_ok Tryz.func357 fun P R hP hR => ?_
 cbv; unfold slices_IndexFunc_Node_Node at h
 iterate 2 refine kj ?_
 refine kl h (fun x _ => [(8, it .i64 x)]) (fun _ _ => []) [] ?_
 rintro t8 gh1 g1 _ _ _ hK1 hQ1 h; cbv
 refine kj ?_
 refine bc h (fun hb h => ?_) fun hb h => ?_
 ·cbv
  iterate 2 refine kj ?_
  refine kk h fun c1 h => ?_
  obtain ⟨w2, hw2, h⟩ := bd_e h; refine kc hP (hq1 _ _ hw2) ?_ (by first | rfl | simp [bare, bare.bares, hcap1]); cbv
  refine bc h (fun hb h => ?_) fun hb h => ?_
  ·cbv
   refine kj ?_
   refine hQ1 _ h _ _ fun h => ?_; cbv
   exact le h hR
  ·cbv
   refine kj ?_
   cases h; exact hK1 _ _ [] rfl hdy
 ·cbv
  refine hQ1 _ h _ _ fun h => ?_; cbv
  refine kj ?_
  exact le h hR
theorem slices_ContainsFunc_Node_Node_ok {A : Ar} (hA : A = std) {x0 : List Node} {q1 : Node → Option Bool} {g1 : Nat} {cap1 : List PV} (hcap1 : bare.bares cap1 = true) (hq1 : ∀ (y0 : Node) (r : Bool), q1 y0 = some r → PFun cx g1 ((nodePV y0) :: cap1) (bl r)) {r : Bool} (h : slices_ContainsFunc_Node_Node A x0 q1 = some r) : PFun cx 323 [.d (.sl TyS.node x0), .fn (.func g1) [] cap1] (bl r) := by
 refine wF hA cx_ok Tryz.func323 fun P R hP hR => ?_
 cbv; unfold slices_ContainsFunc_Node_Node at h
 iterate 2 refine kj ?_
 obtain ⟨w1, hw1, h⟩ := bd_e h; refine kc hP (slices_IndexFunc_Node_Node_ok hA hcap1 hq1 hw1) ?_ (by first | rfl | simp [bare, bare.bares, hcap1]); cbv
 exact le h hR
theorem outline_may_1_ok {A : Ar} (hA : A = std) {rf : Node → Int → Option Bool} {x0 : Node} {c0 : Int} (hqr273 : ∀ (x0 : Node) (x1 : Int) (r : Bool), rf x0 x1 = some r → PFun cx 273 [nodePV x0, it .i64 x1] (bl r)) {r : Bool} (h : outline_may_1 A rf x0 c0 = some r) : PFun cx 324 [nodePV x0, .ip [.v (.int .i64 c0)]] (bl r) := by
 refine wF hA cx_ok Tryz.func324 fun P R hP hR => ?_
 cbv; unfold outline_may_1 at h
 iterate 2 refine kj ?_
 obtain ⟨w1, hw1, h⟩ := bd_e h; refine kc hP (hqr273 _ _ _ hw1) ?_; cbv
 exact le h hR
theorem outline_may_S_ok {A : Ar} (hA : A = std) {rf : Node → Int → Option Bool} {x0 : Node} {x1 : Int} (hqr273 : ∀ (x0 : Node) (x1 : Int) (r : Bool), rf x0 x1 = some r → PFun cx 273 [nodePV x0, it .i64 x1] (bl r)) {r : Bool} (h : outline_may_S A rf x0 x1 = some r) : PFun cx 273 [nodePV x0, it .i64 x1] (bl r) := by
 refine PFun.walkF (fz := fun k => k == 3) hA cx_ok Tryz.func273 rfl rfl rfl fun P R hP hR => ?_
 cbv; unfold outline_may_S at h
 iterate 2 refine kj ?_
 refine bc h (fun hb h => ?_) fun hb h => ?_
 ·cbv
  refine kj ?_
  exact le h hR
 ·cbv
  iterate 2 refine kj ?_
  refine bc h (fun hb h => ?_) fun hb h => ?_
  ·cbv
   refine kj ?_
   obtain ⟨w1, hw1, h⟩ := bd_e h; refine kc hP (outline_word_ok hA hw1) ?_; cbv
   iterate 10 refine cj ?_
   exact le h hR
  ·cbv
   refine kj ?_
   refine bc h (fun hb h => ?_) fun hb h => ?_
   ·cbv
    refine bc h (fun hb h => ?_) fun hb h => ?_
    ·cbv
     iterate 2 refine kj ?_
     refine bc h (fun hb h => ?_) fun hb h => ?_
     ·cbv
      iterate 2 refine kj ?_
      iterate 9 refine cj ?_
      obtain ⟨w2, hw2, h⟩ := bd_e h; refine kg hP (fun hc => (outline_names_ok hA (gd_e hw2 hc))) ?_; cbv
      iterate 5 refine cj ?_
      obtain ⟨w3, hw3, h⟩ := bd_e h; refine kg hP (fun hc => (slices_ContainsFunc_Node_Node_ok hA (by rfl) (fun _ _ hw => outline_may_1_ok hA hqr273 hw) (gd_e hw3 hc))) ?_; cbv
      iterate 2 refine cj ?_
      exact le h hR
     ·cbv
      refine kj ?_
      iterate 9 refine cj ?_
      obtain ⟨w4, hw4, h⟩ := bd_e h; refine kg hP (fun hc => (outline_names_ok hA (gd_e hw4 hc))) ?_; cbv
      iterate 5 refine cj ?_
      obtain ⟨w5, hw5, h⟩ := bd_e h; refine kg hP (fun hc => (slices_ContainsFunc_Node_Node_ok hA (by rfl) (fun _ _ hw => outline_may_1_ok hA hqr273 hw) (gd_e hw5 hc))) ?_; cbv
      iterate 2 refine cj ?_
      exact le h hR
    ·cbv
     refine kj ?_
     exact le h hR
   ·cbv
    refine kj ?_
    refine bc h (fun hb h => ?_) fun hb h => ?_
    ·cbv
     iterate 2 refine kj ?_
     refine bc h (fun hb h => ?_) fun hb h => ?_
     ·cbv
      iterate 2 refine kj ?_
      iterate 9 refine cj ?_
      obtain ⟨w6, hw6, h⟩ := bd_e h; refine kg hP (fun hc => (outline_names_ok hA (gd_e hw6 hc))) ?_; cbv
      iterate 5 refine cj ?_
      obtain ⟨w7, hw7, h⟩ := bd_e h; refine kg hP (fun hc => (slices_ContainsFunc_Node_Node_ok hA (by rfl) (fun _ _ hw => outline_may_1_ok hA hqr273 hw) (gd_e hw7 hc))) ?_; cbv
      iterate 2 refine cj ?_
      exact le h hR
     ·cbv
      refine kj ?_
      iterate 9 refine cj ?_
      obtain ⟨w8, hw8, h⟩ := bd_e h; refine kg hP (fun hc => (outline_names_ok hA (gd_e hw8 hc))) ?_; cbv
      iterate 5 refine cj ?_
      obtain ⟨w9, hw9, h⟩ := bd_e h; refine kg hP (fun hc => (slices_ContainsFunc_Node_Node_ok hA (by rfl) (fun _ _ hw => outline_may_1_ok hA hqr273 hw) (gd_e hw9 hc))) ?_; cbv
      iterate 2 refine cj ?_
      exact le h hR
    ·cbv
     refine kj ?_
     exact le h hR
theorem outline_may_N_ok {A : Ar} (hA : A = std) : ∀ (n : Nat) (x0 : Node) (x1 : Int) (r : Bool), outline_may_N A n x0 x1 = some r → PFun cx 273 [nodePV x0, it .i64 x1] (bl r)
 | 0, _, _, _, h => by cases h
 | n + 1, x0, x1, r, h => outline_may_S_ok hA (fun _ _ _ hh => outline_may_N_ok hA n _ _ _ hh) h
theorem outline_may_ok {A : Ar} (hA : A = std) {x0 : Node} {x1 : Int} {r : Bool} (h : outline_may A x0 x1 = some r) : PFun cx 273 [nodePV x0, it .i64 x1] (bl r) := outline_may_N_ok hA _ _ _ _ h
theorem outline_Right_ok {A : Ar} (hA : A = std) {x0 : Node} {r : Bool} (h : outline_Right A x0 = some r) : PFun cx 198 [nodePV x0] (bl r) := by
 refine wF hA cx_ok Tryz.func198 fun P R hP hR => ?_
 cbv; unfold outline_Right at h
 iterate 2 refine kj ?_
 obtain ⟨w1, hw1, h⟩ := bd_e h; refine kc hP (outline_may_ok hA hw1) ?_; cbv
 exact le h hR
theorem outline_plain_ok {A : Ar} (hA : A = std) {x0 : Int} {r : Bool} (h : outline_plain A x0 = some r) : PFun cx 359 [it .u8 x0] (bl r) := by
 refine wF hA cx_ok Tryz.func359 fun P R hP hR => ?_
 cbv; unfold outline_plain at h
 iterate 2 refine kj ?_
 obtain ⟨w1, hw1, h⟩ := bd_e h; refine kc hP (outline_small_ok hA hw1) ?_; cbv
 iterate 4 refine cj ?_
 refine ⟨by subst hA; simp +contextual [vcm], ?_⟩
 iterate 2 refine cj ?_
 obtain ⟨w2, hw2, h⟩ := bd_e h; refine kg hP (fun hc => (strings_IndexByte_ok hA (gd_e hw2 hc))) ?_; cbv
 iterate 2 refine cj ?_
 exact le h hR
theorem outline_quoted_1_ok {A : Ar} (hA : A = std) {x0 : Int} {r : Bool} (h : outline_quoted_1 A x0 = some r) : PFun cx 358 [it .u8 x0] (bl r) := by
 refine wF hA cx_ok Tryz.func358 fun P R hP hR => ?_
 cbv; unfold outline_quoted_1 at h
 iterate 2 refine kj ?_
 obtain ⟨w1, hw1, h⟩ := bd_e h; refine kc hP (outline_plain_ok hA hw1) ?_; cbv
 exact le h hR
theorem outline_quoted_ok {A : Ar} (hA : A = std) {x0 : ByteArray} {r : ByteArray} (h : outline_quoted A x0 = some r) : PFun cx 325 [st x0] (st r) := by
 refine wF hA cx_ok Tryz.func325 fun P R hP hR => ?_
 cbv; unfold outline_quoted at h
 iterate 2 refine kj ?_
 refine cj ?_
 refine kk h fun c1 h => ?_
 iterate 4 refine cj ?_
 obtain ⟨w2, hw2, h⟩ := bd_e h; refine kf hP (fun hc => (slices_ContainsFunc_byte_byte_ok hA (by rfl) (fun _ _ hw => outline_quoted_1_ok hA hw) (gd_e hw2 hc))) ?_; cbv
 iterate 2 refine cj ?_
 refine bc h (fun hb h => ?_) fun hb h => ?_
 ·cbv
  refine kj ?_
  exact le h hR
 ·cbv
  refine kj ?_
  obtain ⟨w3, hw3, h⟩ := bd_e h; refine kc hP (strings_ReplaceAll_ok hA hw3) ?_; cbv
  obtain ⟨w4, hw4, h⟩ := bd_e h; refine kc hP (strings_ReplaceAll_ok hA hw4) ?_; cbv
  refine kk h fun c5 h => ?_
  refine kk h fun c6 h => ?_
  exact le h hR
theorem outline_value_ok {A : Ar} (hA : A = std) {x0 : Node} {r : ByteArray × Bool} (h : outline_value A x0 = some r) : PFun cx 274 [nodePV x0] (.tu [st r.1, bl r.2]) := by
 refine wF hA cx_ok Tryz.func274 fun P R hP hR => ?_
 cbv; unfold outline_value at h
 iterate 2 refine kj ?_
 refine bc h (fun hb h => ?_) fun hb h => ?_
 ·cbv
  refine kj ?_
  obtain ⟨w1, hw1, h⟩ := bd_e h; refine kc hP (outline_quoted_ok hA hw1) ?_; cbv
  refine kk h fun c2 h => ?_
  cases h; subst hR; exact ey
 ·cbv
  refine kj ?_
  refine bc h (fun hb h => ?_) fun hb h => ?_
  ·cbv
   refine kj ?_
   cases h; subst hR; exact ey
  ·cbv
   refine kj ?_
   refine bc h (fun hb h => ?_) fun hb h => ?_
   ·cbv
    refine kj ?_
    cases h; subst hR; exact ey
   ·cbv
    refine kj ?_
    cases h; subst hR; exact ey
theorem outline_lines_S_ok {A : Ar} (hA : A = std) {rf : (List UInt8) → Node → Int → Option (List UInt8)} {x0 : List UInt8} {x1 : Node} {x2 : Int} (hqr199 : ∀ (x0 : List UInt8) (x1 : Node) (x2 : Int) (r : List UInt8), rf x0 x1 x2 = some r → PFunM cx 199 [.bx 1000 0 0, nodePV x1, it .i64 x2] [⟨1000, 0, .box 147 [.np 1000 0, .os 1001 0 TyS.byte x0]⟩, ⟨1001, 0, .tok 5 TyS.byte (A.nlen TyS.byte x0)⟩] (.tu []) [⟨1000, 0, .box 147 [.np 1000 0, .os 2000 1 TyS.byte r]⟩, ⟨2000, 1, .tok 5 TyS.byte (A.nlen TyS.byte r)⟩]) {r : List UInt8} (h : outline_lines_S A rf x0 x1 x2 = some r) : PFunM cx 199 [.bx 1000 0 0, nodePV x1, it .i64 x2] [⟨1000, 0, .box 147 [.np 1000 0, .os 1001 0 TyS.byte x0]⟩, ⟨1001, 0, .tok 5 TyS.byte (A.nlen TyS.byte x0)⟩] (.tu []) [⟨1000, 0, .box 147 [.np 1000 0, .os 2000 1 TyS.byte r]⟩, ⟨2000, 1, .tok 5 TyS.byte (A.nlen TyS.byte r)⟩] := by
 refine PFunM.walkM (fz := fun _ => false) hA cx_ok Tryz.func199 rfl rfl fun P R hP hR => ?_
 cbv; unfold outline_lines_S at h
 iterate 2 refine kj ?_
 refine kl h (fun x _ => [(13, it .i64 x.1)]) (fun x gh => [⟨4031, gh, .tok 5 TyS.byte (A.nlen TyS.byte x.2)⟩, ⟨4, 2, .box 135 [it .i64 x1.1, st x1.2, .d (.sl .str x1.3), .d (.sl .node x1.4)]⟩, ⟨1000, 0, .box 147 [PV.np 1000 0, .os 4031 gh TyS.byte x.2]⟩]) [(4031, 1001, 0)] ?_
 rintro ⟨t13, b1_1000⟩ gh1 g1 _ _ _ hK1 hQ1 h; cbv
 refine kj ?_
 refine bc h (fun hb h => ?_) fun hb h => ?_
 ·cbv
  refine kj ?_
  refine kk h fun c1 h => ?_
  refine kj ?_
  obtain ⟨w2, hw2, h⟩ := bd_e h; refine kc hP (strings_Repeat_ok hA hw2) ?_; cbv
  obtain ⟨w3, hw3, h⟩ := bd_e h; refine km hP [(1000, 0), (4031, gh1)] (strings_Builder_WriteString_ok hA hw3) ?_; cbv
  refine kj ?_
  refine bc h (fun hb h => ?_) fun hb h => ?_
  ·cbv
   refine kj ?_
   refine kk h fun c4 h => ?_
   refine kk h fun c5 h => ?_
   obtain ⟨w6, hw6, h⟩ := bd_e h; refine km hP [(1000, 0), (22, g1.succ.succ)] (strings_Builder_WriteString_ok hA hw6) ?_; cbv
   refine kj ?_
   obtain ⟨w7, hw7, h⟩ := bd_e h; refine kc hP (outline_value_ok hA hw7) ?_; cbv
   refine kj ?_
   refine kk h fun c8 h => ?_
   obtain ⟨w9, hw9, h⟩ := bd_e h; refine km hP [(1000, 0), (33, g1.succ.succ.succ.succ)] (strings_Builder_WriteString_ok hA hw9) ?_; cbv
   refine kj ?_
   obtain ⟨w10, hw10, h⟩ := bd_e h; refine km hP [(1000, 0), (44, g1.succ.succ.succ.succ.succ.succ)] (hqr199 _ _ _ _ hw10) ?_; cbv
   refine kj ?_
   cases h; exact hK1 _ _ [(4031, 49, g1.succ.succ.succ.succ.succ.succ.succ)] rfl hdy
  ·cbv
   refine kj ?_
   obtain ⟨w11, hw11, h⟩ := bd_e h; refine km hP [(1000, 0), (22, g1.succ.succ)] (strings_Builder_WriteString_ok hA hw11) ?_; cbv
   refine kj ?_
   obtain ⟨w12, hw12, h⟩ := bd_e h; refine kc hP (outline_value_ok hA hw12) ?_; cbv
   refine kj ?_
   refine kk h fun c13 h => ?_
   obtain ⟨w14, hw14, h⟩ := bd_e h; refine km hP [(1000, 0), (35, g1.succ.succ.succ.succ)] (strings_Builder_WriteString_ok hA hw14) ?_; cbv
   refine kj ?_
   obtain ⟨w15, hw15, h⟩ := bd_e h; refine km hP [(1000, 0), (44, g1.succ.succ.succ.succ.succ.succ)] (hqr199 _ _ _ _ hw15) ?_; cbv
   refine kj ?_
   cases h; exact hK1 _ _ [(4031, 49, g1.succ.succ.succ.succ.succ.succ.succ)] rfl hdy
 ·cbv
  refine hQ1 _ h _ _ fun h => ?_; cbv
  cases h
  refine hR _ _ ⟨[(4031, gh1)], ⟨by rfl, ez, by rfl, ez⟩⟩
theorem outline_lines_N_ok {A : Ar} (hA : A = std) : ∀ (n : Nat) (x0 : List UInt8) (x1 : Node) (x2 : Int) (r : List UInt8), outline_lines_N A n x0 x1 x2 = some r → PFunM cx 199 [.bx 1000 0 0, nodePV x1, it .i64 x2] [⟨1000, 0, .box 147 [.np 1000 0, .os 1001 0 TyS.byte x0]⟩, ⟨1001, 0, .tok 5 TyS.byte (A.nlen TyS.byte x0)⟩] (.tu []) [⟨1000, 0, .box 147 [.np 1000 0, .os 2000 1 TyS.byte r]⟩, ⟨2000, 1, .tok 5 TyS.byte (A.nlen TyS.byte r)⟩]
 | 0, _, _, _, _, h => by cases h
 | n + 1, x0, x1, x2, r, h => outline_lines_S_ok hA (fun _ _ _ _ hh => outline_lines_N_ok hA n _ _ _ _ hh) h
theorem outline_lines_ok {A : Ar} (hA : A = std) {x0 : List UInt8} {x1 : Node} {x2 : Int} {r : List UInt8} (h : outline_lines A x0 x1 x2 = some r) : PFunM cx 199 [.bx 1000 0 0, nodePV x1, it .i64 x2] [⟨1000, 0, .box 147 [.np 1000 0, .os 1001 0 TyS.byte x0]⟩, ⟨1001, 0, .tok 5 TyS.byte (A.nlen TyS.byte x0)⟩] (.tu []) [⟨1000, 0, .box 147 [.np 1000 0, .os 2000 1 TyS.byte r]⟩, ⟨2000, 1, .tok 5 TyS.byte (A.nlen TyS.byte r)⟩] := outline_lines_N_ok hA _ _ _ _ _ h
theorem strings_Builder_Len_ok {A : Ar} (hA : A = std) {x0 : List UInt8} {r : Int} (h : strings_Builder_Len A x0 = some r) : PFunM cx 169 [.bx 1000 0 0] [⟨1000, 0, .box 147 [.np 1000 0, .os 1001 0 TyS.byte x0]⟩, ⟨1001, 0, .tok 5 TyS.byte (A.nlen TyS.byte x0)⟩] (it .i64 r) [⟨1000, 0, .box 147 [.np 1000 0, .os 1001 0 TyS.byte x0]⟩, ⟨1001, 0, .tok 5 TyS.byte (A.nlen TyS.byte x0)⟩] := by
 refine PFunM.walkM (fz := fun _ => false) hA cx_ok Tryz.func169 rfl rfl fun P R hP hR => ?_
 cbv; unfold strings_Builder_Len at h
 iterate 2 refine kj ?_
 cases h
 refine hR _ _ ⟨[], ⟨by rfl, ez, by rfl, ez⟩⟩
theorem outline_Print_ok {A : Ar} (hA : A = std) {x0 : Node} {r : ByteArray × Int} (h : outline_Print A x0 = some r) : PFun cx 121 [nodePV x0] (.tu [st r.1, it .i64 r.2]) := by
 refine PFun.walkF (fz := fun k => k == 131076) hA cx_ok Tryz.func121 rfl rfl rfl fun P R hP hR => ?_
 cbv; unfold outline_Print at h
 iterate 2 refine kj ?_
 obtain ⟨w1, hw1, h⟩ := bd_e h; refine kc hP (outline_Right_ok hA hw1) ?_; cbv
 iterate 5 refine cj ?_
 refine bc h (fun hb h => ?_) fun hb h => ?_
 ·cbv
  refine kj ?_
  cases h; subst hR; exact ey
 ·cbv
  iterate 2 refine kj ?_
  obtain ⟨w2, hw2, h⟩ := bd_e h; refine km hP [(4, 2), (65540, 2)] (outline_lines_ok hA hw2) ?_; cbv
  refine kj ?_
  obtain ⟨w3, hw3, h⟩ := bd_e h; refine km hP [(4, 2), (15, 3)] (strings_Builder_Len_ok hA hw3) ?_; cbv
  refine bc h (fun hb h => ?_) fun hb h => ?_
  ·cbv
   refine kj ?_
   cases h; subst hR; exact ey
  ·cbv
   refine kj ?_
   obtain ⟨w4, hw4, h⟩ := bd_e h; refine km hP [(4, 2), (15, 3)] (strings_Builder_String_ok hA hw4) ?_; cbv
   cases h; subst hR; exact ey
theorem amfile_Export_ok {A : Ar} (hA : A = std) {x0 : Config} {r : ByteArray × Int} (h : amfile_Export A x0 = some r) : PFun cx 37 [configPV x0] (.tu [st r.1, it .i64 r.2]) := by
 refine wF hA cx_ok Tryz.func37 fun P R hP hR => ?_
 cbv; unfold amfile_Export at h
 iterate 2 refine kj ?_
 obtain ⟨w1, hw1, h⟩ := bd_e h; refine kc hP (amfile_Holds_ok hA hw1) ?_; cbv
 refine bc h (fun hb h => ?_) fun hb h => ?_
 ·cbv
  refine kj ?_
  cases h; subst hR; exact ey
 ·cbv
  refine kj ?_
  obtain ⟨w2, hw2, h⟩ := bd_e h; refine kc hP (amfile_bare_ok hA hw2) ?_; cbv
  obtain ⟨w3, hw3, h⟩ := bd_e h; refine kc hP (config_Normal_ok hA hw3) ?_; cbv
  refine kj ?_
  obtain ⟨w4, hw4, h⟩ := bd_e h; refine kc hP (amfile_node_ok hA hw4) ?_; cbv
  obtain ⟨w5, hw5, h⟩ := bd_e h; refine kc hP (outline_Print_ok hA hw5) ?_; cbv
  cases h; subst hR; exact ey
theorem transhipmentlaw12_alive_ok {A : Ar} (hA : A = std) {r : Bool} (h : transhipmentlaw12_alive A = some r) : PFun cx 36 [] (bl r) := by
 refine wF hA cx_ok Tryz.func36 fun P R hP hR => ?_
 cbv; unfold transhipmentlaw12_alive at h
 iterate 2 refine kj ?_
 obtain ⟨w1, hw1, h⟩ := bd_e h; refine ke hP (amfile_Export_ok hA hw1) ?_; cbv
 refine kj ?_
 iterate 4 refine cj ?_
 obtain ⟨w2, hw2, h⟩ := bd_e h; refine kg hP (fun hc => (strings_Contains_ok hA (gd_e hw2 hc))) ?_; cbv
 iterate 2 refine cj ?_
 obtain ⟨w3, hw3, h⟩ := bd_e h; refine kg hP (fun hc => (strings_Contains_ok hA (gd_e hw3 hc))) ?_; cbv
 refine cj ?_
 exact le h hR
theorem slices_EqualFunc_Matcher_Matcher_Matcher_Matcher_ok {A : Ar} (hA : A = std) {x0 : List Matcher} {x1 : List Matcher} {q2 : Matcher → Matcher → Option Bool} {g2 : Nat} {cap2 : List PV} (hcap2 : bare.bares cap2 = true) (hq2 : ∀ (y0 : Matcher) (y1 : Matcher) (r : Bool), q2 y0 y1 = some r → PFun cx g2 ((matcherPV y0) :: (matcherPV y1) :: cap2) (bl r)) {r : Bool} (h : slices_EqualFunc_Matcher_Matcher_Matcher_Matcher A x0 x1 q2 = some r) : PFun cx 82 [.d (.sl TyS.matcher x0), .d (.sl TyS.matcher x1), .fn (.func g2) [] cap2] (bl r) := by
 refine wF hA cx_ok Tryz.func82 fun P R hP hR => ?_
 cbv; unfold slices_EqualFunc_Matcher_Matcher_Matcher_Matcher at h
 iterate 2 refine kj ?_
 refine bc h (fun hb h => ?_) fun hb h => ?_
 ·cbv
  refine kj ?_
  exact le h hR
 ·cbv
  refine kj ?_
  refine kl h (fun x _ => [(17, it .i64 x)]) (fun _ _ => []) [] ?_
  rintro t17 gh1 g1 _ _ _ hK1 hQ1 h; cbv
  refine kj ?_
  refine bc h (fun hb h => ?_) fun hb h => ?_
  ·cbv
   refine kj ?_
   refine kk h fun c1 h => ?_
   refine kj ?_
   refine kk h fun c2 h => ?_
   refine kj ?_
   obtain ⟨w3, hw3, h⟩ := bd_e h; refine kc hP (hq2 _ _ _ hw3) ?_ (by first | rfl | simp [bare, bare.bares, hcap2]); cbv
   refine bc h (fun hb h => ?_) fun hb h => ?_
   ·cbv
    refine kj ?_
    refine hQ1 _ h _ _ fun h => ?_; cbv
    exact le h hR
   ·cbv
    refine kj ?_
    cases h; exact hK1 _ _ [] rfl hdy
  ·cbv
   refine hQ1 _ h _ _ fun h => ?_; cbv
   refine kj ?_
   exact le h hR
theorem slices_Equal_string_string_ok {A : Ar} (hA : A = std) {x0 : List ByteArray} {x1 : List ByteArray} {r : Bool} (h : slices_Equal_string_string A x0 x1 = some r) : PFun cx 84 [.d (.sl TyS.str x0), .d (.sl TyS.str x1)] (bl r) := by
 refine wF hA cx_ok Tryz.func84 fun P R hP hR => ?_
 cbv; unfold slices_Equal_string_string at h
 iterate 2 refine kj ?_
 refine bc h (fun hb h => ?_) fun hb h => ?_
 ·cbv
  refine kj ?_
  exact le h hR
 ·cbv
  refine kj ?_
  refine kl h (fun x _ => [(13, it .i64 x)]) (fun _ _ => []) [] ?_
  rintro t13 gh1 g1 _ _ _ hK1 hQ1 h; cbv
  refine kj ?_
  refine bc h (fun hb h => ?_) fun hb h => ?_
  ·cbv
   iterate 2 refine kj ?_
   refine kk h fun c1 h => ?_
   refine kk h fun c2 h => ?_
   refine kj ?_
   refine bc h (fun hb h => ?_) fun hb h => ?_
   ·cbv
    refine kj ?_
    refine hQ1 _ h _ _ fun h => ?_; cbv
    exact le h hR
   ·cbv
    refine kj ?_
    cases h; exact hK1 _ _ [] rfl hdy
  ·cbv
   refine hQ1 _ h _ _ fun h => ?_; cbv
   refine kj ?_
   exact le h hR
theorem matcher_Like_ok {A : Ar} (hA : A = std) {x0 : Matcher} {x1 : Matcher} {r : Bool} (h : matcher_Like A x0 x1 = some r) : PFun cx 83 [matcherPV x0, matcherPV x1] (bl r) := by
 refine wF hA cx_ok Tryz.func83 fun P R hP hR => ?_
 cbv; unfold matcher_Like at h
 iterate 2 refine kj ?_
 iterate 13 refine cj ?_
 obtain ⟨w1, hw1, h⟩ := bd_e h; refine kg hP (fun hc => (slices_Equal_string_string_ok hA (gd_e hw1 hc))) ?_; cbv
 refine cj ?_
 exact le h hR
theorem config_Same_1_ok {A : Ar} (hA : A = std) {x0 : Inhibit} {x1 : Inhibit} {r : Bool} (h : config_Same_1 A x0 x1 = some r) : PFun cx 81 [inhibitPV x0, inhibitPV x1] (bl r) := by
 refine wF hA cx_ok Tryz.func81 fun P R hP hR => ?_
 cbv; unfold config_Same_1 at h
 iterate 2 refine kj ?_
 obtain ⟨w1, hw1, h⟩ := bd_e h; refine ke hP (slices_EqualFunc_Matcher_Matcher_Matcher_Matcher_ok hA (by rfl) (fun _ _ _ hw => matcher_Like_ok hA hw) hw1) ?_; cbv
 iterate 6 refine cj ?_
 obtain ⟨w2, hw2, h⟩ := bd_e h; refine kf hP (fun hc => (slices_EqualFunc_Matcher_Matcher_Matcher_Matcher_ok hA (by rfl) (fun _ _ _ hw => matcher_Like_ok hA hw) (gd_e hw2 hc))) ?_; cbv
 iterate 7 refine cj ?_
 obtain ⟨w3, hw3, h⟩ := bd_e h; refine kg hP (fun hc => (slices_Equal_string_string_ok hA (gd_e hw3 hc))) ?_; cbv
 refine cj ?_
 exact le h hR
theorem slices_EqualFunc_Rule_Rule_Rule_Rule_ok {A : Ar} (hA : A = std) {x0 : List Rule} {x1 : List Rule} {q2 : Rule → Rule → Option Bool} {g2 : Nat} {cap2 : List PV} (hcap2 : bare.bares cap2 = true) (hq2 : ∀ (y0 : Rule) (y1 : Rule) (r : Bool), q2 y0 y1 = some r → PFun cx g2 ((rulePV y0) :: (rulePV y1) :: cap2) (bl r)) {r : Bool} (h : slices_EqualFunc_Rule_Rule_Rule_Rule A x0 x1 q2 = some r) : PFun cx 85 [.d (.sl TyS.rule x0), .d (.sl TyS.rule x1), .fn (.func g2) [] cap2] (bl r) := by
 refine wF hA cx_ok Tryz.func85 fun P R hP hR => ?_
 cbv; unfold slices_EqualFunc_Rule_Rule_Rule_Rule at h
 iterate 2 refine kj ?_
 refine bc h (fun hb h => ?_) fun hb h => ?_
 ·cbv
  refine kj ?_
  exact le h hR
 ·cbv
  refine kj ?_
  refine kl h (fun x _ => [(17, it .i64 x)]) (fun _ _ => []) [] ?_
  rintro t17 gh1 g1 _ _ _ hK1 hQ1 h; cbv
  refine kj ?_
  refine bc h (fun hb h => ?_) fun hb h => ?_
  ·cbv
   refine kj ?_
   refine kk h fun c1 h => ?_
   refine kj ?_
   refine kk h fun c2 h => ?_
   refine kj ?_
   obtain ⟨w3, hw3, h⟩ := bd_e h; refine kc hP (hq2 _ _ _ hw3) ?_ (by first | rfl | simp [bare, bare.bares, hcap2]); cbv
   refine bc h (fun hb h => ?_) fun hb h => ?_
   ·cbv
    refine kj ?_
    refine hQ1 _ h _ _ fun h => ?_; cbv
    exact le h hR
   ·cbv
    refine kj ?_
    cases h; exact hK1 _ _ [] rfl hdy
  ·cbv
   refine hQ1 _ h _ _ fun h => ?_; cbv
   refine kj ?_
   exact le h hR
theorem slices_Equal_Label_Label_ok {A : Ar} (hA : A = std) {x0 : List Label} {x1 : List Label} {r : Bool} (h : slices_Equal_Label_Label A x0 x1 = some r) : PFun cx 164 [.d (.sl TyS.label x0), .d (.sl TyS.label x1)] (bl r) := by
 refine wF hA cx_ok Tryz.func164 fun P R hP hR => ?_
 cbv; unfold slices_Equal_Label_Label at h
 iterate 2 refine kj ?_
 refine bc h (fun hb h => ?_) fun hb h => ?_
 ·cbv
  refine kj ?_
  exact le h hR
 ·cbv
  refine kj ?_
  refine kl h (fun x _ => [(13, it .i64 x)]) (fun _ _ => []) [] ?_
  rintro t13 gh1 g1 _ _ _ hK1 hQ1 h; cbv
  refine kj ?_
  refine bc h (fun hb h => ?_) fun hb h => ?_
  ·cbv
   iterate 2 refine kj ?_
   refine kk h fun c1 h => ?_
   refine kk h fun c2 h => ?_
   refine kj ?_
   refine bc h (fun hb h => ?_) fun hb h => ?_
   ·cbv
    refine kj ?_
    refine hQ1 _ h _ _ fun h => ?_; cbv
    exact le h hR
   ·cbv
    refine kj ?_
    cases h; exact hK1 _ _ [] rfl hdy
  ·cbv
   refine hQ1 _ h _ _ fun h => ?_; cbv
   refine kj ?_
   exact le h hR
theorem rules_Like_ok {A : Ar} (hA : A = std) {x0 : Rule} {x1 : Rule} {r : Bool} (h : rules_Like A x0 x1 = some r) : PFun cx 71 [rulePV x0, rulePV x1] (bl r) := by
 refine wF hA cx_ok Tryz.func71 fun P R hP hR => ?_
 cbv; unfold rules_Like at h
 iterate 2 refine kj ?_
 obtain ⟨w1, hw1, h⟩ := bd_e h; refine kc hP (slices_Equal_Label_Label_ok hA hw1) ?_; cbv
 refine kj ?_
 iterate 49 refine cj ?_
 exact le h hR
theorem slices_Equal_Hours_Hours_ok {A : Ar} (hA : A = std) {x0 : List Hours} {x1 : List Hours} {r : Bool} (h : slices_Equal_Hours_Hours A x0 x1 = some r) : PFun cx 86 [.d (.sl TyS.hours x0), .d (.sl TyS.hours x1)] (bl r) := by
 refine wF hA cx_ok Tryz.func86 fun P R hP hR => ?_
 cbv; unfold slices_Equal_Hours_Hours at h
 iterate 2 refine kj ?_
 refine bc h (fun hb h => ?_) fun hb h => ?_
 ·cbv
  refine kj ?_
  exact le h hR
 ·cbv
  refine kj ?_
  refine kl h (fun x _ => [(13, it .i64 x)]) (fun _ _ => []) [] ?_
  rintro t13 gh1 g1 _ _ _ hK1 hQ1 h; cbv
  refine kj ?_
  refine bc h (fun hb h => ?_) fun hb h => ?_
  ·cbv
   iterate 2 refine kj ?_
   refine kk h fun c1 h => ?_
   refine kk h fun c2 h => ?_
   refine kj ?_
   refine bc h (fun hb h => ?_) fun hb h => ?_
   ·cbv
    refine kj ?_
    refine hQ1 _ h _ _ fun h => ?_; cbv
    exact le h hR
   ·cbv
    refine kj ?_
    cases h; exact hK1 _ _ [] rfl hdy
  ·cbv
   refine hQ1 _ h _ _ fun h => ?_; cbv
   refine kj ?_
   exact le h hR
theorem slices_EqualFunc_Inhibit_Inhibit_Inhibit_Inhibit_ok {A : Ar} (hA : A = std) {x0 : List Inhibit} {x1 : List Inhibit} {q2 : Inhibit → Inhibit → Option Bool} {g2 : Nat} {cap2 : List PV} (hcap2 : bare.bares cap2 = true) (hq2 : ∀ (y0 : Inhibit) (y1 : Inhibit) (r : Bool), q2 y0 y1 = some r → PFun cx g2 ((inhibitPV y0) :: (inhibitPV y1) :: cap2) (bl r)) {r : Bool} (h : slices_EqualFunc_Inhibit_Inhibit_Inhibit_Inhibit A x0 x1 q2 = some r) : PFun cx 78 [.d (.sl TyS.inhibit x0), .d (.sl TyS.inhibit x1), .fn (.func g2) [] cap2] (bl r) := by
 refine wF hA cx_ok Tryz.func78 fun P R hP hR => ?_
 cbv; unfold slices_EqualFunc_Inhibit_Inhibit_Inhibit_Inhibit at h
 iterate 2 refine kj ?_
 refine bc h (fun hb h => ?_) fun hb h => ?_
 ·cbv
  refine kj ?_
  exact le h hR
 ·cbv
  refine kj ?_
  refine kl h (fun x _ => [(17, it .i64 x)]) (fun _ _ => []) [] ?_
  rintro t17 gh1 g1 _ _ _ hK1 hQ1 h; cbv
  refine kj ?_
  refine bc h (fun hb h => ?_) fun hb h => ?_
  ·cbv
   refine kj ?_
   refine kk h fun c1 h => ?_
   refine kj ?_
   refine kk h fun c2 h => ?_
   refine kj ?_
   obtain ⟨w3, hw3, h⟩ := bd_e h; refine kc hP (hq2 _ _ _ hw3) ?_ (by first | rfl | simp [bare, bare.bares, hcap2]); cbv
   refine bc h (fun hb h => ?_) fun hb h => ?_
   ·cbv
    refine kj ?_
    refine hQ1 _ h _ _ fun h => ?_; cbv
    exact le h hR
   ·cbv
    refine kj ?_
    cases h; exact hK1 _ _ [] rfl hdy
  ·cbv
   refine hQ1 _ h _ _ fun h => ?_; cbv
   refine kj ?_
   exact le h hR
theorem slices_EqualFunc_Route_Route_Route_Route_ok {A : Ar} (hA : A = std) {x0 : List Route} {x1 : List Route} {q2 : Route → Route → Option Bool} {g2 : Nat} {cap2 : List PV} (hcap2 : bare.bares cap2 = true) (hq2 : ∀ (y0 : Route) (y1 : Route) (r : Bool), q2 y0 y1 = some r → PFun cx g2 ((routePV y0) :: (routePV y1) :: cap2) (bl r)) {r : Bool} (h : slices_EqualFunc_Route_Route_Route_Route A x0 x1 q2 = some r) : PFun cx 167 [.d (.sl TyS.route x0), .d (.sl TyS.route x1), .fn (.func g2) [] cap2] (bl r) := by
 refine wF hA cx_ok Tryz.func167 fun P R hP hR => ?_
 cbv; unfold slices_EqualFunc_Route_Route_Route_Route at h
 iterate 2 refine kj ?_
 refine bc h (fun hb h => ?_) fun hb h => ?_
 ·cbv
  refine kj ?_
  exact le h hR
 ·cbv
  refine kj ?_
  refine kl h (fun x _ => [(17, it .i64 x)]) (fun _ _ => []) [] ?_
  rintro t17 gh1 g1 _ _ _ hK1 hQ1 h; cbv
  refine kj ?_
  refine bc h (fun hb h => ?_) fun hb h => ?_
  ·cbv
   refine kj ?_
   refine kk h fun c1 h => ?_
   refine kj ?_
   refine kk h fun c2 h => ?_
   refine kj ?_
   obtain ⟨w3, hw3, h⟩ := bd_e h; refine kc hP (hq2 _ _ _ hw3) ?_ (by first | rfl | simp [bare, bare.bares, hcap2]); cbv
   refine bc h (fun hb h => ?_) fun hb h => ?_
   ·cbv
    refine kj ?_
    refine hQ1 _ h _ _ fun h => ?_; cbv
    exact le h hR
   ·cbv
    refine kj ?_
    cases h; exact hK1 _ _ [] rfl hdy
  ·cbv
   refine hQ1 _ h _ _ fun h => ?_; cbv
   refine kj ?_
   exact le h hR
theorem routes_Like_S_ok {A : Ar} (hA : A = std) {rf : Route → Route → Option Bool} {x0 : Route} {x1 : Route} (hqr80 : ∀ (x0 : Route) (x1 : Route) (r : Bool), rf x0 x1 = some r → PFun cx 80 [routePV x0, routePV x1] (bl r)) {r : Bool} (h : routes_Like_S A rf x0 x1 = some r) : PFun cx 80 [routePV x0, routePV x1] (bl r) := by
 refine wF hA cx_ok Tryz.func80 fun P R hP hR => ?_
 cbv; unfold routes_Like_S at h
 iterate 2 refine kj ?_
 iterate 28 refine cj ?_
 refine kj ?_
 iterate 6 refine cj ?_
 obtain ⟨w1, hw1, h⟩ := bd_e h; refine kf hP (fun hc => (slices_EqualFunc_Matcher_Matcher_Matcher_Matcher_ok hA (by rfl) (fun _ _ _ hw => matcher_Like_ok hA hw) (gd_e hw1 hc))) ?_; cbv
 iterate 7 refine cj ?_
 obtain ⟨w2, hw2, h⟩ := bd_e h; refine kg hP (fun hc => (slices_Equal_string_string_ok hA (gd_e hw2 hc))) ?_; cbv
 iterate 7 refine cj ?_
 obtain ⟨w3, hw3, h⟩ := bd_e h; refine kg hP (fun hc => (slices_Equal_string_string_ok hA (gd_e hw3 hc))) ?_; cbv
 iterate 7 refine cj ?_
 obtain ⟨w4, hw4, h⟩ := bd_e h; refine kf hP (fun hc => (slices_EqualFunc_Route_Route_Route_Route_ok hA (by rfl) hqr80 (gd_e hw4 hc))) ?_; cbv
 refine cj ?_
 exact le h hR
theorem routes_Like_N_ok {A : Ar} (hA : A = std) : ∀ (n : Nat) (x0 : Route) (x1 : Route) (r : Bool), routes_Like_N A n x0 x1 = some r → PFun cx 80 [routePV x0, routePV x1] (bl r)
 | 0, _, _, _, h => by cases h
 | n + 1, x0, x1, r, h => routes_Like_S_ok hA (fun _ _ _ hh => routes_Like_N_ok hA n _ _ _ hh) h
theorem routes_Like_ok {A : Ar} (hA : A = std) {x0 : Route} {x1 : Route} {r : Bool} (h : routes_Like A x0 x1 = some r) : PFun cx 80 [routePV x0, routePV x1] (bl r) := routes_Like_N_ok hA _ _ _ _ h
theorem config_Same_ok {A : Ar} (hA : A = std) {x0 : Config} {x1 : Config} {r : Bool} (h : config_Same A x0 x1 = some r) : PFun cx 19 [configPV x0, configPV x1] (bl r) := by
 refine wF hA cx_ok Tryz.func19 fun P R hP hR => ?_
 cbv; unfold config_Same at h
 iterate 2 refine kj ?_
 obtain ⟨w1, hw1, h⟩ := bd_e h; refine kc hP (config_Normal_ok hA hw1) ?_; cbv
 refine kj ?_
 obtain ⟨w2, hw2, h⟩ := bd_e h; refine kc hP (config_Normal_ok hA hw2) ?_; cbv
 iterate 2 refine kj ?_
 obtain ⟨w3, hw3, h⟩ := bd_e h; refine ke hP (slices_EqualFunc_Rule_Rule_Rule_Rule_ok hA (by rfl) (fun _ _ _ hw => rules_Like_ok hA hw) hw3) ?_; cbv
 iterate 6 refine cj ?_
 obtain ⟨w4, hw4, h⟩ := bd_e h; refine kg hP (fun hc => (slices_Equal_string_string_ok hA (gd_e hw4 hc))) ?_; cbv
 iterate 7 refine cj ?_
 obtain ⟨w5, hw5, h⟩ := bd_e h; refine kg hP (fun hc => (slices_Equal_Hours_Hours_ok hA (gd_e hw5 hc))) ?_; cbv
 refine cj ?_
 refine kj ?_
 iterate 10 refine cj ?_
 obtain ⟨w6, hw6, h⟩ := bd_e h; refine kf hP (fun hc => (slices_EqualFunc_Inhibit_Inhibit_Inhibit_Inhibit_ok hA (by rfl) (fun _ _ _ hw => config_Same_1_ok hA hw) (gd_e hw6 hc))) ?_; cbv
 iterate 7 refine cj ?_
 obtain ⟨w7, hw7, h⟩ := bd_e h; refine kg hP (fun hc => (routes_Like_ok hA (gd_e hw7 hc))) ?_; cbv
 refine cj ?_
 exact le h hR
theorem transhipmentlaw12_AmApart_ok {A : Ar} (hA : A = std) {x0 : Config} {x1 : Config} {r : Bool} (h : transhipmentlaw12_AmApart A x0 x1 = some r) : PFun cx 13 [configPV x0, configPV x1] (bl r) := by
 refine wF hA cx_ok Tryz.func13 fun P R hP hR => ?_
 cbv; unfold transhipmentlaw12_AmApart at h
 iterate 2 refine kj ?_
 obtain ⟨w1, hw1, h⟩ := bd_e h; refine kc hP (transhipmentlaw12_big_ok hA hw1) ?_; cbv
 iterate 2 refine cj ?_
 obtain ⟨w2, hw2, h⟩ := bd_e h; refine kg hP (fun hc => (transhipmentlaw12_big_ok hA (gd_e hw2 hc))) ?_; cbv
 refine cj ?_
 refine bc h (fun hb h => ?_) fun hb h => ?_
 ·cbv
  refine kj ?_
  obtain ⟨w3, hw3, h⟩ := bd_e h; refine kc hP (transhipmentlaw12_alive_ok hA hw3) ?_; cbv
  exact le h hR
 ·cbv
  refine kj ?_
  obtain ⟨w4, hw4, h⟩ := bd_e h; refine kc hP (amfile_Export_ok hA hw4) ?_; cbv
  refine kj ?_
  obtain ⟨w5, hw5, h⟩ := bd_e h; refine kc hP (amfile_Export_ok hA hw5) ?_; cbv
  refine kj ?_
  iterate 2 refine cj ?_
  refine bc h (fun hb h => ?_) fun hb h => ?_
  ·cbv
   refine kj ?_
   obtain ⟨w6, hw6, h⟩ := bd_e h; refine kc hP (transhipmentlaw12_alive_ok hA hw6) ?_; cbv
   exact le h hR
  ·cbv
   iterate 2 refine kj ?_
   obtain ⟨w7, hw7, h⟩ := bd_e h; refine kc hP (transhipmentlaw12_alive_ok hA hw7) ?_; cbv
   iterate 6 refine cj ?_
   obtain ⟨w8, hw8, h⟩ := bd_e h; refine kf hP (fun hc => (config_Same_ok hA (gd_e hw8 hc))) ?_; cbv
   iterate 3 refine cj ?_
   exact le h hR
end Go.PL
