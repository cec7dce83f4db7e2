/- Texts of this claim: plain laws of what the program's functions compute. No condition of their own. -/
import Derived.Test.YtiddkdneoldkoaaGreatDoorAeFu
import Derived.Test.YtiddkdneoldkoaaGreatDoorAeLc
namespace Go.PL
set_option linter.unusedSimpArgs false
set_option linter.unusedVariables false
set_option linter.unusedSectionVars false
open Tys (Ty U)
open Enc (sz enc dflt tb ofB toB)
open Dec (dec dok)
set_option maxRecDepth 100000
open Go.Proofs
variable [GM]
theorem Aox {A : Ar} (hA : A = std) {rf : Route → Int → Option Int} {x0 : Route} {x1 : Int} (hqr119 : ∀ (x0 : Route) (x1 : Int) (r : Int), rf x0 x1 = some r → PFun cx 119 [Aau x0, it .i64 x1] (it .i64 r)) {r : Int} (h : Agh A rf x0 x1 = some r) : PFun cx 119 [Aau x0, it .i64 x1] (it .i64 r) := by
 refine wF hA cx_ok Tryz.func119 fun P R hP hR => ?_
 cbv; unfold Agh at h
 iterate 3 refine kj ?_
 refine kl h (fun x _ => [(5, it .i64 x.1), (11, it .i64 x.2)]) (fun x gh => [⟨2, 0, .box 27 [st x0.1, .d (.sl .matcher x0.2), .d (.sl .str x0.3), it .i64 x0.4, it .i64 x0.5, it .i64 x0.6, .d (.sl .str x0.7), bl x0.8, .d (.sl .route x0.9)]⟩]) [] ?_
 rintro ⟨n5, t11⟩ gh1 g1 _ _ _ hK1 hQ1 h; cbv
 refine kj ?_
 refine bc h (fun hb h => ?_) fun hb h => ?_
 ·cbv
  refine kj ?_
  refine kk h fun c1 h => ?_
  refine kj ?_
  refine bc h (fun hb h => ?_) fun hb h => ?_
  ·cbv
   refine hQ1 _ h _ _ fun h => ?_; cbv
   refine kj ?_
   exact le h hR
  ·cbv
   refine kj ?_
   obtain ⟨w2, hw2, h⟩ := bd_e h; refine kc hP (hqr119 _ _ _ hw2) ?_; cbv
   refine kj ?_
   cases h; exact hK1 _ _ [] rfl hdy
 ·cbv
  refine hQ1 _ h _ _ fun h => ?_; cbv
  refine kj ?_
  exact le h hR
theorem Aje {A : Ar} (hA : A = std) : ∀ (n : Nat) (x0 : Route) (x1 : Int) (r : Int), Ab6 A n x0 x1 = some r → PFun cx 119 [Aau x0, it .i64 x1] (it .i64 r)
 | 0, _, _, _, h => by cases h
 | n + 1, x0, x1, r, h => Aox hA (fun _ _ _ hh => Aje hA n _ _ _ hh) h
theorem Aqh {A : Ar} (hA : A = std) {x0 : Route} {x1 : Int} {r : Int} (h : Aiy A x0 x1 = some r) : PFun cx 119 [Aau x0, it .i64 x1] (it .i64 r) := Aje hA _ _ _ _ h
theorem Aqw {A : Ar} (hA : A = std) {x0 : Config} {r : Bool} (h : Af5 A x0 = some r) : PFun cx 35 [Ahk x0] (bl r) := by
 refine wF hA cx_ok Tryz.func35 fun P R hP hR => ?_
 cbv; unfold Af5 at h
 iterate 2 refine kj ?_
 obtain ⟨w1, hw1, h⟩ := bd_e h; refine kc hP (Aqh hA hw1) ?_; cbv
 iterate 20 refine cj ?_
 exact le h hR
theorem Ak7 {A : Ar} (hA : A = std) {x0 : List Matcher} {q1 : Matcher → Option Bool} {g1 : Nat} {cap1 : List PV} (hcap1 : bare.bares cap1 = true) (hq1 : ∀ (y0 : Matcher) (r : Bool), q1 y0 = some r → PFun cx g1 ((Ah4 y0) :: cap1) (bl r)) {r : Int} (h : Ada A x0 q1 = some r) : PFun cx 270 [.d (.sl TyS.matcher x0), .fn (.func g1) [] cap1] (it .i64 r) := by
 refine wF hA cx_ok Tryz.func270 fun P R hP hR => ?_
 cbv; unfold Ada at h
 iterate 2 refine kj ?_
 refine kl h (fun x _ => [(8, it .i64 x)]) (fun _ _ => []) [] ?_
 rintro t8 gh1 g1 _ _ _ hK1 hQ1 h; cbv
 refine kj ?_
 refine bc h (fun hb h => ?_) fun hb h => ?_
 ·cbv
  iterate 2 refine kj ?_
  refine kk h fun c1 h => ?_
  obtain ⟨w2, hw2, h⟩ := bd_e h; refine kc hP (hq1 _ _ hw2) ?_ (by first | rfl | simp [bare, bare.bares, hcap1]); cbv
  refine bc h (fun hb h => ?_) fun hb h => ?_
  ·cbv
   refine kj ?_
   refine hQ1 _ h _ _ fun h => ?_; cbv
   exact le h hR
  ·cbv
   refine kj ?_
   cases h; exact hK1 _ _ [] rfl hdy
 ·cbv
  refine hQ1 _ h _ _ fun h => ?_; cbv
  refine kj ?_
  exact le h hR
theorem Abw {A : Ar} (hA : A = std) {x0 : List Matcher} {q1 : Matcher → Option Bool} {g1 : Nat} {cap1 : List PV} (hcap1 : bare.bares cap1 = true) (hq1 : ∀ (y0 : Matcher) (r : Bool), q1 y0 = some r → PFun cx g1 ((Ah4 y0) :: cap1) (bl r)) {r : Bool} (h : Aao A x0 q1 = some r) : PFun cx 191 [.d (.sl TyS.matcher x0), .fn (.func g1) [] cap1] (bl r) := by
 refine wF hA cx_ok Tryz.func191 fun P R hP hR => ?_
 cbv; unfold Aao at h
 iterate 2 refine kj ?_
 obtain ⟨w1, hw1, h⟩ := bd_e h; refine kc hP (Ak7 hA hcap1 hq1 hw1) ?_ (by first | rfl | simp [bare, bare.bares, hcap1]); cbv
 exact le h hR
theorem Anx {A : Ar} (hA : A = std) {x0 : List UInt8} {q1 : Int → Option Bool} {g1 : Nat} {cap1 : List PV} (hcap1 : bare.bares cap1 = true) (hq1 : ∀ (y0 : Int) (r : Bool), q1 y0 = some r → PFun cx g1 ((it .u8 y0) :: cap1) (bl r)) {r : Int} (h : Ae8 A x0 q1 = some r) : PFun cx 235 [.d (.sl TyS.byte x0), .fn (.func g1) [] cap1] (it .i64 r) := by
 refine wF hA cx_ok Tryz.func235 fun P R hP hR => ?_
 cbv; unfold Ae8 at h
 iterate 2 refine kj ?_
 refine kl h (fun x _ => [(8, it .i64 x)]) (fun _ _ => []) [] ?_
 rintro t8 gh1 g1 _ _ _ hK1 hQ1 h; cbv
 refine kj ?_
 refine bc h (fun hb h => ?_) fun hb h => ?_
 ·cbv
  iterate 2 refine kj ?_
  refine kk h fun c1 h => ?_
  obtain ⟨w2, hw2, h⟩ := bd_e h; refine kc hP (hq1 _ _ hw2) ?_ (by first | rfl | simp [bare, bare.bares, hcap1]); cbv
  refine bc h (fun hb h => ?_) fun hb h => ?_
  ·cbv
   refine kj ?_
   refine hQ1 _ h _ _ fun h => ?_; cbv
   exact le h hR
  ·cbv
   refine kj ?_
   cases h; exact hK1 _ _ [] rfl hdy
 ·cbv
  refine hQ1 _ h _ _ fun h => ?_; cbv
  refine kj ?_
  exact le h hR
theorem Aal {A : Ar} (hA : A = std) {x0 : List UInt8} {q1 : Int → Option Bool} {g1 : Nat} {cap1 : List PV} (hcap1 : bare.bares cap1 = true) (hq1 : ∀ (y0 : Int) (r : Bool), q1 y0 = some r → PFun cx g1 ((it .u8 y0) :: cap1) (bl r)) {r : Bool} (h : Aaa A x0 q1 = some r) : PFun cx 149 [.d (.sl TyS.byte x0), .fn (.func g1) [] cap1] (bl r) := by
 refine wF hA cx_ok Tryz.func149 fun P R hP hR => ?_
 cbv; unfold Aaa at h
 iterate 2 refine kj ?_
 obtain ⟨w1, hw1, h⟩ := bd_e h; refine kc hP (Anx hA hcap1 hq1 hw1) ?_ (by first | rfl | simp [bare, bare.bares, hcap1]); cbv
 exact le h hR
theorem Axk {A : Ar} (hA : A = std) {x0 : Int} {r : Bool} (h : Alz A x0 = some r) : PFun cx 303 [it .u8 x0] (bl r) := by
 refine wF hA cx_ok Tryz.func303 fun P R hP hR => ?_
 cbv; unfold Alz at h
 iterate 2 refine kj ?_
 iterate 6 refine cj ?_
 refine ⟨by subst hA; simp +contextual [vcm], ?_⟩
 iterate 5 refine cj ?_
 refine ⟨by subst hA; simp +contextual [vcm], ?_⟩
 iterate 2 refine cj ?_
 obtain ⟨w1, hw1, h⟩ := bd_e h; refine kg hP (fun hc => (Aoe hA (gd_e hw1 hc))) ?_; cbv
 iterate 2 refine cj ?_
 exact le h hR
theorem Av3 {A : Ar} (hA : A = std) {x0 : Int} {r : Bool} (h : Amw A x0 = some r) : PFun cx 302 [it .u8 x0] (bl r) := by
 refine wF hA cx_ok Tryz.func302 fun P R hP hR => ?_
 cbv; unfold Amw at h
 iterate 2 refine kj ?_
 obtain ⟨w1, hw1, h⟩ := bd_e h; refine kc hP (Axk hA hw1) ?_; cbv
 exact le h hR
theorem Asw {A : Ar} (hA : A = std) {x0 : ByteArray} {r : Bool} (h : Ah7 A x0 = some r) : PFun cx 233 [st x0] (bl r) := by
 refine wF hA cx_ok Tryz.func233 fun P R hP hR => ?_
 cbv; unfold Ah7 at h
 iterate 2 refine kj ?_
 iterate 2 refine cj ?_
 obtain ⟨w1, hw1, h⟩ := bd_e h; refine kf hP (fun hc => (Aal hA (by rfl) (fun _ _ hw => Av3 hA hw) (gd_e hw1 hc))) ?_; cbv
 iterate 2 refine cj ?_
 exact le h hR
theorem Anz {A : Ar} (hA : A = std) {r : Unit} (h : Afv A = some r) : PFunM cx 234 [] [] (.mp 2000 1) [⟨2000, 1, .map [(.int .i64 1, .d (.v (.string (ByteArray.mk (Array.mk [61]))))), (.int .i64 2, .d (.v (.string (ByteArray.mk (Array.mk [33, 61]))))), (.int .i64 3, .d (.v (.string (ByteArray.mk (Array.mk [61, 126]))))), (.int .i64 4, .d (.v (.string (ByteArray.mk (Array.mk [33, 126])))))]⟩] := by
 refine PFunM.walkM (fz := fun _ => false) hA cx_ok Tryz.func234 rfl rfl fun P R hP hR => ?_
 cbv; unfold Afv at h
 iterate 2 refine kj ?_
 refine and_assoc.2 ?_
 refine ⟨by subst hA; simp +contextual [vcm], ?_⟩
 refine cj ?_
 refine and_assoc.2 ?_
 refine ⟨by subst hA; simp +contextual [vcm], ?_⟩
 refine and_assoc.2 ?_
 refine ⟨by subst hA; simp +contextual [vcm], ?_⟩
 refine cj ?_
 refine and_assoc.2 ?_
 refine ⟨by subst hA; simp +contextual [vcm], ?_⟩
 refine and_assoc.2 ?_
 refine ⟨by subst hA; simp +contextual [vcm], ?_⟩
 refine and_assoc.2 ?_
 refine ⟨by subst hA; simp +contextual [vcm], ?_⟩
 refine cj ?_
 cases h
 refine hR _ _ ⟨[(1, 3)], ⟨by rfl, ez, by rfl, ez⟩⟩
theorem Ayc {A : Ar} (hA : A = std) {x0 : Int} {r : Bool} (h : Ane A x0 = some r) : PFun cx 333 [it .u8 x0] (bl r) := by
 refine wF hA cx_ok Tryz.func333 fun P R hP hR => ?_
 cbv; unfold Ane at h
 iterate 2 refine kj ?_
 iterate 6 refine cj ?_
 refine ⟨by subst hA; simp +contextual [vcm], ?_⟩
 iterate 3 refine cj ?_
 exact le h hR
theorem A2e {A : Ar} (hA : A = std) {x0 : ByteArray} {r : Bool} (h : Aq4 A x0 = some r) : PFun cx 296 [st x0] (bl r) := by
 refine wF hA cx_ok Tryz.func296 fun P R hP hR => ?_
 cbv; unfold Aq4 at h
 iterate 2 refine kj ?_
 refine kl h (fun x _ => [(2, bl x.1), (7, it .i64 x.2)]) (fun _ _ => []) [] ?_
 rintro ⟨t2, t7⟩ gh1 g1 _ _ _ hK1 hQ1 h; cbv
 refine kj ?_
 refine bc h (fun hb h => ?_) fun hb h => ?_
 ·cbv
  iterate 2 refine kj ?_
  refine kk h fun c1 h => ?_
  refine kj ?_
  obtain ⟨w2, hw2, h⟩ := bd_e h; refine kc hP (Ayc hA hw2) ?_; cbv
  iterate 4 refine cj ?_
  refine ⟨by subst hA; simp +contextual [vcm], ?_⟩
  iterate 3 refine cj ?_
  refine ⟨by subst hA; simp +contextual [vcm], ?_⟩
  refine cj ?_
  refine bc h (fun hb h => ?_) fun hb h => ?_
  ·cbv
   refine kj ?_
   refine hQ1 _ h _ _ fun h => ?_; cbv
   exact le h hR
  ·cbv
   refine kj ?_
   cases h; exact hK1 _ _ [] rfl hdy
 ·cbv
  refine hQ1 _ h _ _ fun h => ?_; cbv
  refine kj ?_
  iterate 3 refine cj ?_
  exact le h hR
theorem Axl {A : Ar} (hA : A = std) {x0 : Int} {r : Bool} (h : Aol A x0 = some r) : PFun cx 334 [it .u8 x0] (bl r) := by
 refine wF hA cx_ok Tryz.func334 fun P R hP hR => ?_
 cbv; unfold Aol at h
 iterate 2 refine kj ?_
 iterate 2 refine cj ?_
 exact le h hR
theorem Az7 {A : Ar} (hA : A = std) {x0 : ByteArray} {r : Bool} (h : Ao7 A x0 = some r) : PFun cx 297 [st x0] (bl r) := by
 refine wF hA cx_ok Tryz.func297 fun P R hP hR => ?_
 cbv; unfold Ao7 at h
 iterate 2 refine kj ?_
 iterate 5 refine cj ?_
 obtain ⟨w1, hw1, h⟩ := bd_e h; refine kf hP (fun hc => (Aal hA (by rfl) (fun _ _ hw => Axl hA hw) (gd_e hw1 hc))) ?_; cbv
 iterate 2 refine cj ?_
 exact le h hR
theorem A4l {A : Ar} (hA : A = std) {x0 : Label} {r : Bool} (h : Aq5 A x0 = some r) : PFun cx 226 [A7e x0] (bl r) := by
 refine wF hA cx_ok Tryz.func226 fun P R hP hR => ?_
 cbv; unfold Aq5 at h
 iterate 2 refine kj ?_
 obtain ⟨w1, hw1, h⟩ := bd_e h; refine kc hP (A2e hA hw1) ?_; cbv
 iterate 3 refine cj ?_
 obtain ⟨w2, hw2, h⟩ := bd_e h; refine kg hP (fun hc => (Az7 hA (gd_e hw2 hc))) ?_; cbv
 refine cj ?_
 exact le h hR
theorem Akr {A : Ar} (hA : A = std) {x0 : List Label} {r : Bool} (h : Agp A x0 = some r) : PFun cx 139 [.d (.sl TyS.label x0)] (bl r) := by
 refine wF hA cx_ok Tryz.func139 fun P R hP hR => ?_
 cbv; unfold Agp at h
 iterate 2 refine kj ?_
 refine kl h (fun x _ => [(7, it .i64 x)]) (fun _ _ => []) [] ?_
 rintro t7 gh1 g1 _ _ _ hK1 hQ1 h; cbv
 refine kj ?_
 refine bc h (fun hb h => ?_) fun hb h => ?_
 ·cbv
  refine kj ?_
  refine kk h fun c1 h => ?_
  refine kj ?_
  obtain ⟨w2, hw2, h⟩ := bd_e h; refine kc hP (A4l hA hw2) ?_; cbv
  iterate 5 refine cj ?_
  refine kk h fun c3 h => ?_
  iterate 7 refine cj ?_
  refine ⟨by subst hA; simp +contextual [vcm], ?_⟩
  refine cj ?_
  refine kj ?_
  refine bc h (fun hb h => ?_) fun hb h => ?_
  ·cbv
   refine kj ?_
   refine hQ1 _ h _ _ fun h => ?_; cbv
   exact le h hR
  ·cbv
   refine kj ?_
   cases h; exact hK1 _ _ [] rfl hdy
 ·cbv
  refine hQ1 _ h _ _ fun h => ?_; cbv
  refine kj ?_
  exact le h hR
theorem Ak0 {A : Ar} (hA : A = std) {x0 : Matcher} {r : Bool} (h : Aej A x0 = some r) : PFun cx 146 [Ah4 x0] (bl r) := by
 refine wF hA cx_ok Tryz.func146 fun P R hP hR => ?_
 cbv; unfold Aej at h
 iterate 3 refine kj ?_
 refine bc h (fun hb h => ?_) fun hb h => ?_
 ·cbv
  iterate 2 refine kj ?_
  refine kl h (fun x _ => [(14, it .i64 x)]) (fun x gh => [⟨1, 0, .box 99 [st x0.1, it .i64 x0.2, .d (.sl .str x0.3)]⟩]) [] ?_
  rintro t14 gh1 g1 _ _ _ hK1 hQ1 h; cbv
  refine kj ?_
  refine bc h (fun hb h => ?_) fun hb h => ?_
  ·cbv
   refine kj ?_
   refine kk h fun c1 h => ?_
   refine kj ?_
   obtain ⟨w2, hw2, h⟩ := bd_e h; refine kc hP (Asw hA hw2) ?_; cbv
   iterate 7 refine cj ?_
   refine kk h fun c3 h => ?_
   iterate 4 refine cj ?_
   refine ⟨by subst hA; simp +contextual [vcm], ?_⟩
   refine cj ?_
   refine bc h (fun hb h => ?_) fun hb h => ?_
   ·cbv
    refine kj ?_
    refine hQ1 _ h _ _ fun h => ?_; cbv
    exact le h hR
   ·cbv
    refine kj ?_
    cases h; exact hK1 _ _ [] rfl hdy
  ·cbv
   refine hQ1 _ h _ _ fun h => ?_; cbv
   refine kj ?_
   obtain ⟨w4, hw4, h⟩ := bd_e h; refine km hP [] (Anz hA hw4) ?_; cbv
   refine ⟨by first | exact Aih hA _ | exact ⟨rfl⟩, ?_⟩
   obtain ⟨w5, hw5, h⟩ := bd_e h
   have hw5' := Ax3 A x0.2 (fun x => st x) (ByteArray.mk (Array.mk [])) [(1, ByteArray.mk (Array.mk [61])), (2, ByteArray.mk (Array.mk [33, 61])), (3, ByteArray.mk (Array.mk [61, 126])), (4, ByteArray.mk (Array.mk [33, 126]))]
   rw [Option.some.inj hw5] at hw5'
   refine LookK.one _ _ hw5' ?_
   cbv
   iterate 2 refine kj ?_
   iterate 6 refine cj ?_
   obtain ⟨w6, hw6, h⟩ := bd_e h; refine kg hP (fun hc => (Akr hA (gd_e hw6 hc))) ?_; cbv
   iterate 12 refine cj ?_
   exact le h hR
 ·cbv
  refine kj ?_
  refine kl h (fun x _ => [(14, it .i64 x)]) (fun x gh => [⟨1, 0, .box 99 [st x0.1, it .i64 x0.2, .d (.sl .str x0.3)]⟩]) [] ?_
  rintro t14 gh2 g2 _ _ _ hK2 hQ2 h; cbv
  refine kj ?_
  refine bc h (fun hb h => ?_) fun hb h => ?_
  ·cbv
   refine kj ?_
   refine kk h fun c7 h => ?_
   refine kj ?_
   obtain ⟨w8, hw8, h⟩ := bd_e h; refine kc hP (Asw hA hw8) ?_; cbv
   iterate 7 refine cj ?_
   refine kk h fun c9 h => ?_
   iterate 4 refine cj ?_
   refine ⟨by subst hA; simp +contextual [vcm], ?_⟩
   refine cj ?_
   refine bc h (fun hb h => ?_) fun hb h => ?_
   ·cbv
    refine kj ?_
    refine hQ2 _ h _ _ fun h => ?_; cbv
    exact le h hR
   ·cbv
    refine kj ?_
    cases h; exact hK2 _ _ [] rfl hdy
  ·cbv
   refine hQ2 _ h _ _ fun h => ?_; cbv
   refine kj ?_
   obtain ⟨w10, hw10, h⟩ := bd_e h; refine km hP [] (Anz hA hw10) ?_; cbv
   refine ⟨by first | exact Aih hA _ | exact ⟨rfl⟩, ?_⟩
   obtain ⟨w11, hw11, h⟩ := bd_e h
   have hw11' := Ax3 A x0.2 (fun x => st x) (ByteArray.mk (Array.mk [])) [(1, ByteArray.mk (Array.mk [61])), (2, ByteArray.mk (Array.mk [33, 61])), (3, ByteArray.mk (Array.mk [61, 126])), (4, ByteArray.mk (Array.mk [33, 126]))]
   rw [Option.some.inj hw11] at hw11'
   refine LookK.one _ _ hw11' ?_
   cbv
   iterate 2 refine kj ?_
   iterate 6 refine cj ?_
   obtain ⟨w12, hw12, h⟩ := bd_e h; refine kg hP (fun hc => (Akr hA (gd_e hw12 hc))) ?_; cbv
   iterate 12 refine cj ?_
   exact le h hR
theorem Aoy {A : Ar} (hA : A = std) {x0 : Matcher} {r : ByteArray × Int} (h : Ajj A x0 = some r) : PFun cx 193 [Ah4 x0] (.tu [st r.1, it .i64 r.2]) := by
 refine wF hA cx_ok Tryz.func193 fun P R hP hR => ?_
 cbv; unfold Ajj at h
 iterate 2 refine kj ?_
 obtain ⟨w1, hw1, h⟩ := bd_e h; refine kc hP (Ak0 hA hw1) ?_; cbv
 refine bc h (fun hb h => ?_) fun hb h => ?_
 ·cbv
  refine kj ?_
  cases h; subst hR; exact ey
 ·cbv
  refine kj ?_
  obtain ⟨w2, hw2, h⟩ := bd_e h; refine km hP [] (Anz hA hw2) ?_; cbv
  refine ⟨by first | exact Aih hA _ | exact ⟨rfl⟩, ?_⟩
  obtain ⟨w3, hw3, h⟩ := bd_e h
  have hw3' := Ax3 A x0.2 (fun x => st x) (ByteArray.mk (Array.mk [])) [(1, ByteArray.mk (Array.mk [61])), (2, ByteArray.mk (Array.mk [33, 61])), (3, ByteArray.mk (Array.mk [61, 126])), (4, ByteArray.mk (Array.mk [33, 126]))]
  rw [Option.some.inj hw3] at hw3'
  refine LookK.one _ _ hw3' ?_
  cbv
  refine kk h fun c4 h => ?_
  refine kk h fun c5 h => ?_
  obtain ⟨w6, hw6, h⟩ := bd_e h; refine kc hP (Atc hA hw6) ?_; cbv
  refine kk h fun c7 h => ?_
  refine kk h fun c8 h => ?_
  refine kj ?_
  cases h; subst hR; exact ey
theorem Av4 {A : Ar} (hA : A = std) {x0 : Matcher} {r : Bool} (h : Amx A x0 = some r) : PFun cx 192 [Ah4 x0] (bl r) := by
 refine wF hA cx_ok Tryz.func192 fun P R hP hR => ?_
 cbv; unfold Amx at h
 iterate 2 refine kj ?_
 obtain ⟨w1, hw1, h⟩ := bd_e h; refine kc hP (Aoy hA hw1) ?_; cbv
 refine kj ?_
 exact le h hR
theorem Aoz {A : Ar} (hA : A = std) {x0 : List Matcher} {r : Bool} (h : Ajk A x0 = some r) : PFun cx 115 [.d (.sl TyS.matcher x0)] (bl r) := by
 refine wF hA cx_ok Tryz.func115 fun P R hP hR => ?_
 cbv; unfold Ajk at h
 iterate 2 refine kj ?_
 obtain ⟨w1, hw1, h⟩ := bd_e h; refine ke hP (Abw hA (by rfl) (fun _ _ hw => Av4 hA hw) hw1) ?_; cbv
 exact le h hR
theorem Av5 {A : Ar} (hA : A = std) {x0 : Inhibit} {r : Bool} (h : Akv A x0 = some r) : PFun cx 114 [Agd x0] (bl r) := by
 refine wF hA cx_ok Tryz.func114 fun P R hP hR => ?_
 cbv; unfold Akv at h
 iterate 2 refine kj ?_
 obtain ⟨w1, hw1, h⟩ := bd_e h; refine kc hP (Aoz hA hw1) ?_; cbv
 iterate 3 refine cj ?_
 obtain ⟨w2, hw2, h⟩ := bd_e h; refine kg hP (fun hc => (Aoz hA (gd_e hw2 hc))) ?_; cbv
 iterate 2 refine cj ?_
 exact le h hR
theorem At3 {A : Ar} (hA : A = std) {x0 : Config} {r : Config} (h : Amh A x0 = some r) : PFun cx 116 [Ahk x0] (Ahk r) := by
 refine wF hA cx_ok Tryz.func116 fun P R hP hR => ?_
 cbv; unfold Amh at h
 iterate 3 refine kj ?_
 exact le h hR
theorem Aoc {A : Ar} (hA : A = std) {x0 : Rule} {qc0 : Rule → Option Bool} {gc0 : Nat} {capc0 : List D} (hcapc0 : capOK capc0) (hqc0 : ∀ (y0 : Rule) (r : Bool), qc0 y0 = some r → PFun cx gc0 ((Al6 y0) :: un.uns capc0) (bl r)) {r : Bool} (h : Aju A x0 qc0 = some r) : PFun cx 136 [Al6 x0, .ip [.fun (.func gc0) [] capc0]] (bl r) := by
 rcases hcapc0 with rfl | ⟨dscapc0, rfl⟩
 all_goals
  refine wF hA cx_ok Tryz.func136 fun P R hP hR => ?_
  cbv; unfold Aju at h
  iterate 2 refine kj ?_
  obtain ⟨w1, hw1, h⟩ := bd_e h; refine kc hP (hqc0 _ _ hw1) ?_; cbv
  exact le h hR
theorem An0 {A : Ar} (hA : A = std) {x0 : List Rule} {q1 : Rule → Option Bool} {g1 : Nat} {cap1 : List PV} (hcap1 : bare.bares cap1 = true) (hq1 : ∀ (y0 : Rule) (r : Bool), q1 y0 = some r → PFun cx g1 ((Al6 y0) :: cap1) (bl r)) {r : Int} (h : Ae9 A x0 q1 = some r) : PFun cx 174 [.d (.sl TyS.rule x0), .fn (.func g1) [] cap1] (it .i64 r) := by
 refine wF hA cx_ok Tryz.func174 fun P R hP hR => ?_
 cbv; unfold Ae9 at h
 iterate 2 refine kj ?_
 refine kl h (fun x _ => [(8, it .i64 x)]) (fun _ _ => []) [] ?_
 rintro t8 gh1 g1 _ _ _ hK1 hQ1 h; cbv
 refine kj ?_
 refine bc h (fun hb h => ?_) fun hb h => ?_
 ·cbv
  iterate 2 refine kj ?_
  refine kk h fun c1 h => ?_
  obtain ⟨w2, hw2, h⟩ := bd_e h; refine kc hP (hq1 _ _ hw2) ?_ (by first | rfl | simp [bare, bare.bares, hcap1]); cbv
  refine bc h (fun hb h => ?_) fun hb h => ?_
  ·cbv
   refine kj ?_
   refine hQ1 _ h _ _ fun h => ?_; cbv
   exact le h hR
  ·cbv
   refine kj ?_
   cases h; exact hK1 _ _ [] rfl hdy
 ·cbv
  refine hQ1 _ h _ _ fun h => ?_; cbv
  refine kj ?_
  exact le h hR
theorem Ahv {A : Ar} (hA : A = std) {x0 : List Rule} {q1 : Rule → Option Bool} {g1 : Nat} {cap1 : List PV} (hcap1 : bare.bares cap1 = true) (hq1 : ∀ (y0 : Rule) (r : Bool), q1 y0 = some r → PFun cx g1 ((Al6 y0) :: cap1) (bl r)) {r : Bool} (h : Acs A x0 q1 = some r) : PFun cx 91 [.d (.sl TyS.rule x0), .fn (.func g1) [] cap1] (bl r) := by
 refine wF hA cx_ok Tryz.func91 fun P R hP hR => ?_
 cbv; unfold Acs at h
 iterate 2 refine kj ?_
 obtain ⟨w1, hw1, h⟩ := bd_e h; refine kc hP (An0 hA hcap1 hq1 hw1) ?_ (by first | rfl | simp [bare, bare.bares, hcap1]); cbv
 exact le h hR
theorem Au7 {A : Ar} (hA : A = std) {x0 : List Rule} {x1 : Int} {q2 : Rule → Option Bool} {g2 : Nat} {cap2 : List D} (hcap2 : capOK cap2) (hq2 : ∀ (y0 : Rule) (r : Bool), q2 y0 = some r → PFun cx g2 ((Al6 y0) :: un.uns cap2) (bl r)) {r : Bool} (h : Ag2 A x0 x1 q2 = some r) : PFun cx 46 [.d (.sl TyS.rule x0), it .i64 x1, .fn (.func g2) [] (un.uns cap2)] (bl r) := by
 rcases hcap2 with rfl | ⟨dscap2, rfl⟩
 ·refine PFun.walkF (fz := fun k => k == 5) hA cx_ok Tryz.func46 rfl rfl rfl fun P R hP hR => ?_
  cbv; unfold Ag2 at h
  iterate 2 refine kj ?_
  iterate 2 refine cj ?_
  obtain ⟨w1, hw1, h⟩ := bd_e h; refine kg hP (fun hc => (Ahv hA (by rfl) (fun _ _ hw => Aoc (capc0 := []) hA (by first | exact .inl rfl | exact .inr ⟨_, rfl⟩) hq2 hw) (gd_e hw1 hc))) ?_; cbv
  iterate 2 refine cj ?_
  exact le h hR
 ·refine PFun.walkF (fz := fun k => k == 5) hA cx_ok Tryz.func46 rfl rfl rfl fun P R hP hR => ?_
  cbv; unfold Ag2 at h
  iterate 2 refine kj ?_
  iterate 2 refine cj ?_
  obtain ⟨w1, hw1, h⟩ := bd_e h; refine kg hP (fun hc => (Ahv hA (by rfl) (fun _ _ hw => Aoc (capc0 := [D.ptr dscap2]) hA (by first | exact .inl rfl | exact .inr ⟨_, rfl⟩) hq2 hw) (gd_e hw1 hc))) ?_; cbv
  iterate 2 refine cj ?_
  exact le h hR
theorem Ao0 {A : Ar} (hA : A = std) {x0 : List Def} {q1 : Def → Option Bool} {g1 : Nat} {cap1 : List PV} (hcap1 : bare.bares cap1 = true) (hq1 : ∀ (y0 : Def) (r : Bool), q1 y0 = some r → PFun cx g1 ((defPV y0) :: cap1) (bl r)) {r : Int} (h : Agi A x0 q1 = some r) : PFun cx 298 [.d (.sl TyS.dfn x0), .fn (.func g1) [] cap1] (it .i64 r) := by
 refine wF hA cx_ok Tryz.func298 fun P R hP hR => ?_
 cbv; unfold Agi at h
 iterate 2 refine kj ?_
 refine kl h (fun x _ => [(8, it .i64 x)]) (fun _ _ => []) [] ?_
 rintro t8 gh1 g1 _ _ _ hK1 hQ1 h; cbv
 refine kj ?_
 refine bc h (fun hb h => ?_) fun hb h => ?_
 ·cbv
  iterate 2 refine kj ?_
  refine kk h fun c1 h => ?_
  obtain ⟨w2, hw2, h⟩ := bd_e h; refine kc hP (hq1 _ _ hw2) ?_ (by first | rfl | simp [bare, bare.bares, hcap1]); cbv
  refine bc h (fun hb h => ?_) fun hb h => ?_
  ·cbv
   refine kj ?_
   refine hQ1 _ h _ _ fun h => ?_; cbv
   exact le h hR
  ·cbv
   refine kj ?_
   cases h; exact hK1 _ _ [] rfl hdy
 ·cbv
  refine hQ1 _ h _ _ fun h => ?_; cbv
  refine kj ?_
  exact le h hR
theorem Am6 {A : Ar} (hA : A = std) {x0 : List Def} {q1 : Def → Option Bool} {g1 : Nat} {cap1 : List PV} (hcap1 : bare.bares cap1 = true) (hq1 : ∀ (y0 : Def) (r : Bool), q1 y0 = some r → PFun cx g1 ((defPV y0) :: cap1) (bl r)) {r : Bool} (h : Adc A x0 q1 = some r) : PFun cx 229 [.d (.sl TyS.dfn x0), .fn (.func g1) [] cap1] (bl r) := by
 refine wF hA cx_ok Tryz.func229 fun P R hP hR => ?_
 cbv; unfold Adc at h
 iterate 2 refine kj ?_
 obtain ⟨w1, hw1, h⟩ := bd_e h; refine kc hP (Ao0 hA hcap1 hq1 hw1) ?_ (by first | rfl | simp [bare, bare.bares, hcap1]); cbv
 exact le h hR
theorem Ayd {A : Ar} (hA : A = std) {x0 : Int} {r : Bool} (h : Ali A x0 = some r) : PFun cx 335 [it .u8 x0] (bl r) := by
 refine wF hA cx_ok Tryz.func335 fun P R hP hR => ?_
 cbv; unfold Ali at h
 iterate 2 refine kj ?_
 iterate 6 refine cj ?_
 refine ⟨by subst hA; simp +contextual [vcm], ?_⟩
 iterate 3 refine cj ?_
 exact le h hR
theorem Au8 {A : Ar} (hA : A = std) {x0 : ByteArray} {r : Bool} (h : Alj A x0 = some r) : PFun cx 299 [st x0] (bl r) := by
 refine wF hA cx_ok Tryz.func299 fun P R hP hR => ?_
 cbv; unfold Alj at h
 iterate 3 refine kj ?_
 iterate 6 refine cj ?_
 obtain ⟨w1, hw1, h⟩ := bd_e h; refine kf hP (fun hc => (Aal hA (by rfl) (fun _ _ hw => Ayd hA hw) (gd_e hw1 hc))) ?_; cbv
 iterate 2 refine cj ?_
 exact le h hR
theorem An1 {A : Ar} (hA : A = std) {x0 : List ByteArray} {x1 : ByteArray} {r : Int} (h : Ads A x0 x1 = some r) : PFun cx 155 [.d (.sl TyS.str x0), st x1] (it .i64 r) := by
 refine wF hA cx_ok Tryz.func155 fun P R hP hR => ?_
 cbv; unfold Ads at h
 iterate 2 refine kj ?_
 refine kl h (fun x _ => [(8, it .i64 x)]) (fun _ _ => []) [] ?_
 rintro t8 gh1 g1 _ _ _ hK1 hQ1 h; cbv
 refine kj ?_
 refine bc h (fun hb h => ?_) fun hb h => ?_
 ·cbv
  iterate 2 refine kj ?_
  refine kk h fun c1 h => ?_
  refine bc h (fun hb h => ?_) fun hb h => ?_
  ·cbv
   refine kj ?_
   refine hQ1 _ h _ _ fun h => ?_; cbv
   exact le h hR
  ·cbv
   refine kj ?_
   cases h; exact hK1 _ _ [] rfl hdy
 ·cbv
  refine hQ1 _ h _ _ fun h => ?_; cbv
  refine kj ?_
  exact le h hR
theorem Abz {A : Ar} (hA : A = std) {x0 : List ByteArray} {x1 : ByteArray} {r : Bool} (h : Aam A x0 x1 = some r) : PFun cx 67 [.d (.sl TyS.str x0), st x1] (bl r) := by
 refine wF hA cx_ok Tryz.func67 fun P R hP hR => ?_
 cbv; unfold Aam at h
 iterate 2 refine kj ?_
 obtain ⟨w1, hw1, h⟩ := bd_e h; refine kc hP (An1 hA hw1) ?_; cbv
 exact le h hR
theorem Als {A : Ar} (hA : A = std) {x0 : List ByteArray} {q1 : ByteArray → Option Bool} {g1 : Nat} {cap1 : List PV} (hcap1 : bare.bares cap1 = true) (hq1 : ∀ (y0 : ByteArray) (r : Bool), q1 y0 = some r → PFun cx g1 ((st y0) :: cap1) (bl r)) {r : Int} (h : Adx A x0 q1 = some r) : PFun cx 228 [.d (.sl TyS.str x0), .fn (.func g1) [] cap1] (it .i64 r) := by
 refine wF hA cx_ok Tryz.func228 fun P R hP hR => ?_
 cbv; unfold Adx at h
 iterate 2 refine kj ?_
 refine kl h (fun x _ => [(8, it .i64 x)]) (fun _ _ => []) [] ?_
 rintro t8 gh1 g1 _ _ _ hK1 hQ1 h; cbv
 refine kj ?_
 refine bc h (fun hb h => ?_) fun hb h => ?_
 ·cbv
  iterate 2 refine kj ?_
  refine kk h fun c1 h => ?_
  obtain ⟨w2, hw2, h⟩ := bd_e h; refine kc hP (hq1 _ _ hw2) ?_ (by first | rfl | simp [bare, bare.bares, hcap1]); cbv
  refine bc h (fun hb h => ?_) fun hb h => ?_
  ·cbv
   refine kj ?_
   refine hQ1 _ h _ _ fun h => ?_; cbv
   exact le h hR
  ·cbv
   refine kj ?_
   cases h; exact hK1 _ _ [] rfl hdy
 ·cbv
  refine hQ1 _ h _ _ fun h => ?_; cbv
  refine kj ?_
  exact le h hR
theorem Ady {A : Ar} (hA : A = std) {x0 : List ByteArray} {q1 : ByteArray → Option Bool} {g1 : Nat} {cap1 : List PV} (hcap1 : bare.bares cap1 = true) (hq1 : ∀ (y0 : ByteArray) (r : Bool), q1 y0 = some r → PFun cx g1 ((st y0) :: cap1) (bl r)) {r : Bool} (h : Aa6 A x0 q1 = some r) : PFun cx 141 [.d (.sl TyS.str x0), .fn (.func g1) [] cap1] (bl r) := by
 refine wF hA cx_ok Tryz.func141 fun P R hP hR => ?_
 cbv; unfold Aa6 at h
 iterate 2 refine kj ?_
 obtain ⟨w1, hw1, h⟩ := bd_e h; refine kc hP (Als hA hcap1 hq1 hw1) ?_ (by first | rfl | simp [bare, bare.bares, hcap1]); cbv
 exact le h hR
theorem Axm {A : Ar} (hA : A = std) {x0 : Int} {r : Bool} (h : Aro A x0 = some r) : PFun cx 336 [it .u8 x0] (bl r) := by
 refine wF hA cx_ok Tryz.func336 fun P R hP hR => ?_
 cbv; unfold Aro at h
 iterate 2 refine kj ?_
 iterate 4 refine cj ?_
 exact le h hR
theorem Az8 {A : Ar} (hA : A = std) {x0 : ByteArray} {r : Bool} (h : Aup A x0 = some r) : PFun cx 301 [st x0] (bl r) := by
 refine wF hA cx_ok Tryz.func301 fun P R hP hR => ?_
 cbv; unfold Aup at h
 iterate 3 refine kj ?_
 iterate 4 refine cj ?_
 obtain ⟨w1, hw1, h⟩ := bd_e h; refine kg hP (fun hc => (Ay4 hA (gd_e hw1 hc))) ?_; cbv
 iterate 6 refine cj ?_
 obtain ⟨w2, hw2, h⟩ := bd_e h; refine kf hP (fun hc => (Aal hA (by rfl) (fun _ _ hw => Axm hA hw) (gd_e hw2 hc))) ?_; cbv
 iterate 2 refine cj ?_
 exact le h hR
theorem Az9 {A : Ar} (hA : A = std) {x0 : ByteArray} {r : Bool} (h : Auq A x0 = some r) : PFun cx 300 [st x0] (bl r) := by
 refine wF hA cx_ok Tryz.func300 fun P R hP hR => ?_
 cbv; unfold Auq at h
 iterate 2 refine kj ?_
 obtain ⟨w1, hw1, h⟩ := bd_e h; refine kc hP (Az8 hA hw1) ?_; cbv
 exact le h hR
theorem A4m {A : Ar} (hA : A = std) {x0 : Def} {r : Bool} (h : Avd A x0 = some r) : PFun cx 231 [defPV x0] (bl r) := by
 refine wF hA cx_ok Tryz.func231 fun P R hP hR => ?_
 cbv; unfold Avd at h
 iterate 2 refine kj ?_
 refine kl h (fun x _ => [(8, it .i64 x)]) (fun x gh => [⟨1, 0, .box 118 [st x0.1, .d (.sl .str x0.2), .d (.sl .str x0.3)]⟩]) [] ?_
 rintro t8 gh1 g1 _ _ _ hK1 hQ1 h; cbv
 refine kj ?_
 refine bc h (fun hb h => ?_) fun hb h => ?_
 ·cbv
  refine kj ?_
  refine kk h fun c1 h => ?_
  refine kj ?_
  obtain ⟨w2, hw2, h⟩ := bd_e h; refine kc hP (Au8 hA hw2) ?_; cbv
  iterate 4 refine cj ?_
  refine kk h fun c3 h => ?_
  iterate 2 refine cj ?_
  obtain ⟨w4, hw4, h⟩ := bd_e h; refine kg hP (fun hc => (Abz hA (gd_e hw4 hc))) ?_; cbv
  refine cj ?_
  refine bc h (fun hb h => ?_) fun hb h => ?_
  ·cbv
   refine kj ?_
   refine hQ1 _ h _ _ fun h => ?_; cbv
   exact le h hR
  ·cbv
   refine kj ?_
   cases h; exact hK1 _ _ [] rfl hdy
 ·cbv
  refine hQ1 _ h _ _ fun h => ?_; cbv
  refine kj ?_
  obtain ⟨w5, hw5, h⟩ := bd_e h; refine kc hP (Au8 hA hw5) ?_; cbv
  iterate 17 refine cj ?_
  obtain ⟨w6, hw6, h⟩ := bd_e h; refine kf hP (fun hc => (Ady hA (by rfl) (fun _ _ hw => Az9 hA hw) (gd_e hw6 hc))) ?_; cbv
  iterate 2 refine cj ?_
  exact le h hR
theorem Axn {A : Ar} (hA : A = std) {x0 : Def} {r : Bool} (h : Aom A x0 = some r) : PFun cx 230 [defPV x0] (bl r) := by
 refine wF hA cx_ok Tryz.func230 fun P R hP hR => ?_
 cbv; unfold Aom at h
 iterate 2 refine kj ?_
 obtain ⟨w1, hw1, h⟩ := bd_e h; refine kc hP (A4m hA hw1) ?_; cbv
 exact le h hR
theorem Aqi {A : Ar} (hA : A = std) {x0 : List Def} {r : Bool} (h : Ala A x0 = some r) : PFun cx 143 [.d (.sl TyS.dfn x0)] (bl r) := by
 refine wF hA cx_ok Tryz.func143 fun P R hP hR => ?_
 cbv; unfold Ala at h
 iterate 2 refine kj ?_
 refine cj ?_
 obtain ⟨w1, hw1, h⟩ := bd_e h; refine kf hP (fun hc => (Am6 hA (by rfl) (fun _ _ hw => Axn hA hw) (gd_e hw1 hc))) ?_; cbv
 iterate 2 refine cj ?_
 exact le h hR
theorem Au9 {A : Ar} (hA : A = std) {x0 : ByteArray} {r : Bool} (h : Aou A x0 = some r) : PFun cx 137 [st x0] (bl r) := by
 refine wF hA cx_ok Tryz.func137 fun P R hP hR => ?_
 cbv; unfold Aou at h
 iterate 2 refine kj ?_
 obtain ⟨w1, hw1, h⟩ := bd_e h; refine kc hP (Aqi hA hw1) ?_; cbv
 exact le h hR
theorem Ava {A : Ar} (hA : A = std) {x0 : Int} {r : Bool} (h : Aq6 A x0 = some r) : PFun cx 138 [it .i64 x0] (bl r) := by
 refine wF hA cx_ok Tryz.func138 fun P R hP hR => ?_
 cbv; unfold Aq6 at h
 iterate 2 refine kj ?_
 iterate 2 refine cj ?_
 exact le h hR
theorem A0a {A : Ar} (hA : A = std) {x0 : Label} {c0 : ByteArray} {r : Bool} (h : Ao9 A x0 c0 = some r) : PFun cx 227 [A7e x0, .ip [.v (.string c0)]] (bl r) := by
 refine wF hA cx_ok Tryz.func227 fun P R hP hR => ?_
 cbv; unfold Ao9 at h
 iterate 2 refine kj ?_
 exact le h hR
theorem Amc {A : Ar} (hA : A = std) {x0 : List Label} {q1 : Label → Option Bool} {g1 : Nat} {cap1 : List PV} (hcap1 : bare.bares cap1 = true) (hq1 : ∀ (y0 : Label) (r : Bool), q1 y0 = some r → PFun cx g1 ((A7e y0) :: cap1) (bl r)) {r : Int} (h : Ad9 A x0 q1 = some r) : PFun cx 175 [.d (.sl TyS.label x0), .fn (.func g1) [] cap1] (it .i64 r) := by
 refine wF hA cx_ok Tryz.func175 fun P R hP hR => ?_
 cbv; unfold Ad9 at h
 iterate 2 refine kj ?_
 refine kl h (fun x _ => [(8, it .i64 x)]) (fun _ _ => []) [] ?_
 rintro t8 gh1 g1 _ _ _ hK1 hQ1 h; cbv
 refine kj ?_
 refine bc h (fun hb h => ?_) fun hb h => ?_
 ·cbv
  iterate 2 refine kj ?_
  refine kk h fun c1 h => ?_
  obtain ⟨w2, hw2, h⟩ := bd_e h; refine kc hP (hq1 _ _ hw2) ?_ (by first | rfl | simp [bare, bare.bares, hcap1]); cbv
  refine bc h (fun hb h => ?_) fun hb h => ?_
  ·cbv
   refine kj ?_
   refine hQ1 _ h _ _ fun h => ?_; cbv
   exact le h hR
  ·cbv
   refine kj ?_
   cases h; exact hK1 _ _ [] rfl hdy
 ·cbv
  refine hQ1 _ h _ _ fun h => ?_; cbv
  refine kj ?_
  exact le h hR
theorem A4n {A : Ar} (hA : A = std) {x0 : List Label} {x1 : ByteArray} {r : ByteArray} (h : As7 A x0 x1 = some r) : PFun cx 140 [.d (.sl TyS.label x0), st x1] (st r) := by
 refine PFun.walkF (fz := fun k => k == 3) hA cx_ok Tryz.func140 rfl rfl rfl fun P R hP hR => ?_
 cbv; unfold As7 at h
 iterate 2 refine kj ?_
 obtain ⟨w1, hw1, h⟩ := bd_e h; refine kc hP (Amc hA (by rfl) (fun _ _ hw => A0a hA hw) hw1) ?_; cbv
 refine kj ?_
 refine bc h (fun hb h => ?_) fun hb h => ?_
 ·cbv
  refine kj ?_
  exact le h hR
 ·cbv
  refine kj ?_
  refine kk h fun c2 h => ?_
  exact le h hR
theorem A0b {A : Ar} (hA : A = std) {x0 : Rule} {r : Bool} (h : Amj A x0 = some r) : PFun cx 47 [Al6 x0] (bl r) := by
 refine wF hA cx_ok Tryz.func47 fun P R hP hR => ?_
 cbv; unfold Amj at h
 iterate 2 refine kj ?_
 obtain ⟨w1, hw1, h⟩ := bd_e h; refine kc hP (Au9 hA hw1) ?_; cbv
 iterate 3 refine cj ?_
 obtain ⟨w2, hw2, h⟩ := bd_e h; refine kg hP (fun hc => (Au9 hA (gd_e hw2 hc))) ?_; cbv
 iterate 9 refine cj ?_
 refine kj ?_
 obtain ⟨w3, hw3, h⟩ := bd_e h; refine kc hP (Ava hA hw3) ?_; cbv
 iterate 3 refine cj ?_
 obtain ⟨w4, hw4, h⟩ := bd_e h; refine kg hP (fun hc => (Ava hA (gd_e hw4 hc))) ?_; cbv
 iterate 9 refine cj ?_
 refine kj ?_
 iterate 17 refine cj ?_
 obtain ⟨w5, hw5, h⟩ := bd_e h; refine kg hP (fun hc => (Akr hA (gd_e hw5 hc))) ?_; cbv
 iterate 4 refine cj ?_
 obtain ⟨w6, hw6, h⟩ := bd_e h; refine kg hP (fun hc => (A4n hA (gd_e hw6 hc))) ?_; cbv
 iterate 2 refine cj ?_
 exact le h hR
theorem Ama {A : Ar} (hA : A = std) {x0 : ByteArray} {qc0 : ByteArray → Option Bool} {gc0 : Nat} {capc0 : List D} (hcapc0 : capOK capc0) (hqc0 : ∀ (y0 : ByteArray) (r : Bool), qc0 y0 = some r → PFun cx gc0 ((st y0) :: un.uns capc0) (bl r)) {r : Bool} (h : Ah9 A x0 qc0 = some r) : PFun cx 142 [st x0, .ip [.fun (.func gc0) [] capc0]] (bl r) := by
 rcases hcapc0 with rfl | ⟨dscapc0, rfl⟩
 all_goals
  refine wF hA cx_ok Tryz.func142 fun P R hP hR => ?_
  cbv; unfold Ah9 at h
  iterate 2 refine kj ?_
  obtain ⟨w1, hw1, h⟩ := bd_e h; refine kc hP (hqc0 _ _ hw1) ?_; cbv
  exact le h hR
theorem Akp {A : Ar} (hA : A = std) {x0 : List ByteArray} {x1 : Int} {q2 : ByteArray → Option Bool} {g2 : Nat} {cap2 : List D} (hcap2 : capOK cap2) (hq2 : ∀ (y0 : ByteArray) (r : Bool), q2 y0 = some r → PFun cx g2 ((st y0) :: un.uns cap2) (bl r)) {r : Bool} (h : Adh A x0 x1 q2 = some r) : PFun cx 48 [.d (.sl TyS.str x0), it .i64 x1, .fn (.func g2) [] (un.uns cap2)] (bl r) := by
 rcases hcap2 with rfl | ⟨dscap2, rfl⟩
 ·refine PFun.walkF (fz := fun k => k == 5) hA cx_ok Tryz.func48 rfl rfl rfl fun P R hP hR => ?_
  cbv; unfold Adh at h
  iterate 2 refine kj ?_
  iterate 2 refine cj ?_
  obtain ⟨w1, hw1, h⟩ := bd_e h; refine kg hP (fun hc => (Ady hA (by rfl) (fun _ _ hw => Ama (capc0 := []) hA (by first | exact .inl rfl | exact .inr ⟨_, rfl⟩) hq2 hw) (gd_e hw1 hc))) ?_; cbv
  iterate 2 refine cj ?_
  exact le h hR
 ·refine PFun.walkF (fz := fun k => k == 5) hA cx_ok Tryz.func48 rfl rfl rfl fun P R hP hR => ?_
  cbv; unfold Adh at h
  iterate 2 refine kj ?_
  iterate 2 refine cj ?_
  obtain ⟨w1, hw1, h⟩ := bd_e h; refine kg hP (fun hc => (Ady hA (by rfl) (fun _ _ hw => Ama (capc0 := [D.ptr dscap2]) hA (by first | exact .inl rfl | exact .inr ⟨_, rfl⟩) hq2 hw) (gd_e hw1 hc))) ?_; cbv
  iterate 2 refine cj ?_
  exact le h hR
theorem A0c {A : Ar} (hA : A = std) {x0 : ByteArray} {r : Bool} (h : Amk A x0 = some r) : PFun cx 49 [st x0] (bl r) := by
 refine wF hA cx_ok Tryz.func49 fun P R hP hR => ?_
 cbv; unfold Amk at h
 iterate 2 refine kj ?_
 obtain ⟨w1, hw1, h⟩ := bd_e h; refine kc hP (Aqi hA hw1) ?_; cbv
 exact le h hR
theorem Alt {A : Ar} (hA : A = std) {x0 : Inhibit} {qc0 : Inhibit → Option Bool} {gc0 : Nat} {capc0 : List D} (hcapc0 : capOK capc0) (hqc0 : ∀ (y0 : Inhibit) (r : Bool), qc0 y0 = some r → PFun cx gc0 ((Agd y0) :: un.uns capc0) (bl r)) {r : Bool} (h : Ahw A x0 qc0 = some r) : PFun cx 144 [Agd x0, .ip [.fun (.func gc0) [] capc0]] (bl r) := by
 rcases hcapc0 with rfl | ⟨dscapc0, rfl⟩
 all_goals
  refine wF hA cx_ok Tryz.func144 fun P R hP hR => ?_
  cbv; unfold Ahw at h
  iterate 2 refine kj ?_
  obtain ⟨w1, hw1, h⟩ := bd_e h; refine kc hP (hqc0 _ _ hw1) ?_; cbv
  exact le h hR
theorem Ak8 {A : Ar} (hA : A = std) {x0 : List Inhibit} {q1 : Inhibit → Option Bool} {g1 : Nat} {cap1 : List PV} (hcap1 : bare.bares cap1 = true) (hq1 : ∀ (y0 : Inhibit) (r : Bool), q1 y0 = some r → PFun cx g1 ((Agd y0) :: cap1) (bl r)) {r : Int} (h : Adb A x0 q1 = some r) : PFun cx 196 [.d (.sl TyS.inhibit x0), .fn (.func g1) [] cap1] (it .i64 r) := by
 refine wF hA cx_ok Tryz.func196 fun P R hP hR => ?_
 cbv; unfold Adb at h
 iterate 2 refine kj ?_
 refine kl h (fun x _ => [(8, it .i64 x)]) (fun _ _ => []) [] ?_
 rintro t8 gh1 g1 _ _ _ hK1 hQ1 h; cbv
 refine kj ?_
 refine bc h (fun hb h => ?_) fun hb h => ?_
 ·cbv
  iterate 2 refine kj ?_
  refine kk h fun c1 h => ?_
  obtain ⟨w2, hw2, h⟩ := bd_e h; refine kc hP (hq1 _ _ hw2) ?_ (by first | rfl | simp [bare, bare.bares, hcap1]); cbv
  refine bc h (fun hb h => ?_) fun hb h => ?_
  ·cbv
   refine kj ?_
   refine hQ1 _ h _ _ fun h => ?_; cbv
   exact le h hR
  ·cbv
   refine kj ?_
   cases h; exact hK1 _ _ [] rfl hdy
 ·cbv
  refine hQ1 _ h _ _ fun h => ?_; cbv
  refine kj ?_
  exact le h hR
theorem Adg {A : Ar} (hA : A = std) {x0 : List Inhibit} {q1 : Inhibit → Option Bool} {g1 : Nat} {cap1 : List PV} (hcap1 : bare.bares cap1 = true) (hq1 : ∀ (y0 : Inhibit) (r : Bool), q1 y0 = some r → PFun cx g1 ((Agd y0) :: cap1) (bl r)) {r : Bool} (h : Aap A x0 q1 = some r) : PFun cx 118 [.d (.sl TyS.inhibit x0), .fn (.func g1) [] cap1] (bl r) := by
 refine wF hA cx_ok Tryz.func118 fun P R hP hR => ?_
 cbv; unfold Aap at h
 iterate 2 refine kj ?_
 obtain ⟨w1, hw1, h⟩ := bd_e h; refine kc hP (Ak8 hA hcap1 hq1 hw1) ?_ (by first | rfl | simp [bare, bare.bares, hcap1]); cbv
 exact le h hR
theorem Asx {A : Ar} (hA : A = std) {x0 : List Inhibit} {x1 : Int} {q2 : Inhibit → Option Bool} {g2 : Nat} {cap2 : List D} (hcap2 : capOK cap2) (hq2 : ∀ (y0 : Inhibit) (r : Bool), q2 y0 = some r → PFun cx g2 ((Agd y0) :: un.uns cap2) (bl r)) {r : Bool} (h : Aek A x0 x1 q2 = some r) : PFun cx 50 [.d (.sl TyS.inhibit x0), it .i64 x1, .fn (.func g2) [] (un.uns cap2)] (bl r) := by
 rcases hcap2 with rfl | ⟨dscap2, rfl⟩
 ·refine PFun.walkF (fz := fun k => k == 5) hA cx_ok Tryz.func50 rfl rfl rfl fun P R hP hR => ?_
  cbv; unfold Aek at h
  iterate 2 refine kj ?_
  iterate 2 refine cj ?_
  obtain ⟨w1, hw1, h⟩ := bd_e h; refine kg hP (fun hc => (Adg hA (by rfl) (fun _ _ hw => Alt (capc0 := []) hA (by first | exact .inl rfl | exact .inr ⟨_, rfl⟩) hq2 hw) (gd_e hw1 hc))) ?_; cbv
  iterate 2 refine cj ?_
  exact le h hR
 ·refine PFun.walkF (fz := fun k => k == 5) hA cx_ok Tryz.func50 rfl rfl rfl fun P R hP hR => ?_
  cbv; unfold Aek at h
  iterate 2 refine kj ?_
  iterate 2 refine cj ?_
  obtain ⟨w1, hw1, h⟩ := bd_e h; refine kg hP (fun hc => (Adg hA (by rfl) (fun _ _ hw => Alt (capc0 := [D.ptr dscap2]) hA (by first | exact .inl rfl | exact .inr ⟨_, rfl⟩) hq2 hw) (gd_e hw1 hc))) ?_; cbv
  iterate 2 refine cj ?_
  exact le h hR
theorem Alu {A : Ar} (hA : A = std) {x0 : Matcher} {qc0 : Matcher → Option Bool} {gc0 : Nat} {capc0 : List D} (hcapc0 : capOK capc0) (hqc0 : ∀ (y0 : Matcher) (r : Bool), qc0 y0 = some r → PFun cx gc0 ((Ah4 y0) :: un.uns capc0) (bl r)) {r : Bool} (h : Ahx A x0 qc0 = some r) : PFun cx 232 [Ah4 x0, .ip [.fun (.func gc0) [] capc0]] (bl r) := by
 rcases hcapc0 with rfl | ⟨dscapc0, rfl⟩
 all_goals
  refine wF hA cx_ok Tryz.func232 fun P R hP hR => ?_
  cbv; unfold Ahx at h
  iterate 2 refine kj ?_
  obtain ⟨w1, hw1, h⟩ := bd_e h; refine kc hP (hqc0 _ _ hw1) ?_; cbv
  exact le h hR
theorem Am7 {A : Ar} (hA : A = std) {x0 : List Matcher} {x1 : Int} {q2 : Matcher → Option Bool} {g2 : Nat} {cap2 : List D} (hcap2 : capOK cap2) (hq2 : ∀ (y0 : Matcher) (r : Bool), q2 y0 = some r → PFun cx g2 ((Ah4 y0) :: un.uns cap2) (bl r)) {r : Bool} (h : Ace A x0 x1 q2 = some r) : PFun cx 145 [.d (.sl TyS.matcher x0), it .i64 x1, .fn (.func g2) [] (un.uns cap2)] (bl r) := by
 rcases hcap2 with rfl | ⟨dscap2, rfl⟩
 ·refine PFun.walkF (fz := fun k => k == 5) hA cx_ok Tryz.func145 rfl rfl rfl fun P R hP hR => ?_
  cbv; unfold Ace at h
  iterate 2 refine kj ?_
  iterate 2 refine cj ?_
  obtain ⟨w1, hw1, h⟩ := bd_e h; refine kg hP (fun hc => (Abw hA (by rfl) (fun _ _ hw => Alu (capc0 := []) hA (by first | exact .inl rfl | exact .inr ⟨_, rfl⟩) hq2 hw) (gd_e hw1 hc))) ?_; cbv
  iterate 2 refine cj ?_
  exact le h hR
 ·refine PFun.walkF (fz := fun k => k == 5) hA cx_ok Tryz.func145 rfl rfl rfl fun P R hP hR => ?_
  cbv; unfold Ace at h
  iterate 2 refine kj ?_
  iterate 2 refine cj ?_
  obtain ⟨w1, hw1, h⟩ := bd_e h; refine kg hP (fun hc => (Abw hA (by rfl) (fun _ _ hw => Alu (capc0 := [D.ptr dscap2]) hA (by first | exact .inl rfl | exact .inr ⟨_, rfl⟩) hq2 hw) (gd_e hw1 hc))) ?_; cbv
  iterate 2 refine cj ?_
  exact le h hR
theorem Avb {A : Ar} (hA : A = std) {x0 : Inhibit} {r : Bool} (h : Ahz A x0 = some r) : PFun cx 51 [Agd x0] (bl r) := by
 refine wF hA cx_ok Tryz.func51 fun P R hP hR => ?_
 cbv; unfold Ahz at h
 iterate 2 refine kj ?_
 refine kl h (fun x _ => [(9, it .i64 x)]) (fun x gh => [⟨1, 0, .box 63 [.d (.sl .matcher x0.1), .d (.sl .matcher x0.2), .d (.sl .str x0.3)]⟩]) [] ?_
 rintro t9 gh1 g1 _ _ _ hK1 hQ1 h; cbv
 refine kj ?_
 refine bc h (fun hb h => ?_) fun hb h => ?_
 ·cbv
  refine kj ?_
  refine kk h fun c1 h => ?_
  refine kj ?_
  obtain ⟨w2, hw2, h⟩ := bd_e h; refine kc hP (Akr hA hw2) ?_; cbv
  iterate 7 refine cj ?_
  refine kk h fun c3 h => ?_
  iterate 4 refine cj ?_
  refine ⟨by subst hA; simp +contextual [vcm], ?_⟩
  refine cj ?_
  refine bc h (fun hb h => ?_) fun hb h => ?_
  ·cbv
   refine kj ?_
   refine hQ1 _ h _ _ fun h => ?_; cbv
   exact le h hR
  ·cbv
   refine kj ?_
   cases h; exact hK1 _ _ [] rfl hdy
 ·cbv
  refine hQ1 _ h _ _ fun h => ?_; cbv
  refine kj ?_
  iterate 10 refine cj ?_
  refine kj ?_
  iterate 3 refine cj ?_
  obtain ⟨w4, hw4, h⟩ := bd_e h; refine kf hP (fun hc => (Am7 (cap2 := []) hA (by first | exact .inl rfl | exact .inr ⟨_, rfl⟩) (fun _ _ hw => Ak0 hA hw) (gd_e hw4 hc))) ?_; cbv
  iterate 4 refine cj ?_
  obtain ⟨w5, hw5, h⟩ := bd_e h; refine kf hP (fun hc => (Am7 (cap2 := []) hA (by first | exact .inl rfl | exact .inr ⟨_, rfl⟩) (fun _ _ hw => Ak0 hA hw) (gd_e hw5 hc))) ?_; cbv
  refine cj ?_
  exact le h hR
theorem Am8 {A : Ar} (hA : A = std) {x0 : Hours} {qc0 : Hours → Option Bool} {gc0 : Nat} {capc0 : List D} (hcapc0 : capOK capc0) (hqc0 : ∀ (y0 : Hours) (r : Bool), qc0 y0 = some r → PFun cx gc0 ((Agz y0) :: un.uns capc0) (bl r)) {r : Bool} (h : Ai7 A x0 qc0 = some r) : PFun cx 147 [Agz x0, .ip [.fun (.func gc0) [] capc0]] (bl r) := by
 rcases hcapc0 with rfl | ⟨dscapc0, rfl⟩
 all_goals
  refine wF hA cx_ok Tryz.func147 fun P R hP hR => ?_
  cbv; unfold Ai7 at h
  iterate 2 refine kj ?_
  obtain ⟨w1, hw1, h⟩ := bd_e h; refine kc hP (hqc0 _ _ hw1) ?_; cbv
  exact le h hR
theorem Amd {A : Ar} (hA : A = std) {x0 : List Hours} {q1 : Hours → Option Bool} {g1 : Nat} {cap1 : List PV} (hcap1 : bare.bares cap1 = true) (hq1 : ∀ (y0 : Hours) (r : Bool), q1 y0 = some r → PFun cx g1 ((Agz y0) :: cap1) (bl r)) {r : Int} (h : Aea A x0 q1 = some r) : PFun cx 154 [.d (.sl TyS.hours x0), .fn (.func g1) [] cap1] (it .i64 r) := by
 refine wF hA cx_ok Tryz.func154 fun P R hP hR => ?_
 cbv; unfold Aea at h
 iterate 2 refine kj ?_
 refine kl h (fun x _ => [(8, it .i64 x)]) (fun _ _ => []) [] ?_
 rintro t8 gh1 g1 _ _ _ hK1 hQ1 h; cbv
 refine kj ?_
 refine bc h (fun hb h => ?_) fun hb h => ?_
 ·cbv
  iterate 2 refine kj ?_
  refine kk h fun c1 h => ?_
  obtain ⟨w2, hw2, h⟩ := bd_e h; refine kc hP (hq1 _ _ hw2) ?_ (by first | rfl | simp [bare, bare.bares, hcap1]); cbv
  refine bc h (fun hb h => ?_) fun hb h => ?_
  ·cbv
   refine kj ?_
   refine hQ1 _ h _ _ fun h => ?_; cbv
   exact le h hR
  ·cbv
   refine kj ?_
   cases h; exact hK1 _ _ [] rfl hdy
 ·cbv
  refine hQ1 _ h _ _ fun h => ?_; cbv
  refine kj ?_
  exact le h hR
theorem Aeg {A : Ar} (hA : A = std) {x0 : List Hours} {q1 : Hours → Option Bool} {g1 : Nat} {cap1 : List PV} (hcap1 : bare.bares cap1 = true) (hq1 : ∀ (y0 : Hours) (r : Bool), q1 y0 = some r → PFun cx g1 ((Agz y0) :: cap1) (bl r)) {r : Bool} (h : Abi A x0 q1 = some r) : PFun cx 64 [.d (.sl TyS.hours x0), .fn (.func g1) [] cap1] (bl r) := by
 refine wF hA cx_ok Tryz.func64 fun P R hP hR => ?_
 cbv; unfold Abi at h
 iterate 2 refine kj ?_
 obtain ⟨w1, hw1, h⟩ := bd_e h; refine kc hP (Amd hA hcap1 hq1 hw1) ?_ (by first | rfl | simp [bare, bare.bares, hcap1]); cbv
 exact le h hR
theorem Aul {A : Ar} (hA : A = std) {x0 : List Hours} {x1 : Int} {q2 : Hours → Option Bool} {g2 : Nat} {cap2 : List D} (hcap2 : capOK cap2) (hq2 : ∀ (y0 : Hours) (r : Bool), q2 y0 = some r → PFun cx g2 ((Agz y0) :: un.uns cap2) (bl r)) {r : Bool} (h : Agq A x0 x1 q2 = some r) : PFun cx 52 [.d (.sl TyS.hours x0), it .i64 x1, .fn (.func g2) [] (un.uns cap2)] (bl r) := by
 rcases hcap2 with rfl | ⟨dscap2, rfl⟩
 ·refine PFun.walkF (fz := fun k => k == 5) hA cx_ok Tryz.func52 rfl rfl rfl fun P R hP hR => ?_
  cbv; unfold Agq at h
  iterate 2 refine kj ?_
  iterate 2 refine cj ?_
  obtain ⟨w1, hw1, h⟩ := bd_e h; refine kg hP (fun hc => (Aeg hA (by rfl) (fun _ _ hw => Am8 (capc0 := []) hA (by first | exact .inl rfl | exact .inr ⟨_, rfl⟩) hq2 hw) (gd_e hw1 hc))) ?_; cbv
  iterate 2 refine cj ?_
  exact le h hR
 ·refine PFun.walkF (fz := fun k => k == 5) hA cx_ok Tryz.func52 rfl rfl rfl fun P R hP hR => ?_
  cbv; unfold Agq at h
  iterate 2 refine kj ?_
  iterate 2 refine cj ?_
  obtain ⟨w1, hw1, h⟩ := bd_e h; refine kg hP (fun hc => (Aeg hA (by rfl) (fun _ _ hw => Am8 (capc0 := [D.ptr dscap2]) hA (by first | exact .inl rfl | exact .inr ⟨_, rfl⟩) hq2 hw) (gd_e hw1 hc))) ?_; cbv
  iterate 2 refine cj ?_
  exact le h hR
theorem Axo {A : Ar} (hA : A = std) {x0 : Int} {r : Bool} (h : Arp A x0 = some r) : PFun cx 148 [it .u8 x0] (bl r) := by
 refine wF hA cx_ok Tryz.func148 fun P R hP hR => ?_
 cbv; unfold Arp at h
 iterate 2 refine kj ?_
 iterate 6 refine cj ?_
 refine ⟨by subst hA; simp +contextual [vcm], ?_⟩
 iterate 3 refine cj ?_
 exact le h hR
theorem At4 {A : Ar} (hA : A = std) {x0 : Hours} {r : Bool} (h : Ajl A x0 = some r) : PFun cx 53 [Agz x0] (bl r) := by
 refine wF hA cx_ok Tryz.func53 fun P R hP hR => ?_
 cbv; unfold Ajl at h
 iterate 3 refine kj ?_
 iterate 10 refine cj ?_
 obtain ⟨w1, hw1, h⟩ := bd_e h; refine kf hP (fun hc => (Aal hA (by rfl) (fun _ _ hw => Axo hA hw) (gd_e hw1 hc))) ?_; cbv
 iterate 29 refine cj ?_
 exact le h hR
theorem Asy {A : Ar} (hA : A = std) {x0 : List Rule} {q1 : Rule → Option ByteArray} {g1 : Nat} {cap1 : List PV} (hcap1 : bare.bares cap1 = true) (hq1 : ∀ (y0 : Rule) (r : ByteArray), q1 y0 = some r → PFun cx g1 ((Al6 y0) :: cap1) (st r)) {r : Bool} (h : Agj A x0 q1 = some r) : PFun cx 54 [.d (.sl TyS.rule x0), .fn (.func g1) [] cap1] (bl r) := by
 refine wF hA cx_ok Tryz.func54 fun P R hP hR => ?_
 cbv; unfold Agj at h
 iterate 3 refine kj ?_
 refine kl h (fun x _ => [(11, it .i64 x.1)]) (fun x gh => [⟨8, 1, .map (A.mesB x.2)⟩]) [] ?_
 rintro ⟨t11, map8⟩ gh1 g1 _ _ _ hK1 hQ1 h; cbv
 refine kj ?_
 refine bc h (fun hb h => ?_) fun hb h => ?_
 ·cbv
  refine kj ?_
  refine kk h fun c1 h => ?_
  refine kj ?_
  obtain ⟨w2, hw2, h⟩ := bd_e h; refine kc hP (hq1 _ _ hw2) ?_ (by first | rfl | simp [bare, bare.bares, hcap1]); cbv
  refine ⟨by first | exact Aih hA _ | exact ⟨rfl⟩, ?_⟩
  obtain ⟨w3, hw3, h⟩ := bd_e h
  have hw3' := A2x hA w2 false map8
  rw [Option.some.inj hw3] at hw3'
  refine LookK.one _ _ hw3' ?_
  cbv
  refine bc h (fun hb h => ?_) fun hb h => ?_
  ·cbv
   refine kj ?_
   refine hQ1 _ h _ _ fun h => ?_; cbv
   exact le h hR
  ·cbv
   refine kj ?_
   obtain ⟨w4, hw4, h⟩ := bd_e h; refine kc hP (hq1 _ _ hw4) ?_ (by first | rfl | simp [bare, bare.bares, hcap1]); cbv
   refine ⟨by first | exact Aih hA _ | exact ⟨rfl⟩, ?_⟩
   refine kk h fun c5 h => ?_
   refine kj ?_
   cases h; exact hK1 _ _ [] rfl hdy
 ·cbv
  refine hQ1 _ h _ _ fun h => ?_; cbv
  refine kj ?_
  exact le h hR
theorem Asz {A : Ar} (hA : A = std) {x0 : Rule} {r : ByteArray} (h : Alk A x0 = some r) : PFun cx 55 [Al6 x0] (st r) := by
 refine wF hA cx_ok Tryz.func55 fun P R hP hR => ?_
 cbv; unfold Alk at h
 iterate 2 refine kj ?_
 exact le h hR
theorem Arm {A : Ar} (hA : A = std) {x0 : List ByteArray} {q1 : ByteArray → Option ByteArray} {g1 : Nat} {cap1 : List PV} (hcap1 : bare.bares cap1 = true) (hq1 : ∀ (y0 : ByteArray) (r : ByteArray), q1 y0 = some r → PFun cx g1 ((st y0) :: cap1) (st r)) {r : Bool} (h : Ae5 A x0 q1 = some r) : PFun cx 56 [.d (.sl TyS.str x0), .fn (.func g1) [] cap1] (bl r) := by
 refine wF hA cx_ok Tryz.func56 fun P R hP hR => ?_
 cbv; unfold Ae5 at h
 iterate 3 refine kj ?_
 refine kl h (fun x _ => [(11, it .i64 x.1)]) (fun x gh => [⟨8, 1, .map (A.mesB x.2)⟩]) [] ?_
 rintro ⟨t11, map8⟩ gh1 g1 _ _ _ hK1 hQ1 h; cbv
 refine kj ?_
 refine bc h (fun hb h => ?_) fun hb h => ?_
 ·cbv
  refine kj ?_
  refine kk h fun c1 h => ?_
  refine kj ?_
  obtain ⟨w2, hw2, h⟩ := bd_e h; refine kc hP (hq1 _ _ hw2) ?_ (by first | rfl | simp [bare, bare.bares, hcap1]); cbv
  refine ⟨by first | exact Aih hA _ | exact ⟨rfl⟩, ?_⟩
  obtain ⟨w3, hw3, h⟩ := bd_e h
  have hw3' := A2x hA w2 false map8
  rw [Option.some.inj hw3] at hw3'
  refine LookK.one _ _ hw3' ?_
  cbv
  refine bc h (fun hb h => ?_) fun hb h => ?_
  ·cbv
   refine kj ?_
   refine hQ1 _ h _ _ fun h => ?_; cbv
   exact le h hR
  ·cbv
   refine kj ?_
   obtain ⟨w4, hw4, h⟩ := bd_e h; refine kc hP (hq1 _ _ hw4) ?_ (by first | rfl | simp [bare, bare.bares, hcap1]); cbv
   refine ⟨by first | exact Aih hA _ | exact ⟨rfl⟩, ?_⟩
   refine kk h fun c5 h => ?_
   refine kj ?_
   cases h; exact hK1 _ _ [] rfl hdy
 ·cbv
  refine hQ1 _ h _ _ fun h => ?_; cbv
  refine kj ?_
  exact le h hR
theorem Ar7 {A : Ar} (hA : A = std) {x0 : ByteArray} {r : ByteArray} (h : Aia A x0 = some r) : PFun cx 57 [st x0] (st r) := by
 refine wF hA cx_ok Tryz.func57 fun P R hP hR => ?_
 cbv; unfold Aia at h
 iterate 2 refine kj ?_
 exact le h hR
theorem Ast {A : Ar} (hA : A = std) {x0 : List Hours} {q1 : Hours → Option ByteArray} {g1 : Nat} {cap1 : List PV} (hcap1 : bare.bares cap1 = true) (hq1 : ∀ (y0 : Hours) (r : ByteArray), q1 y0 = some r → PFun cx g1 ((Agz y0) :: cap1) (st r)) {r : Bool} (h : Afo A x0 q1 = some r) : PFun cx 58 [.d (.sl TyS.hours x0), .fn (.func g1) [] cap1] (bl r) := by
 refine wF hA cx_ok Tryz.func58 fun P R hP hR => ?_
 cbv; unfold Afo at h
 iterate 3 refine kj ?_
 refine kl h (fun x _ => [(11, it .i64 x.1)]) (fun x gh => [⟨8, 1, .map (A.mesB x.2)⟩]) [] ?_
 rintro ⟨t11, map8⟩ gh1 g1 _ _ _ hK1 hQ1 h; cbv
 refine kj ?_
 refine bc h (fun hb h => ?_) fun hb h => ?_
 ·cbv
  refine kj ?_
  refine kk h fun c1 h => ?_
  refine kj ?_
  obtain ⟨w2, hw2, h⟩ := bd_e h; refine kc hP (hq1 _ _ hw2) ?_ (by first | rfl | simp [bare, bare.bares, hcap1]); cbv
  refine ⟨by first | exact Aih hA _ | exact ⟨rfl⟩, ?_⟩
  obtain ⟨w3, hw3, h⟩ := bd_e h
  have hw3' := A2x hA w2 false map8
  rw [Option.some.inj hw3] at hw3'
  refine LookK.one _ _ hw3' ?_
  cbv
  refine bc h (fun hb h => ?_) fun hb h => ?_
  ·cbv
   refine kj ?_
   refine hQ1 _ h _ _ fun h => ?_; cbv
   exact le h hR
  ·cbv
   refine kj ?_
   obtain ⟨w4, hw4, h⟩ := bd_e h; refine kc hP (hq1 _ _ hw4) ?_ (by first | rfl | simp [bare, bare.bares, hcap1]); cbv
   refine ⟨by first | exact Aih hA _ | exact ⟨rfl⟩, ?_⟩
   refine kk h fun c5 h => ?_
   refine kj ?_
   cases h; exact hK1 _ _ [] rfl hdy
 ·cbv
  refine hQ1 _ h _ _ fun h => ?_; cbv
  refine kj ?_
  exact le h hR
theorem Ar8 {A : Ar} (hA : A = std) {x0 : Hours} {r : ByteArray} (h : Ajv A x0 = some r) : PFun cx 59 [Agz x0] (st r) := by
 refine wF hA cx_ok Tryz.func59 fun P R hP hR => ?_
 cbv; unfold Ajv at h
 iterate 2 refine kj ?_
 exact le h hR
theorem Aye {A : Ar} (hA : A = std) {x0 : Matcher} {r : Bool} (h : Anf A x0 = some r) : PFun cx 236 [Ah4 x0] (bl r) := by
 refine wF hA cx_ok Tryz.func236 fun P R hP hR => ?_
 cbv; unfold Anf at h
 iterate 2 refine kj ?_
 obtain ⟨w1, hw1, h⟩ := bd_e h; refine kc hP (Ak0 hA hw1) ?_; cbv
 exact le h hR
theorem At5 {A : Ar} (hA : A = std) {x0 : ByteArray} {r : Bool} (h : Amm A x0 = some r) : PFun cx 237 [st x0] (bl r) := by
 refine wF hA cx_ok Tryz.func237 fun P R hP hR => ?_
 cbv; unfold Amm at h
 iterate 2 refine kj ?_
 obtain ⟨w1, hw1, h⟩ := bd_e h; refine kc hP (Aqi hA hw1) ?_; cbv
 exact le h hR
theorem Aqx {A : Ar} (hA : A = std) {x0 : List ByteArray} {q1 : ByteArray → Option Bool} {g1 : Nat} {cap1 : List PV} (hcap1 : bare.bares cap1 = true) (hq1 : ∀ (y0 : ByteArray) (r : Bool), q1 y0 = some r → PFun cx g1 ((st y0) :: cap1) (bl r)) {r : Bool} (h : Ait A x0 q1 = some r) : PFun cx 238 [.d (.sl TyS.str x0), .fn (.func g1) [] cap1] (bl r) := by
 refine wF hA cx_ok Tryz.func238 fun P R hP hR => ?_
 cbv; unfold Ait at h
 iterate 2 refine kj ?_
 refine kl h (fun x _ => [(4, bl x.1), (9, it .i64 x.2)]) (fun _ _ => []) [] ?_
 rintro ⟨t4, t9⟩ gh1 g1 _ _ _ hK1 hQ1 h; cbv
 refine kj ?_
 refine bc h (fun hb h => ?_) fun hb h => ?_
 ·cbv
  refine kj ?_
  refine kk h fun c1 h => ?_
  refine kj ?_
  obtain ⟨w2, hw2, h⟩ := bd_e h; refine kc hP (hq1 _ _ hw2) ?_ (by first | rfl | simp [bare, bare.bares, hcap1]); cbv
  iterate 5 refine cj ?_
  refine kk h fun c3 h => ?_
  iterate 4 refine cj ?_
  refine ⟨by subst hA; simp +contextual [vcm], ?_⟩
  refine cj ?_
  refine bc h (fun hb h => ?_) fun hb h => ?_
  ·cbv
   refine kj ?_
   refine hQ1 _ h _ _ fun h => ?_; cbv
   exact le h hR
  ·cbv
   refine kj ?_
   cases h; exact hK1 _ _ [] rfl hdy
 ·cbv
  refine hQ1 _ h _ _ fun h => ?_; cbv
  refine kj ?_
  exact le h hR
theorem A0d {A : Ar} (hA : A = std) {x0 : ByteArray} {r : Bool} (h : Apa A x0 = some r) : PFun cx 239 [st x0] (bl r) := by
 refine wF hA cx_ok Tryz.func239 fun P R hP hR => ?_
 cbv; unfold Apa at h
 iterate 2 refine kj ?_
 obtain ⟨w1, hw1, h⟩ := bd_e h; refine kc hP (Akr hA hw1) ?_; cbv
 exact le h hR
theorem Av6 {A : Ar} (hA : A = std) {x0 : Int} {c0 : Int} {r : Bool} (h : Akw A x0 c0 = some r) : PFun cx 305 [it .i64 x0, .ip [.v (.int .i64 c0)]] (bl r) := by
 refine wF hA cx_ok Tryz.func305 fun P R hP hR => ?_
 cbv; unfold Akw at h
 iterate 2 refine kj ?_
 iterate 2 refine cj ?_
 exact le h hR
theorem Ao1 {A : Ar} (hA : A = std) {x0 : List Int} {q1 : Int → Option Bool} {g1 : Nat} {cap1 : List PV} (hcap1 : bare.bares cap1 = true) (hq1 : ∀ (y0 : Int) (r : Bool), q1 y0 = some r → PFun cx g1 ((it .i64 y0) :: cap1) (bl r)) {r : Int} (h : Agk A x0 q1 = some r) : PFun cx 339 [.d (.sl TyS.int x0), .fn (.func g1) [] cap1] (it .i64 r) := by
 refine wF hA cx_ok Tryz.func339 fun P R hP hR => ?_
 cbv; unfold Agk at h
 iterate 2 refine kj ?_
 refine kl h (fun x _ => [(8, it .i64 x)]) (fun _ _ => []) [] ?_
 rintro t8 gh1 g1 _ _ _ hK1 hQ1 h; cbv
 refine kj ?_
 refine bc h (fun hb h => ?_) fun hb h => ?_
 ·cbv
  iterate 2 refine kj ?_
  refine kk h fun c1 h => ?_
  obtain ⟨w2, hw2, h⟩ := bd_e h; refine kc hP (hq1 _ _ hw2) ?_ (by first | rfl | simp [bare, bare.bares, hcap1]); cbv
  refine bc h (fun hb h => ?_) fun hb h => ?_
  ·cbv
   refine kj ?_
   refine hQ1 _ h _ _ fun h => ?_; cbv
   exact le h hR
  ·cbv
   refine kj ?_
   cases h; exact hK1 _ _ [] rfl hdy
 ·cbv
  refine hQ1 _ h _ _ fun h => ?_; cbv
  refine kj ?_
  exact le h hR
theorem Am9 {A : Ar} (hA : A = std) {x0 : List Int} {q1 : Int → Option Bool} {g1 : Nat} {cap1 : List PV} (hcap1 : bare.bares cap1 = true) (hq1 : ∀ (y0 : Int) (r : Bool), q1 y0 = some r → PFun cx g1 ((it .i64 y0) :: cap1) (bl r)) {r : Bool} (h : Add A x0 q1 = some r) : PFun cx 304 [.d (.sl TyS.int x0), .fn (.func g1) [] cap1] (bl r) := by
 refine wF hA cx_ok Tryz.func304 fun P R hP hR => ?_
 cbv; unfold Add at h
 iterate 2 refine kj ?_
 obtain ⟨w1, hw1, h⟩ := bd_e h; refine kc hP (Ao1 hA hcap1 hq1 hw1) ?_ (by first | rfl | simp [bare, bare.bares, hcap1]); cbv
 exact le h hR
theorem As0 {A : Ar} (hA : A = std) {x0 : Int} {x1 : List Int} {r : Bool} (h : All A x0 x1 = some r) : PFun cx 240 [it .i64 x0, .d (.sl TyS.int x1)] (bl r) := by
 refine PFun.walkF (fz := fun k => k == 2) hA cx_ok Tryz.func240 rfl rfl rfl fun P R hP hR => ?_
 cbv; unfold All at h
 iterate 2 refine kj ?_
 obtain ⟨w1, hw1, h⟩ := bd_e h; refine kc hP (Am9 hA (by rfl) (fun _ _ hw => Av6 hA hw) hw1) ?_; cbv
 exact le h hR
theorem Ame {A : Ar} (hA : A = std) {x0 : List Route} {q1 : Route → Option Bool} {g1 : Nat} {cap1 : List PV} (hcap1 : bare.bares cap1 = true) (hq1 : ∀ (y0 : Route) (r : Bool), q1 y0 = some r → PFun cx g1 ((Aau y0) :: cap1) (bl r)) {r : Int} (h : Aeb A x0 q1 = some r) : PFun cx 271 [.d (.sl TyS.route x0), .fn (.func g1) [] cap1] (it .i64 r) := by
 refine wF hA cx_ok Tryz.func271 fun P R hP hR => ?_
 cbv; unfold Aeb at h
 iterate 2 refine kj ?_
 refine kl h (fun x _ => [(8, it .i64 x)]) (fun _ _ => []) [] ?_
 rintro t8 gh1 g1 _ _ _ hK1 hQ1 h; cbv
 refine kj ?_
 refine bc h (fun hb h => ?_) fun hb h => ?_
 ·cbv
  iterate 2 refine kj ?_
  refine kk h fun c1 h => ?_
  obtain ⟨w2, hw2, h⟩ := bd_e h; refine kc hP (hq1 _ _ hw2) ?_ (by first | rfl | simp [bare, bare.bares, hcap1]); cbv
  refine bc h (fun hb h => ?_) fun hb h => ?_
  ·cbv
   refine kj ?_
   refine hQ1 _ h _ _ fun h => ?_; cbv
   exact le h hR
  ·cbv
   refine kj ?_
   cases h; exact hK1 _ _ [] rfl hdy
 ·cbv
  refine hQ1 _ h _ _ fun h => ?_; cbv
  refine kj ?_
  exact le h hR
theorem Ag7 {A : Ar} (hA : A = std) {x0 : List Route} {q1 : Route → Option Bool} {g1 : Nat} {cap1 : List PV} (hcap1 : bare.bares cap1 = true) (hq1 : ∀ (y0 : Route) (r : Bool), q1 y0 = some r → PFun cx g1 ((Aau y0) :: cap1) (bl r)) {r : Bool} (h : Aax A x0 q1 = some r) : PFun cx 194 [.d (.sl TyS.route x0), .fn (.func g1) [] cap1] (bl r) := by
 refine wF hA cx_ok Tryz.func194 fun P R hP hR => ?_
 cbv; unfold Aax at h
 iterate 2 refine kj ?_
 obtain ⟨w1, hw1, h⟩ := bd_e h; refine kc hP (Ame hA hcap1 hq1 hw1) ?_ (by first | rfl | simp [bare, bare.bares, hcap1]); cbv
 exact le h hR
theorem Ayf {A : Ar} (hA : A = std) {rf : Route → Int → Option Bool} {x0 : Route} {c0 : Int} (hqr150 : ∀ (x0 : Route) (x1 : Int) (r : Bool), rf x0 x1 = some r → PFun cx 150 [Aau x0, it .i64 x1] (bl r)) {r : Bool} (h : Ang A rf x0 c0 = some r) : PFun cx 241 [Aau x0, .ip [.v (.int .i64 c0)]] (bl r) := by
 refine wF hA cx_ok Tryz.func241 fun P R hP hR => ?_
 cbv; unfold Ang at h
 iterate 2 refine kj ?_
 obtain ⟨w1, hw1, h⟩ := bd_e h; refine kc hP (hqr150 _ _ _ hw1) ?_; cbv
 exact le h hR
theorem Ayg {A : Ar} (hA : A = std) {rf : Route → Int → Option Bool} {x0 : Route} {x1 : Int} (hqr150 : ∀ (x0 : Route) (x1 : Int) (r : Bool), rf x0 x1 = some r → PFun cx 150 [Aau x0, it .i64 x1] (bl r)) {r : Bool} (h : Anh A rf x0 x1 = some r) : PFun cx 150 [Aau x0, it .i64 x1] (bl r) := by
 refine PFun.walkF (fz := fun k => k == 3) hA cx_ok Tryz.func150 rfl rfl rfl fun P R hP hR => ?_
 cbv; unfold Anh at h
 iterate 3 refine kj ?_
 iterate 3 refine cj ?_
 obtain ⟨w1, hw1, h⟩ := bd_e h; refine kg hP (fun hc => (At5 hA (gd_e hw1 hc))) ?_; cbv
 iterate 11 refine cj ?_
 obtain ⟨w2, hw2, h⟩ := bd_e h; refine kf hP (fun hc => (Abw hA (by rfl) (fun _ _ hw => Aye hA hw) (gd_e hw2 hc))) ?_; cbv
 iterate 6 refine cj ?_
 refine bc h (fun hb h => ?_) fun hb h => ?_
 ·cbv
  refine kj ?_
  exact le h hR
 ·cbv
  refine kj ?_
  obtain ⟨w3, hw3, h⟩ := bd_e h; refine ke hP (Aqx hA (by rfl) (fun _ _ hw => A0d hA hw) hw3) ?_; cbv
  iterate 3 refine cj ?_
  obtain ⟨w4, hw4, h⟩ := bd_e h; refine kf hP (fun hc => (Aqx hA (by rfl) (fun _ _ hw => At5 hA hw) (gd_e hw4 hc))) ?_; cbv
  iterate 7 refine cj ?_
  obtain ⟨w5, hw5, h⟩ := bd_e h; refine kg hP (fun hc => (As0 hA (gd_e hw5 hc))) ?_; cbv
  iterate 10 refine cj ?_
  obtain ⟨w6, hw6, h⟩ := bd_e h; refine kg hP (fun hc => (As0 hA (gd_e hw6 hc))) ?_; cbv
  iterate 2 refine cj ?_
  refine bc h (fun hb h => ?_) fun hb h => ?_
  ·cbv
   refine kj ?_
   exact le h hR
  ·cbv
   refine kj ?_
   obtain ⟨w7, hw7, h⟩ := bd_e h; refine kc hP (Ag7 hA (by rfl) (fun _ _ hw => Ayf hA hqr150 hw) hw7) ?_; cbv
   exact le h hR
theorem As1 {A : Ar} (hA : A = std) : ∀ (n : Nat) (x0 : Route) (x1 : Int) (r : Bool), Alm A n x0 x1 = some r → PFun cx 150 [Aau x0, it .i64 x1] (bl r)
 | 0, _, _, _, h => by cases h
 | n + 1, x0, x1, r, h => Ayg hA (fun _ _ _ hh => As1 hA n _ _ _ hh) h
theorem A2f {A : Ar} (hA : A = std) {x0 : Route} {x1 : Int} {r : Bool} (h : Awh A x0 x1 = some r) : PFun cx 150 [Aau x0, it .i64 x1] (bl r) := As1 hA _ _ _ _ h
theorem Ayh {A : Ar} (hA : A = std) {x0 : Route} {r : Bool} (h : Ani A x0 = some r) : PFun cx 60 [Aau x0] (bl r) := by
 refine wF hA cx_ok Tryz.func60 fun P R hP hR => ?_
 cbv; unfold Ani at h
 iterate 2 refine kj ?_
 obtain ⟨w1, hw1, h⟩ := bd_e h; refine kc hP (A2f hA hw1) ?_; cbv
 exact le h hR
theorem Av7 {A : Ar} (hA : A = std) {rf : Route → Option Int} {x0 : Route} (hqr61 : ∀ (x0 : Route) (r : Int), rf x0 = some r → PFun cx 61 [Aau x0] (it .i64 r)) {r : Int} (h : Akx A rf x0 = some r) : PFun cx 61 [Aau x0] (it .i64 r) := by
 refine wF hA cx_ok Tryz.func61 fun P R hP hR => ?_
 cbv; unfold Akx at h
 iterate 3 refine kj ?_
 refine kl h (fun x _ => [(3, it .i64 x.1), (9, it .i64 x.2)]) (fun x gh => [⟨1, 0, .box 27 [st x0.1, .d (.sl .matcher x0.2), .d (.sl .str x0.3), it .i64 x0.4, it .i64 x0.5, it .i64 x0.6, .d (.sl .str x0.7), bl x0.8, .d (.sl .route x0.9)]⟩]) [] ?_
 rintro ⟨n3, t9⟩ gh1 g1 _ _ _ hK1 hQ1 h; cbv
 refine kj ?_
 refine bc h (fun hb h => ?_) fun hb h => ?_
 ·cbv
  refine kj ?_
  refine kk h fun c1 h => ?_
  refine kj ?_
  obtain ⟨w2, hw2, h⟩ := bd_e h; refine kc hP (hqr61 _ _ hw2) ?_; cbv
  refine kj ?_
  cases h; exact hK1 _ _ [] rfl hdy
 ·cbv
  refine hQ1 _ h _ _ fun h => ?_; cbv
  refine kj ?_
  exact le h hR
theorem Aqy {A : Ar} (hA : A = std) : ∀ (n : Nat) (x0 : Route) (r : Int), Aiu A n x0 = some r → PFun cx 61 [Aau x0] (it .i64 r)
 | 0, _, _, h => by cases h
 | n + 1, x0, r, h => Av7 hA (fun _ _ hh => Aqy hA n _ _ hh) h
theorem Ayi {A : Ar} (hA : A = std) {x0 : Route} {r : Int} (h : As8 A x0 = some r) : PFun cx 61 [Aau x0] (it .i64 r) := Aqy hA _ _ _ h
theorem Ao2 {A : Ar} (hA : A = std) {rf : Route → (List ByteArray) → Option (List ByteArray)} {x0 : Route} {qc0 : Route → Option (List ByteArray)} {c1 : List ByteArray} {gc0 : Nat} {capc0 : List D} (hcapc0 : capOK capc0) (hqc0 : ∀ (y0 : Route) (r : List ByteArray), qc0 y0 = some r → PFun cx gc0 ((Aau y0) :: un.uns capc0) (.d (.sl TyS.str r))) (hqr242 : ∀ (x0 : Route) (c1 : List ByteArray) (r : List ByteArray), rf x0 c1 = some r → PFunM cx 242 [Aau x0, .ip [.fun (.func gc0) [] capc0], .bx 1000 0 0, .bx 1001 0 0] [⟨1000, 0, .box 24 [.os 1002 0 TyS.str c1]⟩, ⟨1001, 0, .box 231 [.fn (.func 242) [] [.ip [.fun (.func gc0) [] capc0], .bx 1000 0 0, .bx 1001 0 0]]⟩, ⟨1002, 0, .tok 9 TyS.str (A.nlen TyS.str c1)⟩] (.tu []) [⟨1000, 0, .box 24 [.os 2000 1 TyS.str r]⟩, ⟨1001, 0, .box 231 [.fn (.func 242) [] [.ip [.fun (.func gc0) [] capc0], .bx 1000 0 0, .bx 1001 0 0]]⟩, ⟨2000, 1, .tok 9 TyS.str (A.nlen TyS.str r)⟩]) {r : List ByteArray} (h : Ac5 A rf x0 qc0 c1 = some r) : PFunM cx 242 [Aau x0, .ip [.fun (.func gc0) [] capc0], .bx 1000 0 0, .bx 1001 0 0] [⟨1000, 0, .box 24 [.os 1002 0 TyS.str c1]⟩, ⟨1001, 0, .box 231 [.fn (.func 242) [] [.ip [.fun (.func gc0) [] capc0], .bx 1000 0 0, .bx 1001 0 0]]⟩, ⟨1002, 0, .tok 9 TyS.str (A.nlen TyS.str c1)⟩] (.tu []) [⟨1000, 0, .box 24 [.os 2000 1 TyS.str r]⟩, ⟨1001, 0, .box 231 [.fn (.func 242) [] [.ip [.fun (.func gc0) [] capc0], .bx 1000 0 0, .bx 1001 0 0]]⟩, ⟨2000, 1, .tok 9 TyS.str (A.nlen TyS.str r)⟩] := by
 rcases hcapc0 with rfl | ⟨dscapc0, rfl⟩
 ·refine PFunM.walkM (fz := fun _ => false) hA cx_ok Tryz.func242 rfl rfl fun P R hP hR => ?_
  cbv; unfold Ac5 at h
  iterate 2 refine kj ?_
  obtain ⟨w1, hw1, h⟩ := bd_e h; refine kc hP (hqc0 _ _ hw1) ?_; cbv
  refine kl h (fun x _ => [(13, it .i64 x.1)]) (fun x gh => [⟨4031, gh, .tok 9 TyS.str (A.nlen TyS.str x.2)⟩, ⟨4, 2, .box 27 [st x0.1, .d (.sl .matcher x0.2), .d (.sl .str x0.3), it .i64 x0.4, it .i64 x0.5, it .i64 x0.6, .d (.sl .str x0.7), bl x0.8, .d (.sl .route x0.9)]⟩, ⟨1000, 0, .box 24 [.os 4031 gh TyS.str x.2]⟩, ⟨1001, 0, .box 231 [PV.fn (Fn.func 242) [] [PV.ip [D.fun (Fn.func gc0) [] []], PV.bx 1000 0 0, PV.bx 1001 0 0]]⟩]) [(4031, 1002, 0)] ?_
  rintro ⟨t13, b0_1000⟩ gh1 g1 _ _ _ hK1 hQ1 h; cbv
  refine kj ?_
  refine bc h (fun hb h => ?_) fun hb h => ?_
  ·cbv
   refine kj ?_
   refine kk h fun c2 h => ?_
   refine kj ?_
   obtain ⟨w3, hw3, h⟩ := bd_e h; refine kc hP (Abz hA hw3) ?_; cbv
   refine bc h (fun hb h => ?_) fun hb h => ?_
   ·cbv
    refine kj ?_
    refine kk h fun c4 h => ?_
    refine kj ?_
    cases h; exact hK1 _ _ [(4031, 24, g1.succ.succ.succ)] rfl hdy
   ·cbv
    refine kj ?_
    cases h; exact hK1 _ _ [(4031, 4031, gh1)] rfl hdy
  ·cbv
   refine hQ1 _ h _ _ fun h => ?_; cbv
   refine kj ?_
   refine kl h (fun x _ => [(29, it .i64 x.1)]) (fun x gh => [⟨4061, gh, .tok 9 TyS.str (A.nlen TyS.str x.2)⟩, ⟨4, 2, .box 27 [st x0.1, .d (.sl .matcher x0.2), .d (.sl .str x0.3), it .i64 x0.4, it .i64 x0.5, it .i64 x0.6, .d (.sl .str x0.7), bl x0.8, .d (.sl .route x0.9)]⟩, ⟨1000, 0, .box 24 [.os 4061 gh TyS.str x.2]⟩, ⟨1001, 0, .box 231 [PV.fn (Fn.func 242) [] [PV.ip [D.fun (Fn.func gc0) [] []], PV.bx 1000 0 0, PV.bx 1001 0 0]]⟩]) [(4061, 4031, gh1)] ?_
   rintro ⟨t29, b0_1000'⟩ gh2 g2 _ _ _ hK2 hQ2 h; cbv
   refine kj ?_
   refine bc h (fun hb h => ?_) fun hb h => ?_
   ·cbv
    refine kj ?_
    refine kk h fun c5 h => ?_
    refine kj ?_
    obtain ⟨w6, hw6, h⟩ := bd_e h; refine km hP [(1000, 0), (1001, 0), (4061, gh2)] (hqr242 _ _ _ hw6) ?_; cbv
    refine kj ?_
    cases h; exact hK2 _ _ [(4061, 35, g2.succ.succ)] rfl hdy
   ·cbv
    refine hQ2 _ h _ _ fun h => ?_; cbv
    cases h
    refine hR _ _ ⟨[(4061, gh2)], ⟨by rfl, ez, by rfl, ez⟩⟩
 ·refine PFunM.walkM (fz := fun _ => false) hA cx_ok Tryz.func242 rfl rfl fun P R hP hR => ?_
  cbv; unfold Ac5 at h
  iterate 2 refine kj ?_
  obtain ⟨w1, hw1, h⟩ := bd_e h; refine kc hP (hqc0 _ _ hw1) ?_; cbv
  refine kl h (fun x _ => [(13, it .i64 x.1)]) (fun x gh => [⟨4031, gh, .tok 9 TyS.str (A.nlen TyS.str x.2)⟩, ⟨4, 2, .box 27 [st x0.1, .d (.sl .matcher x0.2), .d (.sl .str x0.3), it .i64 x0.4, it .i64 x0.5, it .i64 x0.6, .d (.sl .str x0.7), bl x0.8, .d (.sl .route x0.9)]⟩, ⟨1000, 0, .box 24 [.os 4031 gh TyS.str x.2]⟩, ⟨1001, 0, .box 231 [PV.fn (Fn.func 242) [] [PV.ip [D.fun (Fn.func gc0) [] [D.ptr dscapc0]], PV.bx 1000 0 0, PV.bx 1001 0 0]]⟩]) [(4031, 1002, 0)] ?_
  rintro ⟨t13, b0_1000⟩ gh1 g1 _ _ _ hK1 hQ1 h; cbv
  refine kj ?_
  refine bc h (fun hb h => ?_) fun hb h => ?_
  ·cbv
   refine kj ?_
   refine kk h fun c2 h => ?_
   refine kj ?_
   obtain ⟨w3, hw3, h⟩ := bd_e h; refine kc hP (Abz hA hw3) ?_; cbv
   refine bc h (fun hb h => ?_) fun hb h => ?_
   ·cbv
    refine kj ?_
    refine kk h fun c4 h => ?_
    refine kj ?_
    cases h; exact hK1 _ _ [(4031, 24, g1.succ.succ.succ)] rfl hdy
   ·cbv
    refine kj ?_
    cases h; exact hK1 _ _ [(4031, 4031, gh1)] rfl hdy
  ·cbv
   refine hQ1 _ h _ _ fun h => ?_; cbv
   refine kj ?_
   refine kl h (fun x _ => [(29, it .i64 x.1)]) (fun x gh => [⟨4061, gh, .tok 9 TyS.str (A.nlen TyS.str x.2)⟩, ⟨4, 2, .box 27 [st x0.1, .d (.sl .matcher x0.2), .d (.sl .str x0.3), it .i64 x0.4, it .i64 x0.5, it .i64 x0.6, .d (.sl .str x0.7), bl x0.8, .d (.sl .route x0.9)]⟩, ⟨1000, 0, .box 24 [.os 4061 gh TyS.str x.2]⟩, ⟨1001, 0, .box 231 [PV.fn (Fn.func 242) [] [PV.ip [D.fun (Fn.func gc0) [] [D.ptr dscapc0]], PV.bx 1000 0 0, PV.bx 1001 0 0]]⟩]) [(4061, 4031, gh1)] ?_
   rintro ⟨t29, b0_1000'⟩ gh2 g2 _ _ _ hK2 hQ2 h; cbv
   refine kj ?_
   refine bc h (fun hb h => ?_) fun hb h => ?_
   ·cbv
    refine kj ?_
    refine kk h fun c5 h => ?_
    refine kj ?_
    obtain ⟨w6, hw6, h⟩ := bd_e h; refine km hP [(1000, 0), (1001, 0), (4061, gh2)] (hqr242 _ _ _ hw6) ?_; cbv
    refine kj ?_
    cases h; exact hK2 _ _ [(4061, 35, g2.succ.succ)] rfl hdy
   ·cbv
    refine hQ2 _ h _ _ fun h => ?_; cbv
    cases h
    refine hR _ _ ⟨[(4061, gh2)], ⟨by rfl, ez, by rfl, ez⟩⟩
theorem Ajf {A : Ar} (hA : A = std) {qc0 : Route → Option (List ByteArray)} {gc0 : Nat} {capc0 : List D} (hcapc0 : capOK capc0) (hqc0 : ∀ (y0 : Route) (r : List ByteArray), qc0 y0 = some r → PFun cx gc0 ((Aau y0) :: un.uns capc0) (.d (.sl TyS.str r))) : ∀ (n : Nat) (x0 : Route) (c1 : List ByteArray) (r : List ByteArray), Abn A qc0 n x0 c1 = some r → PFunM cx 242 [Aau x0, .ip [.fun (.func gc0) [] capc0], .bx 1000 0 0, .bx 1001 0 0] [⟨1000, 0, .box 24 [.os 1002 0 TyS.str c1]⟩, ⟨1001, 0, .box 231 [.fn (.func 242) [] [.ip [.fun (.func gc0) [] capc0], .bx 1000 0 0, .bx 1001 0 0]]⟩, ⟨1002, 0, .tok 9 TyS.str (A.nlen TyS.str c1)⟩] (.tu []) [⟨1000, 0, .box 24 [.os 2000 1 TyS.str r]⟩, ⟨1001, 0, .box 231 [.fn (.func 242) [] [.ip [.fun (.func gc0) [] capc0], .bx 1000 0 0, .bx 1001 0 0]]⟩, ⟨2000, 1, .tok 9 TyS.str (A.nlen TyS.str r)⟩]
 | 0, _, _, _, h => by cases h
 | n + 1, x0, c1, r, h => Ao2 hA hcapc0 hqc0 (fun _ _ _ hh => Ajf hA hcapc0 hqc0 n _ _ _ hh) h
theorem Aks {A : Ar} (hA : A = std) {x0 : Route} {qc0 : Route → Option (List ByteArray)} {c1 : List ByteArray} {gc0 : Nat} {capc0 : List D} (hcapc0 : capOK capc0) (hqc0 : ∀ (y0 : Route) (r : List ByteArray), qc0 y0 = some r → PFun cx gc0 ((Aau y0) :: un.uns capc0) (.d (.sl TyS.str r))) {r : List ByteArray} (h : Aiz A x0 qc0 c1 = some r) : PFunM cx 242 [Aau x0, .ip [.fun (.func gc0) [] capc0], .bx 1000 0 0, .bx 1001 0 0] [⟨1000, 0, .box 24 [.os 1002 0 TyS.str c1]⟩, ⟨1001, 0, .box 231 [.fn (.func 242) [] [.ip [.fun (.func gc0) [] capc0], .bx 1000 0 0, .bx 1001 0 0]]⟩, ⟨1002, 0, .tok 9 TyS.str (A.nlen TyS.str c1)⟩] (.tu []) [⟨1000, 0, .box 24 [.os 2000 1 TyS.str r]⟩, ⟨1001, 0, .box 231 [.fn (.func 242) [] [.ip [.fun (.func gc0) [] capc0], .bx 1000 0 0, .bx 1001 0 0]]⟩, ⟨2000, 1, .tok 9 TyS.str (A.nlen TyS.str r)⟩] := Ajf hA hcapc0 hqc0 _ _ _ _ h
theorem Alv {A : Ar} (hA : A = std) {x0 : Route} {q1 : Route → Option (List ByteArray)} {g1 : Nat} {cap1 : List D} (hcap1 : capOK cap1) (hq1 : ∀ (y0 : Route) (r : List ByteArray), q1 y0 = some r → PFun cx g1 ((Aau y0) :: un.uns cap1) (.d (.sl TyS.str r))) {r : List ByteArray} (h : Ae6 A x0 q1 = some r) : PFun cx 151 [Aau x0, .fn (.func g1) [] (un.uns cap1)] (.d (.sl TyS.str r)) := by
 rcases hcap1 with rfl | ⟨dscap1, rfl⟩
 ·refine PFun.walkF (fz := fun k => k == 3 || k == 131077) hA cx_ok Tryz.func151 rfl rfl rfl fun P R hP hR => ?_
  cbv; unfold Ae6 at h
  iterate 5 refine kj ?_
  obtain ⟨w1, hw1, h⟩ := bd_e h; refine km hP [(5, 1), (6, 2), (65541, 1)] (Aks (capc0 := []) hA (by first | exact .inl rfl | exact .inr ⟨_, rfl⟩) hq1 hw1) ?_; cbv
  refine kj ?_
  cases h; subst hR; exact ey
 ·refine PFun.walkF (fz := fun k => k == 3 || k == 131077) hA cx_ok Tryz.func151 rfl rfl rfl fun P R hP hR => ?_
  cbv; unfold Ae6 at h
  iterate 5 refine kj ?_
  obtain ⟨w1, hw1, h⟩ := bd_e h; refine km hP [(5, 1), (6, 2), (65541, 1)] (Aks (capc0 := [D.ptr dscap1]) hA (by first | exact .inl rfl | exact .inr ⟨_, rfl⟩) hq1 hw1) ?_; cbv
  refine kj ?_
  cases h; subst hR; exact ey
theorem Av8 {A : Ar} (hA : A = std) {x0 : Route} {r : List ByteArray} (h : Amy A x0 = some r) : PFun cx 152 [Aau x0] (.d (.sl TyS.str r)) := by
 refine wF hA cx_ok Tryz.func152 fun P R hP hR => ?_
 cbv; unfold Amy at h
 iterate 2 refine kj ?_
 cases h; subst hR; exact ey
theorem Av9 {A : Ar} (hA : A = std) {x0 : Route} {r : List ByteArray} (h : Amz A x0 = some r) : PFun cx 153 [Aau x0] (.d (.sl TyS.str r)) := by
 refine wF hA cx_ok Tryz.func153 fun P R hP hR => ?_
 cbv; unfold Amz at h
 iterate 2 refine kj ?_
 cases h; subst hR; exact ey
theorem Ayj {A : Ar} (hA : A = std) {x0 : Route} {r : (List ByteArray) × (List ByteArray)} (h : Anj A x0 = some r) : PFun cx 62 [Aau x0] (.tu [.d (.sl TyS.str r.1), .d (.sl TyS.str r.2)]) := by
 refine wF hA cx_ok Tryz.func62 fun P R hP hR => ?_
 cbv; unfold Anj at h
 iterate 2 refine kj ?_
 obtain ⟨w1, hw1, h⟩ := bd_e h; refine ke hP (Alv (cap1 := []) hA (by first | exact .inl rfl | exact .inr ⟨_, rfl⟩) (fun _ _ hw => Av8 hA hw) hw1) ?_; cbv
 refine kj ?_
 obtain ⟨w2, hw2, h⟩ := bd_e h; refine ke hP (Alv (cap1 := []) hA (by first | exact .inl rfl | exact .inr ⟨_, rfl⟩) (fun _ _ hw => Av9 hA hw) hw2) ?_; cbv
 cases h; subst hR; exact ey
theorem Aum {A : Ar} (hA : A = std) {x0 : Hours} {c0 : ByteArray} {r : Bool} (h : Aip A x0 c0 = some r) : PFun cx 65 [Agz x0, .ip [.v (.string c0)]] (bl r) := by
 refine wF hA cx_ok Tryz.func65 fun P R hP hR => ?_
 cbv; unfold Aip at h
 iterate 2 refine kj ?_
 exact le h hR
theorem Awa {A : Ar} (hA : A = std) {x0 : ByteArray} {c0 : Config} {r : Bool} (h : Aiv A x0 c0 = some r) : PFun cx 63 [st x0, .ip [.sl TyS.rule c0.Rules, .v (.string c0.Route.Receiver), .sl TyS.matcher c0.Route.Match, .sl TyS.str c0.Route.By, .v (.int .i64 c0.Route.Wait), .v (.int .i64 c0.Route.Every), .v (.int .i64 c0.Route.Repeat), .sl TyS.str c0.Route.Mute, .v (.bool c0.Route.On), .sl TyS.route c0.Route.Routes, .sl TyS.str c0.Receivers, .sl TyS.inhibit c0.Inhibits, .sl TyS.hours c0.Hours]] (bl r) := by
 refine PFun.walkF (fz := fun k => k == 2) hA cx_ok Tryz.func63 rfl rfl rfl fun P R hP hR => ?_
 cbv; unfold Aiv at h
 iterate 2 refine kj ?_
 obtain ⟨w1, hw1, h⟩ := bd_e h; refine kc hP (Aeg hA (by rfl) (fun _ _ hw => Aum hA hw) hw1) ?_; cbv
 exact le h hR
theorem Awb {A : Ar} (hA : A = std) {x0 : ByteArray} {c0 : Config} {r : Bool} (h : Aiw A x0 c0 = some r) : PFun cx 66 [st x0, .ip [.sl TyS.rule c0.Rules, .v (.string c0.Route.Receiver), .sl TyS.matcher c0.Route.Match, .sl TyS.str c0.Route.By, .v (.int .i64 c0.Route.Wait), .v (.int .i64 c0.Route.Every), .v (.int .i64 c0.Route.Repeat), .sl TyS.str c0.Route.Mute, .v (.bool c0.Route.On), .sl TyS.route c0.Route.Routes, .sl TyS.str c0.Receivers, .sl TyS.inhibit c0.Inhibits, .sl TyS.hours c0.Hours]] (bl r) := by
 refine wF hA cx_ok Tryz.func66 fun P R hP hR => ?_
 cbv; unfold Aiw at h
 iterate 2 refine kj ?_
 obtain ⟨w1, hw1, h⟩ := bd_e h; refine kc hP (Abz hA hw1) ?_; cbv
 exact le h hR
theorem As2 {A : Ar} (hA : A = std) {x0 : Config} {r : Bool} (h : Ajm A x0 = some r) : PFun cx 16 [Ahk x0] (bl r) := by
 refine PFun.walkF (fz := fun k => k == 1) hA cx_ok Tryz.func16 rfl rfl rfl fun P R hP hR => ?_
 cbv; unfold Ajm at h
 iterate 2 refine kj ?_
 obtain ⟨w1, hw1, h⟩ := bd_e h; refine ke hP (Au7 (cap2 := []) hA (by first | exact .inl rfl | exact .inr ⟨_, rfl⟩) (fun _ _ hw => A0b hA hw) hw1) ?_; cbv
 iterate 2 refine cj ?_
 obtain ⟨w2, hw2, h⟩ := bd_e h; refine kf hP (fun hc => (Akp (cap2 := []) hA (by first | exact .inl rfl | exact .inr ⟨_, rfl⟩) (fun _ _ hw => A0c hA hw) (gd_e hw2 hc))) ?_; cbv
 iterate 3 refine cj ?_
 obtain ⟨w3, hw3, h⟩ := bd_e h; refine kf hP (fun hc => (Asx (cap2 := []) hA (by first | exact .inl rfl | exact .inr ⟨_, rfl⟩) (fun _ _ hw => Avb hA hw) (gd_e hw3 hc))) ?_; cbv
 iterate 3 refine cj ?_
 obtain ⟨w4, hw4, h⟩ := bd_e h; refine kf hP (fun hc => (Aul (cap2 := []) hA (by first | exact .inl rfl | exact .inr ⟨_, rfl⟩) (fun _ _ hw => At4 hA hw) (gd_e hw4 hc))) ?_; cbv
 refine cj ?_
 refine kj ?_
 iterate 2 refine cj ?_
 obtain ⟨w5, hw5, h⟩ := bd_e h; refine kf hP (fun hc => (Asy hA (by rfl) (fun _ _ hw => Asz hA hw) (gd_e hw5 hc))) ?_; cbv
 iterate 4 refine cj ?_
 obtain ⟨w6, hw6, h⟩ := bd_e h; refine kf hP (fun hc => (Arm hA (by rfl) (fun _ _ hw => Ar7 hA hw) (gd_e hw6 hc))) ?_; cbv
 iterate 4 refine cj ?_
 obtain ⟨w7, hw7, h⟩ := bd_e h; refine kf hP (fun hc => (Ast hA (by rfl) (fun _ _ hw => Ar8 hA hw) (gd_e hw7 hc))) ?_; cbv
 iterate 2 refine cj ?_
 refine bc h (fun hb h => ?_) fun hb h => ?_
 ·cbv
  refine kj ?_
  exact le h hR
 ·cbv
  refine kj ?_
  obtain ⟨w8, hw8, h⟩ := bd_e h; refine kc hP (Ayh hA hw8) ?_; cbv
  iterate 10 refine cj ?_
  obtain ⟨w9, hw9, h⟩ := bd_e h; refine kg hP (fun hc => (Ayi hA (gd_e hw9 hc))) ?_; cbv
  iterate 2 refine cj ?_
  refine bc h (fun hb h => ?_) fun hb h => ?_
  ·cbv
   refine kj ?_
   exact le h hR
  ·cbv
   refine kj ?_
   obtain ⟨w10, hw10, h⟩ := bd_e h; refine kc hP (Ayj hA hw10) ?_; cbv
   iterate 2 refine kj ?_
   obtain ⟨w11, hw11, h⟩ := bd_e h; refine kc hP (Akp (cap2 := [D.ptr [D.sl TyS.rule x0.1, D.v (Value.string x0.2.1), D.sl TyS.matcher x0.2.2, D.sl TyS.str x0.2.3, D.v (Value.int .i64 x0.2.4), D.v (Value.int .i64 x0.2.5), D.v (Value.int .i64 x0.2.6), D.sl TyS.str x0.2.7, D.v (Value.bool x0.2.8), D.sl TyS.route x0.2.9, D.sl TyS.str x0.3, D.sl TyS.inhibit x0.4, D.sl TyS.hours x0.5]]) hA (by first | exact .inl rfl | exact .inr ⟨_, rfl⟩) (fun _ _ hw => Awb hA hw) hw11) ?_; cbv
   iterate 2 refine cj ?_
   obtain ⟨w12, hw12, h⟩ := bd_e h; refine kg hP (fun hc => (Akp (cap2 := [D.ptr [D.sl TyS.rule x0.1, D.v (Value.string x0.2.1), D.sl TyS.matcher x0.2.2, D.sl TyS.str x0.2.3, D.v (Value.int .i64 x0.2.4), D.v (Value.int .i64 x0.2.5), D.v (Value.int .i64 x0.2.6), D.sl TyS.str x0.2.7, D.v (Value.bool x0.2.8), D.sl TyS.route x0.2.9, D.sl TyS.str x0.3, D.sl TyS.inhibit x0.4, D.sl TyS.hours x0.5]]) hA (by first | exact .inl rfl | exact .inr ⟨_, rfl⟩) (fun _ _ hw => Awa hA hw) (gd_e hw12 hc))) ?_; cbv
   refine cj ?_
   exact le h hR
theorem Axp {A : Ar} (hA : A = std) {rf : Route → Int → Option Bool} {x0 : Route} {c0 : Int} (hqr117 : ∀ (x0 : Route) (x1 : Int) (r : Bool), rf x0 x1 = some r → PFun cx 117 [Aau x0, it .i64 x1] (bl r)) {r : Bool} (h : Al1 A rf x0 c0 = some r) : PFun cx 195 [Aau x0, .ip [.v (.int .i64 c0)]] (bl r) := by
 refine wF hA cx_ok Tryz.func195 fun P R hP hR => ?_
 cbv; unfold Al1 at h
 iterate 2 refine kj ?_
 obtain ⟨w1, hw1, h⟩ := bd_e h; refine kc hP (hqr117 _ _ _ hw1) ?_; cbv
 exact le h hR
theorem Axq {A : Ar} (hA : A = std) {rf : Route → Int → Option Bool} {x0 : Route} {x1 : Int} (hqr117 : ∀ (x0 : Route) (x1 : Int) (r : Bool), rf x0 x1 = some r → PFun cx 117 [Aau x0, it .i64 x1] (bl r)) {r : Bool} (h : Aon A rf x0 x1 = some r) : PFun cx 117 [Aau x0, it .i64 x1] (bl r) := by
 refine PFun.walkF (fz := fun k => k == 3) hA cx_ok Tryz.func117 rfl rfl rfl fun P R hP hR => ?_
 cbv; unfold Aon at h
 iterate 2 refine kj ?_
 iterate 3 refine cj ?_
 obtain ⟨w1, hw1, h⟩ := bd_e h; refine kg hP (fun hc => (Aoz hA (gd_e hw1 hc))) ?_; cbv
 iterate 5 refine cj ?_
 obtain ⟨w2, hw2, h⟩ := bd_e h; refine kg hP (fun hc => (Ag7 hA (by rfl) (fun _ _ hw => Axp hA hqr117 hw) (gd_e hw2 hc))) ?_; cbv
 iterate 2 refine cj ?_
 exact le h hR
theorem Ar9 {A : Ar} (hA : A = std) : ∀ (n : Nat) (x0 : Route) (x1 : Int) (r : Bool), Ajx A n x0 x1 = some r → PFun cx 117 [Aau x0, it .i64 x1] (bl r)
 | 0, _, _, _, h => by cases h
 | n + 1, x0, x1, r, h => Axq hA (fun _ _ _ hh => Ar9 hA n _ _ _ hh) h
theorem A0e {A : Ar} (hA : A = std) {x0 : Route} {x1 : Int} {r : Bool} (h : Aur A x0 x1 = some r) : PFun cx 117 [Aau x0, it .i64 x1] (bl r) := Ar9 hA _ _ _ _ h
theorem As3 {A : Ar} (hA : A = std) {x0 : Config} {r : Bool} (h : Aln A x0 = some r) : PFun cx 34 [Ahk x0] (bl r) := by
 refine wF hA cx_ok Tryz.func34 fun P R hP hR => ?_
 cbv; unfold Aln at h
 iterate 3 refine kj ?_
 obtain ⟨w1, hw1, h⟩ := bd_e h; refine kc hP (At3 hA hw1) ?_; cbv
 obtain ⟨w2, hw2, h⟩ := bd_e h; refine kc hP (As2 hA hw2) ?_; cbv
 iterate 3 refine cj ?_
 obtain ⟨w3, hw3, h⟩ := bd_e h; refine kg hP (fun hc => (A0e hA (gd_e hw3 hc))) ?_; cbv
 iterate 5 refine cj ?_
 obtain ⟨w4, hw4, h⟩ := bd_e h; refine kf hP (fun hc => (Adg hA (by rfl) (fun _ _ hw => Av5 hA hw) (gd_e hw4 hc))) ?_; cbv
 iterate 2 refine cj ?_
 exact le h hR
theorem Ayk {A : Ar} (hA : A = std) {x0 : Int} {r : ByteArray × Int} (h : Ank A x0 = some r) : PFun cx 221 [it .i64 x0] (.tu [st r.1, it .i64 r.2]) := by
 refine wF hA cx_ok Tryz.func221 fun P R hP hR => ?_
 cbv; unfold Ank at h
 iterate 2 refine kj ?_
 iterate 2 refine cj ?_
 refine bc h (fun hb h => ?_) fun hb h => ?_
 ·cbv
  refine kj ?_
  cases h; subst hR; exact ey
 ·cbv
  refine kj ?_
  refine kl h (fun x gh => [(0, it .i64 x.1), (4, .os 4031 gh TyS.byte x.2)]) (fun x gh => [⟨4031, gh, .tok 5 TyS.byte (A.nlen TyS.byte x.2)⟩]) [] ?_
  rintro ⟨n0, out4⟩ gh1 g1 _ _ _ hK1 hQ1 h; cbv
  refine kj ?_
  refine bc h (fun hb h => ?_) fun hb h => ?_
  ·cbv
   refine kj ?_
   refine ⟨by subst hA; simp +contextual [vcm], ?_⟩
   refine and_assoc.2 ?_
   refine kk h fun c1 h => ?_
   refine cj ?_
   refine kk h fun c2 h => ?_
   refine kj ?_
   refine ⟨by subst hA; simp +contextual [vcm], ?_⟩
   cases h; exact hK1 _ _ [(4031, 21, g1.succ)] rfl hdy
  ·cbv
   refine hQ1 _ h _ _ fun h => ?_; cbv
   refine kj ?_
   refine and_assoc.2 ?_
   refine kk h fun c3 h => ?_
   refine cj ?_
   refine kk h fun c4 h => ?_
   cases h; subst hR; exact ey
theorem Ana {A : Ar} (hA : A = std) {x0 : List UInt8} {r : List UInt8} (h : Aem A x0 = some r) : PFunM cx 225 [.bx 1000 0 0] [⟨1000, 0, .box 147 [.d (.v (.pointer none)), .os 1001 0 TyS.byte x0]⟩, ⟨1001, 0, .tok 5 TyS.byte (A.nlen TyS.byte x0)⟩] (.tu []) [⟨1000, 0, .box 147 [.np 1000 0, .os 2000 1 TyS.byte r]⟩, ⟨2000, 1, .tok 5 TyS.byte (A.nlen TyS.byte r)⟩] := by
 refine PFunM.walkM (fz := fun _ => false) hA cx_ok Tryz.func225 rfl rfl fun P R hP hR => ?_
 cbv; unfold Aem at h
 iterate 2 refine kj ?_
 obtain ⟨w1, hw1, h⟩ := bd_e h; refine km hP [(1000, 0), (1001, 0)] (Ay5 hA hw1) ?_; cbv
 cases h
 refine hR _ _ ⟨[(1001, 0)], ⟨by rfl, ez, by rfl, ez⟩⟩
theorem Anb {A : Ar} (hA : A = std) {x0 : List UInt8} {r : List UInt8} (h : Aen A x0 = some r) : PFunM cx 225 [.bx 1000 0 0] [⟨1000, 0, .box 147 [.bx 1000 0 0, .os 1001 0 TyS.byte x0]⟩, ⟨1001, 0, .tok 5 TyS.byte (A.nlen TyS.byte x0)⟩] (.tu []) [⟨1000, 0, .box 147 [.np 1000 0, .os 2000 1 TyS.byte r]⟩, ⟨2000, 1, .tok 5 TyS.byte (A.nlen TyS.byte r)⟩] := by
 refine PFunM.walkM (fz := fun _ => false) hA cx_ok Tryz.func225 rfl rfl fun P R hP hR => ?_
 cbv; unfold Aen at h
 iterate 2 refine kj ?_
 cases h
 refine hR _ _ ⟨[(1001, 0)], ⟨by rfl, ez, by rfl, ez⟩⟩
theorem Aog {A : Ar} (hA : A = std) {x0 : List UInt8} {r : List UInt8} (h : Ad0 A x0 = some r) : PFunM cx 225 [.bx 1000 0 0] [⟨1000, 0, .box 147 [.np 1000 0, .os 1001 0 TyS.byte x0]⟩, ⟨1001, 0, .tok 5 TyS.byte (A.nlen TyS.byte x0)⟩] (.tu []) [⟨1000, 0, .box 147 [.np 1000 0, .os 2000 1 TyS.byte r]⟩, ⟨2000, 1, .tok 5 TyS.byte (A.nlen TyS.byte r)⟩] := by
 unfold Ad0 at h
 obtain ⟨a, h1, h⟩ := bd_e h
 obtain ⟨b, h2, h⟩ := bd_e h
 obtain ⟨e, h⟩ := ck_e h
 cases h; subst e
 exact PFunM.np (Ana hA h1) (Anb hA h2)
theorem Aa3 {A : Ar} (hA : A = std) {x0 : List UInt8} {x1 : ByteArray} {r : List UInt8} (h : Aah A x0 x1 = some r) : PFunM cx 168 [.bx 1000 0 0, st x1] [⟨1000, 0, .box 147 [.np 1000 0, .os 1001 0 TyS.byte x0]⟩, ⟨1001, 0, .tok 5 TyS.byte (A.nlen TyS.byte x0)⟩] (.tu [it .i64 (A.slen x1), .d (.v .nilIface)]) [⟨1000, 0, .box 147 [.np 1000 0, .os 2000 1 TyS.byte r]⟩, ⟨2000, 1, .tok 5 TyS.byte (A.nlen TyS.byte r)⟩] := by
 refine PFunM.walkM (fz := fun _ => false) hA cx_ok Tryz.func168 rfl rfl fun P R hP hR => ?_
 cbv; unfold Aah at h
 iterate 2 refine kj ?_
 obtain ⟨w1, hw1, h⟩ := bd_e h; refine km hP [(1000, 0), (1001, 0)] (Aog hA hw1) ?_; cbv
 refine kj ?_
 refine kk h fun c2 h => ?_
 refine kj ?_
 cases h
 refine hR _ _ ⟨[(14, 4)], ⟨by rfl, ez, by rfl, ez⟩⟩
theorem A2g {A : Ar} (hA : A = std) {x0 : List ByteArray} {r : ByteArray × Int} (h : Aq8 A x0 = some r) : PFun cx 220 [.d (.sl TyS.str x0)] (.tu [st r.1, it .i64 r.2]) := by
 refine PFun.walkF (fz := fun k => k == 131076) hA cx_ok Tryz.func220 rfl rfl rfl fun P R hP hR => ?_
 cbv; unfold Aq8 at h
 iterate 2 refine kj ?_
 refine bc h (fun hb h => ?_) fun hb h => ?_
 ·cbv
  refine kj ?_
  cases h; subst hR; exact ey
 ·cbv
  iterate 2 refine kj ?_
  refine kl h (fun x _ => [(14, it .i64 x.1)]) (fun x gh => [⟨4031, gh, .tok 5 TyS.byte (A.nlen TyS.byte x.2)⟩, ⟨4, 2, .box 147 [PV.np 4 2, .os 4031 gh TyS.byte x.2]⟩]) [(4031, 65540, 2)] ?_
  rintro ⟨t14, b1_4⟩ gh1 g1 _ _ _ hK1 hQ1 h; cbv
  refine kj ?_
  refine bc h (fun hb h => ?_) fun hb h => ?_
  ·cbv
   refine kj ?_
   refine kk h fun c1 h => ?_
   refine kj ?_
   refine bc h (fun hb h => ?_) fun hb h => ?_
   ·cbv
    refine kj ?_
    refine hQ1 _ h _ _ fun h => ?_; cbv
    cases h; subst hR; exact ey
   ·cbv
    refine kj ?_
    obtain ⟨w2, hw2, h⟩ := bd_e h; refine kc hP (Ayk hA hw2) ?_; cbv
    refine kj ?_
    obtain ⟨w3, hw3, h⟩ := bd_e h; refine km hP [(4, 2), (4031, gh1)] (Aa3 hA hw3) ?_; cbv
    refine kj ?_
    obtain ⟨w4, hw4, h⟩ := bd_e h; refine km hP [(4, 2), (28, g1.succ.succ.succ.succ)] (Aa3 hA hw4) ?_; cbv
    refine kj ?_
    cases h; exact hK1 _ _ [(4031, 30, g1.succ.succ.succ.succ.succ)] rfl hdy
  ·cbv
   refine hQ1 _ h _ _ fun h => ?_; cbv
   refine kj ?_
   obtain ⟨w5, hw5, h⟩ := bd_e h; refine km hP [(4, 2), (4031, gh1)] (Akz hA hw5) ?_; cbv
   cases h; subst hR; exact ey
theorem Aqj {A : Ar} (hA : A = std) {x0 : Bool} {x1 : List ByteArray} {r : ByteArray × Bool} (h : Alc A x0 x1 = some r) : PFunM cx 131 [.bx 1000 0 0, .d (.sl TyS.str x1)] [⟨1000, 0, .box 4 [bl x0]⟩] (st r.1) [⟨1000, 0, .box 4 [bl r.2]⟩] := by
 refine PFunM.walkM (fz := fun _ => false) hA cx_ok Tryz.func131 rfl rfl fun P R hP hR => ?_
 cbv; unfold Alc at h
 iterate 2 refine kj ?_
 obtain ⟨w1, hw1, h⟩ := bd_e h; refine kc hP (A2g hA hw1) ?_; cbv
 refine kj ?_
 iterate 2 refine cj ?_
 refine kj ?_
 cases h
 refine hR _ _ ⟨[], ⟨by rfl, ez, by rfl, ez⟩⟩
theorem Ap4 {A : Ar} (hA : A = std) {x0 : Bool} {x1 : List Matcher} {r : ByteArray × Bool} (h : Ah1 A x0 x1 = some r) : PFunM cx 219 [.bx 1000 0 0, .d (.sl TyS.matcher x1)] [⟨1000, 0, .box 4 [bl x0]⟩] (st r.1) [⟨1000, 0, .box 4 [bl r.2]⟩] := by
 refine PFunM.walkM (fz := fun _ => false) hA cx_ok Tryz.func219 rfl rfl fun P R hP hR => ?_
 cbv; unfold Ah1 at h
 iterate 3 refine kj ?_
 refine kl h (fun x gh => [(5, .os 4030 gh TyS.str x.1), (12, it .i64 x.2)]) (fun x gh => [⟨4030, gh, .tok 9 TyS.str (A.nlen TyS.str x.1)⟩, ⟨1000, 0, .box 4 [bl x0]⟩]) [] ?_
 rintro ⟨out5, t12⟩ gh1 g1 _ _ _ hK1 hQ1 h; cbv
 refine kj ?_
 refine bc h (fun hb h => ?_) fun hb h => ?_
 ·cbv
  refine kj ?_
  refine kk h fun c1 h => ?_
  refine kj ?_
  obtain ⟨w2, hw2, h⟩ := bd_e h; refine kc hP (Aoy hA hw2) ?_; cbv
  refine kj ?_
  refine kk h fun c3 h => ?_
  refine kj ?_
  cases h; exact hK1 _ _ [(4030, 24, g1.succ.succ.succ)] rfl hdy
 ·cbv
  refine hQ1 _ h _ _ fun h => ?_; cbv
  refine kj ?_
  obtain ⟨w4, hw4, h⟩ := bd_e h; refine km hP [(1000, 0)] (Aqj hA hw4) ?_; cbv
  cases h
  refine hR _ _ ⟨[], ⟨by rfl, ez, by rfl, ez⟩⟩
theorem Awc {A : Ar} (hA : A = std) {x0 : Bool} {x1 : Inhibit} {r : ByteArray × Bool} (h : Am0 A x0 x1 = some r) : PFunM cx 130 [.bx 1000 0 0, Agd x1] [⟨1000, 0, .box 4 [bl x0]⟩] (st r.1) [⟨1000, 0, .box 4 [bl r.2]⟩] := by
 refine PFunM.walkM (fz := fun _ => false) hA cx_ok Tryz.func130 rfl rfl fun P R hP hR => ?_
 cbv; unfold Am0 at h
 iterate 2 refine kj ?_
 obtain ⟨w1, hw1, h⟩ := bd_e h; refine km hP [(1000, 0)] (Ap4 hA hw1) ?_; cbv
 obtain ⟨w2, hw2, h⟩ := bd_e h; refine km hP [(1000, 0)] (Ap4 hA hw2) ?_; cbv
 obtain ⟨w3, hw3, h⟩ := bd_e h; refine km hP [(1000, 0)] (Aqj hA hw3) ?_; cbv
 obtain ⟨w4, hw4, h⟩ := bd_e h; refine km hP [(1000, 0)] (Aqj hA hw4) ?_; cbv
 refine kj ?_
 cases h
 refine hR _ _ ⟨[], ⟨by rfl, ez, by rfl, ez⟩⟩
theorem Ai2 {A : Ar} (hA : A = std) {x0 : Inhibit} {c0 : Bool} {r : ByteArray × Bool} (h : Af6 A x0 c0 = some r) : PFunM cx 156 [Agd x0, .bx 1000 0 0] [⟨1000, 0, .box 4 [bl c0]⟩] (st r.1) [⟨1000, 0, .box 4 [bl r.2]⟩] := by
 refine PFunM.walkM (fz := fun _ => false) hA cx_ok Tryz.func156 rfl rfl fun P R hP hR => ?_
 cbv; unfold Af6 at h
 iterate 2 refine kj ?_
 obtain ⟨w1, hw1, h⟩ := bd_e h; refine km hP [(1000, 0)] (Awc hA hw1) ?_; cbv
 cases h
 refine hR _ _ ⟨[], ⟨by rfl, ez, by rfl, ez⟩⟩
theorem Akt {A : Ar} (hA : A = std) {x0 : List Rule} {r : Int × List Rule} (h : Afg A x0 = some r) : PFunM cx 243 [.d (.sl TyS.rule x0)] [] (.ms 2000 1 TyS.rule 0 r.1) [⟨2000, 1, .arr 36 TyS.rule r.2⟩] := by
 refine PFunM.walkM (fz := fun k => k == 65541 || k == 65543 || k == 65538 || k == 65538 || k == 65538) hA cx_ok Tryz.func243 rfl rfl fun P R hP hR => ?_
 cbv; unfold Afg at h
 iterate 2 refine kj ?_
 obtain ⟨h1, h2⟩ := A8l h
 refine ⟨fun hc => ?_, ?_⟩
 ·have h := h1 hc
  clear h1 h2
  cbv
  refine kj ?_
  cases h
  refine hR _ _ ⟨[(2, 4)], ⟨by rfl, ez, by rfl, ez⟩⟩
 ·have h := h2
  clear h1 h2
  refine kj ?_
  refine kk h fun c1 h => ?_
  cases h
  refine hR _ _ ⟨[(7, 4)], ⟨by rfl, ez, by rfl, ez⟩⟩
theorem Alw {A : Ar} (hA : A = std) {x0 : Rule} {x1 : Rule} {qc0 : Rule → Option ByteArray} {gc0 : Nat} {capc0 : List D} (hcapc0 : capOK capc0) (hqc0 : ∀ (y0 : Rule) (r : ByteArray), qc0 y0 = some r → PFun cx gc0 ((Al6 y0) :: un.uns capc0) (st r)) {r : Int} (h : Agt A x0 x1 qc0 = some r) : PFun cx 245 [Al6 x0, Al6 x1, .ip [.fun (.func gc0) [] capc0]] (it .i64 r) := by
 rcases hcapc0 with rfl | ⟨dscapc0, rfl⟩
 all_goals
  refine wF hA cx_ok Tryz.func245 fun P R hP hR => ?_
  cbv; unfold Agt at h
  iterate 2 refine kj ?_
  obtain ⟨w1, hw1, h⟩ := bd_e h; refine kc hP (hqc0 _ _ hw1) ?_; cbv
  obtain ⟨w2, hw2, h⟩ := bd_e h; refine kc hP (hqc0 _ _ hw2) ?_; cbv
  obtain ⟨w3, hw3, h⟩ := bd_e h; refine kc hP (Ajc hA hw3) ?_; cbv
  refine kj ?_
  exact le h hR
theorem Acl {A : Ar} (hA : A = std) {x0 : List Rule} {n0 : Int} {x1 : Int} {x2 : Int} {q3 : Rule → Rule → Option Int} {g3 : Nat} {cap3 : List D} (hcap3 : capOK cap3) (hq3 : ∀ (y0 : Rule) (y1 : Rule) (r : Int), q3 y0 y1 = some r → PFun cx g3 ((Al6 y0) :: (Al6 y1) :: un.uns cap3) (it .i64 r)) {r : List Rule} (h : Abc A x0 n0 x1 x2 q3 = some r) : PFunM cx 340 [.ms 1000 0 TyS.rule 0 n0, it .i64 x1, it .i64 x2, .fn (.func g3) [] (un.uns cap3)] [⟨1000, 0, .arr 36 TyS.rule x0⟩] (.tu []) [⟨1000, 0, .arr 36 TyS.rule r⟩] := by
 rcases hcap3 with rfl | ⟨dscap3, rfl⟩
 all_goals
  refine PFunM.walkM (fz := fun _ => false) hA cx_ok Tryz.func340 rfl rfl fun P R hP hR => ?_
  cbv; unfold Abc at h
  refine kj ?_
  refine kl h (fun x _ => [(8, it .i64 x.1)]) (fun x gh => [⟨1000, 0, .arr 36 TyS.rule x.2⟩]) [] ?_
  rintro ⟨i8, row1000⟩ gh1 g1 _ _ _ hK1 hQ1 h; cbv
  refine kj ?_
  refine bc h (fun hb h => ?_) fun hb h => ?_
  ·cbv
   refine kj ?_
   refine kl h (fun x _ => [(9, it .i64 x.1)]) (fun x gh => [⟨1000, 0, .arr 36 TyS.rule x.2⟩]) [] ?_
   rintro ⟨j9, row1000'⟩ gh2 g2 _ _ _ hK2 hQ2 h; cbv
   refine kj ?_
   iterate 2 refine cj ?_
   refine kk h fun c1 h => ?_
   iterate 2 refine cj ?_
   refine kk h fun c2 h => ?_
   iterate 3 refine cj ?_
   refine kk h fun c3 h => ?_
   iterate 2 refine cj ?_
   refine kk h fun c4 h => ?_
   iterate 3 refine cj ?_
   obtain ⟨w5, hw5, h⟩ := bd_e h; refine kg hP (fun hc => (hq3 _ _ _ (gd_e hw5 hc))) ?_; cbv
   iterate 2 refine cj ?_
   refine kj ?_
   refine bc h (fun hb h => ?_) fun hb h => ?_
   ·cbv
    refine kj ?_
    refine kk h fun c6 h => ?_
    refine kk h fun c7 h => ?_
    refine kk h fun c8 h => ?_
    refine kk h fun c9 h => ?_
    refine ⟨c8, ?_⟩
    refine ⟨c9, ?_⟩
    refine ⟨c6, ?_⟩
    refine kk h fun c10 h => ?_
    iterate 2 refine kj ?_
    cases h; exact hK2 _ _ [] rfl hdy
   ·cbv
    refine hQ2 _ h _ _ fun h => ?_; cbv
    refine kj ?_
    cases h; exact hK1 _ _ [] rfl hdy
  ·cbv
   refine hQ1 _ h _ _ fun h => ?_; cbv
   cases h
   refine hR _ _ ⟨[], ⟨by rfl, ez, by rfl, ez⟩⟩
theorem Ai3 {A : Ar} (hA : A = std) {x0 : List Rule} {n0 : Int} {x1 : Int} {q2 : Rule → Rule → Option Int} {g2 : Nat} {cap2 : List D} (hcap2 : capOK cap2) (hq2 : ∀ (y0 : Rule) (y1 : Rule) (r : Int), q2 y0 y1 = some r → PFun cx g2 ((Al6 y0) :: (Al6 y1) :: un.uns cap2) (it .i64 r)) {r : List Rule} (h : Acw A x0 n0 x1 q2 = some r) : PFunM cx 306 [.ms 1000 0 TyS.rule 0 n0, it .i64 x1, .fn (.func g2) [] (un.uns cap2)] [⟨1000, 0, .arr 36 TyS.rule x0⟩] (.tu []) [⟨1000, 0, .arr 36 TyS.rule r⟩] := by
 rcases hcap2 with rfl | ⟨dscap2, rfl⟩
 ·refine PFunM.walkM (fz := fun _ => false) hA cx_ok Tryz.func306 rfl rfl fun P R hP hR => ?_
  cbv; unfold Acw at h
  iterate 2 refine kj ?_
  refine kl h (fun x _ => [(7, it .i64 x.1), (8, it .i64 x.2.1)]) (fun x gh => [⟨1000, 0, .arr 36 TyS.rule x.2.2⟩]) [] ?_
  rintro ⟨a7, b8, row1000⟩ gh1 g1 _ _ _ hK1 hQ1 h; cbv
  refine kj ?_
  refine bc h (fun hb h => ?_) fun hb h => ?_
  ·cbv
   refine kj ?_
   obtain ⟨w1, hw1, h⟩ := bd_e h; refine km hP [(1000, 0)] (Acl (cap3 := []) hA (by first | exact .inl rfl | exact .inr ⟨_, rfl⟩) hq2 hw1) ?_; cbv
   iterate 2 refine kj ?_
   cases h; exact hK1 _ _ [] rfl hdy
  ·cbv
   refine hQ1 _ h _ _ fun h => ?_; cbv
   refine kj ?_
   obtain ⟨w2, hw2, h⟩ := bd_e h; refine km hP [(1000, 0)] (Acl (cap3 := []) hA (by first | exact .inl rfl | exact .inr ⟨_, rfl⟩) hq2 hw2) ?_; cbv
   refine kl h (fun x _ => [(6, it .i64 x)]) (fun _ _ => [⟨1000, 0, Cell.arr 36 TyS.rule w2⟩]) [] ?_
   rintro blockSize6 gh2 g2 _ _ _ hK2 hQ2 h; cbv
   refine kj ?_
   refine bc h (fun hb h => ?_) fun hb h => ?_
   ·cbv
    refine kj ?_
    refine kl h (fun x _ => [(7, it .i64 x.1), (8, it .i64 x.2)]) (fun _ _ => [⟨1000, 0, Cell.arr 36 TyS.rule w2⟩]) [] ?_
    rintro ⟨a7', b8'⟩ gh3 g3 _ _ _ hK3 hQ3 h; cbv
    refine kj ?_
    refine bc h (fun hb h => ?_) fun hb h => ?_
    ·cbv
     refine kj ?_
     cases h
    ·cbv
     refine hQ3 _ h _ _ fun h => ?_; cbv
     iterate 2 refine kj ?_
     refine bc h (fun hb h => ?_) fun hb h => ?_
     ·cbv
      refine kj ?_
      cases h
     ·cbv
      refine kj ?_
      cases h; exact hK2 _ _ [] rfl hdy
   ·cbv
    refine hQ2 _ h _ _ fun h => ?_; cbv
    cases h
    refine hR _ _ ⟨[], ⟨by rfl, ez, by rfl, ez⟩⟩
 ·refine PFunM.walkM (fz := fun _ => false) hA cx_ok Tryz.func306 rfl rfl fun P R hP hR => ?_
  cbv; unfold Acw at h
  iterate 2 refine kj ?_
  refine kl h (fun x _ => [(7, it .i64 x.1), (8, it .i64 x.2.1)]) (fun x gh => [⟨1000, 0, .arr 36 TyS.rule x.2.2⟩]) [] ?_
  rintro ⟨a7, b8, row1000⟩ gh1 g1 _ _ _ hK1 hQ1 h; cbv
  refine kj ?_
  refine bc h (fun hb h => ?_) fun hb h => ?_
  ·cbv
   refine kj ?_
   obtain ⟨w1, hw1, h⟩ := bd_e h; refine km hP [(1000, 0)] (Acl (cap3 := [D.ptr dscap2]) hA (by first | exact .inl rfl | exact .inr ⟨_, rfl⟩) hq2 hw1) ?_; cbv
   iterate 2 refine kj ?_
   cases h; exact hK1 _ _ [] rfl hdy
  ·cbv
   refine hQ1 _ h _ _ fun h => ?_; cbv
   refine kj ?_
   obtain ⟨w2, hw2, h⟩ := bd_e h; refine km hP [(1000, 0)] (Acl (cap3 := [D.ptr dscap2]) hA (by first | exact .inl rfl | exact .inr ⟨_, rfl⟩) hq2 hw2) ?_; cbv
   refine kl h (fun x _ => [(6, it .i64 x)]) (fun _ _ => [⟨1000, 0, Cell.arr 36 TyS.rule w2⟩]) [] ?_
   rintro blockSize6 gh2 g2 _ _ _ hK2 hQ2 h; cbv
   refine kj ?_
   refine bc h (fun hb h => ?_) fun hb h => ?_
   ·cbv
    refine kj ?_
    refine kl h (fun x _ => [(7, it .i64 x.1), (8, it .i64 x.2)]) (fun _ _ => [⟨1000, 0, Cell.arr 36 TyS.rule w2⟩]) [] ?_
    rintro ⟨a7', b8'⟩ gh3 g3 _ _ _ hK3 hQ3 h; cbv
    refine kj ?_
    refine bc h (fun hb h => ?_) fun hb h => ?_
    ·cbv
     refine kj ?_
     cases h
    ·cbv
     refine hQ3 _ h _ _ fun h => ?_; cbv
     iterate 2 refine kj ?_
     refine bc h (fun hb h => ?_) fun hb h => ?_
     ·cbv
      refine kj ?_
      cases h
     ·cbv
      refine kj ?_
      cases h; exact hK2 _ _ [] rfl hdy
   ·cbv
    refine hQ2 _ h _ _ fun h => ?_; cbv
    cases h
    refine hR _ _ ⟨[], ⟨by rfl, ez, by rfl, ez⟩⟩
theorem Ag8 {A : Ar} (hA : A = std) {x0 : List Rule} {n0 : Int} {q1 : Rule → Rule → Option Int} {g1 : Nat} {cap1 : List D} (hcap1 : capOK cap1) (hq1 : ∀ (y0 : Rule) (y1 : Rule) (r : Int), q1 y0 y1 = some r → PFun cx g1 ((Al6 y0) :: (Al6 y1) :: un.uns cap1) (it .i64 r)) {r : List Rule} (h : Ab7 A x0 n0 q1 = some r) : PFunM cx 244 [.ms 1000 0 TyS.rule 0 n0, .fn (.func g1) [] (un.uns cap1)] [⟨1000, 0, .arr 36 TyS.rule x0⟩] (.tu []) [⟨1000, 0, .arr 36 TyS.rule r⟩] := by
 rcases hcap1 with rfl | ⟨dscap1, rfl⟩
 ·refine PFunM.walkM (fz := fun _ => false) hA cx_ok Tryz.func244 rfl rfl fun P R hP hR => ?_
  cbv; unfold Ab7 at h
  refine kj ?_
  obtain ⟨w1, hw1, h⟩ := bd_e h; refine km hP [(1000, 0)] (Ai3 (cap2 := []) hA (by first | exact .inl rfl | exact .inr ⟨_, rfl⟩) hq1 hw1) ?_; cbv
  cases h
  refine hR _ _ ⟨[], ⟨by rfl, ez, by rfl, ez⟩⟩
 ·refine PFunM.walkM (fz := fun _ => false) hA cx_ok Tryz.func244 rfl rfl fun P R hP hR => ?_
  cbv; unfold Ab7 at h
  refine kj ?_
  obtain ⟨w1, hw1, h⟩ := bd_e h; refine km hP [(1000, 0)] (Ai3 (cap2 := [D.ptr dscap1]) hA (by first | exact .inl rfl | exact .inr ⟨_, rfl⟩) hq1 hw1) ?_; cbv
  cases h
  refine hR _ _ ⟨[], ⟨by rfl, ez, by rfl, ez⟩⟩
theorem As4 {A : Ar} (hA : A = std) {x0 : List Rule} {q1 : Rule → Option ByteArray} {g1 : Nat} {cap1 : List D} (hcap1 : capOK cap1) (hq1 : ∀ (y0 : Rule) (r : ByteArray), q1 y0 = some r → PFun cx g1 ((Al6 y0) :: un.uns cap1) (st r)) {r : List Rule} (h : Agl A x0 q1 = some r) : PFun cx 157 [.d (.sl TyS.rule x0), .fn (.func g1) [] (un.uns cap1)] (.d (.sl TyS.rule r)) := by
 rcases hcap1 with rfl | ⟨dscap1, rfl⟩
 ·refine PFun.walkF (fz := fun k => k == 3) hA cx_ok Tryz.func157 rfl rfl rfl fun P R hP hR => ?_
  cbv; unfold Agl at h
  iterate 2 refine kj ?_
  obtain ⟨w1, hw1, h⟩ := bd_e h; refine km hP [] (Akt hA hw1) ?_; cbv
  refine kj ?_
  obtain ⟨w2, hw2, h⟩ := bd_e h; refine km hP [(7, 1)] (Ag8 (cap1 := [D.ptr [D.fun (Fn.func g1) [] []]]) hA (by first | exact .inl rfl | exact .inr ⟨_, rfl⟩) (fun _ _ _ hw => Alw (capc0 := []) hA (by first | exact .inl rfl | exact .inr ⟨_, rfl⟩) hq1 hw) hw2) ?_; cbv
  refine kj ?_
  refine kk h fun c3 h => ?_
  cases h; subst hR; exact ey
 ·refine PFun.walkF (fz := fun k => k == 3) hA cx_ok Tryz.func157 rfl rfl rfl fun P R hP hR => ?_
  cbv; unfold Agl at h
  iterate 2 refine kj ?_
  obtain ⟨w1, hw1, h⟩ := bd_e h; refine km hP [] (Akt hA hw1) ?_; cbv
  refine kj ?_
  obtain ⟨w2, hw2, h⟩ := bd_e h; refine km hP [(7, 1)] (Ag8 (cap1 := [D.ptr [D.fun (Fn.func g1) [] [D.ptr dscap1]]]) hA (by first | exact .inl rfl | exact .inr ⟨_, rfl⟩) (fun _ _ _ hw => Alw (capc0 := [D.ptr dscap1]) hA (by first | exact .inl rfl | exact .inr ⟨_, rfl⟩) hq1 hw) hw2) ?_; cbv
  refine kj ?_
  refine kk h fun c3 h => ?_
  cases h; subst hR; exact ey
theorem Aik {A : Ar} (hA : A = std) {x0 : List ByteArray} {r : Int × List ByteArray} (h : Adt A x0 = some r) : PFunM cx 247 [.d (.sl TyS.str x0)] [] (.ms 2000 1 TyS.str 0 r.1) [⟨2000, 1, .arr 9 TyS.str r.2⟩] := by
 refine PFunM.walkM (fz := fun k => k == 65541 || k == 65543 || k == 65538 || k == 65538 || k == 65538) hA cx_ok Tryz.func247 rfl rfl fun P R hP hR => ?_
 cbv; unfold Adt at h
 iterate 2 refine kj ?_
 obtain ⟨h1, h2⟩ := A8l h
 refine ⟨fun hc => ?_, ?_⟩
 ·have h := h1 hc
  clear h1 h2
  cbv
  refine kj ?_
  cases h
  refine hR _ _ ⟨[(2, 4)], ⟨by rfl, ez, by rfl, ez⟩⟩
 ·have h := h2
  clear h1 h2
  refine kj ?_
  refine kk h fun c1 h => ?_
  cases h
  refine hR _ _ ⟨[(7, 4)], ⟨by rfl, ez, by rfl, ez⟩⟩
theorem Aku {A : Ar} (hA : A = std) {x0 : ByteArray} {x1 : ByteArray} {qc0 : ByteArray → Option ByteArray} {gc0 : Nat} {capc0 : List D} (hcapc0 : capOK capc0) (hqc0 : ∀ (y0 : ByteArray) (r : ByteArray), qc0 y0 = some r → PFun cx gc0 ((st y0) :: un.uns capc0) (st r)) {r : Int} (h : Afh A x0 x1 qc0 = some r) : PFun cx 249 [st x0, st x1, .ip [.fun (.func gc0) [] capc0]] (it .i64 r) := by
 rcases hcapc0 with rfl | ⟨dscapc0, rfl⟩
 all_goals
  refine wF hA cx_ok Tryz.func249 fun P R hP hR => ?_
  cbv; unfold Afh at h
  iterate 2 refine kj ?_
  obtain ⟨w1, hw1, h⟩ := bd_e h; refine kc hP (hqc0 _ _ hw1) ?_; cbv
  obtain ⟨w2, hw2, h⟩ := bd_e h; refine kc hP (hqc0 _ _ hw2) ?_; cbv
  obtain ⟨w3, hw3, h⟩ := bd_e h; refine kc hP (Ajc hA hw3) ?_; cbv
  refine kj ?_
  exact le h hR
theorem Ab2 {A : Ar} (hA : A = std) {x0 : List ByteArray} {n0 : Int} {x1 : Int} {x2 : Int} {q3 : ByteArray → ByteArray → Option Int} {g3 : Nat} {cap3 : List D} (hcap3 : capOK cap3) (hq3 : ∀ (y0 : ByteArray) (y1 : ByteArray) (r : Int), q3 y0 y1 = some r → PFun cx g3 ((st y0) :: (st y1) :: un.uns cap3) (it .i64 r)) {r : List ByteArray} (h : Aa2 A x0 n0 x1 x2 q3 = some r) : PFunM cx 343 [.ms 1000 0 TyS.str 0 n0, it .i64 x1, it .i64 x2, .fn (.func g3) [] (un.uns cap3)] [⟨1000, 0, .arr 9 TyS.str x0⟩] (.tu []) [⟨1000, 0, .arr 9 TyS.str r⟩] := by
 rcases hcap3 with rfl | ⟨dscap3, rfl⟩
 all_goals
  refine PFunM.walkM (fz := fun _ => false) hA cx_ok Tryz.func343 rfl rfl fun P R hP hR => ?_
  cbv; unfold Aa2 at h
  refine kj ?_
  refine kl h (fun x _ => [(8, it .i64 x.1)]) (fun x gh => [⟨1000, 0, .arr 9 TyS.str x.2⟩]) [] ?_
  rintro ⟨i8, row1000⟩ gh1 g1 _ _ _ hK1 hQ1 h; cbv
  refine kj ?_
  refine bc h (fun hb h => ?_) fun hb h => ?_
  ·cbv
   refine kj ?_
   refine kl h (fun x _ => [(9, it .i64 x.1)]) (fun x gh => [⟨1000, 0, .arr 9 TyS.str x.2⟩]) [] ?_
   rintro ⟨j9, row1000'⟩ gh2 g2 _ _ _ hK2 hQ2 h; cbv
   refine kj ?_
   iterate 2 refine cj ?_
   refine kk h fun c1 h => ?_
   iterate 2 refine cj ?_
   refine kk h fun c2 h => ?_
   iterate 3 refine cj ?_
   refine kk h fun c3 h => ?_
   iterate 2 refine cj ?_
   refine kk h fun c4 h => ?_
   iterate 3 refine cj ?_
   obtain ⟨w5, hw5, h⟩ := bd_e h; refine kg hP (fun hc => (hq3 _ _ _ (gd_e hw5 hc))) ?_; cbv
   iterate 2 refine cj ?_
   refine kj ?_
   refine bc h (fun hb h => ?_) fun hb h => ?_
   ·cbv
    refine kj ?_
    refine kk h fun c6 h => ?_
    refine kk h fun c7 h => ?_
    refine kk h fun c8 h => ?_
    refine kk h fun c9 h => ?_
    refine ⟨c8, ?_⟩
    refine ⟨c9, ?_⟩
    refine ⟨c6, ?_⟩
    refine kk h fun c10 h => ?_
    iterate 2 refine kj ?_
    cases h; exact hK2 _ _ [] rfl hdy
   ·cbv
    refine hQ2 _ h _ _ fun h => ?_; cbv
    refine kj ?_
    cases h; exact hK1 _ _ [] rfl hdy
  ·cbv
   refine hQ1 _ h _ _ fun h => ?_; cbv
   cases h
   refine hR _ _ ⟨[], ⟨by rfl, ez, by rfl, ez⟩⟩
theorem Ah6 {A : Ar} (hA : A = std) {x0 : List ByteArray} {n0 : Int} {x1 : Int} {q2 : ByteArray → ByteArray → Option Int} {g2 : Nat} {cap2 : List D} (hcap2 : capOK cap2) (hq2 : ∀ (y0 : ByteArray) (y1 : ByteArray) (r : Int), q2 y0 y1 = some r → PFun cx g2 ((st y0) :: (st y1) :: un.uns cap2) (it .i64 r)) {r : List ByteArray} (h : Ab8 A x0 n0 x1 q2 = some r) : PFunM cx 308 [.ms 1000 0 TyS.str 0 n0, it .i64 x1, .fn (.func g2) [] (un.uns cap2)] [⟨1000, 0, .arr 9 TyS.str x0⟩] (.tu []) [⟨1000, 0, .arr 9 TyS.str r⟩] := by
 rcases hcap2 with rfl | ⟨dscap2, rfl⟩
 ·refine PFunM.walkM (fz := fun _ => false) hA cx_ok Tryz.func308 rfl rfl fun P R hP hR => ?_
  cbv; unfold Ab8 at h
  iterate 2 refine kj ?_
  refine kl h (fun x _ => [(7, it .i64 x.1), (8, it .i64 x.2.1)]) (fun x gh => [⟨1000, 0, .arr 9 TyS.str x.2.2⟩]) [] ?_
  rintro ⟨a7, b8, row1000⟩ gh1 g1 _ _ _ hK1 hQ1 h; cbv
  refine kj ?_
  refine bc h (fun hb h => ?_) fun hb h => ?_
  ·cbv
   refine kj ?_
   obtain ⟨w1, hw1, h⟩ := bd_e h; refine km hP [(1000, 0)] (Ab2 (cap3 := []) hA (by first | exact .inl rfl | exact .inr ⟨_, rfl⟩) hq2 hw1) ?_; cbv
   iterate 2 refine kj ?_
   cases h; exact hK1 _ _ [] rfl hdy
  ·cbv
   refine hQ1 _ h _ _ fun h => ?_; cbv
   refine kj ?_
   obtain ⟨w2, hw2, h⟩ := bd_e h; refine km hP [(1000, 0)] (Ab2 (cap3 := []) hA (by first | exact .inl rfl | exact .inr ⟨_, rfl⟩) hq2 hw2) ?_; cbv
   refine kl h (fun x _ => [(6, it .i64 x)]) (fun _ _ => [⟨1000, 0, Cell.arr 9 TyS.str w2⟩]) [] ?_
   rintro blockSize6 gh2 g2 _ _ _ hK2 hQ2 h; cbv
   refine kj ?_
   refine bc h (fun hb h => ?_) fun hb h => ?_
   ·cbv
    refine kj ?_
    refine kl h (fun x _ => [(7, it .i64 x.1), (8, it .i64 x.2)]) (fun _ _ => [⟨1000, 0, Cell.arr 9 TyS.str w2⟩]) [] ?_
    rintro ⟨a7', b8'⟩ gh3 g3 _ _ _ hK3 hQ3 h; cbv
    refine kj ?_
    refine bc h (fun hb h => ?_) fun hb h => ?_
    ·cbv
     refine kj ?_
     cases h
    ·cbv
     refine hQ3 _ h _ _ fun h => ?_; cbv
     iterate 2 refine kj ?_
     refine bc h (fun hb h => ?_) fun hb h => ?_
     ·cbv
      refine kj ?_
      cases h
     ·cbv
      refine kj ?_
      cases h; exact hK2 _ _ [] rfl hdy
   ·cbv
    refine hQ2 _ h _ _ fun h => ?_; cbv
    cases h
    refine hR _ _ ⟨[], ⟨by rfl, ez, by rfl, ez⟩⟩
 ·refine PFunM.walkM (fz := fun _ => false) hA cx_ok Tryz.func308 rfl rfl fun P R hP hR => ?_
  cbv; unfold Ab8 at h
  iterate 2 refine kj ?_
  refine kl h (fun x _ => [(7, it .i64 x.1), (8, it .i64 x.2.1)]) (fun x gh => [⟨1000, 0, .arr 9 TyS.str x.2.2⟩]) [] ?_
  rintro ⟨a7, b8, row1000⟩ gh1 g1 _ _ _ hK1 hQ1 h; cbv
  refine kj ?_
  refine bc h (fun hb h => ?_) fun hb h => ?_
  ·cbv
   refine kj ?_
   obtain ⟨w1, hw1, h⟩ := bd_e h; refine km hP [(1000, 0)] (Ab2 (cap3 := [D.ptr dscap2]) hA (by first | exact .inl rfl | exact .inr ⟨_, rfl⟩) hq2 hw1) ?_; cbv
   iterate 2 refine kj ?_
   cases h; exact hK1 _ _ [] rfl hdy
  ·cbv
   refine hQ1 _ h _ _ fun h => ?_; cbv
   refine kj ?_
   obtain ⟨w2, hw2, h⟩ := bd_e h; refine km hP [(1000, 0)] (Ab2 (cap3 := [D.ptr dscap2]) hA (by first | exact .inl rfl | exact .inr ⟨_, rfl⟩) hq2 hw2) ?_; cbv
   refine kl h (fun x _ => [(6, it .i64 x)]) (fun _ _ => [⟨1000, 0, Cell.arr 9 TyS.str w2⟩]) [] ?_
   rintro blockSize6 gh2 g2 _ _ _ hK2 hQ2 h; cbv
   refine kj ?_
   refine bc h (fun hb h => ?_) fun hb h => ?_
   ·cbv
    refine kj ?_
    refine kl h (fun x _ => [(7, it .i64 x.1), (8, it .i64 x.2)]) (fun _ _ => [⟨1000, 0, Cell.arr 9 TyS.str w2⟩]) [] ?_
    rintro ⟨a7', b8'⟩ gh3 g3 _ _ _ hK3 hQ3 h; cbv
    refine kj ?_
    refine bc h (fun hb h => ?_) fun hb h => ?_
    ·cbv
     refine kj ?_
     cases h
    ·cbv
     refine hQ3 _ h _ _ fun h => ?_; cbv
     iterate 2 refine kj ?_
     refine bc h (fun hb h => ?_) fun hb h => ?_
     ·cbv
      refine kj ?_
      cases h
     ·cbv
      refine kj ?_
      cases h; exact hK2 _ _ [] rfl hdy
   ·cbv
    refine hQ2 _ h _ _ fun h => ?_; cbv
    cases h
    refine hR _ _ ⟨[], ⟨by rfl, ez, by rfl, ez⟩⟩
theorem Age {A : Ar} (hA : A = std) {x0 : List ByteArray} {n0 : Int} {q1 : ByteArray → ByteArray → Option Int} {g1 : Nat} {cap1 : List D} (hcap1 : capOK cap1) (hq1 : ∀ (y0 : ByteArray) (y1 : ByteArray) (r : Int), q1 y0 y1 = some r → PFun cx g1 ((st y0) :: (st y1) :: un.uns cap1) (it .i64 r)) {r : List ByteArray} (h : Abk A x0 n0 q1 = some r) : PFunM cx 248 [.ms 1000 0 TyS.str 0 n0, .fn (.func g1) [] (un.uns cap1)] [⟨1000, 0, .arr 9 TyS.str x0⟩] (.tu []) [⟨1000, 0, .arr 9 TyS.str r⟩] := by
 rcases hcap1 with rfl | ⟨dscap1, rfl⟩
 ·refine PFunM.walkM (fz := fun _ => false) hA cx_ok Tryz.func248 rfl rfl fun P R hP hR => ?_
  cbv; unfold Abk at h
  refine kj ?_
  obtain ⟨w1, hw1, h⟩ := bd_e h; refine km hP [(1000, 0)] (Ah6 (cap2 := []) hA (by first | exact .inl rfl | exact .inr ⟨_, rfl⟩) hq1 hw1) ?_; cbv
  cases h
  refine hR _ _ ⟨[], ⟨by rfl, ez, by rfl, ez⟩⟩
 ·refine PFunM.walkM (fz := fun _ => false) hA cx_ok Tryz.func248 rfl rfl fun P R hP hR => ?_
  cbv; unfold Abk at h
  refine kj ?_
  obtain ⟨w1, hw1, h⟩ := bd_e h; refine km hP [(1000, 0)] (Ah6 (cap2 := [D.ptr dscap1]) hA (by first | exact .inl rfl | exact .inr ⟨_, rfl⟩) hq1 hw1) ?_; cbv
  cases h
  refine hR _ _ ⟨[], ⟨by rfl, ez, by rfl, ez⟩⟩
theorem Arn {A : Ar} (hA : A = std) {x0 : List ByteArray} {q1 : ByteArray → Option ByteArray} {g1 : Nat} {cap1 : List D} (hcap1 : capOK cap1) (hq1 : ∀ (y0 : ByteArray) (r : ByteArray), q1 y0 = some r → PFun cx g1 ((st y0) :: un.uns cap1) (st r)) {r : List ByteArray} (h : Ae7 A x0 q1 = some r) : PFun cx 158 [.d (.sl TyS.str x0), .fn (.func g1) [] (un.uns cap1)] (.d (.sl TyS.str r)) := by
 rcases hcap1 with rfl | ⟨dscap1, rfl⟩
 ·refine PFun.walkF (fz := fun k => k == 3) hA cx_ok Tryz.func158 rfl rfl rfl fun P R hP hR => ?_
  cbv; unfold Ae7 at h
  iterate 2 refine kj ?_
  obtain ⟨w1, hw1, h⟩ := bd_e h; refine km hP [] (Aik hA hw1) ?_; cbv
  refine kj ?_
  obtain ⟨w2, hw2, h⟩ := bd_e h; refine km hP [(7, 1)] (Age (cap1 := [D.ptr [D.fun (Fn.func g1) [] []]]) hA (by first | exact .inl rfl | exact .inr ⟨_, rfl⟩) (fun _ _ _ hw => Aku (capc0 := []) hA (by first | exact .inl rfl | exact .inr ⟨_, rfl⟩) hq1 hw) hw2) ?_; cbv
  refine kj ?_
  refine kk h fun c3 h => ?_
  cases h; subst hR; exact ey
 ·refine PFun.walkF (fz := fun k => k == 3) hA cx_ok Tryz.func158 rfl rfl rfl fun P R hP hR => ?_
  cbv; unfold Ae7 at h
  iterate 2 refine kj ?_
  obtain ⟨w1, hw1, h⟩ := bd_e h; refine km hP [] (Aik hA hw1) ?_; cbv
  refine kj ?_
  obtain ⟨w2, hw2, h⟩ := bd_e h; refine km hP [(7, 1)] (Age (cap1 := [D.ptr [D.fun (Fn.func g1) [] [D.ptr dscap1]]]) hA (by first | exact .inl rfl | exact .inr ⟨_, rfl⟩) (fun _ _ _ hw => Aku (capc0 := [D.ptr dscap1]) hA (by first | exact .inl rfl | exact .inr ⟨_, rfl⟩) hq1 hw) hw2) ?_; cbv
  refine kj ?_
  refine kk h fun c3 h => ?_
  cases h; subst hR; exact ey
theorem Ajg {A : Ar} (hA : A = std) {x0 : List Hours} {r : Int × List Hours} (h : Ad6 A x0 = some r) : PFunM cx 250 [.d (.sl TyS.hours x0)] [] (.ms 2000 1 TyS.hours 0 r.1) [⟨2000, 1, .arr 67 TyS.hours r.2⟩] := by
 refine PFunM.walkM (fz := fun k => k == 65541 || k == 65543 || k == 65538 || k == 65538 || k == 65538) hA cx_ok Tryz.func250 rfl rfl fun P R hP hR => ?_
 cbv; unfold Ad6 at h
 iterate 2 refine kj ?_
 obtain ⟨h1, h2⟩ := A8l h
 refine ⟨fun hc => ?_, ?_⟩
 ·have h := h1 hc
  clear h1 h2
  cbv
  refine kj ?_
  cases h
  refine hR _ _ ⟨[(2, 4)], ⟨by rfl, ez, by rfl, ez⟩⟩
 ·have h := h2
  clear h1 h2
  refine kj ?_
  refine kk h fun c1 h => ?_
  cases h
  refine hR _ _ ⟨[(7, 4)], ⟨by rfl, ez, by rfl, ez⟩⟩
theorem Alg {A : Ar} (hA : A = std) {x0 : Hours} {x1 : Hours} {qc0 : Hours → Option ByteArray} {gc0 : Nat} {capc0 : List D} (hcapc0 : capOK capc0) (hqc0 : ∀ (y0 : Hours) (r : ByteArray), qc0 y0 = some r → PFun cx gc0 ((Agz y0) :: un.uns capc0) (st r)) {r : Int} (h : Af9 A x0 x1 qc0 = some r) : PFun cx 252 [Agz x0, Agz x1, .ip [.fun (.func gc0) [] capc0]] (it .i64 r) := by
 rcases hcapc0 with rfl | ⟨dscapc0, rfl⟩
 all_goals
  refine wF hA cx_ok Tryz.func252 fun P R hP hR => ?_
  cbv; unfold Af9 at h
  iterate 2 refine kj ?_
  obtain ⟨w1, hw1, h⟩ := bd_e h; refine kc hP (hqc0 _ _ hw1) ?_; cbv
  obtain ⟨w2, hw2, h⟩ := bd_e h; refine kc hP (hqc0 _ _ hw2) ?_; cbv
  obtain ⟨w3, hw3, h⟩ := bd_e h; refine kc hP (Ajc hA hw3) ?_; cbv
  refine kj ?_
  exact le h hR
theorem Acc {A : Ar} (hA : A = std) {x0 : List Hours} {n0 : Int} {x1 : Int} {x2 : Int} {q3 : Hours → Hours → Option Int} {g3 : Nat} {cap3 : List D} (hcap3 : capOK cap3) (hq3 : ∀ (y0 : Hours) (y1 : Hours) (r : Int), q3 y0 y1 = some r → PFun cx g3 ((Agz y0) :: (Agz y1) :: un.uns cap3) (it .i64 r)) {r : List Hours} (h : Aa7 A x0 n0 x1 x2 q3 = some r) : PFunM cx 345 [.ms 1000 0 TyS.hours 0 n0, it .i64 x1, it .i64 x2, .fn (.func g3) [] (un.uns cap3)] [⟨1000, 0, .arr 67 TyS.hours x0⟩] (.tu []) [⟨1000, 0, .arr 67 TyS.hours r⟩] := by
 rcases hcap3 with rfl | ⟨dscap3, rfl⟩
 all_goals
  refine PFunM.walkM (fz := fun _ => false) hA cx_ok Tryz.func345 rfl rfl fun P R hP hR => ?_
  cbv; unfold Aa7 at h
  refine kj ?_
  refine kl h (fun x _ => [(8, it .i64 x.1)]) (fun x gh => [⟨1000, 0, .arr 67 TyS.hours x.2⟩]) [] ?_
  rintro ⟨i8, row1000⟩ gh1 g1 _ _ _ hK1 hQ1 h; cbv
  refine kj ?_
  refine bc h (fun hb h => ?_) fun hb h => ?_
  ·cbv
   refine kj ?_
   refine kl h (fun x _ => [(9, it .i64 x.1)]) (fun x gh => [⟨1000, 0, .arr 67 TyS.hours x.2⟩]) [] ?_
   rintro ⟨j9, row1000'⟩ gh2 g2 _ _ _ hK2 hQ2 h; cbv
   refine kj ?_
   iterate 2 refine cj ?_
   refine kk h fun c1 h => ?_
   iterate 2 refine cj ?_
   refine kk h fun c2 h => ?_
   iterate 3 refine cj ?_
   refine kk h fun c3 h => ?_
   iterate 2 refine cj ?_
   refine kk h fun c4 h => ?_
   iterate 3 refine cj ?_
   obtain ⟨w5, hw5, h⟩ := bd_e h; refine kg hP (fun hc => (hq3 _ _ _ (gd_e hw5 hc))) ?_; cbv
   iterate 2 refine cj ?_
   refine kj ?_
   refine bc h (fun hb h => ?_) fun hb h => ?_
   ·cbv
    refine kj ?_
    refine kk h fun c6 h => ?_
    refine kk h fun c7 h => ?_
    refine kk h fun c8 h => ?_
    refine kk h fun c9 h => ?_
    refine ⟨c8, ?_⟩
    refine ⟨c9, ?_⟩
    refine ⟨c6, ?_⟩
    refine kk h fun c10 h => ?_
    iterate 2 refine kj ?_
    cases h; exact hK2 _ _ [] rfl hdy
   ·cbv
    refine hQ2 _ h _ _ fun h => ?_; cbv
    refine kj ?_
    cases h; exact hK1 _ _ [] rfl hdy
  ·cbv
   refine hQ1 _ h _ _ fun h => ?_; cbv
   cases h
   refine hR _ _ ⟨[], ⟨by rfl, ez, by rfl, ez⟩⟩
theorem Ail {A : Ar} (hA : A = std) {x0 : List Hours} {n0 : Int} {x1 : Int} {q2 : Hours → Hours → Option Int} {g2 : Nat} {cap2 : List D} (hcap2 : capOK cap2) (hq2 : ∀ (y0 : Hours) (y1 : Hours) (r : Int), q2 y0 y1 = some r → PFun cx g2 ((Agz y0) :: (Agz y1) :: un.uns cap2) (it .i64 r)) {r : List Hours} (h : Aci A x0 n0 x1 q2 = some r) : PFunM cx 309 [.ms 1000 0 TyS.hours 0 n0, it .i64 x1, .fn (.func g2) [] (un.uns cap2)] [⟨1000, 0, .arr 67 TyS.hours x0⟩] (.tu []) [⟨1000, 0, .arr 67 TyS.hours r⟩] := by
 rcases hcap2 with rfl | ⟨dscap2, rfl⟩
 ·refine PFunM.walkM (fz := fun _ => false) hA cx_ok Tryz.func309 rfl rfl fun P R hP hR => ?_
  cbv; unfold Aci at h
  iterate 2 refine kj ?_
  refine kl h (fun x _ => [(7, it .i64 x.1), (8, it .i64 x.2.1)]) (fun x gh => [⟨1000, 0, .arr 67 TyS.hours x.2.2⟩]) [] ?_
  rintro ⟨a7, b8, row1000⟩ gh1 g1 _ _ _ hK1 hQ1 h; cbv
  refine kj ?_
  refine bc h (fun hb h => ?_) fun hb h => ?_
  ·cbv
   refine kj ?_
   obtain ⟨w1, hw1, h⟩ := bd_e h; refine km hP [(1000, 0)] (Acc (cap3 := []) hA (by first | exact .inl rfl | exact .inr ⟨_, rfl⟩) hq2 hw1) ?_; cbv
   iterate 2 refine kj ?_
   cases h; exact hK1 _ _ [] rfl hdy
  ·cbv
   refine hQ1 _ h _ _ fun h => ?_; cbv
   refine kj ?_
   obtain ⟨w2, hw2, h⟩ := bd_e h; refine km hP [(1000, 0)] (Acc (cap3 := []) hA (by first | exact .inl rfl | exact .inr ⟨_, rfl⟩) hq2 hw2) ?_; cbv
   refine kl h (fun x _ => [(6, it .i64 x)]) (fun _ _ => [⟨1000, 0, Cell.arr 67 TyS.hours w2⟩]) [] ?_
   rintro blockSize6 gh2 g2 _ _ _ hK2 hQ2 h; cbv
   refine kj ?_
   refine bc h (fun hb h => ?_) fun hb h => ?_
   ·cbv
    refine kj ?_
    refine kl h (fun x _ => [(7, it .i64 x.1), (8, it .i64 x.2)]) (fun _ _ => [⟨1000, 0, Cell.arr 67 TyS.hours w2⟩]) [] ?_
    rintro ⟨a7', b8'⟩ gh3 g3 _ _ _ hK3 hQ3 h; cbv
    refine kj ?_
    refine bc h (fun hb h => ?_) fun hb h => ?_
    ·cbv
     refine kj ?_
     cases h
    ·cbv
     refine hQ3 _ h _ _ fun h => ?_; cbv
     iterate 2 refine kj ?_
     refine bc h (fun hb h => ?_) fun hb h => ?_
     ·cbv
      refine kj ?_
      cases h
     ·cbv
      refine kj ?_
      cases h; exact hK2 _ _ [] rfl hdy
   ·cbv
    refine hQ2 _ h _ _ fun h => ?_; cbv
    cases h
    refine hR _ _ ⟨[], ⟨by rfl, ez, by rfl, ez⟩⟩
 ·refine PFunM.walkM (fz := fun _ => false) hA cx_ok Tryz.func309 rfl rfl fun P R hP hR => ?_
  cbv; unfold Aci at h
  iterate 2 refine kj ?_
  refine kl h (fun x _ => [(7, it .i64 x.1), (8, it .i64 x.2.1)]) (fun x gh => [⟨1000, 0, .arr 67 TyS.hours x.2.2⟩]) [] ?_
  rintro ⟨a7, b8, row1000⟩ gh1 g1 _ _ _ hK1 hQ1 h; cbv
  refine kj ?_
  refine bc h (fun hb h => ?_) fun hb h => ?_
  ·cbv
   refine kj ?_
   obtain ⟨w1, hw1, h⟩ := bd_e h; refine km hP [(1000, 0)] (Acc (cap3 := [D.ptr dscap2]) hA (by first | exact .inl rfl | exact .inr ⟨_, rfl⟩) hq2 hw1) ?_; cbv
   iterate 2 refine kj ?_
   cases h; exact hK1 _ _ [] rfl hdy
  ·cbv
   refine hQ1 _ h _ _ fun h => ?_; cbv
   refine kj ?_
   obtain ⟨w2, hw2, h⟩ := bd_e h; refine km hP [(1000, 0)] (Acc (cap3 := [D.ptr dscap2]) hA (by first | exact .inl rfl | exact .inr ⟨_, rfl⟩) hq2 hw2) ?_; cbv
   refine kl h (fun x _ => [(6, it .i64 x)]) (fun _ _ => [⟨1000, 0, Cell.arr 67 TyS.hours w2⟩]) [] ?_
   rintro blockSize6 gh2 g2 _ _ _ hK2 hQ2 h; cbv
   refine kj ?_
   refine bc h (fun hb h => ?_) fun hb h => ?_
   ·cbv
    refine kj ?_
    refine kl h (fun x _ => [(7, it .i64 x.1), (8, it .i64 x.2)]) (fun _ _ => [⟨1000, 0, Cell.arr 67 TyS.hours w2⟩]) [] ?_
    rintro ⟨a7', b8'⟩ gh3 g3 _ _ _ hK3 hQ3 h; cbv
    refine kj ?_
    refine bc h (fun hb h => ?_) fun hb h => ?_
    ·cbv
     refine kj ?_
     cases h
    ·cbv
     refine hQ3 _ h _ _ fun h => ?_; cbv
     iterate 2 refine kj ?_
     refine bc h (fun hb h => ?_) fun hb h => ?_
     ·cbv
      refine kj ?_
      cases h
     ·cbv
      refine kj ?_
      cases h; exact hK2 _ _ [] rfl hdy
   ·cbv
    refine hQ2 _ h _ _ fun h => ?_; cbv
    cases h
    refine hR _ _ ⟨[], ⟨by rfl, ez, by rfl, ez⟩⟩
theorem Ag0 {A : Ar} (hA : A = std) {x0 : List Hours} {n0 : Int} {q1 : Hours → Hours → Option Int} {g1 : Nat} {cap1 : List D} (hcap1 : capOK cap1) (hq1 : ∀ (y0 : Hours) (y1 : Hours) (r : Int), q1 y0 y1 = some r → PFun cx g1 ((Agz y0) :: (Agz y1) :: un.uns cap1) (it .i64 r)) {r : List Hours} (h : Abr A x0 n0 q1 = some r) : PFunM cx 251 [.ms 1000 0 TyS.hours 0 n0, .fn (.func g1) [] (un.uns cap1)] [⟨1000, 0, .arr 67 TyS.hours x0⟩] (.tu []) [⟨1000, 0, .arr 67 TyS.hours r⟩] := by
 rcases hcap1 with rfl | ⟨dscap1, rfl⟩
 ·refine PFunM.walkM (fz := fun _ => false) hA cx_ok Tryz.func251 rfl rfl fun P R hP hR => ?_
  cbv; unfold Abr at h
  refine kj ?_
  obtain ⟨w1, hw1, h⟩ := bd_e h; refine km hP [(1000, 0)] (Ail (cap2 := []) hA (by first | exact .inl rfl | exact .inr ⟨_, rfl⟩) hq1 hw1) ?_; cbv
  cases h
  refine hR _ _ ⟨[], ⟨by rfl, ez, by rfl, ez⟩⟩
 ·refine PFunM.walkM (fz := fun _ => false) hA cx_ok Tryz.func251 rfl rfl fun P R hP hR => ?_
  cbv; unfold Abr at h
  refine kj ?_
  obtain ⟨w1, hw1, h⟩ := bd_e h; refine km hP [(1000, 0)] (Ail (cap2 := [D.ptr dscap1]) hA (by first | exact .inl rfl | exact .inr ⟨_, rfl⟩) hq1 hw1) ?_; cbv
  cases h
  refine hR _ _ ⟨[], ⟨by rfl, ez, by rfl, ez⟩⟩
theorem Asu {A : Ar} (hA : A = std) {x0 : List Hours} {q1 : Hours → Option ByteArray} {g1 : Nat} {cap1 : List D} (hcap1 : capOK cap1) (hq1 : ∀ (y0 : Hours) (r : ByteArray), q1 y0 = some r → PFun cx g1 ((Agz y0) :: un.uns cap1) (st r)) {r : List Hours} (h : Afp A x0 q1 = some r) : PFun cx 159 [.d (.sl TyS.hours x0), .fn (.func g1) [] (un.uns cap1)] (.d (.sl TyS.hours r)) := by
 rcases hcap1 with rfl | ⟨dscap1, rfl⟩
 ·refine PFun.walkF (fz := fun k => k == 3) hA cx_ok Tryz.func159 rfl rfl rfl fun P R hP hR => ?_
  cbv; unfold Afp at h
  iterate 2 refine kj ?_
  obtain ⟨w1, hw1, h⟩ := bd_e h; refine km hP [] (Ajg hA hw1) ?_; cbv
  refine kj ?_
  obtain ⟨w2, hw2, h⟩ := bd_e h; refine km hP [(7, 1)] (Ag0 (cap1 := [D.ptr [D.fun (Fn.func g1) [] []]]) hA (by first | exact .inl rfl | exact .inr ⟨_, rfl⟩) (fun _ _ _ hw => Alg (capc0 := []) hA (by first | exact .inl rfl | exact .inr ⟨_, rfl⟩) hq1 hw) hw2) ?_; cbv
  refine kj ?_
  refine kk h fun c3 h => ?_
  cases h; subst hR; exact ey
 ·refine PFun.walkF (fz := fun k => k == 3) hA cx_ok Tryz.func159 rfl rfl rfl fun P R hP hR => ?_
  cbv; unfold Afp at h
  iterate 2 refine kj ?_
  obtain ⟨w1, hw1, h⟩ := bd_e h; refine km hP [] (Ajg hA hw1) ?_; cbv
  refine kj ?_
  obtain ⟨w2, hw2, h⟩ := bd_e h; refine km hP [(7, 1)] (Ag0 (cap1 := [D.ptr [D.fun (Fn.func g1) [] [D.ptr dscap1]]]) hA (by first | exact .inl rfl | exact .inr ⟨_, rfl⟩) (fun _ _ _ hw => Alg (capc0 := [D.ptr dscap1]) hA (by first | exact .inl rfl | exact .inr ⟨_, rfl⟩) hq1 hw) hw2) ?_; cbv
  refine kj ?_
  refine kk h fun c3 h => ?_
  cases h; subst hR; exact ey
theorem Amf {A : Ar} (hA : A = std) {x0 : List Inhibit} {r : Int × List Inhibit} (h : Ac1 A x0 = some r) : PFunM cx 253 [.d (.sl TyS.inhibit x0)] [] (.ms 2000 1 TyS.inhibit 0 r.1) [⟨2000, 1, .arr 63 TyS.inhibit r.2⟩] := by
 refine PFunM.walkM (fz := fun k => k == 65541 || k == 65543 || k == 65538 || k == 65538 || k == 65538) hA cx_ok Tryz.func253 rfl rfl fun P R hP hR => ?_
 cbv; unfold Ac1 at h
 iterate 2 refine kj ?_
 obtain ⟨h1, h2⟩ := A8l h
 refine ⟨fun hc => ?_, ?_⟩
 ·have h := h1 hc
  clear h1 h2
  cbv
  refine kj ?_
  cases h
  refine hR _ _ ⟨[(2, 4)], ⟨by rfl, ez, by rfl, ez⟩⟩
 ·have h := h2
  clear h1 h2
  refine kj ?_
  refine kk h fun c1 h => ?_
  cases h
  refine hR _ _ ⟨[(7, 4)], ⟨by rfl, ez, by rfl, ez⟩⟩
theorem Apq {A : Ar} (hA : A = std) {x0 : Inhibit} {x1 : Inhibit} {c0 : Bool} {r : Int × Bool} (h : Aeo A x0 x1 c0 = some r) : PFunM cx 255 [Agd x0, Agd x1, .bx 1000 0 0] [⟨1000, 0, .box 125 [.fn (.func 156) [] [.bx 1001 0 0]]⟩, ⟨1001, 0, .box 4 [bl c0]⟩] (it .i64 r.1) [⟨1000, 0, .box 125 [.fn (.func 156) [] [.bx 1001 0 0]]⟩, ⟨1001, 0, .box 4 [bl r.2]⟩] := by
 refine PFunM.walkM (fz := fun _ => false) hA cx_ok Tryz.func255 rfl rfl fun P R hP hR => ?_
 cbv; unfold Aeo at h
 iterate 2 refine kj ?_
 obtain ⟨w1, hw1, h⟩ := bd_e h; refine km hP [(1001, 0)] (Ai2 hA hw1) ?_; cbv
 obtain ⟨w2, hw2, h⟩ := bd_e h; refine km hP [(1001, 0)] (Ai2 hA hw2) ?_; cbv
 obtain ⟨w3, hw3, h⟩ := bd_e h; refine kc hP (Ajc hA hw3) ?_; cbv
 refine kj ?_
 cases h
 refine hR _ _ ⟨[], ⟨by rfl, ez, by rfl, ez⟩⟩
theorem Agf {A : Ar} (hA : A = std) {x0 : List Inhibit} {n0 : Int} {x1 : Int} {x2 : Int} {c0 : Bool} {r : List Inhibit × Bool} (h : Aaz A x0 n0 x1 x2 c0 = some r) : PFunM cx 347 [.ms 1000 0 TyS.inhibit 0 n0, it .i64 x1, it .i64 x2, .fn (.func 255) [] [.bx 1001 0 0]] [⟨1000, 0, .arr 63 TyS.inhibit x0⟩, ⟨1001, 0, .box 125 [.fn (.func 156) [] [.bx 1002 0 0]]⟩, ⟨1002, 0, .box 4 [bl c0]⟩] (.tu []) [⟨1000, 0, .arr 63 TyS.inhibit r.1⟩, ⟨1001, 0, .box 125 [.fn (.func 156) [] [.bx 1002 0 0]]⟩, ⟨1002, 0, .box 4 [bl r.2]⟩] := by
 refine PFunM.walkM (fz := fun k => k == 196629) hA cx_ok Tryz.func347 rfl rfl fun P R hP hR => ?_
 cbv; unfold Aaz at h
 refine kj ?_
 refine kl h (fun x _ => [(8, it .i64 x.1)]) (fun x gh => [⟨1001, 0, .box 125 [PV.fn (Fn.func 156) [] [PV.bx 1002 0 0]]⟩, ⟨1002, 0, .box 4 [bl x.2.1]⟩, ⟨1000, 0, .arr 63 TyS.inhibit x.2.2⟩]) [] ?_
 rintro ⟨i8, b0_1002, row1000⟩ gh1 g1 _ _ _ hK1 hQ1 h; cbv
 refine kj ?_
 refine bc h (fun hb h => ?_) fun hb h => ?_
 ·cbv
  refine kj ?_
  refine kl h (fun x _ => [(9, it .i64 x.1)]) (fun x gh => [⟨1001, 0, .box 125 [PV.fn (Fn.func 156) [] [PV.bx 1002 0 0]]⟩, ⟨1002, 0, .box 4 [bl x.2.1]⟩, ⟨1000, 0, .arr 63 TyS.inhibit x.2.2⟩]) [] ?_
  rintro ⟨j9, b0_1002', row1000'⟩ gh2 g2 _ _ _ hK2 hQ2 h; cbv
  refine kj ?_
  obtain ⟨hb, h⟩ | ⟨hb, h⟩ := br_e h
  ·refine selT hb ?_
   cbv
   refine kk h fun c1 h => ?_
   refine kk h fun c2 h => ?_
   refine kk h fun c3 h => ?_
   refine kk h fun c4 h => ?_
   obtain ⟨w5, hw5, h⟩ := bd_e h; refine km hP [(1001, 0), (1002, 0)] (Apq hA hw5) ?_; cbv
   refine kj ?_
   refine bc h (fun hb h => ?_) fun hb h => ?_
   ·cbv
    refine kj ?_
    refine ⟨c3, ?_⟩
    refine ⟨c4, ?_⟩
    refine ⟨c1, ?_⟩
    refine ⟨c2, ?_⟩
    refine ⟨c1, ?_⟩
    refine ⟨c2, ?_⟩
    refine ⟨c3, ?_⟩
    refine kk h fun c6 h => ?_
    iterate 2 refine kj ?_
    cases h; exact hK2 _ _ [] rfl hdy
   ·cbv
    refine hQ2 _ h _ _ fun h => ?_; cbv
    refine kj ?_
    cases h; exact hK1 _ _ [] rfl hdy
  ·refine selF hb ?_
   cbv
   refine kj ?_
   refine bc h (fun hb h => ?_) fun hb h => ?_
   ·cbv
    refine kj ?_
    refine kk h fun c7 h => ?_
    refine kk h fun c8 h => ?_
    refine kk h fun c9 h => ?_
    refine kk h fun c10 h => ?_
    refine ⟨c9, ?_⟩
    refine ⟨c10, ?_⟩
    refine ⟨c7, ?_⟩
    refine kk h fun c11 h => ?_
    iterate 2 refine kj ?_
    cases h; exact hK2 _ _ [] rfl hdy
   ·cbv
    refine hQ2 _ h _ _ fun h => ?_; cbv
    refine kj ?_
    cases h; exact hK1 _ _ [] rfl hdy
 ·cbv
  refine hQ1 _ h _ _ fun h => ?_; cbv
  cases h
  refine hR _ _ ⟨[], ⟨by rfl, ez, by rfl, ez⟩⟩
theorem Amg {A : Ar} (hA : A = std) {x0 : List Inhibit} {n0 : Int} {x1 : Int} {c0 : Bool} {r : List Inhibit × Bool} (h : Ac2 A x0 n0 x1 c0 = some r) : PFunM cx 310 [.ms 1000 0 TyS.inhibit 0 n0, it .i64 x1, .fn (.func 255) [] [.bx 1001 0 0]] [⟨1000, 0, .arr 63 TyS.inhibit x0⟩, ⟨1001, 0, .box 125 [.fn (.func 156) [] [.bx 1002 0 0]]⟩, ⟨1002, 0, .box 4 [bl c0]⟩] (.tu []) [⟨1000, 0, .arr 63 TyS.inhibit r.1⟩, ⟨1001, 0, .box 125 [.fn (.func 156) [] [.bx 1002 0 0]]⟩, ⟨1002, 0, .box 4 [bl r.2]⟩] := by
 refine PFunM.walkM (fz := fun _ => false) hA cx_ok Tryz.func310 rfl rfl fun P R hP hR => ?_
 cbv; unfold Ac2 at h
 iterate 2 refine kj ?_
 refine kl h (fun x _ => [(7, it .i64 x.1), (8, it .i64 x.2.1)]) (fun x gh => [⟨1001, 0, .box 125 [PV.fn (Fn.func 156) [] [PV.bx 1002 0 0]]⟩, ⟨1002, 0, .box 4 [bl x.2.2.1]⟩, ⟨1000, 0, .arr 63 TyS.inhibit x.2.2.2⟩]) [] ?_
 rintro ⟨a7, b8, b0_1002, row1000⟩ gh1 g1 _ _ _ hK1 hQ1 h; cbv
 refine kj ?_
 refine bc h (fun hb h => ?_) fun hb h => ?_
 ·cbv
  refine kj ?_
  obtain ⟨w1, hw1, h⟩ := bd_e h; refine km hP [(1000, 0), (1001, 0), (1002, 0)] (Agf hA hw1) ?_; cbv
  iterate 2 refine kj ?_
  cases h; exact hK1 _ _ [] rfl hdy
 ·cbv
  refine hQ1 _ h _ _ fun h => ?_; cbv
  refine kj ?_
  obtain ⟨w2, hw2, h⟩ := bd_e h; refine km hP [(1000, 0), (1001, 0), (1002, 0)] (Agf hA hw2) ?_; cbv
  refine kl h (fun x _ => [(6, it .i64 x)]) (fun x gh => [⟨1001, 0, .box 125 [PV.fn (Fn.func 156) [] [PV.bx 1002 0 0]]⟩, ⟨1002, 0, .box 4 [bl w2.2]⟩, ⟨1000, 0, Cell.arr 63 TyS.inhibit w2.1⟩]) [] ?_
  rintro blockSize6 gh2 g2 _ _ _ hK2 hQ2 h; cbv
  refine kj ?_
  refine bc h (fun hb h => ?_) fun hb h => ?_
  ·cbv
   refine kj ?_
   refine kl h (fun x _ => [(7, it .i64 x.1), (8, it .i64 x.2)]) (fun x gh => [⟨1001, 0, .box 125 [PV.fn (Fn.func 156) [] [PV.bx 1002 0 0]]⟩, ⟨1002, 0, .box 4 [bl w2.2]⟩, ⟨1000, 0, Cell.arr 63 TyS.inhibit w2.1⟩]) [] ?_
   rintro ⟨a7', b8'⟩ gh3 g3 _ _ _ hK3 hQ3 h; cbv
   refine kj ?_
   refine bc h (fun hb h => ?_) fun hb h => ?_
   ·cbv
    refine kj ?_
    cases h
   ·cbv
    refine hQ3 _ h _ _ fun h => ?_; cbv
    iterate 2 refine kj ?_
    refine bc h (fun hb h => ?_) fun hb h => ?_
    ·cbv
     refine kj ?_
     cases h
    ·cbv
     refine kj ?_
     cases h; exact hK2 _ _ [] rfl hdy
  ·cbv
   refine hQ2 _ h _ _ fun h => ?_; cbv
   cases h
   refine hR _ _ ⟨[], ⟨by rfl, ez, by rfl, ez⟩⟩
theorem Ajd {A : Ar} (hA : A = std) {x0 : List Inhibit} {n0 : Int} {c0 : Bool} {r : List Inhibit × Bool} (h : Ab4 A x0 n0 c0 = some r) : PFunM cx 254 [.ms 1000 0 TyS.inhibit 0 n0, .fn (.func 255) [] [.bx 1001 0 0]] [⟨1000, 0, .arr 63 TyS.inhibit x0⟩, ⟨1001, 0, .box 125 [.fn (.func 156) [] [.bx 1002 0 0]]⟩, ⟨1002, 0, .box 4 [bl c0]⟩] (.tu []) [⟨1000, 0, .arr 63 TyS.inhibit r.1⟩, ⟨1001, 0, .box 125 [.fn (.func 156) [] [.bx 1002 0 0]]⟩, ⟨1002, 0, .box 4 [bl r.2]⟩] := by
 refine PFunM.walkM (fz := fun _ => false) hA cx_ok Tryz.func254 rfl rfl fun P R hP hR => ?_
 cbv; unfold Ab4 at h
 refine kj ?_
 obtain ⟨w1, hw1, h⟩ := bd_e h; refine km hP [(1000, 0), (1001, 0), (1002, 0)] (Amg hA hw1) ?_; cbv
 cases h
 refine hR _ _ ⟨[], ⟨by rfl, ez, by rfl, ez⟩⟩
theorem Aqz {A : Ar} (hA : A = std) {x0 : List Inhibit} {c0 : Bool} {r : Int × List Inhibit × Bool} (h : Aga A x0 c0 = some r) : PFunM cx 161 [.d (.sl TyS.inhibit x0), .fn (.func 156) [] [.bx 1000 0 0]] [⟨1000, 0, .box 4 [bl c0]⟩] (.ms 2000 1 TyS.inhibit 0 r.1) [⟨1000, 0, .box 4 [bl r.2.2]⟩, ⟨2000, 1, .arr 63 TyS.inhibit r.2.1⟩] := by
 refine PFunM.walkM (fz := fun _ => false) hA cx_ok Tryz.func161 rfl rfl fun P R hP hR => ?_
 cbv; unfold Aga at h
 iterate 2 refine kj ?_
 obtain ⟨w1, hw1, h⟩ := bd_e h; refine km hP [] (Amf hA hw1) ?_; cbv
 refine kj ?_
 obtain ⟨w2, hw2, h⟩ := bd_e h; refine km hP [(7, 3), (3, 2), (1000, 0)] (Ajd hA hw2) ?_; cbv
 refine kj ?_
 cases h
 refine hR _ _ ⟨[(7, 3)], ⟨by rfl, ez, by rfl, ez⟩⟩
theorem Ap5 {A : Ar} (hA : A = std) {x0 : Inhibit} {x1 : Inhibit} {c0 : Bool} {r : Bool × Bool} (h : Ah2 A x0 x1 c0 = some r) : PFunM cx 162 [Agd x0, Agd x1, .bx 1000 0 0] [⟨1000, 0, .box 125 [.fn (.func 156) [] [.bx 1001 0 0]]⟩, ⟨1001, 0, .box 4 [bl c0]⟩] (bl r.1) [⟨1000, 0, .box 125 [.fn (.func 156) [] [.bx 1001 0 0]]⟩, ⟨1001, 0, .box 4 [bl r.2]⟩] := by
 refine PFunM.walkM (fz := fun _ => false) hA cx_ok Tryz.func162 rfl rfl fun P R hP hR => ?_
 cbv; unfold Ah2 at h
 iterate 2 refine kj ?_
 obtain ⟨w1, hw1, h⟩ := bd_e h; refine km hP [(1001, 0)] (Ai2 hA hw1) ?_; cbv
 obtain ⟨w2, hw2, h⟩ := bd_e h; refine km hP [(1001, 0)] (Ai2 hA hw2) ?_; cbv
 refine kj ?_
 cases h
 refine hR _ _ ⟨[], ⟨by rfl, ez, by rfl, ez⟩⟩
theorem Akq {A : Ar} (hA : A = std) {x0 : List Inhibit} {n0 : Int} {c0 : Bool} {r : Int × Int × List Inhibit × Bool} (h : Abo A x0 n0 c0 = some r) : PFunM cx 160 [.ms 1000 0 TyS.inhibit 0 n0, .fn (.func 162) [] [.bx 1001 0 0]] [⟨1000, 0, .arr 63 TyS.inhibit x0⟩, ⟨1001, 0, .box 125 [.fn (.func 156) [] [.bx 1002 0 0]]⟩, ⟨1002, 0, .box 4 [bl c0]⟩] (.ms 1000 0 TyS.inhibit r.1 r.2.1) [⟨1000, 0, .arr 63 TyS.inhibit r.2.2.1⟩, ⟨1001, 0, .box 125 [.fn (.func 156) [] [.bx 1002 0 0]]⟩, ⟨1002, 0, .box 4 [bl r.2.2.2]⟩] := by
 refine PFunM.walkM (fz := fun _ => false) hA cx_ok Tryz.func160 rfl rfl fun P R hP hR => ?_
 cbv; unfold Abo at h
 iterate 2 refine kj ?_
 refine bc h (fun hb h => ?_) fun hb h => ?_
 ·cbv
  refine kj ?_
  cases h
  refine hR _ _ ⟨[], ⟨by rfl, ez, by rfl, ez⟩⟩
 ·cbv
  refine kj ?_
  refine kl h (fun x _ => [(5, it .i64 x.1)]) (fun x gh => [⟨1001, 0, .box 125 [PV.fn (Fn.func 156) [] [PV.bx 1002 0 0]]⟩, ⟨1002, 0, .box 4 [bl x.2]⟩, ⟨1000, 0, Cell.arr 63 TyS.inhibit x0⟩]) [] ?_
  rintro ⟨t5, b0_1002⟩ gh1 g1 _ _ _ hK1 hQ1 h; cbv
  refine kj ?_
  refine bc h (fun hb h => ?_) fun hb h => ?_
  ·cbv
   refine kj ?_
   refine kk h fun c1 h => ?_
   refine kk h fun c2 h => ?_
   refine kk h fun c3 h => ?_
   refine kk h fun c4 h => ?_
   obtain ⟨w5, hw5, h⟩ := bd_e h; refine km hP [(1001, 0), (1002, 0)] (Ap5 hA hw5) ?_; cbv
   refine kj ?_
   refine bc h (fun hb h => ?_) fun hb h => ?_
   ·cbv
    refine kj ?_
    refine kk h fun c6 h => ?_
    refine kj ?_
    refine kl h (fun x _ => [(5, it .i64 x.1), (7, it .i64 x.2.1)]) (fun x gh => [⟨1001, 0, .box 125 [PV.fn (Fn.func 156) [] [PV.bx 1002 0 0]]⟩, ⟨1002, 0, .box 4 [bl x.2.2.1]⟩, ⟨1000, 0, .arr 63 TyS.inhibit x.2.2.2⟩]) [] ?_
    rintro ⟨t5', t7, b0_1002', row1000⟩ gh2 g2 _ _ _ hK2 hQ2 h; cbv
    refine kj ?_
    refine bc h (fun hb h => ?_) fun hb h => ?_
    ·cbv
     refine kj ?_
     refine kk h fun c7 h => ?_
     refine kk h fun c8 h => ?_
     refine kk h fun c9 h => ?_
     refine kk h fun c10 h => ?_
     obtain ⟨w11, hw11, h⟩ := bd_e h; refine km hP [(1001, 0), (1002, 0)] (Ap5 hA hw11) ?_; cbv
     refine kj ?_
     refine bc h (fun hb h => ?_) fun hb h => ?_
     ·cbv
      refine kj ?_
      refine ⟨c7, ?_⟩
      refine ⟨c8, ?_⟩
      refine kk h fun c12 h => ?_
      refine kk h fun c13 h => ?_
      iterate 2 refine kj ?_
      cases h; exact hK2 _ _ [] rfl hdy
     ·cbv
      refine kj ?_
      cases h; exact hK2 _ _ [] rfl hdy
    ·cbv
     refine hQ2 _ h _ _ fun h => ?_; cbv
     refine kj ?_
     refine kk h fun c14 h => ?_
     refine kk h fun c15 h => ?_
     refine kj ?_
     refine kk h fun c16 h => ?_
     refine hQ1 _ h _ _ fun h => ?_; cbv
     cases h
     refine hR _ _ ⟨[], ⟨by rfl, ez, by rfl, ez⟩⟩
   ·cbv
    refine kj ?_
    cases h; exact hK1 _ _ [] rfl hdy
  ·cbv
   refine hQ1 _ h _ _ fun h => ?_; cbv
   refine kj ?_
   cases h
   refine hR _ _ ⟨[], ⟨by rfl, ez, by rfl, ez⟩⟩
theorem Axr {A : Ar} (hA : A = std) {x0 : Config} {r : Config × Int} (h : Ajy A x0 = some r) : PFun cx 68 [Ahk x0] (.tu [Ahk r.1, it .i64 r.2]) := by
 refine wF hA cx_ok Tryz.func68 fun P R hP hR => ?_
 cbv; unfold Ajy at h
 iterate 2 refine kj ?_
 obtain ⟨w1, hw1, h⟩ := bd_e h; refine kc hP (As2 hA hw1) ?_; cbv
 refine bc h (fun hb h => ?_) fun hb h => ?_
 ·cbv
  refine kj ?_
  cases h; subst hR; exact ey
 ·cbv
  iterate 3 refine kj ?_
  obtain ⟨w2, hw2, h⟩ := bd_e h; refine ke hP (As4 (cap1 := []) hA (by first | exact .inl rfl | exact .inr ⟨_, rfl⟩) (fun _ _ hw => Asz hA hw) hw2) ?_; cbv
  obtain ⟨w3, hw3, h⟩ := bd_e h; refine ke hP (Arn (cap1 := []) hA (by first | exact .inl rfl | exact .inr ⟨_, rfl⟩) (fun _ _ hw => Ar7 hA hw) hw3) ?_; cbv
  obtain ⟨w4, hw4, h⟩ := bd_e h; refine ke hP (Asu (cap1 := []) hA (by first | exact .inl rfl | exact .inr ⟨_, rfl⟩) (fun _ _ hw => Ar8 hA hw) hw4) ?_; cbv
  iterate 2 refine kj ?_
  obtain ⟨w5, hw5, h⟩ := bd_e h; refine km hP [(4, 2)] (Aqz hA hw5) ?_; cbv
  obtain ⟨w6, hw6, h⟩ := bd_e h; refine km hP [(26, 5), (5, 3), (4, 2)] (Akq hA hw6) ?_; cbv
  refine kj ?_
  refine kk h fun c7 h => ?_
  cases h; subst hR; exact ey
theorem A0f {A : Ar} (hA : A = std) {r : List ByteArray} (h : Apc A = some r) : PFun cx 201 [] (.d (.sl TyS.str r)) := by
 refine wF hA cx_ok Tryz.func201 fun P R hP hR => ?_
 cbv; unfold Apc at h
 iterate 2 refine kj ?_
 cases h; subst hR; exact ey
theorem Asa {A : Ar} (hA : A = std) {r : List ByteArray} (h : Ajz A = some r) : PFun cx 275 [] (.d (.sl TyS.str r)) := by
 refine wF hA cx_ok Tryz.func275 fun P R hP hR => ?_
 cbv; unfold Ajz at h
 iterate 2 refine kj ?_
 cases h; subst hR; exact ey
theorem Acd {A : Ar} (hA : A = std) {x0 : ByteArray} {r : Node} (h : Abq A x0 = some r) : PFun cx 204 [st x0] (Ac8 r) := by
 refine wF hA cx_ok Tryz.func204 fun P R hP hR => ?_
 cbv; unfold Abq at h
 iterate 2 refine kj ?_
 exact le h hR
theorem Ahd {A : Ar} (hA : A = std) {x0 : List Matcher} {q1 : Matcher → Option Node} {g1 : Nat} (hq1 : ∀ (y0 : Matcher) (r : Node), q1 y0 = some r → PFun cx g1 ((Ah4 y0) :: []) (Ac8 r)) {r : Node} (h : Aep A x0 q1 = some r) : PFun cx 276 [.d (.sl TyS.matcher x0), .fn (.func g1) [] []] (Ac8 r) := by
 refine wF hA cx_ok Tryz.func276 fun P R hP hR => ?_
 cbv; unfold Aep at h
 iterate 3 refine kj ?_
 refine kl h (fun x _ => [(11, it .i64 x.1)]) (fun x gh => [⟨4031, gh, .tok 135 TyS.node (A.nlen TyS.node x.2)⟩, ⟨5, 1, .box 135 [it .i64 2, PV.d (D.v (Value.string (ByteArray.mk (Array.mk [])))), PV.d (D.v (Value.slice none 0 0)), .os 4031 gh TyS.node x.2]⟩, ⟨4, 0, .box 135 [it .i64 0, PV.d (D.v (Value.string (ByteArray.mk (Array.mk [])))), PV.d (D.v (Value.slice none 0 0)), PV.d (D.v (Value.slice none 0 0))]⟩]) [] ?_
 rintro ⟨t11, b3_5⟩ gh1 g1 _ _ _ hK1 hQ1 h; cbv
 refine kj ?_
 refine bc h (fun hb h => ?_) fun hb h => ?_
 ·cbv
  refine kj ?_
  refine kk h fun c1 h => ?_
  refine kj ?_
  obtain ⟨w2, hw2, h⟩ := bd_e h; refine kc hP (hq1 _ _ hw2) ?_; cbv
  refine kk h fun c3 h => ?_
  iterate 2 refine kj ?_
  cases h; exact hK1 _ _ [(4031, 21, g1.succ.succ)] rfl hdy
 ·cbv
  refine hQ1 _ h _ _ fun h => ?_; cbv
  refine kj ?_
  exact le h hR
theorem Alx {A : Ar} (hA : A = std) {x0 : Matcher} {r : Node} (h : Ag1 A x0 = some r) : PFun cx 277 [Ah4 x0] (Ac8 r) := by
 refine wF hA cx_ok Tryz.func277 fun P R hP hR => ?_
 cbv; unfold Ag1 at h
 iterate 2 refine kj ?_
 obtain ⟨w1, hw1, h⟩ := bd_e h; refine kc hP (Aoy hA hw1) ?_; cbv
 refine kj ?_
 obtain ⟨w2, hw2, h⟩ := bd_e h; refine kc hP (Acd hA hw2) ?_; cbv
 exact le h hR
theorem Ae4 {A : Ar} (hA : A = std) {x0 : List ByteArray} {q1 : ByteArray → Option Node} {g1 : Nat} (hq1 : ∀ (y0 : ByteArray) (r : Node), q1 y0 = some r → PFun cx g1 ((st y0) :: []) (Ac8 r)) {r : Node} (h : Adi A x0 q1 = some r) : PFun cx 203 [.d (.sl TyS.str x0), .fn (.func g1) [] []] (Ac8 r) := by
 refine wF hA cx_ok Tryz.func203 fun P R hP hR => ?_
 cbv; unfold Adi at h
 iterate 3 refine kj ?_
 refine kl h (fun x _ => [(11, it .i64 x.1)]) (fun x gh => [⟨4031, gh, .tok 135 TyS.node (A.nlen TyS.node x.2)⟩, ⟨5, 1, .box 135 [it .i64 2, PV.d (D.v (Value.string (ByteArray.mk (Array.mk [])))), PV.d (D.v (Value.slice none 0 0)), .os 4031 gh TyS.node x.2]⟩, ⟨4, 0, .box 135 [it .i64 0, PV.d (D.v (Value.string (ByteArray.mk (Array.mk [])))), PV.d (D.v (Value.slice none 0 0)), PV.d (D.v (Value.slice none 0 0))]⟩]) [] ?_
 rintro ⟨t11, b3_5⟩ gh1 g1 _ _ _ hK1 hQ1 h; cbv
 refine kj ?_
 refine bc h (fun hb h => ?_) fun hb h => ?_
 ·cbv
  refine kj ?_
  refine kk h fun c1 h => ?_
  refine kj ?_
  obtain ⟨w2, hw2, h⟩ := bd_e h; refine kc hP (hq1 _ _ hw2) ?_; cbv
  refine kk h fun c3 h => ?_
  iterate 2 refine kj ?_
  cases h; exact hK1 _ _ [(4031, 21, g1.succ.succ)] rfl hdy
 ·cbv
  refine hQ1 _ h _ _ fun h => ?_; cbv
  refine kj ?_
  exact le h hR
theorem Ahc {A : Ar} (hA : A = std) {x0 : Int} {r : Node} (h : Afw A x0 = some r) : PFun cx 278 [it .i64 x0] (Ac8 r) := by
 refine wF hA cx_ok Tryz.func278 fun P R hP hR => ?_
 cbv; unfold Afw at h
 iterate 2 refine kj ?_
 obtain ⟨w1, hw1, h⟩ := bd_e h; refine kc hP (Ag4 hA hw1) ?_; cbv
 obtain ⟨w2, hw2, h⟩ := bd_e h; refine kc hP (Acd hA hw2) ?_; cbv
 exact le h hR
theorem Ao3 {A : Ar} (hA : A = std) {x0 : List Route} {q1 : Route → Option Node} {g1 : Nat} (hq1 : ∀ (y0 : Route) (r : Node), q1 y0 = some r → PFun cx g1 ((Aau y0) :: []) (Ac8 r)) {r : Node} (h : Aiq A x0 q1 = some r) : PFun cx 279 [.d (.sl TyS.route x0), .fn (.func g1) [] []] (Ac8 r) := by
 refine wF hA cx_ok Tryz.func279 fun P R hP hR => ?_
 cbv; unfold Aiq at h
 iterate 3 refine kj ?_
 refine kl h (fun x _ => [(11, it .i64 x.1)]) (fun x gh => [⟨4031, gh, .tok 135 TyS.node (A.nlen TyS.node x.2)⟩, ⟨5, 1, .box 135 [it .i64 2, PV.d (D.v (Value.string (ByteArray.mk (Array.mk [])))), PV.d (D.v (Value.slice none 0 0)), .os 4031 gh TyS.node x.2]⟩, ⟨4, 0, .box 135 [it .i64 0, PV.d (D.v (Value.string (ByteArray.mk (Array.mk [])))), PV.d (D.v (Value.slice none 0 0)), PV.d (D.v (Value.slice none 0 0))]⟩]) [] ?_
 rintro ⟨t11, b3_5⟩ gh1 g1 _ _ _ hK1 hQ1 h; cbv
 refine kj ?_
 refine bc h (fun hb h => ?_) fun hb h => ?_
 ·cbv
  refine kj ?_
  refine kk h fun c1 h => ?_
  refine kj ?_
  obtain ⟨w2, hw2, h⟩ := bd_e h; refine kc hP (hq1 _ _ hw2) ?_; cbv
  refine kk h fun c3 h => ?_
  iterate 2 refine kj ?_
  cases h; exact hK1 _ _ [(4031, 21, g1.succ.succ)] rfl hdy
 ·cbv
  refine hQ1 _ h _ _ fun h => ?_; cbv
  refine kj ?_
  exact le h hR
theorem Ajh {A : Ar} (hA : A = std) {x0 : List ByteArray} {x1 : List Node} {r : Node} (h : Agb A x0 x1 = some r) : PFun cx 200 [.d (.sl TyS.str x0), .d (.sl TyS.node x1)] (Ac8 r) := by
 refine wF hA cx_ok Tryz.func200 fun P R hP hR => ?_
 cbv; unfold Agb at h
 iterate 2 refine kj ?_
 exact le h hR
theorem Awd {A : Ar} (hA : A = std) {rf : Route → Option Node} {x0 : Route} (hqr202 : ∀ (x0 : Route) (r : Node), rf x0 = some r → PFun cx 202 [Aau x0] (Ac8 r)) {r : Node} (h : Am1 A rf x0 = some r) : PFun cx 202 [Aau x0] (Ac8 r) := by
 refine wF hA cx_ok Tryz.func202 fun P R hP hR => ?_
 cbv; unfold Am1 at h
 iterate 3 refine kj ?_
 refine bc h (fun hb h => ?_) fun hb h => ?_
 ·cbv
  iterate 2 refine kj ?_
  obtain ⟨w1, hw1, h⟩ := bd_e h; refine kc hP (Asa hA hw1) ?_; cbv
  obtain ⟨w2, hw2, h⟩ := bd_e h; refine kc hP (Acd hA hw2) ?_; cbv
  obtain ⟨w3, hw3, h⟩ := bd_e h; refine ke hP (Ahd hA (fun _ _ hw => Alx hA hw) hw3) ?_; cbv
  obtain ⟨w4, hw4, h⟩ := bd_e h; refine ke hP (Ae4 hA (fun _ _ hw => Acd hA hw) hw4) ?_; cbv
  obtain ⟨w5, hw5, h⟩ := bd_e h; refine kc hP (Ahc hA hw5) ?_; cbv
  obtain ⟨w6, hw6, h⟩ := bd_e h; refine kc hP (Ahc hA hw6) ?_; cbv
  obtain ⟨w7, hw7, h⟩ := bd_e h; refine kc hP (Ahc hA hw7) ?_; cbv
  obtain ⟨w8, hw8, h⟩ := bd_e h; refine ke hP (Ae4 hA (fun _ _ hw => Acd hA hw) hw8) ?_; cbv
  obtain ⟨w9, hw9, h⟩ := bd_e h; refine kc hP (Acd hA hw9) ?_; cbv
  obtain ⟨w10, hw10, h⟩ := bd_e h; refine ke hP (Ao3 hA hqr202 hw10) ?_; cbv
  obtain ⟨w11, hw11, h⟩ := bd_e h; refine kc hP (Ajh hA hw11) ?_; cbv
  refine kj ?_
  exact le h hR
 ·cbv
  refine kj ?_
  obtain ⟨w12, hw12, h⟩ := bd_e h; refine kc hP (Asa hA hw12) ?_; cbv
  obtain ⟨w13, hw13, h⟩ := bd_e h; refine kc hP (Acd hA hw13) ?_; cbv
  obtain ⟨w14, hw14, h⟩ := bd_e h; refine ke hP (Ahd hA (fun _ _ hw => Alx hA hw) hw14) ?_; cbv
  obtain ⟨w15, hw15, h⟩ := bd_e h; refine ke hP (Ae4 hA (fun _ _ hw => Acd hA hw) hw15) ?_; cbv
  obtain ⟨w16, hw16, h⟩ := bd_e h; refine kc hP (Ahc hA hw16) ?_; cbv
  obtain ⟨w17, hw17, h⟩ := bd_e h; refine kc hP (Ahc hA hw17) ?_; cbv
  obtain ⟨w18, hw18, h⟩ := bd_e h; refine kc hP (Ahc hA hw18) ?_; cbv
  obtain ⟨w19, hw19, h⟩ := bd_e h; refine ke hP (Ae4 hA (fun _ _ hw => Acd hA hw) hw19) ?_; cbv
  obtain ⟨w20, hw20, h⟩ := bd_e h; refine kc hP (Acd hA hw20) ?_; cbv
  obtain ⟨w21, hw21, h⟩ := bd_e h; refine ke hP (Ao3 hA hqr202 hw21) ?_; cbv
  obtain ⟨w22, hw22, h⟩ := bd_e h; refine kc hP (Ajh hA hw22) ?_; cbv
  refine kj ?_
  exact le h hR
theorem Aq0 {A : Ar} (hA : A = std) : ∀ (n : Nat) (x0 : Route) (r : Node), Aht A n x0 = some r → PFun cx 202 [Aau x0] (Ac8 r)
 | 0, _, _, h => by cases h
 | n + 1, x0, r, h => Awd hA (fun _ _ hh => Aq0 hA n _ _ hh) h
theorem Ayl {A : Ar} (hA : A = std) {x0 : Route} {r : Node} (h : As9 A x0 = some r) : PFun cx 202 [Aau x0] (Ac8 r) := Aq0 hA _ _ _ h
theorem As5 {A : Ar} (hA : A = std) {x0 : List Inhibit} {q1 : Inhibit → Option Node} {g1 : Nat} (hq1 : ∀ (y0 : Inhibit) (r : Node), q1 y0 = some r → PFun cx g1 ((Agd y0) :: []) (Ac8 r)) {r : Node} (h : Ai9 A x0 q1 = some r) : PFun cx 205 [.d (.sl TyS.inhibit x0), .fn (.func g1) [] []] (Ac8 r) := by
 refine wF hA cx_ok Tryz.func205 fun P R hP hR => ?_
 cbv; unfold Ai9 at h
 iterate 3 refine kj ?_
 refine kl h (fun x _ => [(11, it .i64 x.1)]) (fun x gh => [⟨4031, gh, .tok 135 TyS.node (A.nlen TyS.node x.2)⟩, ⟨5, 1, .box 135 [it .i64 2, PV.d (D.v (Value.string (ByteArray.mk (Array.mk [])))), PV.d (D.v (Value.slice none 0 0)), .os 4031 gh TyS.node x.2]⟩, ⟨4, 0, .box 135 [it .i64 0, PV.d (D.v (Value.string (ByteArray.mk (Array.mk [])))), PV.d (D.v (Value.slice none 0 0)), PV.d (D.v (Value.slice none 0 0))]⟩]) [] ?_
 rintro ⟨t11, b3_5⟩ gh1 g1 _ _ _ hK1 hQ1 h; cbv
 refine kj ?_
 refine bc h (fun hb h => ?_) fun hb h => ?_
 ·cbv
  refine kj ?_
  refine kk h fun c1 h => ?_
  refine kj ?_
  obtain ⟨w2, hw2, h⟩ := bd_e h; refine kc hP (hq1 _ _ hw2) ?_; cbv
  refine kk h fun c3 h => ?_
  iterate 2 refine kj ?_
  cases h; exact hK1 _ _ [(4031, 21, g1.succ.succ)] rfl hdy
 ·cbv
  refine hQ1 _ h _ _ fun h => ?_; cbv
  refine kj ?_
  exact le h hR
theorem Aym {A : Ar} (hA : A = std) {x0 : Inhibit} {r : Node} (h : Ajn A x0 = some r) : PFun cx 206 [Agd x0] (Ac8 r) := by
 refine wF hA cx_ok Tryz.func206 fun P R hP hR => ?_
 cbv; unfold Ajn at h
 iterate 2 refine kj ?_
 obtain ⟨w1, hw1, h⟩ := bd_e h; refine ke hP (Ahd hA (fun _ _ hw => Alx hA hw) hw1) ?_; cbv
 obtain ⟨w2, hw2, h⟩ := bd_e h; refine ke hP (Ahd hA (fun _ _ hw => Alx hA hw) hw2) ?_; cbv
 obtain ⟨w3, hw3, h⟩ := bd_e h; refine ke hP (Ae4 hA (fun _ _ hw => Acd hA hw) hw3) ?_; cbv
 obtain ⟨w4, hw4, h⟩ := bd_e h; refine kc hP (Ajh hA hw4) ?_; cbv
 refine kj ?_
 exact le h hR
theorem Aun {A : Ar} (hA : A = std) {x0 : List Hours} {q1 : Hours → Option Node} {g1 : Nat} (hq1 : ∀ (y0 : Hours) (r : Node), q1 y0 = some r → PFun cx g1 ((Agz y0) :: []) (Ac8 r)) {r : Node} (h : Ak3 A x0 q1 = some r) : PFun cx 207 [.d (.sl TyS.hours x0), .fn (.func g1) [] []] (Ac8 r) := by
 refine wF hA cx_ok Tryz.func207 fun P R hP hR => ?_
 cbv; unfold Ak3 at h
 iterate 3 refine kj ?_
 refine kl h (fun x _ => [(11, it .i64 x.1)]) (fun x gh => [⟨4031, gh, .tok 135 TyS.node (A.nlen TyS.node x.2)⟩, ⟨5, 1, .box 135 [it .i64 2, PV.d (D.v (Value.string (ByteArray.mk (Array.mk [])))), PV.d (D.v (Value.slice none 0 0)), .os 4031 gh TyS.node x.2]⟩, ⟨4, 0, .box 135 [it .i64 0, PV.d (D.v (Value.string (ByteArray.mk (Array.mk [])))), PV.d (D.v (Value.slice none 0 0)), PV.d (D.v (Value.slice none 0 0))]⟩]) [] ?_
 rintro ⟨t11, b3_5⟩ gh1 g1 _ _ _ hK1 hQ1 h; cbv
 refine kj ?_
 refine bc h (fun hb h => ?_) fun hb h => ?_
 ·cbv
  refine kj ?_
  refine kk h fun c1 h => ?_
  refine kj ?_
  obtain ⟨w2, hw2, h⟩ := bd_e h; refine kc hP (hq1 _ _ hw2) ?_; cbv
  refine kk h fun c3 h => ?_
  iterate 2 refine kj ?_
  cases h; exact hK1 _ _ [(4031, 21, g1.succ.succ)] rfl hdy
 ·cbv
  refine hQ1 _ h _ _ fun h => ?_; cbv
  refine kj ?_
  exact le h hR
theorem Aw0 {A : Ar} (hA : A = std) {x0 : Int} {r : ByteArray} (h : Ano A x0 = some r) : PFun cx 290 [it .i64 x0] (st r) := by
 refine wF hA cx_ok Tryz.func290 fun P R hP hR => ?_
 cbv; unfold Ano at h
 iterate 2 refine kj ?_
 iterate 2 (refine ⟨by subst hA; simp +contextual [vcm], ?_⟩)
 refine and_assoc.2 ?_
 refine kk h fun c1 h => ?_
 refine and_assoc.2 ?_
 refine kk h fun c2 h => ?_
 refine cj ?_
 exact le h hR
theorem At6 {A : Ar} (hA : A = std) {x0 : Int} {r : ByteArray} (h : Ahu A x0 = some r) : PFun cx 218 [it .i64 x0] (st r) := by
 refine wF hA cx_ok Tryz.func218 fun P R hP hR => ?_
 cbv; unfold Ahu at h
 iterate 2 refine kj ?_
 refine ⟨by subst hA; simp +contextual [vcm], ?_⟩
 obtain ⟨w1, hw1, h⟩ := bd_e h; refine kc hP (Aw0 hA hw1) ?_; cbv
 refine kk h fun c2 h => ?_
 refine ⟨by subst hA; simp +contextual [vcm], ?_⟩
 obtain ⟨w3, hw3, h⟩ := bd_e h; refine kc hP (Aw0 hA hw3) ?_; cbv
 refine kk h fun c4 h => ?_
 exact le h hR
theorem A2h {A : Ar} (hA : A = std) {x0 : Hours} {r : ByteArray × Int} (h : Aj0 A x0 = some r) : PFun cx 129 [Agz x0] (.tu [st r.1, it .i64 r.2]) := by
 refine wF hA cx_ok Tryz.func129 fun P R hP hR => ?_
 cbv; unfold Aj0 at h
 iterate 2 refine kj ?_
 obtain ⟨w1, hw1, h⟩ := bd_e h; refine kc hP (At4 hA hw1) ?_; cbv
 refine bc h (fun hb h => ?_) fun hb h => ?_
 ·cbv
  refine kj ?_
  cases h; subst hR; exact ey
 ·cbv
  iterate 2 refine kj ?_
  refine kl h (fun x gh => [(4, .os 4030 gh TyS.str x.1), (11, it .i64 x.2)]) (fun x gh => [⟨4030, gh, .tok 9 TyS.str (A.nlen TyS.str x.1)⟩, ⟨1, 0, .box 67 [st x0.1, it .i64 x0.2, it .i64 x0.3, it .i64 x0.4]⟩]) [] ?_
  rintro ⟨l4, t11⟩ gh1 g1 _ _ _ hK1 hQ1 h; cbv
  refine kj ?_
  refine bc h (fun hb h => ?_) fun hb h => ?_
  ·cbv
   refine kj ?_
   refine kk h fun c2 h => ?_
   refine kj ?_
   refine kk h fun c3 h => ?_
   refine bc h (fun hb h => ?_) fun hb h => ?_
   ·cbv
    refine kj ?_
    refine kk h fun c4 h => ?_
    refine kj ?_
    cases h; exact hK1 _ _ [(4030, 24, g1.succ.succ.succ)] rfl hdy
   ·cbv
    refine kj ?_
    cases h; exact hK1 _ _ [(4030, 4030, gh1)] rfl hdy
  ·cbv
   refine hQ1 _ h _ _ fun h => ?_; cbv
   refine kj ?_
   obtain ⟨w5, hw5, h⟩ := bd_e h; refine kc hP (Atc hA hw5) ?_; cbv
   refine kk h fun c6 h => ?_
   obtain ⟨w7, hw7, h⟩ := bd_e h; refine kc hP (At6 hA hw7) ?_; cbv
   refine kk h fun c8 h => ?_
   refine kk h fun c9 h => ?_
   obtain ⟨w10, hw10, h⟩ := bd_e h; refine kc hP (At6 hA hw10) ?_; cbv
   refine kk h fun c11 h => ?_
   refine kj ?_
   cases h; subst hR; exact ey
theorem A0g {A : Ar} (hA : A = std) {x0 : Hours} {r : Node} (h : Ald A x0 = some r) : PFun cx 208 [Agz x0] (Ac8 r) := by
 refine wF hA cx_ok Tryz.func208 fun P R hP hR => ?_
 cbv; unfold Ald at h
 iterate 2 refine kj ?_
 obtain ⟨w1, hw1, h⟩ := bd_e h; refine kc hP (A2h hA hw1) ?_; cbv
 refine kj ?_
 obtain ⟨w2, hw2, h⟩ := bd_e h; refine kc hP (Acd hA hw2) ?_; cbv
 obtain ⟨w3, hw3, h⟩ := bd_e h; refine kc hP (Acd hA hw3) ?_; cbv
 obtain ⟨w4, hw4, h⟩ := bd_e h; refine kc hP (Ajh hA hw4) ?_; cbv
 exact le h hR
theorem A0h {A : Ar} (hA : A = std) {x0 : Config} {r : Node} (h : Apf A x0 = some r) : PFun cx 122 [Ahk x0] (Ac8 r) := by
 refine wF hA cx_ok Tryz.func122 fun P R hP hR => ?_
 cbv; unfold Apf at h
 iterate 2 refine kj ?_
 obtain ⟨w1, hw1, h⟩ := bd_e h; refine kc hP (A0f hA hw1) ?_; cbv
 obtain ⟨w2, hw2, h⟩ := bd_e h; refine kc hP (Ayl hA hw2) ?_; cbv
 obtain ⟨w3, hw3, h⟩ := bd_e h; refine ke hP (Ae4 hA (fun _ _ hw => Acd hA hw) hw3) ?_; cbv
 obtain ⟨w4, hw4, h⟩ := bd_e h; refine ke hP (As5 hA (fun _ _ hw => Aym hA hw) hw4) ?_; cbv
 obtain ⟨w5, hw5, h⟩ := bd_e h; refine ke hP (Aun hA (fun _ _ hw => A0g hA hw) hw5) ?_; cbv
 obtain ⟨w6, hw6, h⟩ := bd_e h; refine kc hP (Ajh hA hw6) ?_; cbv
 refine kj ?_
 exact le h hR
theorem Awe {A : Ar} (hA : A = std) {x0 : Int} {r : Bool} (h : Am2 A x0 = some r) : PFun cx 355 [it .u8 x0] (bl r) := by
 refine wF hA cx_ok Tryz.func355 fun P R hP hR => ?_
 cbv; unfold Am2 at h
 iterate 2 refine kj ?_
 iterate 2 refine cj ?_
 exact le h hR
theorem Ayn {A : Ar} (hA : A = std) {x0 : ByteArray} {r : Bool} (h : Anp A x0 = some r) : PFun cx 321 [st x0] (bl r) := by
 refine wF hA cx_ok Tryz.func321 fun P R hP hR => ?_
 cbv; unfold Anp at h
 iterate 2 refine kj ?_
 iterate 2 refine cj ?_
 obtain ⟨w1, hw1, h⟩ := bd_e h; refine kf hP (fun hc => (Aal hA (by rfl) (fun _ _ hw => Awe hA hw) (gd_e hw1 hc))) ?_; cbv
 iterate 2 refine cj ?_
 exact le h hR
theorem Asb {A : Ar} (hA : A = std) {x0 : Int} {r : Bool} (h : Aj1 A x0 = some r) : PFun cx 379 [it .u8 x0] (bl r) := by
 refine wF hA cx_ok Tryz.func379 fun P R hP hR => ?_
 cbv; unfold Aj1 at h
 iterate 2 refine kj ?_
 iterate 6 refine cj ?_
 refine ⟨by subst hA; simp +contextual [vcm], ?_⟩
 iterate 3 refine cj ?_
 exact le h hR
theorem Awf {A : Ar} (hA : A = std) {x0 : Int} {r : Bool} (h : Am3 A x0 = some r) : PFun cx 378 [it .u8 x0] (bl r) := by
 refine wF hA cx_ok Tryz.func378 fun P R hP hR => ?_
 cbv; unfold Am3 at h
 iterate 2 refine kj ?_
 obtain ⟨w1, hw1, h⟩ := bd_e h; refine kc hP (Asb hA hw1) ?_; cbv
 exact le h hR
theorem Ayo {A : Ar} (hA : A = std) {x0 : ByteArray} {r : Bool} (h : Anq A x0 = some r) : PFun cx 356 [st x0] (bl r) := by
 refine wF hA cx_ok Tryz.func356 fun P R hP hR => ?_
 cbv; unfold Anq at h
 iterate 2 refine kj ?_
 iterate 5 refine cj ?_
 obtain ⟨w1, hw1, h⟩ := bd_e h; refine kf hP (fun hc => (Aal hA (by rfl) (fun _ _ hw => Awf hA hw) (gd_e hw1 hc))) ?_; cbv
 iterate 2 refine cj ?_
 exact le h hR
theorem Ak1 {A : Ar} (hA : A = std) {x0 : List ByteArray} {x1 : Int} {r : Bool} (h : Afx A x0 x1 = some r) : PFun cx 322 [.d (.sl TyS.str x0), it .i64 x1] (bl r) := by
 refine wF hA cx_ok Tryz.func322 fun P R hP hR => ?_
 cbv; unfold Afx at h
 iterate 2 refine kj ?_
 refine kl h (fun x _ => [(9, it .i64 x)]) (fun _ _ => []) [] ?_
 rintro t9 gh1 g1 _ _ _ hK1 hQ1 h; cbv
 refine kj ?_
 refine bc h (fun hb h => ?_) fun hb h => ?_
 ·cbv
  refine kj ?_
  refine kk h fun c1 h => ?_
  refine kj ?_
  obtain ⟨w2, hw2, h⟩ := bd_e h; refine kc hP (Ayo hA hw2) ?_; cbv
  iterate 2 refine cj ?_
  refine kk h fun c3 h => ?_
  iterate 2 refine cj ?_
  obtain ⟨w4, hw4, h⟩ := bd_e h; refine kg hP (fun hc => (Abz hA (gd_e hw4 hc))) ?_; cbv
  refine cj ?_
  refine bc h (fun hb h => ?_) fun hb h => ?_
  ·cbv
   refine kj ?_
   refine hQ1 _ h _ _ fun h => ?_; cbv
   exact le h hR
  ·cbv
   refine kj ?_
   cases h; exact hK1 _ _ [] rfl hdy
 ·cbv
  refine hQ1 _ h _ _ fun h => ?_; cbv
  refine kj ?_
  exact le h hR
theorem An2 {A : Ar} (hA : A = std) {x0 : List Node} {q1 : Node → Option Bool} {g1 : Nat} {cap1 : List PV} (hcap1 : bare.bares cap1 = true) (hq1 : ∀ (y0 : Node) (r : Bool), q1 y0 = some r → PFun cx g1 ((Ac8 y0) :: cap1) (bl r)) {r : Int} (h : Afa A x0 q1 = some r) : PFun cx 357 [.d (.sl TyS.node x0), .fn (.func g1) [] cap1] (it .i64 r) := by
 refine wF hA cx_ok Tryz.func357 fun P R hP hR => ?_
 cbv; unfold Afa at h
 iterate 2 refine kj ?_
 refine kl h (fun x _ => [(8, it .i64 x)]) (fun _ _ => []) [] ?_
 rintro t8 gh1 g1 _ _ _ hK1 hQ1 h; cbv
 refine kj ?_
 refine bc h (fun hb h => ?_) fun hb h => ?_
 ·cbv
  iterate 2 refine kj ?_
  refine kk h fun c1 h => ?_
  obtain ⟨w2, hw2, h⟩ := bd_e h; refine kc hP (hq1 _ _ hw2) ?_ (by first | rfl | simp [bare, bare.bares, hcap1]); cbv
  refine bc h (fun hb h => ?_) fun hb h => ?_
  ·cbv
   refine kj ?_
   refine hQ1 _ h _ _ fun h => ?_; cbv
   exact le h hR
  ·cbv
   refine kj ?_
   cases h; exact hK1 _ _ [] rfl hdy
 ·cbv
  refine hQ1 _ h _ _ fun h => ?_; cbv
  refine kj ?_
  exact le h hR
theorem Ac9 {A : Ar} (hA : A = std) {x0 : List Node} {q1 : Node → Option Bool} {g1 : Nat} {cap1 : List PV} (hcap1 : bare.bares cap1 = true) (hq1 : ∀ (y0 : Node) (r : Bool), q1 y0 = some r → PFun cx g1 ((Ac8 y0) :: cap1) (bl r)) {r : Bool} (h : Aan A x0 q1 = some r) : PFun cx 323 [.d (.sl TyS.node x0), .fn (.func g1) [] cap1] (bl r) := by
 refine wF hA cx_ok Tryz.func323 fun P R hP hR => ?_
 cbv; unfold Aan at h
 iterate 2 refine kj ?_
 obtain ⟨w1, hw1, h⟩ := bd_e h; refine kc hP (An2 hA hcap1 hq1 hw1) ?_ (by first | rfl | simp [bare, bare.bares, hcap1]); cbv
 exact le h hR
theorem Ak2 {A : Ar} (hA : A = std) {rf : Node → Int → Option Bool} {x0 : Node} {c0 : Int} (hqr273 : ∀ (x0 : Node) (x1 : Int) (r : Bool), rf x0 x1 = some r → PFun cx 273 [Ac8 x0, it .i64 x1] (bl r)) {r : Bool} (h : Ahf A rf x0 c0 = some r) : PFun cx 324 [Ac8 x0, .ip [.v (.int .i64 c0)]] (bl r) := by
 refine wF hA cx_ok Tryz.func324 fun P R hP hR => ?_
 cbv; unfold Ahf at h
 iterate 2 refine kj ?_
 obtain ⟨w1, hw1, h⟩ := bd_e h; refine kc hP (hqr273 _ _ _ hw1) ?_; cbv
 exact le h hR
theorem Axs {A : Ar} (hA : A = std) {rf : Node → Int → Option Bool} {x0 : Node} {x1 : Int} (hqr273 : ∀ (x0 : Node) (x1 : Int) (r : Bool), rf x0 x1 = some r → PFun cx 273 [Ac8 x0, it .i64 x1] (bl r)) {r : Bool} (h : Aoq A rf x0 x1 = some r) : PFun cx 273 [Ac8 x0, it .i64 x1] (bl r) := by
 refine PFun.walkF (fz := fun k => k == 3) hA cx_ok Tryz.func273 rfl rfl rfl fun P R hP hR => ?_
 cbv; unfold Aoq at h
 iterate 2 refine kj ?_
 refine bc h (fun hb h => ?_) fun hb h => ?_
 ·cbv
  refine kj ?_
  exact le h hR
 ·cbv
  iterate 2 refine kj ?_
  refine bc h (fun hb h => ?_) fun hb h => ?_
  ·cbv
   refine kj ?_
   obtain ⟨w1, hw1, h⟩ := bd_e h; refine kc hP (Ayn hA hw1) ?_; cbv
   iterate 10 refine cj ?_
   exact le h hR
  ·cbv
   refine kj ?_
   refine bc h (fun hb h => ?_) fun hb h => ?_
   ·cbv
    refine bc h (fun hb h => ?_) fun hb h => ?_
    ·cbv
     iterate 2 refine kj ?_
     refine bc h (fun hb h => ?_) fun hb h => ?_
     ·cbv
      iterate 2 refine kj ?_
      iterate 9 refine cj ?_
      obtain ⟨w2, hw2, h⟩ := bd_e h; refine kg hP (fun hc => (Ak1 hA (gd_e hw2 hc))) ?_; cbv
      iterate 5 refine cj ?_
      obtain ⟨w3, hw3, h⟩ := bd_e h; refine kg hP (fun hc => (Ac9 hA (by rfl) (fun _ _ hw => Ak2 hA hqr273 hw) (gd_e hw3 hc))) ?_; cbv
      iterate 2 refine cj ?_
      exact le h hR
     ·cbv
      refine kj ?_
      iterate 9 refine cj ?_
      obtain ⟨w4, hw4, h⟩ := bd_e h; refine kg hP (fun hc => (Ak1 hA (gd_e hw4 hc))) ?_; cbv
      iterate 5 refine cj ?_
      obtain ⟨w5, hw5, h⟩ := bd_e h; refine kg hP (fun hc => (Ac9 hA (by rfl) (fun _ _ hw => Ak2 hA hqr273 hw) (gd_e hw5 hc))) ?_; cbv
      iterate 2 refine cj ?_
      exact le h hR
    ·cbv
     refine kj ?_
     exact le h hR
   ·cbv
    refine kj ?_
    refine bc h (fun hb h => ?_) fun hb h => ?_
    ·cbv
     iterate 2 refine kj ?_
     refine bc h (fun hb h => ?_) fun hb h => ?_
     ·cbv
      iterate 2 refine kj ?_
      iterate 9 refine cj ?_
      obtain ⟨w6, hw6, h⟩ := bd_e h; refine kg hP (fun hc => (Ak1 hA (gd_e hw6 hc))) ?_; cbv
      iterate 5 refine cj ?_
      obtain ⟨w7, hw7, h⟩ := bd_e h; refine kg hP (fun hc => (Ac9 hA (by rfl) (fun _ _ hw => Ak2 hA hqr273 hw) (gd_e hw7 hc))) ?_; cbv
      iterate 2 refine cj ?_
      exact le h hR
     ·cbv
      refine kj ?_
      iterate 9 refine cj ?_
      obtain ⟨w8, hw8, h⟩ := bd_e h; refine kg hP (fun hc => (Ak1 hA (gd_e hw8 hc))) ?_; cbv
      iterate 5 refine cj ?_
      obtain ⟨w9, hw9, h⟩ := bd_e h; refine kg hP (fun hc => (Ac9 hA (by rfl) (fun _ _ hw => Ak2 hA hqr273 hw) (gd_e hw9 hc))) ?_; cbv
      iterate 2 refine cj ?_
      exact le h hR
    ·cbv
     refine kj ?_
     exact le h hR
theorem Asd {A : Ar} (hA : A = std) : ∀ (n : Nat) (x0 : Node) (x1 : Int) (r : Bool), Aj2 A n x0 x1 = some r → PFun cx 273 [Ac8 x0, it .i64 x1] (bl r)
 | 0, _, _, _, h => by cases h
 | n + 1, x0, x1, r, h => Axs hA (fun _ _ _ hh => Asd hA n _ _ _ hh) h
theorem A0i {A : Ar} (hA : A = std) {x0 : Node} {x1 : Int} {r : Bool} (h : Aus A x0 x1 = some r) : PFun cx 273 [Ac8 x0, it .i64 x1] (bl r) := Asd hA _ _ _ _ h
theorem Axt {A : Ar} (hA : A = std) {x0 : Node} {r : Bool} (h : Al2 A x0 = some r) : PFun cx 198 [Ac8 x0] (bl r) := by
 refine wF hA cx_ok Tryz.func198 fun P R hP hR => ?_
 cbv; unfold Al2 at h
 iterate 2 refine kj ?_
 obtain ⟨w1, hw1, h⟩ := bd_e h; refine kc hP (A0i hA hw1) ?_; cbv
 exact le h hR
theorem Axu {A : Ar} (hA : A = std) {x0 : Int} {r : Bool} (h : Aic A x0 = some r) : PFun cx 359 [it .u8 x0] (bl r) := by
 refine wF hA cx_ok Tryz.func359 fun P R hP hR => ?_
 cbv; unfold Aic at h
 iterate 2 refine kj ?_
 obtain ⟨w1, hw1, h⟩ := bd_e h; refine kc hP (Asb hA hw1) ?_; cbv
 iterate 4 refine cj ?_
 refine ⟨by subst hA; simp +contextual [vcm], ?_⟩
 iterate 2 refine cj ?_
 obtain ⟨w2, hw2, h⟩ := bd_e h; refine kg hP (fun hc => (Aoe hA (gd_e hw2 hc))) ?_; cbv
 iterate 2 refine cj ?_
 exact le h hR
theorem Auo {A : Ar} (hA : A = std) {x0 : Int} {r : Bool} (h : Acu A x0 = some r) : PFun cx 358 [it .u8 x0] (bl r) := by
 refine wF hA cx_ok Tryz.func358 fun P R hP hR => ?_
 cbv; unfold Acu at h
 iterate 2 refine kj ?_
 obtain ⟨w1, hw1, h⟩ := bd_e h; refine kc hP (Axu hA hw1) ?_; cbv
 exact le h hR
theorem Awg {A : Ar} (hA : A = std) {x0 : ByteArray} {r : ByteArray} (h : Ad1 A x0 = some r) : PFun cx 325 [st x0] (st r) := by
 refine wF hA cx_ok Tryz.func325 fun P R hP hR => ?_
 cbv; unfold Ad1 at h
 iterate 2 refine kj ?_
 refine cj ?_
 refine kk h fun c1 h => ?_
 iterate 4 refine cj ?_
 obtain ⟨w2, hw2, h⟩ := bd_e h; refine kf hP (fun hc => (Aal hA (by rfl) (fun _ _ hw => Auo hA hw) (gd_e hw2 hc))) ?_; cbv
 iterate 2 refine cj ?_
 refine bc h (fun hb h => ?_) fun hb h => ?_
 ·cbv
  refine kj ?_
  exact le h hR
 ·cbv
  refine kj ?_
  obtain ⟨w3, hw3, h⟩ := bd_e h; refine kc hP (Anr hA hw3) ?_; cbv
  obtain ⟨w4, hw4, h⟩ := bd_e h; refine kc hP (Anr hA hw4) ?_; cbv
  refine kk h fun c5 h => ?_
  refine kk h fun c6 h => ?_
  exact le h hR
theorem Ase {A : Ar} (hA : A = std) {x0 : Node} {r : ByteArray × Bool} (h : Aj3 A x0 = some r) : PFun cx 274 [Ac8 x0] (.tu [st r.1, bl r.2]) := by
 refine wF hA cx_ok Tryz.func274 fun P R hP hR => ?_
 cbv; unfold Aj3 at h
 iterate 2 refine kj ?_
 refine bc h (fun hb h => ?_) fun hb h => ?_
 ·cbv
  refine kj ?_
  obtain ⟨w1, hw1, h⟩ := bd_e h; refine kc hP (Awg hA hw1) ?_; cbv
  refine kk h fun c2 h => ?_
  cases h; subst hR; exact ey
 ·cbv
  refine kj ?_
  refine bc h (fun hb h => ?_) fun hb h => ?_
  ·cbv
   refine kj ?_
   cases h; subst hR; exact ey
  ·cbv
   refine kj ?_
   refine bc h (fun hb h => ?_) fun hb h => ?_
   ·cbv
    refine kj ?_
    cases h; subst hR; exact ey
   ·cbv
    refine kj ?_
    cases h; subst hR; exact ey
theorem Avc {A : Ar} (hA : A = std) {rf : (List UInt8) → Node → Int → Option (List UInt8)} {x0 : List UInt8} {x1 : Node} {x2 : Int} (hqr199 : ∀ (x0 : List UInt8) (x1 : Node) (x2 : Int) (r : List UInt8), rf x0 x1 x2 = some r → PFunM cx 199 [.bx 1000 0 0, Ac8 x1, it .i64 x2] [⟨1000, 0, .box 147 [.np 1000 0, .os 1001 0 TyS.byte x0]⟩, ⟨1001, 0, .tok 5 TyS.byte (A.nlen TyS.byte x0)⟩] (.tu []) [⟨1000, 0, .box 147 [.np 1000 0, .os 2000 1 TyS.byte r]⟩, ⟨2000, 1, .tok 5 TyS.byte (A.nlen TyS.byte r)⟩]) {r : List UInt8} (h : Al3 A rf x0 x1 x2 = some r) : PFunM cx 199 [.bx 1000 0 0, Ac8 x1, it .i64 x2] [⟨1000, 0, .box 147 [.np 1000 0, .os 1001 0 TyS.byte x0]⟩, ⟨1001, 0, .tok 5 TyS.byte (A.nlen TyS.byte x0)⟩] (.tu []) [⟨1000, 0, .box 147 [.np 1000 0, .os 2000 1 TyS.byte r]⟩, ⟨2000, 1, .tok 5 TyS.byte (A.nlen TyS.byte r)⟩] := by
 refine PFunM.walkM (fz := fun _ => false) hA cx_ok Tryz.func199 rfl rfl fun P R hP hR => ?_
 cbv; unfold Al3 at h
 iterate 2 refine kj ?_
 refine kl h (fun x _ => [(13, it .i64 x.1)]) (fun x gh => [⟨4031, gh, .tok 5 TyS.byte (A.nlen TyS.byte x.2)⟩, ⟨4, 2, .box 135 [it .i64 x1.1, st x1.2, .d (.sl .str x1.3), .d (.sl .node x1.4)]⟩, ⟨1000, 0, .box 147 [PV.np 1000 0, .os 4031 gh TyS.byte x.2]⟩]) [(4031, 1001, 0)] ?_
 rintro ⟨t13, b1_1000⟩ gh1 g1 _ _ _ hK1 hQ1 h; cbv
 refine kj ?_
 refine bc h (fun hb h => ?_) fun hb h => ?_
 ·cbv
  refine kj ?_
  refine kk h fun c1 h => ?_
  refine kj ?_
  obtain ⟨w2, hw2, h⟩ := bd_e h; refine kc hP (Awn hA hw2) ?_; cbv
  obtain ⟨w3, hw3, h⟩ := bd_e h; refine km hP [(1000, 0), (4031, gh1)] (Aa3 hA hw3) ?_; cbv
  refine kj ?_
  refine bc h (fun hb h => ?_) fun hb h => ?_
  ·cbv
   refine kj ?_
   refine kk h fun c4 h => ?_
   refine kk h fun c5 h => ?_
   obtain ⟨w6, hw6, h⟩ := bd_e h; refine km hP [(1000, 0), (22, g1.succ.succ)] (Aa3 hA hw6) ?_; cbv
   refine kj ?_
   obtain ⟨w7, hw7, h⟩ := bd_e h; refine kc hP (Ase hA hw7) ?_; cbv
   refine kj ?_
   refine kk h fun c8 h => ?_
   obtain ⟨w9, hw9, h⟩ := bd_e h; refine km hP [(1000, 0), (33, g1.succ.succ.succ.succ)] (Aa3 hA hw9) ?_; cbv
   refine kj ?_
   obtain ⟨w10, hw10, h⟩ := bd_e h; refine km hP [(1000, 0), (44, g1.succ.succ.succ.succ.succ.succ)] (hqr199 _ _ _ _ hw10) ?_; cbv
   refine kj ?_
   cases h; exact hK1 _ _ [(4031, 49, g1.succ.succ.succ.succ.succ.succ.succ)] rfl hdy
  ·cbv
   refine kj ?_
   obtain ⟨w11, hw11, h⟩ := bd_e h; refine km hP [(1000, 0), (22, g1.succ.succ)] (Aa3 hA hw11) ?_; cbv
   refine kj ?_
   obtain ⟨w12, hw12, h⟩ := bd_e h; refine kc hP (Ase hA hw12) ?_; cbv
   refine kj ?_
   refine kk h fun c13 h => ?_
   obtain ⟨w14, hw14, h⟩ := bd_e h; refine km hP [(1000, 0), (35, g1.succ.succ.succ.succ)] (Aa3 hA hw14) ?_; cbv
   refine kj ?_
   obtain ⟨w15, hw15, h⟩ := bd_e h; refine km hP [(1000, 0), (44, g1.succ.succ.succ.succ.succ.succ)] (hqr199 _ _ _ _ hw15) ?_; cbv
   refine kj ?_
   cases h; exact hK1 _ _ [(4031, 49, g1.succ.succ.succ.succ.succ.succ.succ)] rfl hdy
 ·cbv
  refine hQ1 _ h _ _ fun h => ?_; cbv
  cases h
  refine hR _ _ ⟨[(4031, gh1)], ⟨by rfl, ez, by rfl, ez⟩⟩
theorem Ap6 {A : Ar} (hA : A = std) : ∀ (n : Nat) (x0 : List UInt8) (x1 : Node) (x2 : Int) (r : List UInt8), Agc A n x0 x1 x2 = some r → PFunM cx 199 [.bx 1000 0 0, Ac8 x1, it .i64 x2] [⟨1000, 0, .box 147 [.np 1000 0, .os 1001 0 TyS.byte x0]⟩, ⟨1001, 0, .tok 5 TyS.byte (A.nlen TyS.byte x0)⟩] (.tu []) [⟨1000, 0, .box 147 [.np 1000 0, .os 2000 1 TyS.byte r]⟩, ⟨2000, 1, .tok 5 TyS.byte (A.nlen TyS.byte r)⟩]
 | 0, _, _, _, _, h => by cases h
 | n + 1, x0, x1, x2, r, h => Avc hA (fun _ _ _ _ hh => Ap6 hA n _ _ _ _ hh) h
theorem Axv {A : Ar} (hA : A = std) {x0 : List UInt8} {x1 : Node} {x2 : Int} {r : List UInt8} (h : Arq A x0 x1 x2 = some r) : PFunM cx 199 [.bx 1000 0 0, Ac8 x1, it .i64 x2] [⟨1000, 0, .box 147 [.np 1000 0, .os 1001 0 TyS.byte x0]⟩, ⟨1001, 0, .tok 5 TyS.byte (A.nlen TyS.byte x0)⟩] (.tu []) [⟨1000, 0, .box 147 [.np 1000 0, .os 2000 1 TyS.byte r]⟩, ⟨2000, 1, .tok 5 TyS.byte (A.nlen TyS.byte r)⟩] := Ap6 hA _ _ _ _ _ h
theorem Asv {A : Ar} (hA : A = std) {x0 : List UInt8} {r : Int} (h : Aid A x0 = some r) : PFunM cx 169 [.bx 1000 0 0] [⟨1000, 0, .box 147 [.np 1000 0, .os 1001 0 TyS.byte x0]⟩, ⟨1001, 0, .tok 5 TyS.byte (A.nlen TyS.byte x0)⟩] (it .i64 r) [⟨1000, 0, .box 147 [.np 1000 0, .os 1001 0 TyS.byte x0]⟩, ⟨1001, 0, .tok 5 TyS.byte (A.nlen TyS.byte x0)⟩] := by
 refine PFunM.walkM (fz := fun _ => false) hA cx_ok Tryz.func169 rfl rfl fun P R hP hR => ?_
 cbv; unfold Aid at h
 iterate 2 refine kj ?_
 cases h
 refine hR _ _ ⟨[], ⟨by rfl, ez, by rfl, ez⟩⟩
theorem Axw {A : Ar} (hA : A = std) {x0 : Node} {r : ByteArray × Int} (h : Al4 A x0 = some r) : PFun cx 121 [Ac8 x0] (.tu [st r.1, it .i64 r.2]) := by
 refine PFun.walkF (fz := fun k => k == 131076) hA cx_ok Tryz.func121 rfl rfl rfl fun P R hP hR => ?_
 cbv; unfold Al4 at h
 iterate 2 refine kj ?_
 obtain ⟨w1, hw1, h⟩ := bd_e h; refine kc hP (Axt hA hw1) ?_; cbv
 iterate 5 refine cj ?_
 refine bc h (fun hb h => ?_) fun hb h => ?_
 ·cbv
  refine kj ?_
  cases h; subst hR; exact ey
 ·cbv
  iterate 2 refine kj ?_
  obtain ⟨w2, hw2, h⟩ := bd_e h; refine km hP [(4, 2), (65540, 2)] (Axv hA hw2) ?_; cbv
  refine kj ?_
  obtain ⟨w3, hw3, h⟩ := bd_e h; refine km hP [(4, 2), (15, 3)] (Asv hA hw3) ?_; cbv
  refine bc h (fun hb h => ?_) fun hb h => ?_
  ·cbv
   refine kj ?_
   cases h; subst hR; exact ey
  ·cbv
   refine kj ?_
   obtain ⟨w4, hw4, h⟩ := bd_e h; refine km hP [(4, 2), (15, 3)] (Akz hA hw4) ?_; cbv
   cases h; subst hR; exact ey
theorem Asf {A : Ar} (hA : A = std) {x0 : Config} {r : ByteArray × Int} (h : Aie A x0 = some r) : PFun cx 37 [Ahk x0] (.tu [st r.1, it .i64 r.2]) := by
 refine wF hA cx_ok Tryz.func37 fun P R hP hR => ?_
 cbv; unfold Aie at h
 iterate 2 refine kj ?_
 obtain ⟨w1, hw1, h⟩ := bd_e h; refine kc hP (As3 hA hw1) ?_; cbv
 refine bc h (fun hb h => ?_) fun hb h => ?_
 ·cbv
  refine kj ?_
  cases h; subst hR; exact ey
 ·cbv
  refine kj ?_
  obtain ⟨w2, hw2, h⟩ := bd_e h; refine kc hP (At3 hA hw2) ?_; cbv
  obtain ⟨w3, hw3, h⟩ := bd_e h; refine kc hP (Axr hA hw3) ?_; cbv
  refine kj ?_
  obtain ⟨w4, hw4, h⟩ := bd_e h; refine kc hP (A0h hA hw4) ?_; cbv
  obtain ⟨w5, hw5, h⟩ := bd_e h; refine kc hP (Axw hA hw5) ?_; cbv
  cases h; subst hR; exact ey
theorem Aj5 {A : Ar} (hA : A = std) {r : Bool} (h : Adj A = some r) : PFun cx 36 [] (bl r) := by
 refine wF hA cx_ok Tryz.func36 fun P R hP hR => ?_
 cbv; unfold Adj at h
 iterate 2 refine kj ?_
 obtain ⟨w1, hw1, h⟩ := bd_e h; refine ke hP (Asf hA hw1) ?_; cbv
 refine kj ?_
 iterate 4 refine cj ?_
 obtain ⟨w2, hw2, h⟩ := bd_e h; refine kg hP (fun hc => (Api hA (gd_e hw2 hc))) ?_; cbv
 iterate 2 refine cj ?_
 obtain ⟨w3, hw3, h⟩ := bd_e h; refine kg hP (fun hc => (Api hA (gd_e hw3 hc))) ?_; cbv
 refine cj ?_
 exact le h hR
theorem Acv {A : Ar} (hA : A = std) {x0 : ByteArray} {r : Bool} (h : Aag A x0 = some r) : PFun cx 100 [st x0] (bl r) := by
 refine wF hA cx_ok Tryz.func100 fun P R hP hR => ?_
 cbv; unfold Aag at h
 iterate 2 refine kj ?_
 refine kl h (fun x _ => [(2, bl x.1), (3, it .i64 x.2)]) (fun _ _ => []) [] ?_
 rintro ⟨t2, i3⟩ gh1 g1 _ _ _ hK1 hQ1 h; cbv
 refine kj ?_
 refine bc h (fun hb h => ?_) fun hb h => ?_
 ·cbv
  refine kj ?_
  refine kk h fun c1 h => ?_
  refine kj ?_
  iterate 6 refine cj ?_
  refine ⟨by subst hA; simp +contextual [vcm], ?_⟩
  iterate 3 refine cj ?_
  refine bc h (fun hb h => ?_) fun hb h => ?_
  ·cbv
   refine kj ?_
   refine hQ1 _ h _ _ fun h => ?_; cbv
   exact le h hR
  ·cbv
   refine kj ?_
   cases h; exact hK1 _ _ [] rfl hdy
 ·cbv
  refine hQ1 _ h _ _ fun h => ?_; cbv
  refine kj ?_
  iterate 3 refine cj ?_
  exact le h hR
theorem Aly {A : Ar} (hA : A = std) {x0 : Int} {r : Bool} (h : Adw A x0 = some r) : PFun cx 261 [it .i64 x0] (bl r) := by
 refine wF hA cx_ok Tryz.func261 fun P R hP hR => ?_
 cbv; unfold Adw at h
 iterate 2 refine kj ?_
 iterate 2 refine cj ?_
 exact le h hR
theorem Afu {A : Ar} (hA : A = std) {x0 : ByteArray} {r : Bool} (h : Aa8 A x0 = some r) : PFun cx 179 [st x0] (bl r) := by
 refine wF hA cx_ok Tryz.func179 fun P R hP hR => ?_
 cbv; unfold Aa8 at h
 iterate 2 refine kj ?_
 refine kl h (fun x _ => [(2, bl x.1), (3, it .i64 x.2)]) (fun _ _ => []) [] ?_
 rintro ⟨t2, i3⟩ gh1 g1 _ _ _ hK1 hQ1 h; cbv
 refine kj ?_
 refine bc h (fun hb h => ?_) fun hb h => ?_
 ·cbv
  refine kj ?_
  refine kk h fun c1 h => ?_
  refine kj ?_
  iterate 6 refine cj ?_
  refine ⟨by subst hA; simp +contextual [vcm], ?_⟩
  iterate 3 refine cj ?_
  refine kj ?_
  iterate 4 refine cj ?_
  refine ⟨by subst hA; simp +contextual [vcm], ?_⟩
  iterate 3 refine cj ?_
  refine ⟨by subst hA; simp +contextual [vcm], ?_⟩
  refine cj ?_
  refine bc h (fun hb h => ?_) fun hb h => ?_
  ·cbv
   refine kj ?_
   refine hQ1 _ h _ _ fun h => ?_; cbv
   exact le h hR
  ·cbv
   refine kj ?_
   cases h; exact hK1 _ _ [] rfl hdy
 ·cbv
  refine hQ1 _ h _ _ fun h => ?_; cbv
  refine kj ?_
  iterate 3 refine cj ?_
  exact le h hR
theorem Apr {A : Ar} (hA : A = std) {x0 : ByteArray} {r : Bool} (h : Aeq A x0 = some r) : PFun cx 311 [st x0] (bl r) := by
 refine wF hA cx_ok Tryz.func311 fun P R hP hR => ?_
 cbv; unfold Aeq at h
 iterate 2 refine kj ?_
 refine kl h (fun x _ => [(3, it .i64 x)]) (fun _ _ => []) [] ?_
 rintro i3 gh1 g1 _ _ _ hK1 hQ1 h; cbv
 refine kj ?_
 refine bc h (fun hb h => ?_) fun hb h => ?_
 ·cbv
  refine kj ?_
  refine kk h fun c1 h => ?_
  iterate 2 refine cj ?_
  refine kk h fun c2 h => ?_
  iterate 2 refine cj ?_
  refine bc h (fun hb h => ?_) fun hb h => ?_
  ·cbv
   refine kj ?_
   refine hQ1 _ h _ _ fun h => ?_; cbv
   exact le h hR
  ·cbv
   refine kj ?_
   cases h; exact hK1 _ _ [] rfl hdy
 ·cbv
  refine hQ1 _ h _ _ fun h => ?_; cbv
  refine kj ?_
  iterate 3 refine cj ?_
  exact le h hR
theorem Adz {A : Ar} (hA : A = std) {x0 : ByteArray} {x1 : ByteArray} {r : Bool} (h : Aa9 A x0 x1 = some r) : PFun cx 180 [st x0, st x1] (bl r) := by
 refine wF hA cx_ok Tryz.func180 fun P R hP hR => ?_
 cbv; unfold Aa9 at h
 iterate 2 refine kj ?_
 refine kl h (fun x _ => [(4, bl x.1), (5, it .i64 x.2)]) (fun _ _ => []) [] ?_
 rintro ⟨t4, i5⟩ gh1 g1 _ _ _ hK1 hQ1 h; cbv
 refine kj ?_
 iterate 4 refine cj ?_
 refine bc h (fun hb h => ?_) fun hb h => ?_
 ·cbv
  refine kj ?_
  refine kk h fun c1 h => ?_
  refine kk h fun c2 h => ?_
  refine kj ?_
  refine bc h (fun hb h => ?_) fun hb h => ?_
  ·cbv
   refine kj ?_
   refine ⟨c1, ?_⟩
   refine ⟨c2, ?_⟩
   refine kj ?_
   refine hQ1 _ h _ _ fun h => ?_; cbv
   exact le h hR
  ·cbv
   refine kj ?_
   cases h; exact hK1 _ _ [] rfl hdy
 ·cbv
  refine hQ1 _ h _ _ fun h => ?_; cbv
  refine kj ?_
  exact le h hR
theorem Aps {A : Ar} (hA : A = std) {x0 : List Label} {r : Bool} (h : Adk A x0 = some r) : PFun cx 262 [.d (.sl TyS.label x0)] (bl r) := by
 refine wF hA cx_ok Tryz.func262 fun P R hP hR => ?_
 cbv; unfold Adk at h
 iterate 2 refine kj ?_
 refine kl h (fun x _ => [(7, it .i64 x)]) (fun _ _ => []) [] ?_
 rintro t7 gh1 g1 _ _ _ hK1 hQ1 h; cbv
 refine kj ?_
 refine bc h (fun hb h => ?_) fun hb h => ?_
 ·cbv
  refine kj ?_
  refine kk h fun c1 h => ?_
  refine kj ?_
  obtain ⟨w2, hw2, h⟩ := bd_e h; refine kc hP (Afu hA hw2) ?_; cbv
  iterate 3 refine cj ?_
  obtain ⟨w3, hw3, h⟩ := bd_e h; refine kg hP (fun hc => (Apr hA (gd_e hw3 hc))) ?_; cbv
  iterate 7 refine cj ?_
  refine kk h fun c4 h => ?_
  iterate 6 refine cj ?_
  obtain ⟨w5, hw5, h⟩ := bd_e h; refine kg hP (fun hc => (Adz hA (gd_e hw5 hc))) ?_; cbv
  iterate 2 refine cj ?_
  refine ⟨by subst hA; simp +contextual [vcm], ?_⟩
  refine cj ?_
  refine kj ?_
  refine bc h (fun hb h => ?_) fun hb h => ?_
  ·cbv
   refine kj ?_
   refine hQ1 _ h _ _ fun h => ?_; cbv
   exact le h hR
  ·cbv
   refine kj ?_
   cases h; exact hK1 _ _ [] rfl hdy
 ·cbv
  refine hQ1 _ h _ _ fun h => ?_; cbv
  refine kj ?_
  exact le h hR
theorem Apt {A : Ar} (hA : A = std) {x0 : Rule} {r : Bool} (h : Aer A x0 = some r) : PFun cx 177 [Al6 x0] (bl r) := by
 refine wF hA cx_ok Tryz.func177 fun P R hP hR => ?_
 cbv; unfold Aer at h
 iterate 2 refine kj ?_
 refine kl h (fun x _ => [(8, it .i64 x)]) (fun x gh => [⟨1, 0, .box 36 [st x0.1, st x0.2, it .i64 x0.3, it .i64 x0.4, it .i64 x0.5, it .i64 x0.6, it .i64 x0.7, .d (.sl .label x0.8)]⟩]) [] ?_
 rintro t8 gh1 g1 _ _ _ hK1 hQ1 h; cbv
 refine kj ?_
 refine bc h (fun hb h => ?_) fun hb h => ?_
 ·cbv
  refine kj ?_
  refine kk h fun c1 h => ?_
  refine kj ?_
  refine bc h (fun hb h => ?_) fun hb h => ?_
  ·cbv
   refine kj ?_
   refine hQ1 _ h _ _ fun h => ?_; cbv
   exact le h hR
  ·cbv
   refine kj ?_
   cases h; exact hK1 _ _ [] rfl hdy
 ·cbv
  refine hQ1 _ h _ _ fun h => ?_; cbv
  refine kj ?_
  obtain ⟨w2, hw2, h⟩ := bd_e h; refine kc hP (Acv hA hw2) ?_; cbv
  iterate 3 refine cj ?_
  obtain ⟨w3, hw3, h⟩ := bd_e h; refine kg hP (fun hc => (Acv hA (gd_e hw3 hc))) ?_; cbv
  iterate 18 refine cj ?_
  refine bc h (fun hb h => ?_) fun hb h => ?_
  ·cbv
   refine kj ?_
   exact le h hR
  ·cbv
   refine kj ?_
   iterate 4 refine cj ?_
   refine bc h (fun hb h => ?_) fun hb h => ?_
   ·cbv
    refine kj ?_
    exact le h hR
   ·cbv
    refine kj ?_
    obtain ⟨w4, hw4, h⟩ := bd_e h; refine kc hP (Aly hA hw4) ?_; cbv
    iterate 3 refine cj ?_
    obtain ⟨w5, hw5, h⟩ := bd_e h; refine kg hP (fun hc => (Aly hA (gd_e hw5 hc))) ?_; cbv
    iterate 9 refine cj ?_
    obtain ⟨w6, hw6, h⟩ := bd_e h; refine kg hP (fun hc => (Aps hA (gd_e hw6 hc))) ?_; cbv
    refine cj ?_
    exact le h hR
theorem Agg {A : Ar} (hA : A = std) {x0 : List ByteArray} {x1 : ByteArray} {r : Bool} (h : Acg A x0 x1 = some r) : PFun cx 104 [.d (.sl TyS.str x0), st x1] (bl r) := by
 refine wF hA cx_ok Tryz.func104 fun P R hP hR => ?_
 cbv; unfold Acg at h
 iterate 2 refine kj ?_
 refine kl h (fun x _ => [(9, it .i64 x)]) (fun _ _ => []) [] ?_
 rintro t9 gh1 g1 _ _ _ hK1 hQ1 h; cbv
 refine kj ?_
 refine bc h (fun hb h => ?_) fun hb h => ?_
 ·cbv
  refine kj ?_
  refine kk h fun c1 h => ?_
  refine kj ?_
  refine bc h (fun hb h => ?_) fun hb h => ?_
  ·cbv
   refine kj ?_
   refine hQ1 _ h _ _ fun h => ?_; cbv
   exact le h hR
  ·cbv
   refine kj ?_
   cases h; exact hK1 _ _ [] rfl hdy
 ·cbv
  refine hQ1 _ h _ _ fun h => ?_; cbv
  refine kj ?_
  exact le h hR
theorem Ahq {A : Ar} (hA : A = std) {x0 : List ByteArray} {r : Bool} (h : Acy A x0 = some r) : PFun cx 99 [.d (.sl TyS.str x0)] (bl r) := by
 refine wF hA cx_ok Tryz.func99 fun P R hP hR => ?_
 cbv; unfold Acy at h
 iterate 2 refine kj ?_
 refine kl h (fun x _ => [(7, it .i64 x)]) (fun _ _ => []) [] ?_
 rintro t7 gh1 g1 _ _ _ hK1 hQ1 h; cbv
 refine kj ?_
 refine bc h (fun hb h => ?_) fun hb h => ?_
 ·cbv
  refine kj ?_
  refine kk h fun c1 h => ?_
  refine kj ?_
  refine kk h fun c2 h => ?_
  obtain ⟨w3, hw3, h⟩ := bd_e h; refine kc hP (Agg hA hw3) ?_; cbv
  refine bc h (fun hb h => ?_) fun hb h => ?_
  ·cbv
   refine kj ?_
   refine hQ1 _ h _ _ fun h => ?_; cbv
   exact le h hR
  ·cbv
   refine kj ?_
   cases h; exact hK1 _ _ [] rfl hdy
 ·cbv
  refine hQ1 _ h _ _ fun h => ?_; cbv
  refine kj ?_
  exact le h hR
theorem Aj6 {A : Ar} (hA : A = std) {x0 : List Rule} {r : (List ByteArray) × Bool} (h : Adl A x0 = some r) : PFun cx 97 [.d (.sl TyS.rule x0)] (.tu [.d (.sl TyS.str r.1), bl r.2]) := by
 refine wF hA cx_ok Tryz.func97 fun P R hP hR => ?_
 cbv; unfold Adl at h
 iterate 3 refine kj ?_
 refine kl h (fun x gh => [(4, .os 4030 gh TyS.str x.1), (10, it .i64 x.2)]) (fun x gh => [⟨4030, gh, .tok 9 TyS.str (A.nlen TyS.str x.1)⟩]) [(4030, 7, 1)] ?_
 rintro ⟨out4, t10⟩ gh1 g1 _ _ _ hK1 hQ1 h; cbv
 refine kj ?_
 refine bc h (fun hb h => ?_) fun hb h => ?_
 ·cbv
  refine kj ?_
  refine kk h fun c1 h => ?_
  refine kj ?_
  obtain ⟨w2, hw2, h⟩ := bd_e h; refine kc hP (Apt hA hw2) ?_; cbv
  refine bc h (fun hb h => ?_) fun hb h => ?_
  ·cbv
   refine kj ?_
   refine hQ1 _ h _ _ fun h => ?_; cbv
   cases h; subst hR; exact ey
  ·cbv
   refine kj ?_
   refine kk h fun c3 h => ?_
   refine kj ?_
   cases h; exact hK1 _ _ [(4030, 21, g1.succ.succ.succ)] rfl hdy
 ·cbv
  refine hQ1 _ h _ _ fun h => ?_; cbv
  refine kj ?_
  refine cj ?_
  obtain ⟨w4, hw4, h⟩ := bd_e h; refine kg hP (fun hc => (Ahq hA (gd_e hw4 hc))) ?_; cbv
  refine cj ?_
  cases h; subst hR; exact ey
theorem Apu {A : Ar} (hA : A = std) {x0 : Hours} {r : Bool} (h : Aes A x0 = some r) : PFun cx 178 [Agz x0] (bl r) := by
 refine wF hA cx_ok Tryz.func178 fun P R hP hR => ?_
 cbv; unfold Aes at h
 iterate 2 refine kj ?_
 obtain ⟨w1, hw1, h⟩ := bd_e h; refine kc hP (Acv hA hw1) ?_; cbv
 iterate 27 refine cj ?_
 exact le h hR
theorem Aj7 {A : Ar} (hA : A = std) {x0 : List Hours} {r : (List ByteArray) × Bool} (h : Abd A x0 = some r) : PFun cx 98 [.d (.sl TyS.hours x0)] (.tu [.d (.sl TyS.str r.1), bl r.2]) := by
 refine wF hA cx_ok Tryz.func98 fun P R hP hR => ?_
 cbv; unfold Abd at h
 iterate 3 refine kj ?_
 refine kl h (fun x gh => [(4, .os 4030 gh TyS.str x.1), (10, it .i64 x.2)]) (fun x gh => [⟨4030, gh, .tok 9 TyS.str (A.nlen TyS.str x.1)⟩]) [(4030, 7, 1)] ?_
 rintro ⟨out4, t10⟩ gh1 g1 _ _ _ hK1 hQ1 h; cbv
 refine kj ?_
 refine bc h (fun hb h => ?_) fun hb h => ?_
 ·cbv
  refine kj ?_
  refine kk h fun c1 h => ?_
  refine kj ?_
  obtain ⟨w2, hw2, h⟩ := bd_e h; refine kc hP (Apu hA hw2) ?_; cbv
  refine bc h (fun hb h => ?_) fun hb h => ?_
  ·cbv
   refine kj ?_
   refine hQ1 _ h _ _ fun h => ?_; cbv
   cases h; subst hR; exact ey
  ·cbv
   refine kj ?_
   refine kk h fun c3 h => ?_
   refine kj ?_
   cases h; exact hK1 _ _ [(4030, 21, g1.succ.succ.succ)] rfl hdy
 ·cbv
  refine hQ1 _ h _ _ fun h => ?_; cbv
  refine kj ?_
  refine cj ?_
  obtain ⟨w4, hw4, h⟩ := bd_e h; refine kg hP (fun hc => (Ahq hA (gd_e hw4 hc))) ?_; cbv
  refine cj ?_
  cases h; subst hR; exact ey
theorem Aqk {A : Ar} (hA : A = std) {x0 : ByteArray} {r : Bool} (h : Afi A x0 = some r) : PFun cx 312 [st x0] (bl r) := by
 refine wF hA cx_ok Tryz.func312 fun P R hP hR => ?_
 cbv; unfold Afi at h
 iterate 2 refine kj ?_
 refine kl h (fun x _ => [(2, bl x.1), (3, it .i64 x.2)]) (fun _ _ => []) [] ?_
 rintro ⟨t2, i3⟩ gh1 g1 _ _ _ hK1 hQ1 h; cbv
 refine kj ?_
 refine bc h (fun hb h => ?_) fun hb h => ?_
 ·cbv
  refine kj ?_
  refine kk h fun c1 h => ?_
  refine kj ?_
  iterate 6 refine cj ?_
  refine ⟨by subst hA; simp +contextual [vcm], ?_⟩
  iterate 5 refine cj ?_
  refine ⟨by subst hA; simp +contextual [vcm], ?_⟩
  refine cj ?_
  refine kj ?_
  iterate 10 refine cj ?_
  refine bc h (fun hb h => ?_) fun hb h => ?_
  ·cbv
   refine kj ?_
   refine hQ1 _ h _ _ fun h => ?_; cbv
   exact le h hR
  ·cbv
   refine kj ?_
   cases h; exact hK1 _ _ [] rfl hdy
 ·cbv
  refine hQ1 _ h _ _ fun h => ?_; cbv
  refine kj ?_
  exact le h hR
theorem Aj8 {A : Ar} (hA : A = std) {x0 : Matcher} {r : Bool} (h : Abs A x0 = some r) : PFun cx 263 [Ah4 x0] (bl r) := by
 refine wF hA cx_ok Tryz.func263 fun P R hP hR => ?_
 cbv; unfold Abs at h
 iterate 2 refine kj ?_
 refine kl h (fun x _ => [(8, it .i64 x)]) (fun x gh => [⟨1, 0, .box 99 [st x0.1, it .i64 x0.2, .d (.sl .str x0.3)]⟩]) [] ?_
 rintro t8 gh1 g1 _ _ _ hK1 hQ1 h; cbv
 refine kj ?_
 refine bc h (fun hb h => ?_) fun hb h => ?_
 ·cbv
  refine kj ?_
  refine kk h fun c1 h => ?_
  refine kj ?_
  obtain ⟨w2, hw2, h⟩ := bd_e h; refine kc hP (Aqk hA hw2) ?_; cbv
  iterate 7 refine cj ?_
  refine kk h fun c3 h => ?_
  iterate 3 refine cj ?_
  obtain ⟨w4, hw4, h⟩ := bd_e h; refine kg hP (fun hc => (Adz hA (gd_e hw4 hc))) ?_; cbv
  iterate 2 refine cj ?_
  refine ⟨by subst hA; simp +contextual [vcm], ?_⟩
  refine cj ?_
  refine bc h (fun hb h => ?_) fun hb h => ?_
  ·cbv
   refine kj ?_
   refine hQ1 _ h _ _ fun h => ?_; cbv
   exact le h hR
  ·cbv
   refine kj ?_
   cases h; exact hK1 _ _ [] rfl hdy
 ·cbv
  refine hQ1 _ h _ _ fun h => ?_; cbv
  refine kj ?_
  obtain ⟨w5, hw5, h⟩ := bd_e h; refine kc hP (Afu hA hw5) ?_; cbv
  iterate 18 refine cj ?_
  refine bc h (fun hb h => ?_) fun hb h => ?_
  ·cbv
   refine kj ?_
   exact le h hR
  ·cbv
   refine kj ?_
   iterate 5 refine cj ?_
   exact le h hR
theorem Aim {A : Ar} (hA : A = std) {x0 : List Matcher} {r : Bool} (h : Aba A x0 = some r) : PFun cx 181 [.d (.sl TyS.matcher x0)] (bl r) := by
 refine wF hA cx_ok Tryz.func181 fun P R hP hR => ?_
 cbv; unfold Aba at h
 iterate 2 refine kj ?_
 refine kl h (fun x _ => [(7, it .i64 x)]) (fun _ _ => []) [] ?_
 rintro t7 gh1 g1 _ _ _ hK1 hQ1 h; cbv
 refine kj ?_
 refine bc h (fun hb h => ?_) fun hb h => ?_
 ·cbv
  refine kj ?_
  refine kk h fun c1 h => ?_
  refine kj ?_
  obtain ⟨w2, hw2, h⟩ := bd_e h; refine kc hP (Aj8 hA hw2) ?_; cbv
  refine bc h (fun hb h => ?_) fun hb h => ?_
  ·cbv
   refine kj ?_
   refine hQ1 _ h _ _ fun h => ?_; cbv
   exact le h hR
  ·cbv
   refine kj ?_
   cases h; exact hK1 _ _ [] rfl hdy
 ·cbv
  refine hQ1 _ h _ _ fun h => ?_; cbv
  refine kj ?_
  exact le h hR
theorem Aoh {A : Ar} (hA : A = std) {x0 : Inhibit} {r : Bool} (h : Acx A x0 = some r) : PFun cx 101 [Agd x0] (bl r) := by
 refine wF hA cx_ok Tryz.func101 fun P R hP hR => ?_
 cbv; unfold Acx at h
 iterate 2 refine kj ?_
 refine kl h (fun x _ => [(8, it .i64 x)]) (fun x gh => [⟨1, 0, .box 63 [.d (.sl .matcher x0.1), .d (.sl .matcher x0.2), .d (.sl .str x0.3)]⟩]) [] ?_
 rintro t8 gh1 g1 _ _ _ hK1 hQ1 h; cbv
 refine kj ?_
 refine bc h (fun hb h => ?_) fun hb h => ?_
 ·cbv
  refine kj ?_
  refine kk h fun c1 h => ?_
  refine kj ?_
  obtain ⟨w2, hw2, h⟩ := bd_e h; refine kc hP (Afu hA hw2) ?_; cbv
  iterate 7 refine cj ?_
  refine kk h fun c3 h => ?_
  iterate 3 refine cj ?_
  obtain ⟨w4, hw4, h⟩ := bd_e h; refine kg hP (fun hc => (Adz hA (gd_e hw4 hc))) ?_; cbv
  iterate 2 refine cj ?_
  refine ⟨by subst hA; simp +contextual [vcm], ?_⟩
  refine cj ?_
  refine bc h (fun hb h => ?_) fun hb h => ?_
  ·cbv
   refine kj ?_
   refine hQ1 _ h _ _ fun h => ?_; cbv
   exact le h hR
  ·cbv
   refine kj ?_
   cases h; exact hK1 _ _ [] rfl hdy
 ·cbv
  refine hQ1 _ h _ _ fun h => ?_; cbv
  refine kj ?_
  iterate 13 refine cj ?_
  obtain ⟨w5, hw5, h⟩ := bd_e h; refine kg hP (fun hc => (Aim hA (gd_e hw5 hc))) ?_; cbv
  iterate 4 refine cj ?_
  obtain ⟨w6, hw6, h⟩ := bd_e h; refine kg hP (fun hc => (Aim hA (gd_e hw6 hc))) ?_; cbv
  refine cj ?_
  exact le h hR
theorem Ai4 {A : Ar} (hA : A = std) {x0 : List ByteArray} {r : Bool} (h : Abe A x0 = some r) : PFun cx 313 [.d (.sl TyS.str x0)] (bl r) := by
 refine wF hA cx_ok Tryz.func313 fun P R hP hR => ?_
 cbv; unfold Abe at h
 iterate 2 refine kj ?_
 refine kl h (fun x _ => [(3, it .i64 x)]) (fun _ _ => []) [] ?_
 rintro i3 gh1 g1 _ _ _ hK1 hQ1 h; cbv
 refine kj ?_
 refine bc h (fun hb h => ?_) fun hb h => ?_
 ·cbv
  refine kj ?_
  refine kk h fun c1 h => ?_
  refine kk h fun c2 h => ?_
  obtain ⟨w3, hw3, h⟩ := bd_e h; refine kc hP (Adz hA hw3) ?_; cbv
  refine kj ?_
  refine bc h (fun hb h => ?_) fun hb h => ?_
  ·cbv
   refine kj ?_
   refine hQ1 _ h _ _ fun h => ?_; cbv
   exact le h hR
  ·cbv
   refine kj ?_
   cases h; exact hK1 _ _ [] rfl hdy
 ·cbv
  refine hQ1 _ h _ _ fun h => ?_; cbv
  refine kj ?_
  exact le h hR
theorem Ah8 {A : Ar} (hA : A = std) {x0 : Int} {x1 : Int} {r : Bool} (h : Ab5 A x0 x1 = some r) : PFun cx 314 [it .i64 x0, it .i64 x1] (bl r) := by
 refine wF hA cx_ok Tryz.func314 fun P R hP hR => ?_
 cbv; unfold Ab5 at h
 iterate 2 refine kj ?_
 iterate 2 refine cj ?_
 exact le h hR
theorem Aq1 {A : Ar} (hA : A = std) {x0 : Route} {r : Bool} (h : Ahg A x0 = some r) : PFun cx 264 [Aau x0] (bl r) := by
 refine wF hA cx_ok Tryz.func264 fun P R hP hR => ?_
 cbv; unfold Ahg at h
 iterate 2 refine kj ?_
 refine kl h (fun x _ => [(12, it .i64 x)]) (fun x gh => [⟨1, 0, .box 27 [st x0.1, .d (.sl .matcher x0.2), .d (.sl .str x0.3), it .i64 x0.4, it .i64 x0.5, it .i64 x0.6, .d (.sl .str x0.7), bl x0.8, .d (.sl .route x0.9)]⟩]) [] ?_
 rintro t12 gh1 g1 _ _ _ hK1 hQ1 h; cbv
 refine kj ?_
 refine bc h (fun hb h => ?_) fun hb h => ?_
 ·cbv
  refine kj ?_
  refine kk h fun c1 h => ?_
  refine kj ?_
  obtain ⟨w2, hw2, h⟩ := bd_e h; refine kc hP (Aj8 hA hw2) ?_; cbv
  refine bc h (fun hb h => ?_) fun hb h => ?_
  ·cbv
   refine kj ?_
   refine hQ1 _ h _ _ fun h => ?_; cbv
   exact le h hR
  ·cbv
   refine kj ?_
   cases h; exact hK1 _ _ [] rfl hdy
 ·cbv
  refine hQ1 _ h _ _ fun h => ?_; cbv
  refine kj ?_
  refine kl h (fun x _ => [(23, it .i64 x)]) (fun x gh => [⟨1, 0, .box 27 [st x0.1, .d (.sl .matcher x0.2), .d (.sl .str x0.3), it .i64 x0.4, it .i64 x0.5, it .i64 x0.6, .d (.sl .str x0.7), bl x0.8, .d (.sl .route x0.9)]⟩]) [] ?_
  rintro t23 gh2 g2 _ _ _ hK2 hQ2 h; cbv
  refine kj ?_
  refine bc h (fun hb h => ?_) fun hb h => ?_
  ·cbv
   refine kj ?_
   refine kk h fun c3 h => ?_
   refine kj ?_
   obtain ⟨w4, hw4, h⟩ := bd_e h; refine kc hP (Afu hA hw4) ?_; cbv
   refine bc h (fun hb h => ?_) fun hb h => ?_
   ·cbv
    refine kj ?_
    refine hQ2 _ h _ _ fun h => ?_; cbv
    exact le h hR
   ·cbv
    refine kj ?_
    cases h; exact hK2 _ _ [] rfl hdy
  ·cbv
   refine hQ2 _ h _ _ fun h => ?_; cbv
   refine kj ?_
   refine kl h (fun x _ => [(34, it .i64 x)]) (fun x gh => [⟨1, 0, .box 27 [st x0.1, .d (.sl .matcher x0.2), .d (.sl .str x0.3), it .i64 x0.4, it .i64 x0.5, it .i64 x0.6, .d (.sl .str x0.7), bl x0.8, .d (.sl .route x0.9)]⟩]) [] ?_
   rintro t34 gh3 g3 _ _ _ hK3 hQ3 h; cbv
   refine kj ?_
   refine bc h (fun hb h => ?_) fun hb h => ?_
   ·cbv
    refine kj ?_
    refine kk h fun c5 h => ?_
    refine kj ?_
    obtain ⟨w6, hw6, h⟩ := bd_e h; refine kc hP (Acv hA hw6) ?_; cbv
    refine bc h (fun hb h => ?_) fun hb h => ?_
    ·cbv
     refine kj ?_
     refine hQ3 _ h _ _ fun h => ?_; cbv
     exact le h hR
    ·cbv
     refine kj ?_
     cases h; exact hK3 _ _ [] rfl hdy
   ·cbv
    refine hQ3 _ h _ _ fun h => ?_; cbv
    refine kj ?_
    obtain ⟨w7, hw7, h⟩ := bd_e h; refine kc hP (Acv hA hw7) ?_; cbv
    iterate 8 refine cj ?_
    obtain ⟨w8, hw8, h⟩ := bd_e h; refine kg hP (fun hc => (Ai4 hA (gd_e hw8 hc))) ?_; cbv
    iterate 4 refine cj ?_
    obtain ⟨w9, hw9, h⟩ := bd_e h; refine kg hP (fun hc => (Ai4 hA (gd_e hw9 hc))) ?_; cbv
    iterate 4 refine cj ?_
    obtain ⟨w10, hw10, h⟩ := bd_e h; refine kg hP (fun hc => (Ah8 hA (gd_e hw10 hc))) ?_; cbv
    iterate 4 refine cj ?_
    obtain ⟨w11, hw11, h⟩ := bd_e h; refine kg hP (fun hc => (Ah8 hA (gd_e hw11 hc))) ?_; cbv
    iterate 4 refine cj ?_
    obtain ⟨w12, hw12, h⟩ := bd_e h; refine kg hP (fun hc => (Ah8 hA (gd_e hw12 hc))) ?_; cbv
    iterate 6 refine cj ?_
    exact le h hR
theorem Apv {A : Ar} (hA : A = std) {rf : Route → Int → Option Bool} {x0 : Route} {x1 : Int} (hqr182 : ∀ (x0 : Route) (x1 : Int) (r : Bool), rf x0 x1 = some r → PFun cx 182 [Aau x0, it .i64 x1] (bl r)) {r : Bool} (h : Aet A rf x0 x1 = some r) : PFun cx 182 [Aau x0, it .i64 x1] (bl r) := by
 refine wF hA cx_ok Tryz.func182 fun P R hP hR => ?_
 cbv; unfold Aet at h
 iterate 2 refine kj ?_
 iterate 2 refine cj ?_
 obtain ⟨w1, hw1, h⟩ := bd_e h; refine kg hP (fun hc => (Aq1 hA (gd_e hw1 hc))) ?_; cbv
 iterate 2 refine cj ?_
 refine bc h (fun hb h => ?_) fun hb h => ?_
 ·cbv
  refine kj ?_
  exact le h hR
 ·cbv
  refine kj ?_
  refine kl h (fun x _ => [(17, it .i64 x)]) (fun x gh => [⟨2, 0, .box 27 [st x0.1, .d (.sl .matcher x0.2), .d (.sl .str x0.3), it .i64 x0.4, it .i64 x0.5, it .i64 x0.6, .d (.sl .str x0.7), bl x0.8, .d (.sl .route x0.9)]⟩]) [] ?_
  rintro t17 gh1 g1 _ _ _ hK1 hQ1 h; cbv
  refine kj ?_
  refine bc h (fun hb h => ?_) fun hb h => ?_
  ·cbv
   refine kj ?_
   refine kk h fun c2 h => ?_
   refine kj ?_
   obtain ⟨w3, hw3, h⟩ := bd_e h; refine kc hP (hqr182 _ _ _ hw3) ?_; cbv
   refine bc h (fun hb h => ?_) fun hb h => ?_
   ·cbv
    refine kj ?_
    refine hQ1 _ h _ _ fun h => ?_; cbv
    exact le h hR
   ·cbv
    refine kj ?_
    cases h; exact hK1 _ _ [] rfl hdy
  ·cbv
   refine hQ1 _ h _ _ fun h => ?_; cbv
   refine kj ?_
   exact le h hR
theorem Aj9 {A : Ar} (hA : A = std) : ∀ (n : Nat) (x0 : Route) (x1 : Int) (r : Bool), Abt A n x0 x1 = some r → PFun cx 182 [Aau x0, it .i64 x1] (bl r)
 | 0, _, _, _, h => by cases h
 | n + 1, x0, x1, r, h => Apv hA (fun _ _ _ hh => Aj9 hA n _ _ _ hh) h
theorem Aq2 {A : Ar} (hA : A = std) {x0 : Route} {x1 : Int} {r : Bool} (h : Ajo A x0 x1 = some r) : PFun cx 182 [Aau x0, it .i64 x1] (bl r) := Aj9 hA _ _ _ _ h
theorem Apw {A : Ar} (hA : A = std) {x0 : Route} {r : Bool} (h : Adm A x0 = some r) : PFun cx 102 [Aau x0] (bl r) := by
 refine wF hA cx_ok Tryz.func102 fun P R hP hR => ?_
 cbv; unfold Adm at h
 iterate 2 refine kj ?_
 obtain ⟨w1, hw1, h⟩ := bd_e h; refine kc hP (Aq2 hA hw1) ?_; cbv
 exact le h hR
theorem Apx {A : Ar} (hA : A = std) {rf : Route → Option (List Route)} {x0 : Route} (hqr103 : ∀ (x0 : Route) (r : List Route), rf x0 = some r → PFun cx 103 [Aau x0] (.d (.sl TyS.route r))) {r : List Route} (h : Aeu A rf x0 = some r) : PFun cx 103 [Aau x0] (.d (.sl TyS.route r)) := by
 refine wF hA cx_ok Tryz.func103 fun P R hP hR => ?_
 cbv; unfold Aeu at h
 iterate 3 refine kj ?_
 refine kl h (fun x gh => [(3, .os 4030 gh TyS.route x.1), (11, it .i64 x.2)]) (fun x gh => [⟨4030, gh, .tok 27 TyS.route (A.nlen TyS.route x.1)⟩, ⟨1, 0, .box 27 [st x0.1, .d (.sl .matcher x0.2), .d (.sl .str x0.3), it .i64 x0.4, it .i64 x0.5, it .i64 x0.6, .d (.sl .str x0.7), bl x0.8, .d (.sl .route x0.9)]⟩]) [(4030, 7, 1)] ?_
 rintro ⟨out3, t11⟩ gh1 g1 _ _ _ hK1 hQ1 h; cbv
 refine kj ?_
 refine bc h (fun hb h => ?_) fun hb h => ?_
 ·cbv
  refine kj ?_
  refine kk h fun c1 h => ?_
  refine kj ?_
  obtain ⟨w2, hw2, h⟩ := bd_e h; refine kc hP (hqr103 _ _ hw2) ?_; cbv
  refine kk h fun c3 h => ?_
  refine kj ?_
  cases h; exact hK1 _ _ [(4030, 18, g1.succ.succ)] rfl hdy
 ·cbv
  refine hQ1 _ h _ _ fun h => ?_; cbv
  refine kj ?_
  cases h; subst hR; exact ey
theorem Aka {A : Ar} (hA : A = std) : ∀ (n : Nat) (x0 : Route) (r : List Route), Adn A n x0 = some r → PFun cx 103 [Aau x0] (.d (.sl TyS.route r))
 | 0, _, _, h => by cases h
 | n + 1, x0, r, h => Apx hA (fun _ _ hh => Aka hA n _ _ hh) h
theorem Aq3 {A : Ar} (hA : A = std) {x0 : Route} {r : List Route} (h : Ahh A x0 = some r) : PFun cx 103 [Aau x0] (.d (.sl TyS.route r)) := Aka hA _ _ _ h
theorem Apy {A : Ar} (hA : A = std) {x0 : Config} {r : Bool} (h : Ado A x0 = some r) : PFun cx 27 [Ahk x0] (bl r) := by
 refine wF hA cx_ok Tryz.func27 fun P R hP hR => ?_
 cbv; unfold Ado at h
 iterate 2 refine kj ?_
 obtain ⟨w1, hw1, h⟩ := bd_e h; refine kc hP (Aj6 hA hw1) ?_; cbv
 refine kj ?_
 obtain ⟨w2, hw2, h⟩ := bd_e h; refine kc hP (Aj7 hA hw2) ?_; cbv
 refine kj ?_
 iterate 10 refine cj ?_
 obtain ⟨w3, hw3, h⟩ := bd_e h; refine kg hP (fun hc => (Ahq hA (gd_e hw3 hc))) ?_; cbv
 iterate 7 refine cj ?_
 refine bc h (fun hb h => ?_) fun hb h => ?_
 ·cbv
  refine kj ?_
  exact le h hR
 ·cbv
  refine kj ?_
  refine kl h (fun x _ => [(55, it .i64 x)]) (fun x gh => [⟨1, 0, .box 31 [.d (.sl .rule x0.1), st x0.2.1, .d (.sl .matcher x0.2.2), .d (.sl .str x0.2.3), it .i64 x0.2.4, it .i64 x0.2.5, it .i64 x0.2.6, .d (.sl .str x0.2.7), bl x0.2.8, .d (.sl .route x0.2.9), .d (.sl .str x0.3), .d (.sl .inhibit x0.4), .d (.sl .hours x0.5)]⟩]) [] ?_
  rintro t55 gh1 g1 _ _ _ hK1 hQ1 h; cbv
  refine kj ?_
  refine bc h (fun hb h => ?_) fun hb h => ?_
  ·cbv
   refine kj ?_
   refine kk h fun c4 h => ?_
   refine kj ?_
   obtain ⟨w5, hw5, h⟩ := bd_e h; refine kc hP (Acv hA hw5) ?_; cbv
   refine bc h (fun hb h => ?_) fun hb h => ?_
   ·cbv
    refine kj ?_
    refine hQ1 _ h _ _ fun h => ?_; cbv
    exact le h hR
   ·cbv
    refine kj ?_
    cases h; exact hK1 _ _ [] rfl hdy
  ·cbv
   refine hQ1 _ h _ _ fun h => ?_; cbv
   refine kj ?_
   refine kl h (fun x _ => [(66, it .i64 x)]) (fun x gh => [⟨1, 0, .box 31 [.d (.sl .rule x0.1), st x0.2.1, .d (.sl .matcher x0.2.2), .d (.sl .str x0.2.3), it .i64 x0.2.4, it .i64 x0.2.5, it .i64 x0.2.6, .d (.sl .str x0.2.7), bl x0.2.8, .d (.sl .route x0.2.9), .d (.sl .str x0.3), .d (.sl .inhibit x0.4), .d (.sl .hours x0.5)]⟩]) [] ?_
   rintro t66 gh2 g2 _ _ _ hK2 hQ2 h; cbv
   refine kj ?_
   refine bc h (fun hb h => ?_) fun hb h => ?_
   ·cbv
    refine kj ?_
    refine kk h fun c6 h => ?_
    refine kj ?_
    obtain ⟨w7, hw7, h⟩ := bd_e h; refine kc hP (Aoh hA hw7) ?_; cbv
    refine bc h (fun hb h => ?_) fun hb h => ?_
    ·cbv
     refine kj ?_
     refine hQ2 _ h _ _ fun h => ?_; cbv
     exact le h hR
    ·cbv
     refine kj ?_
     cases h; exact hK2 _ _ [] rfl hdy
   ·cbv
    refine hQ2 _ h _ _ fun h => ?_; cbv
    refine kj ?_
    obtain ⟨w8, hw8, h⟩ := bd_e h; refine kc hP (Apw hA hw8) ?_; cbv
    iterate 10 refine cj ?_
    refine bc h (fun hb h => ?_) fun hb h => ?_
    ·cbv
     refine kj ?_
     exact le h hR
    ·cbv
     refine kj ?_
     obtain ⟨w9, hw9, h⟩ := bd_e h; refine kc hP (Aq3 hA hw9) ?_; cbv
     refine kj ?_
     refine kl h (fun x _ => [(95, it .i64 x)]) (fun x gh => [⟨1, 0, .box 31 [.d (.sl .rule x0.1), st x0.2.1, .d (.sl .matcher x0.2.2), .d (.sl .str x0.2.3), it .i64 x0.2.4, it .i64 x0.2.5, it .i64 x0.2.6, .d (.sl .str x0.2.7), bl x0.2.8, .d (.sl .route x0.2.9), .d (.sl .str x0.3), .d (.sl .inhibit x0.4), .d (.sl .hours x0.5)]⟩]) [] ?_
     rintro t95 gh3 g3 _ _ _ hK3 hQ3 h; cbv
     refine kj ?_
     refine bc h (fun hb h => ?_) fun hb h => ?_
     ·cbv
      refine kj ?_
      refine kk h fun c10 h => ?_
      refine kj ?_
      obtain ⟨w11, hw11, h⟩ := bd_e h; refine kc hP (Agg hA hw11) ?_; cbv
      refine bc h (fun hb h => ?_) fun hb h => ?_
      ·cbv
       refine kj ?_
       refine hQ3 _ h _ _ fun h => ?_; cbv
       exact le h hR
      ·cbv
       refine kj ?_
       refine kl h (fun x _ => [(108, it .i64 x)]) (fun x gh => [⟨13, g3.succ, .box 27 [PV.d (D.v (Value.string (A.get TyS.route w9 t95).1)), PV.d (D.sl TyS.matcher (A.get TyS.route w9 t95).2), PV.d (D.sl TyS.str (A.get TyS.route w9 t95).3), PV.d (D.v (Value.int .i64 (A.get TyS.route w9 t95).4)), PV.d (D.v (Value.int .i64 (A.get TyS.route w9 t95).5)), PV.d (D.v (Value.int .i64 (A.get TyS.route w9 t95).6)), PV.d (D.sl TyS.str (A.get TyS.route w9 t95).7), PV.d (D.v (Value.bool (A.get TyS.route w9 t95).8)), PV.d (D.sl TyS.route (A.get TyS.route w9 t95).9)]⟩, ⟨1, 0, .box 31 [.d (.sl .rule x0.1), st x0.2.1, .d (.sl .matcher x0.2.2), .d (.sl .str x0.2.3), it .i64 x0.2.4, it .i64 x0.2.5, it .i64 x0.2.6, .d (.sl .str x0.2.7), bl x0.2.8, .d (.sl .route x0.2.9), .d (.sl .str x0.3), .d (.sl .inhibit x0.4), .d (.sl .hours x0.5)]⟩]) [] ?_
       rintro t108 gh4 g4 _ _ _ hK4 hQ4 h; cbv
       refine kj ?_
       refine bc h (fun hb h => ?_) fun hb h => ?_
       ·cbv
        refine kj ?_
        refine kk h fun c12 h => ?_
        refine kj ?_
        obtain ⟨w13, hw13, h⟩ := bd_e h; refine kc hP (Agg hA hw13) ?_; cbv
        refine bc h (fun hb h => ?_) fun hb h => ?_
        ·cbv
         refine kj ?_
         refine hQ4 _ h _ _ fun h => ?_; cbv
         refine hQ3 _ h _ _ fun h => ?_; cbv
         exact le h hR
        ·cbv
         refine kj ?_
         cases h; exact hK4 _ _ [] rfl hdy
       ·cbv
        refine hQ4 _ h _ _ fun h => ?_; cbv
        refine kj ?_
        cases h; exact hK3 _ _ [] rfl hdy
     ·cbv
      refine hQ3 _ h _ _ fun h => ?_; cbv
      refine kj ?_
      exact le h hR
theorem Aql {A : Ar} (hA : A = std) {x0 : Int} {r : ByteArray} (h : Afj A x0 = some r) : PFun cx 280 [it .i64 x0] (st r) := by
 refine wF hA cx_ok Tryz.func280 fun P R hP hR => ?_
 cbv; unfold Afj at h
 iterate 2 refine kj ?_
 refine kk h fun c1 h => ?_
 exact le h hR
theorem Ahr {A : Ar} (hA : A = std) {x0 : Matcher} {r : ByteArray} (h : Acz A x0 = some r) : PFun cx 209 [Ah4 x0] (st r) := by
 refine wF hA cx_ok Tryz.func209 fun P R hP hR => ?_
 cbv; unfold Acz at h
 iterate 2 refine kj ?_
 obtain ⟨w1, hw1, h⟩ := bd_e h; refine kc hP (Aql hA hw1) ?_; cbv
 refine kk h fun c2 h => ?_
 refine kk h fun c3 h => ?_
 iterate 2 refine kj ?_
 refine kl h (fun x _ => [(3, st x.1), (16, it .i64 x.2)]) (fun x gh => [⟨1, 0, .box 99 [st x0.1, it .i64 x0.2, .d (.sl .str x0.3)]⟩]) [] ?_
 rintro ⟨out3, t16⟩ gh1 g1 _ _ _ hK1 hQ1 h; cbv
 refine kj ?_
 refine bc h (fun hb h => ?_) fun hb h => ?_
 ·cbv
  refine kj ?_
  refine kk h fun c4 h => ?_
  refine kj ?_
  refine bc h (fun hb h => ?_) fun hb h => ?_
  ·cbv
   refine kj ?_
   refine kk h fun c5 h => ?_
   refine kj ?_
   refine kk h fun c6 h => ?_
   refine kj ?_
   cases h; exact hK1 _ _ [] rfl hdy
  ·cbv
   refine kj ?_
   refine kk h fun c7 h => ?_
   refine kj ?_
   cases h; exact hK1 _ _ [] rfl hdy
 ·cbv
  refine hQ1 _ h _ _ fun h => ?_; cbv
  refine kj ?_
  refine kk h fun c8 h => ?_
  exact le h hR
theorem Aha {A : Ar} (hA : A = std) {x0 : List Matcher} {r : Bool} (h : Acn A x0 = some r) : PFun cx 124 [.d (.sl TyS.matcher x0)] (bl r) := by
 refine wF hA cx_ok Tryz.func124 fun P R hP hR => ?_
 cbv; unfold Acn at h
 iterate 2 refine kj ?_
 refine kl h (fun x _ => [(7, it .i64 x)]) (fun _ _ => []) [] ?_
 rintro t7 gh1 g1 _ _ _ hK1 hQ1 h; cbv
 refine kj ?_
 refine bc h (fun hb h => ?_) fun hb h => ?_
 ·cbv
  refine kj ?_
  refine kk h fun c1 h => ?_
  refine kj ?_
  obtain ⟨w2, hw2, h⟩ := bd_e h; refine kc hP (Ahr hA hw2) ?_; cbv
  refine bc h (fun hb h => ?_) fun hb h => ?_
  ·cbv
   refine kj ?_
   refine hQ1 _ h _ _ fun h => ?_; cbv
   exact le h hR
  ·cbv
   refine kj ?_
   cases h; exact hK1 _ _ [] rfl hdy
 ·cbv
  refine hQ1 _ h _ _ fun h => ?_; cbv
  refine kj ?_
  exact le h hR
theorem Ao4 {A : Ar} (hA : A = std) {rf : Route → Int → Option Bool} {x0 : Route} {x1 : Int} (hqr123 : ∀ (x0 : Route) (x1 : Int) (r : Bool), rf x0 x1 = some r → PFun cx 123 [Aau x0, it .i64 x1] (bl r)) {r : Bool} (h : Agn A rf x0 x1 = some r) : PFun cx 123 [Aau x0, it .i64 x1] (bl r) := by
 refine wF hA cx_ok Tryz.func123 fun P R hP hR => ?_
 cbv; unfold Agn at h
 iterate 2 refine kj ?_
 iterate 3 refine cj ?_
 obtain ⟨w1, hw1, h⟩ := bd_e h; refine kg hP (fun hc => (Aha hA (gd_e hw1 hc))) ?_; cbv
 iterate 2 refine cj ?_
 refine bc h (fun hb h => ?_) fun hb h => ?_
 ·cbv
  refine kj ?_
  exact le h hR
 ·cbv
  refine kj ?_
  refine kl h (fun x _ => [(18, it .i64 x)]) (fun x gh => [⟨2, 0, .box 27 [st x0.1, .d (.sl .matcher x0.2), .d (.sl .str x0.3), it .i64 x0.4, it .i64 x0.5, it .i64 x0.6, .d (.sl .str x0.7), bl x0.8, .d (.sl .route x0.9)]⟩]) [] ?_
  rintro t18 gh1 g1 _ _ _ hK1 hQ1 h; cbv
  refine kj ?_
  refine bc h (fun hb h => ?_) fun hb h => ?_
  ·cbv
   refine kj ?_
   refine kk h fun c2 h => ?_
   refine kj ?_
   obtain ⟨w3, hw3, h⟩ := bd_e h; refine kc hP (hqr123 _ _ _ hw3) ?_; cbv
   refine bc h (fun hb h => ?_) fun hb h => ?_
   ·cbv
    refine kj ?_
    refine hQ1 _ h _ _ fun h => ?_; cbv
    exact le h hR
   ·cbv
    refine kj ?_
    cases h; exact hK1 _ _ [] rfl hdy
  ·cbv
   refine hQ1 _ h _ _ fun h => ?_; cbv
   refine kj ?_
   exact le h hR
theorem Aji {A : Ar} (hA : A = std) : ∀ (n : Nat) (x0 : Route) (x1 : Int) (r : Bool), Ac6 A n x0 x1 = some r → PFun cx 123 [Aau x0, it .i64 x1] (bl r)
 | 0, _, _, _, h => by cases h
 | n + 1, x0, x1, r, h => Ao4 hA (fun _ _ _ hh => Aji hA n _ _ _ hh) h
theorem Aqm {A : Ar} (hA : A = std) {x0 : Route} {x1 : Int} {r : Bool} (h : Ai0 A x0 x1 = some r) : PFun cx 123 [Aau x0, it .i64 x1] (bl r) := Aji hA _ _ _ _ h
theorem Akb {A : Ar} (hA : A = std) {x0 : Config} {r : Bool} (h : Adp A x0 = some r) : PFun cx 38 [Ahk x0] (bl r) := by
 refine wF hA cx_ok Tryz.func38 fun P R hP hR => ?_
 cbv; unfold Adp at h
 iterate 3 refine kj ?_
 obtain ⟨w1, hw1, h⟩ := bd_e h; refine ke hP (Apy hA hw1) ?_; cbv
 iterate 3 refine cj ?_
 obtain ⟨w2, hw2, h⟩ := bd_e h; refine kg hP (fun hc => (Aqm hA (gd_e hw2 hc))) ?_; cbv
 iterate 2 refine cj ?_
 refine bc h (fun hb h => ?_) fun hb h => ?_
 ·cbv
  refine kj ?_
  exact le h hR
 ·cbv
  refine kj ?_
  refine kl h (fun x _ => [(18, it .i64 x)]) (fun x gh => [⟨1, 0, .box 31 [PV.d (D.v (Value.slice none 0 0)), st x0.2.1, .d (.sl .matcher x0.2.2), .d (.sl .str x0.2.3), it .i64 x0.2.4, it .i64 x0.2.5, it .i64 x0.2.6, .d (.sl .str x0.2.7), bl x0.2.8, .d (.sl .route x0.2.9), .d (.sl .str x0.3), .d (.sl .inhibit x0.4), .d (.sl .hours x0.5)]⟩]) [] ?_
  rintro t18 gh1 g1 _ _ _ hK1 hQ1 h; cbv
  refine kj ?_
  refine bc h (fun hb h => ?_) fun hb h => ?_
  ·cbv
   refine kj ?_
   refine kk h fun c3 h => ?_
   refine kj ?_
   obtain ⟨w4, hw4, h⟩ := bd_e h; refine kc hP (Aha hA hw4) ?_; cbv
   iterate 3 refine cj ?_
   obtain ⟨w5, hw5, h⟩ := bd_e h; refine kg hP (fun hc => (Aha hA (gd_e hw5 hc))) ?_; cbv
   iterate 2 refine cj ?_
   refine bc h (fun hb h => ?_) fun hb h => ?_
   ·cbv
    refine kj ?_
    refine hQ1 _ h _ _ fun h => ?_; cbv
    exact le h hR
   ·cbv
    refine kj ?_
    cases h; exact hK1 _ _ [] rfl hdy
  ·cbv
   refine hQ1 _ h _ _ fun h => ?_; cbv
   refine kj ?_
   exact le h hR
theorem Aeh {A : Ar} (hA : A = std) {x0 : List ByteArray} {r : List Int} (h : Aad A x0 = some r) : PFun cx 110 [.d (.sl TyS.str x0)] (.d (.sl TyS.int r)) := by
 refine wF hA cx_ok Tryz.func110 fun P R hP hR => ?_
 cbv; unfold Aad at h
 iterate 3 refine kj ?_
 refine kl h (fun x gh => [(3, .os 4030 gh TyS.int x.1), (11, it .i64 x.2)]) (fun x gh => [⟨4030, gh, .tok 3 TyS.int (A.nlen TyS.int x.1)⟩]) [(4030, 8, 1)] ?_
 rintro ⟨out3, t11⟩ gh1 g1 _ _ _ hK1 hQ1 h; cbv
 refine kj ?_
 refine bc h (fun hb h => ?_) fun hb h => ?_
 ·cbv
  refine kj ?_
  refine kk h fun c1 h => ?_
  refine kj ?_
  refine kk h fun c2 h => ?_
  obtain ⟨w3, hw3, h⟩ := bd_e h; refine kc hP (Agg hA hw3) ?_; cbv
  refine bc h (fun hb h => ?_) fun hb h => ?_
  ·cbv
   refine kj ?_
   cases h; exact hK1 _ _ [(4030, 4030, gh1)] rfl hdy
  ·cbv
   refine kj ?_
   refine kl h (fun x _ => [(6, it .i64 x)]) (fun x gh => [⟨4030, gh1, Cell.tok 3 TyS.int (A.nlen TyS.int out3)⟩]) [] ?_
   rintro k6 gh2 g2 _ _ _ hK2 hQ2 h; cbv
   refine kj ?_
   iterate 2 refine cj ?_
   refine kk h fun c4 h => ?_
   iterate 3 refine cj ?_
   refine kk h fun c5 h => ?_
   iterate 3 refine cj ?_
   obtain ⟨w6, hw6, h⟩ := bd_e h; refine kg hP (fun hc => (Adz hA (gd_e hw6 hc))) ?_; cbv
   refine cj ?_
   refine bc h (fun hb h => ?_) fun hb h => ?_
   ·cbv
    refine kj ?_
    cases h; exact hK2 _ _ [] rfl hdy
   ·cbv
    refine hQ2 _ h _ _ fun h => ?_; cbv
    iterate 2 refine kj ?_
    refine kk h fun c7 h => ?_
    refine kk h fun c8 h => ?_
    refine kj ?_
    refine kk h fun c9 h => ?_
    refine kj ?_
    refine kk h fun c10 h => ?_
    refine kk h fun c11 h => ?_
    iterate 2 refine kj ?_
    cases h; exact hK1 _ _ [(4030, 52, g2.succ.succ.succ.succ)] rfl hdy
 ·cbv
  refine hQ1 _ h _ _ fun h => ?_; cbv
  refine kj ?_
  cases h; subst hR; exact ey
theorem Ao5 {A : Ar} (hA : A = std) {x0 : Int} {r : ByteArray} (h : Ad7 A x0 = some r) : PFun cx 268 [it .i64 x0] (st r) := by
 refine wF hA cx_ok Tryz.func268 fun P R hP hR => ?_
 cbv; unfold Ad7 at h
 iterate 2 refine kj ?_
 refine kl h (fun x gh => [(0, it .i64 x.1), (3, .os 4031 gh TyS.byte x.2)]) (fun x gh => [⟨4031, gh, .tok 5 TyS.byte (A.nlen TyS.byte x.2)⟩]) [(4031, 4, 1)] ?_
 rintro ⟨n0, b3⟩ gh1 g1 _ _ _ hK1 hQ1 h; cbv
 refine kj ?_
 refine bc h (fun hb h => ?_) fun hb h => ?_
 ·cbv
  refine kj ?_
  refine ⟨by subst hA; simp +contextual [vcm], ?_⟩
  refine and_assoc.2 ?_
  refine kk h fun c1 h => ?_
  refine cj ?_
  refine kk h fun c2 h => ?_
  refine kj ?_
  refine ⟨by subst hA; simp +contextual [vcm], ?_⟩
  cases h; exact hK1 _ _ [(4031, 13, g1.succ)] rfl hdy
 ·cbv
  refine hQ1 _ h _ _ fun h => ?_; cbv
  refine kj ?_
  refine and_assoc.2 ?_
  refine kk h fun c3 h => ?_
  refine cj ?_
  refine kk h fun c4 h => ?_
  refine kj ?_
  exact le h hR
theorem Ahs {A : Ar} (hA : A = std) {x0 : List ByteArray} {r : ByteArray} (h : Ac0 A x0 = some r) : PFun cx 186 [.d (.sl TyS.str x0)] (st r) := by
 refine wF hA cx_ok Tryz.func186 fun P R hP hR => ?_
 cbv; unfold Ac0 at h
 iterate 3 refine kj ?_
 refine kl h (fun x _ => [(3, st x.1), (8, it .i64 x.2)]) (fun _ _ => []) [] ?_
 rintro ⟨out3, t8⟩ gh1 g1 _ _ _ hK1 hQ1 h; cbv
 refine kj ?_
 refine bc h (fun hb h => ?_) fun hb h => ?_
 ·cbv
  refine kj ?_
  refine kk h fun c1 h => ?_
  refine kj ?_
  obtain ⟨w2, hw2, h⟩ := bd_e h; refine kc hP (Ao5 hA hw2) ?_; cbv
  refine kk h fun c3 h => ?_
  refine kk h fun c4 h => ?_
  refine kj ?_
  cases h; exact hK1 _ _ [] rfl hdy
 ·cbv
  refine hQ1 _ h _ _ fun h => ?_; cbv
  refine kj ?_
  exact le h hR
theorem Ain {A : Ar} (hA : A = std) {x0 : List Matcher} {r : ByteArray} (h : Acj A x0 = some r) : PFun cx 187 [.d (.sl TyS.matcher x0)] (st r) := by
 refine wF hA cx_ok Tryz.func187 fun P R hP hR => ?_
 cbv; unfold Acj at h
 iterate 3 refine kj ?_
 refine kl h (fun x gh => [(3, .os 4030 gh TyS.str x.1), (9, it .i64 x.2)]) (fun x gh => [⟨4030, gh, .tok 9 TyS.str (A.nlen TyS.str x.1)⟩]) [(4030, 6, 1)] ?_
 rintro ⟨out3, t9⟩ gh1 g1 _ _ _ hK1 hQ1 h; cbv
 refine kj ?_
 refine bc h (fun hb h => ?_) fun hb h => ?_
 ·cbv
  refine kj ?_
  refine kk h fun c1 h => ?_
  refine kj ?_
  obtain ⟨w2, hw2, h⟩ := bd_e h; refine kc hP (Ahr hA hw2) ?_; cbv
  refine kk h fun c3 h => ?_
  refine kj ?_
  cases h; exact hK1 _ _ [(4030, 17, g1.succ.succ)] rfl hdy
 ·cbv
  refine hQ1 _ h _ _ fun h => ?_; cbv
  refine kj ?_
  obtain ⟨w4, hw4, h⟩ := bd_e h; refine kc hP (Ahs hA hw4) ?_; cbv
  exact le h hR
theorem Apz {A : Ar} (hA : A = std) {x0 : Inhibit} {r : ByteArray} (h : Aew A x0 = some r) : PFun cx 111 [Agd x0] (st r) := by
 refine wF hA cx_ok Tryz.func111 fun P R hP hR => ?_
 cbv; unfold Aew at h
 iterate 2 refine kj ?_
 obtain ⟨w1, hw1, h⟩ := bd_e h; refine kc hP (Ain hA hw1) ?_; cbv
 obtain ⟨w2, hw2, h⟩ := bd_e h; refine kc hP (Ain hA hw2) ?_; cbv
 obtain ⟨w3, hw3, h⟩ := bd_e h; refine kc hP (Ahs hA hw3) ?_; cbv
 obtain ⟨w4, hw4, h⟩ := bd_e h; refine kc hP (Ahs hA hw4) ?_; cbv
 refine kj ?_
 exact le h hR
theorem Ao6 {A : Ar} (hA : A = std) {x0 : Config} {r : Config} (h : Ac7 A x0 = some r) : PFun cx 32 [Ahk x0] (Ahk r) := by
 refine wF hA cx_ok Tryz.func32 fun P R hP hR => ?_
 cbv; unfold Ac7 at h
 iterate 3 refine kj ?_
 obtain ⟨w1, hw1, h⟩ := bd_e h; refine kc hP (Aj6 hA hw1) ?_; cbv
 refine kj ?_
 obtain ⟨w2, hw2, h⟩ := bd_e h; refine kc hP (Aeh hA hw2) ?_; cbv
 refine kl h (fun x _ => [(29, it .i64 x.1)]) (fun x gh => [⟨4031, gh, .tok 36 TyS.rule (A.nlen TyS.rule x.2)⟩, ⟨3, 1, .box 31 [.os 4031 gh TyS.rule x.2, st x0.2.1, .d (.sl .matcher x0.2.2), .d (.sl .str x0.2.3), it .i64 x0.2.4, it .i64 x0.2.5, it .i64 x0.2.6, .d (.sl .str x0.2.7), bl x0.2.8, .d (.sl .route x0.2.9), PV.d (D.v (Value.slice none 0 0)), PV.d (D.v (Value.slice none 0 0)), PV.d (D.v (Value.slice none 0 0))]⟩, ⟨2, 0, .box 31 [PV.d (D.v (Value.slice none 0 0)), PV.d (D.v (Value.string (ByteArray.mk (Array.mk [])))), PV.d (D.v (Value.slice none 0 0)), PV.d (D.v (Value.slice none 0 0)), it .i64 0, it .i64 0, it .i64 0, PV.d (D.v (Value.slice none 0 0)), bl false, PV.d (D.v (Value.slice none 0 0)), PV.d (D.v (Value.slice none 0 0)), PV.d (D.v (Value.slice none 0 0)), PV.d (D.v (Value.slice none 0 0))]⟩, ⟨1, 0, .box 31 [.d (.sl .rule x0.1), st x0.2.1, .d (.sl .matcher x0.2.2), .d (.sl .str x0.2.3), it .i64 x0.2.4, it .i64 x0.2.5, it .i64 x0.2.6, .d (.sl .str x0.2.7), bl x0.2.8, .d (.sl .route x0.2.9), .d (.sl .str x0.3), .d (.sl .inhibit x0.4), .d (.sl .hours x0.5)]⟩]) [] ?_
 rintro ⟨t29, b0_3⟩ gh1 g1 _ _ _ hK1 hQ1 h; cbv
 refine kj ?_
 refine bc h (fun hb h => ?_) fun hb h => ?_
 ·cbv
  refine kj ?_
  refine kk h fun c3 h => ?_
  refine kj ?_
  refine kk h fun c4 h => ?_
  refine kk h fun c5 h => ?_
  iterate 2 refine kj ?_
  cases h; exact hK1 _ _ [(4031, 41, g1.succ.succ)] rfl hdy
 ·cbv
  refine hQ1 _ h _ _ fun h => ?_; cbv
  refine kj ?_
  obtain ⟨w6, hw6, h⟩ := bd_e h; refine kc hP (Aeh hA hw6) ?_; cbv
  refine kl h (fun x _ => [(48, it .i64 x.1)]) (fun x gh => [⟨4061, gh, .tok 9 TyS.str (A.nlen TyS.str x.2)⟩, ⟨3, 1, .box 31 [PV.os 4031 gh1 TyS.rule b0_3, st x0.2.1, .d (.sl .matcher x0.2.2), .d (.sl .str x0.2.3), it .i64 x0.2.4, it .i64 x0.2.5, it .i64 x0.2.6, .d (.sl .str x0.2.7), bl x0.2.8, .d (.sl .route x0.2.9), .os 4061 gh TyS.str x.2, PV.d (D.v (Value.slice none 0 0)), PV.d (D.v (Value.slice none 0 0))]⟩, ⟨2, 0, .box 31 [PV.d (D.v (Value.slice none 0 0)), PV.d (D.v (Value.string (ByteArray.mk (Array.mk [])))), PV.d (D.v (Value.slice none 0 0)), PV.d (D.v (Value.slice none 0 0)), it .i64 0, it .i64 0, it .i64 0, PV.d (D.v (Value.slice none 0 0)), bl false, PV.d (D.v (Value.slice none 0 0)), PV.d (D.v (Value.slice none 0 0)), PV.d (D.v (Value.slice none 0 0)), PV.d (D.v (Value.slice none 0 0))]⟩, ⟨1, 0, .box 31 [.d (.sl .rule x0.1), st x0.2.1, .d (.sl .matcher x0.2.2), .d (.sl .str x0.2.3), it .i64 x0.2.4, it .i64 x0.2.5, it .i64 x0.2.6, .d (.sl .str x0.2.7), bl x0.2.8, .d (.sl .route x0.2.9), .d (.sl .str x0.3), .d (.sl .inhibit x0.4), .d (.sl .hours x0.5)]⟩, ⟨4031, gh1, Cell.tok 36 TyS.rule (A.nlen TyS.rule b0_3)⟩]) [] ?_
  rintro ⟨t48, b10_3⟩ gh2 g2 _ _ _ hK2 hQ2 h; cbv
  refine kj ?_
  refine bc h (fun hb h => ?_) fun hb h => ?_
  ·cbv
   refine kj ?_
   refine kk h fun c7 h => ?_
   refine kj ?_
   refine kk h fun c8 h => ?_
   refine kk h fun c9 h => ?_
   iterate 2 refine kj ?_
   cases h; exact hK2 _ _ [(4061, 60, g2.succ.succ)] rfl hdy
  ·cbv
   refine hQ2 _ h _ _ fun h => ?_; cbv
   refine kj ?_
   obtain ⟨w10, hw10, h⟩ := bd_e h; refine kc hP (Aj7 hA hw10) ?_; cbv
   refine kj ?_
   obtain ⟨w11, hw11, h⟩ := bd_e h; refine kc hP (Aeh hA hw11) ?_; cbv
   refine kl h (fun x _ => [(72, it .i64 x.1)]) (fun x gh => [⟨4091, gh, .tok 67 TyS.hours (A.nlen TyS.hours x.2)⟩, ⟨3, 1, .box 31 [PV.os 4031 gh1 TyS.rule b0_3, st x0.2.1, .d (.sl .matcher x0.2.2), .d (.sl .str x0.2.3), it .i64 x0.2.4, it .i64 x0.2.5, it .i64 x0.2.6, .d (.sl .str x0.2.7), bl x0.2.8, .d (.sl .route x0.2.9), PV.os 4061 gh2 TyS.str b10_3, PV.d (D.v (Value.slice none 0 0)), .os 4091 gh TyS.hours x.2]⟩, ⟨2, 0, .box 31 [PV.d (D.v (Value.slice none 0 0)), PV.d (D.v (Value.string (ByteArray.mk (Array.mk [])))), PV.d (D.v (Value.slice none 0 0)), PV.d (D.v (Value.slice none 0 0)), it .i64 0, it .i64 0, it .i64 0, PV.d (D.v (Value.slice none 0 0)), bl false, PV.d (D.v (Value.slice none 0 0)), PV.d (D.v (Value.slice none 0 0)), PV.d (D.v (Value.slice none 0 0)), PV.d (D.v (Value.slice none 0 0))]⟩, ⟨1, 0, .box 31 [.d (.sl .rule x0.1), st x0.2.1, .d (.sl .matcher x0.2.2), .d (.sl .str x0.2.3), it .i64 x0.2.4, it .i64 x0.2.5, it .i64 x0.2.6, .d (.sl .str x0.2.7), bl x0.2.8, .d (.sl .route x0.2.9), .d (.sl .str x0.3), .d (.sl .inhibit x0.4), .d (.sl .hours x0.5)]⟩, ⟨4061, gh2, Cell.tok 9 TyS.str (A.nlen TyS.str b10_3)⟩, ⟨4031, gh1, Cell.tok 36 TyS.rule (A.nlen TyS.rule b0_3)⟩]) [] ?_
   rintro ⟨t72, b12_3⟩ gh3 g3 _ _ _ hK3 hQ3 h; cbv
   refine kj ?_
   refine bc h (fun hb h => ?_) fun hb h => ?_
   ·cbv
    refine kj ?_
    refine kk h fun c12 h => ?_
    refine kj ?_
    refine kk h fun c13 h => ?_
    refine kk h fun c14 h => ?_
    iterate 2 refine kj ?_
    cases h; exact hK3 _ _ [(4091, 84, g3.succ.succ)] rfl hdy
   ·cbv
    refine hQ3 _ h _ _ fun h => ?_; cbv
    iterate 2 refine kj ?_
    refine kl h (fun x gh => [(12, .os 4120 gh TyS.str x.1), (91, it .i64 x.2)]) (fun x gh => [⟨4120, gh, .tok 9 TyS.str (A.nlen TyS.str x.1)⟩, ⟨3, 1, .box 31 [PV.os 4031 gh1 TyS.rule b0_3, st x0.2.1, .d (.sl .matcher x0.2.2), .d (.sl .str x0.2.3), it .i64 x0.2.4, it .i64 x0.2.5, it .i64 x0.2.6, .d (.sl .str x0.2.7), bl x0.2.8, .d (.sl .route x0.2.9), PV.os 4061 gh2 TyS.str b10_3, PV.d (D.v (Value.slice none 0 0)), PV.os 4091 gh3 TyS.hours b12_3]⟩, ⟨2, 0, .box 31 [PV.d (D.v (Value.slice none 0 0)), PV.d (D.v (Value.string (ByteArray.mk (Array.mk [])))), PV.d (D.v (Value.slice none 0 0)), PV.d (D.v (Value.slice none 0 0)), it .i64 0, it .i64 0, it .i64 0, PV.d (D.v (Value.slice none 0 0)), bl false, PV.d (D.v (Value.slice none 0 0)), PV.d (D.v (Value.slice none 0 0)), PV.d (D.v (Value.slice none 0 0)), PV.d (D.v (Value.slice none 0 0))]⟩, ⟨1, 0, .box 31 [.d (.sl .rule x0.1), st x0.2.1, .d (.sl .matcher x0.2.2), .d (.sl .str x0.2.3), it .i64 x0.2.4, it .i64 x0.2.5, it .i64 x0.2.6, .d (.sl .str x0.2.7), bl x0.2.8, .d (.sl .route x0.2.9), .d (.sl .str x0.3), .d (.sl .inhibit x0.4), .d (.sl .hours x0.5)]⟩, ⟨4091, gh3, Cell.tok 67 TyS.hours (A.nlen TyS.hours b12_3)⟩, ⟨4061, gh2, Cell.tok 9 TyS.str (A.nlen TyS.str b10_3)⟩, ⟨4031, gh1, Cell.tok 36 TyS.rule (A.nlen TyS.rule b0_3)⟩]) [(4120, 87, g3.succ)] ?_
    rintro ⟨t12, t91⟩ gh4 g4 _ _ _ hK4 hQ4 h; cbv
    refine kj ?_
    refine bc h (fun hb h => ?_) fun hb h => ?_
    ·cbv
     refine kj ?_
     refine kk h fun c15 h => ?_
     refine kj ?_
     obtain ⟨w16, hw16, h⟩ := bd_e h; refine kc hP (Apz hA hw16) ?_; cbv
     refine kk h fun c17 h => ?_
     refine kj ?_
     cases h; exact hK4 _ _ [(4120, 99, g4.succ.succ)] rfl hdy
    ·cbv
     refine hQ4 _ h _ _ fun h => ?_; cbv
     refine kj ?_
     obtain ⟨w18, hw18, h⟩ := bd_e h; refine kc hP (Aeh hA hw18) ?_; cbv
     refine kl h (fun x _ => [(104, it .i64 x.1)]) (fun x gh => [⟨4151, gh, .tok 63 TyS.inhibit (A.nlen TyS.inhibit x.2)⟩, ⟨3, 1, .box 31 [PV.os 4031 gh1 TyS.rule b0_3, st x0.2.1, .d (.sl .matcher x0.2.2), .d (.sl .str x0.2.3), it .i64 x0.2.4, it .i64 x0.2.5, it .i64 x0.2.6, .d (.sl .str x0.2.7), bl x0.2.8, .d (.sl .route x0.2.9), PV.os 4061 gh2 TyS.str b10_3, .os 4151 gh TyS.inhibit x.2, PV.os 4091 gh3 TyS.hours b12_3]⟩, ⟨2, 0, .box 31 [PV.d (D.v (Value.slice none 0 0)), PV.d (D.v (Value.string (ByteArray.mk (Array.mk [])))), PV.d (D.v (Value.slice none 0 0)), PV.d (D.v (Value.slice none 0 0)), it .i64 0, it .i64 0, it .i64 0, PV.d (D.v (Value.slice none 0 0)), bl false, PV.d (D.v (Value.slice none 0 0)), PV.d (D.v (Value.slice none 0 0)), PV.d (D.v (Value.slice none 0 0)), PV.d (D.v (Value.slice none 0 0))]⟩, ⟨1, 0, .box 31 [.d (.sl .rule x0.1), st x0.2.1, .d (.sl .matcher x0.2.2), .d (.sl .str x0.2.3), it .i64 x0.2.4, it .i64 x0.2.5, it .i64 x0.2.6, .d (.sl .str x0.2.7), bl x0.2.8, .d (.sl .route x0.2.9), .d (.sl .str x0.3), .d (.sl .inhibit x0.4), .d (.sl .hours x0.5)]⟩, ⟨4120, gh4, Cell.tok 9 TyS.str (A.nlen TyS.str t12)⟩, ⟨4091, gh3, Cell.tok 67 TyS.hours (A.nlen TyS.hours b12_3)⟩, ⟨4061, gh2, Cell.tok 9 TyS.str (A.nlen TyS.str b10_3)⟩, ⟨4031, gh1, Cell.tok 36 TyS.rule (A.nlen TyS.rule b0_3)⟩]) [] ?_
     rintro ⟨t104, b11_3⟩ gh5 g5 _ _ _ hK5 hQ5 h; cbv
     refine kj ?_
     refine bc h (fun hb h => ?_) fun hb h => ?_
     ·cbv
      refine kj ?_
      refine kk h fun c19 h => ?_
      refine kj ?_
      refine kk h fun c20 h => ?_
      refine kk h fun c21 h => ?_
      iterate 2 refine kj ?_
      cases h; exact hK5 _ _ [(4151, 116, g5.succ.succ)] rfl hdy
     ·cbv
      refine hQ5 _ h _ _ fun h => ?_; cbv
      refine kj ?_
      exact le h hR
theorem Aaf {A : Ar} (hA : A = std) {x0 : ByteArray} {r : Node} (h : Aac A x0 = some r) : PFun cx 213 [st x0] (Ac8 r) := by
 refine wF hA cx_ok Tryz.func213 fun P R hP hR => ?_
 cbv; unfold Aac at h
 iterate 2 refine kj ?_
 exact le h hR
theorem Abp {A : Ar} (hA : A = std) {x0 : List ByteArray} {r : Node} (h : Aa0 A x0 = some r) : PFun cx 212 [.d (.sl TyS.str x0)] (Ac8 r) := by
 refine wF hA cx_ok Tryz.func212 fun P R hP hR => ?_
 cbv; unfold Aa0 at h
 iterate 3 refine kj ?_
 refine kl h (fun x _ => [(9, it .i64 x.1)]) (fun x gh => [⟨4031, gh, .tok 135 TyS.node (A.nlen TyS.node x.2)⟩, ⟨3, 1, .box 135 [it .i64 2, PV.d (D.v (Value.string (ByteArray.mk (Array.mk [])))), PV.d (D.v (Value.slice none 0 0)), .os 4031 gh TyS.node x.2]⟩, ⟨2, 0, .box 135 [it .i64 0, PV.d (D.v (Value.string (ByteArray.mk (Array.mk [])))), PV.d (D.v (Value.slice none 0 0)), PV.d (D.v (Value.slice none 0 0))]⟩]) [] ?_
 rintro ⟨t9, b3_3⟩ gh1 g1 _ _ _ hK1 hQ1 h; cbv
 refine kj ?_
 refine bc h (fun hb h => ?_) fun hb h => ?_
 ·cbv
  refine kj ?_
  refine kk h fun c1 h => ?_
  refine kj ?_
  obtain ⟨w2, hw2, h⟩ := bd_e h; refine kc hP (Aaf hA hw2) ?_; cbv
  refine kk h fun c3 h => ?_
  iterate 2 refine kj ?_
  cases h; exact hK1 _ _ [(4031, 18, g1.succ.succ)] rfl hdy
 ·cbv
  refine hQ1 _ h _ _ fun h => ?_; cbv
  refine kj ?_
  exact le h hR
theorem Ad8 {A : Ar} (hA : A = std) {x0 : List Matcher} {r : Node} (h : Abf A x0 = some r) : PFun cx 211 [.d (.sl TyS.matcher x0)] (Ac8 r) := by
 refine wF hA cx_ok Tryz.func211 fun P R hP hR => ?_
 cbv; unfold Abf at h
 iterate 3 refine kj ?_
 refine kl h (fun x gh => [(3, .os 4030 gh TyS.str x.1), (9, it .i64 x.2)]) (fun x gh => [⟨4030, gh, .tok 9 TyS.str (A.nlen TyS.str x.1)⟩, ⟨2, 0, .box 135 [it .i64 0, PV.d (D.v (Value.string (ByteArray.mk (Array.mk [])))), PV.d (D.v (Value.slice none 0 0)), PV.d (D.v (Value.slice none 0 0))]⟩]) [(4030, 6, 1)] ?_
 rintro ⟨out3, t9⟩ gh1 g1 _ _ _ hK1 hQ1 h; cbv
 refine kj ?_
 refine bc h (fun hb h => ?_) fun hb h => ?_
 ·cbv
  refine kj ?_
  refine kk h fun c1 h => ?_
  refine kj ?_
  obtain ⟨w2, hw2, h⟩ := bd_e h; refine kc hP (Ahr hA hw2) ?_; cbv
  refine kk h fun c3 h => ?_
  refine kj ?_
  cases h; exact hK1 _ _ [(4030, 17, g1.succ.succ)] rfl hdy
 ·cbv
  refine hQ1 _ h _ _ fun h => ?_; cbv
  refine kj ?_
  obtain ⟨w4, hw4, h⟩ := bd_e h; refine kc hP (Abp hA hw4) ?_; cbv
  exact le h hR
theorem Ahy {A : Ar} (hA : A = std) {x0 : Int} {x1 : Int} {r : Bool} (h : Abu A x0 x1 = some r) : PFun cx 265 [it .i64 x0, it .i64 x1] (bl r) := by
 refine wF hA cx_ok Tryz.func265 fun P R hP hR => ?_
 cbv; unfold Abu at h
 iterate 2 refine kj ?_
 refine kl h (fun x _ => [(0, it .i64 x.1), (5, it .i64 x.2)]) (fun _ _ => []) [] ?_
 rintro ⟨days0, i5⟩ gh1 g1 _ _ _ hK1 hQ1 h; cbv
 refine kj ?_
 refine bc h (fun hb h => ?_) fun hb h => ?_
 ·cbv
  refine kj ?_
  refine ⟨by subst hA; simp +contextual [vcm], ?_⟩
  refine kj ?_
  cases h; exact hK1 _ _ [] rfl hdy
 ·cbv
  refine hQ1 _ h _ _ fun h => ?_; cbv
  refine kj ?_
  refine ⟨by subst hA; simp +contextual [vcm], ?_⟩
  exact le h hR
theorem Alh {A : Ar} (hA : A = std) {x0 : Int} {r : ByteArray} (h : Ahi A x0 = some r) : PFun cx 315 [it .i64 x0] (st r) := by
 refine wF hA cx_ok Tryz.func315 fun P R hP hR => ?_
 cbv; unfold Ahi at h
 iterate 2 refine kj ?_
 iterate 2 (refine ⟨by subst hA; simp +contextual [vcm], ?_⟩)
 refine and_assoc.2 ?_
 refine kk h fun c1 h => ?_
 refine and_assoc.2 ?_
 refine kk h fun c2 h => ?_
 refine cj ?_
 exact le h hR
theorem Akc {A : Ar} (hA : A = std) {x0 : Int} {r : ByteArray} (h : Aey A x0 = some r) : PFun cx 266 [it .i64 x0] (st r) := by
 refine wF hA cx_ok Tryz.func266 fun P R hP hR => ?_
 cbv; unfold Aey at h
 iterate 2 refine kj ?_
 refine ⟨by subst hA; simp +contextual [vcm], ?_⟩
 obtain ⟨w1, hw1, h⟩ := bd_e h; refine kc hP (Alh hA hw1) ?_; cbv
 refine kk h fun c2 h => ?_
 refine ⟨by subst hA; simp +contextual [vcm], ?_⟩
 obtain ⟨w3, hw3, h⟩ := bd_e h; refine kc hP (Alh hA hw3) ?_; cbv
 refine kk h fun c4 h => ?_
 exact le h hR
theorem Aqn {A : Ar} (hA : A = std) {x0 : Hours} {r : ByteArray} (h : Afk A x0 = some r) : PFun cx 183 [Agz x0] (st r) := by
 refine wF hA cx_ok Tryz.func183 fun P R hP hR => ?_
 cbv; unfold Afk at h
 iterate 4 refine kj ?_
 refine kl h (fun x _ => [(3, st x.1), (5, it .i64 x.2)]) (fun x gh => [⟨1, 0, .box 67 [st x0.1, it .i64 x0.2, it .i64 x0.3, it .i64 x0.4]⟩, ⟨6, 2, Cell.tok 9 TyS.str (A.nlen TyS.str [ByteArray.mk (Array.mk [109, 111, 110]), ByteArray.mk (Array.mk [116, 117, 101]), ByteArray.mk (Array.mk [119, 101, 100]), ByteArray.mk (Array.mk [116, 104, 117]), ByteArray.mk (Array.mk [102, 114, 105]), ByteArray.mk (Array.mk [115, 97, 116]), ByteArray.mk (Array.mk [115, 117, 110])])⟩]) [] ?_
 rintro ⟨out3, i5⟩ gh1 g1 _ _ _ hK1 hQ1 h; cbv
 refine kj ?_
 refine bc h (fun hb h => ?_) fun hb h => ?_
 ·cbv
  refine kj ?_
  obtain ⟨w1, hw1, h⟩ := bd_e h; refine kc hP (Ahy hA hw1) ?_; cbv
  iterate 2 refine cj ?_
  refine bc h (fun hb h => ?_) fun hb h => ?_
  ·cbv
   refine kj ?_
   refine kk h fun c2 h => ?_
   refine kj ?_
   obtain ⟨w3, hw3, h⟩ := bd_e h; refine kc hP (Ahy hA hw3) ?_; cbv
   refine bc h (fun hb h => ?_) fun hb h => ?_
   ·cbv
    refine kj ?_
    refine kk h fun c4 h => ?_
    refine kk h fun c5 h => ?_
    refine kj ?_
    cases h; exact hK1 _ _ [] rfl hdy
   ·cbv
    refine kj ?_
    cases h; exact hK1 _ _ [] rfl hdy
  ·cbv
   refine kj ?_
   obtain ⟨w6, hw6, h⟩ := bd_e h; refine kc hP (Ahy hA hw6) ?_; cbv
   refine bc h (fun hb h => ?_) fun hb h => ?_
   ·cbv
    refine kj ?_
    refine kk h fun c7 h => ?_
    refine kk h fun c8 h => ?_
    refine kj ?_
    cases h; exact hK1 _ _ [] rfl hdy
   ·cbv
    refine kj ?_
    cases h; exact hK1 _ _ [] rfl hdy
 ·cbv
  refine hQ1 _ h _ _ fun h => ?_; cbv
  refine kj ?_
  refine kk h fun c9 h => ?_
  obtain ⟨w10, hw10, h⟩ := bd_e h; refine kc hP (Akc hA hw10) ?_; cbv
  refine kk h fun c11 h => ?_
  refine kk h fun c12 h => ?_
  obtain ⟨w13, hw13, h⟩ := bd_e h; refine kc hP (Akc hA hw13) ?_; cbv
  refine kk h fun c14 h => ?_
  refine kj ?_
  exact le h hR
theorem Aoi {A : Ar} (hA : A = std) {rf : Route → Option Node} {x0 : Route} (hqr214 : ∀ (x0 : Route) (r : Node), rf x0 = some r → PFun cx 214 [Aau x0] (Ac8 r)) {r : Node} (h : Af2 A rf x0 = some r) : PFun cx 214 [Aau x0] (Ac8 r) := by
 refine wF hA cx_ok Tryz.func214 fun P R hP hR => ?_
 cbv; unfold Af2 at h
 iterate 3 refine kj ?_
 refine bc h (fun hb h => ?_) fun hb h => ?_
 ·cbv
  iterate 3 refine kj ?_
  refine kl h (fun x _ => [(14, it .i64 x.1)]) (fun x gh => [⟨4031, gh, .tok 135 TyS.node (A.nlen TyS.node x.2)⟩, ⟨4, 4, .box 135 [it .i64 2, PV.d (D.v (Value.string (ByteArray.mk (Array.mk [])))), PV.d (D.v (Value.slice none 0 0)), .os 4031 gh TyS.node x.2]⟩, ⟨2, 0, .box 135 [it .i64 0, PV.d (D.v (Value.string (ByteArray.mk (Array.mk [])))), PV.d (D.v (Value.slice none 0 0)), PV.d (D.v (Value.slice none 0 0))]⟩, ⟨1, 0, .box 27 [st x0.1, .d (.sl .matcher x0.2), .d (.sl .str x0.3), it .i64 x0.4, it .i64 x0.5, it .i64 x0.6, .d (.sl .str x0.7), bl x0.8, .d (.sl .route x0.9)]⟩]) [] ?_
  rintro ⟨t14, b3_4⟩ gh1 g1 _ _ _ hK1 hQ1 h; cbv
  refine kj ?_
  refine bc h (fun hb h => ?_) fun hb h => ?_
  ·cbv
   refine kj ?_
   refine kk h fun c1 h => ?_
   refine kj ?_
   obtain ⟨w2, hw2, h⟩ := bd_e h; refine kc hP (hqr214 _ _ hw2) ?_; cbv
   refine kk h fun c3 h => ?_
   iterate 2 refine kj ?_
   cases h; exact hK1 _ _ [(4031, 23, g1.succ.succ)] rfl hdy
  ·cbv
   refine hQ1 _ h _ _ fun h => ?_; cbv
   iterate 2 refine kj ?_
   obtain ⟨w4, hw4, h⟩ := bd_e h; refine kc hP (Aaf hA hw4) ?_; cbv
   obtain ⟨w5, hw5, h⟩ := bd_e h; refine kc hP (Ad8 hA hw5) ?_; cbv
   obtain ⟨w6, hw6, h⟩ := bd_e h; refine kc hP (Abp hA hw6) ?_; cbv
   obtain ⟨w7, hw7, h⟩ := bd_e h; refine kc hP (Ag4 hA hw7) ?_; cbv
   obtain ⟨w8, hw8, h⟩ := bd_e h; refine kc hP (Aaf hA hw8) ?_; cbv
   obtain ⟨w9, hw9, h⟩ := bd_e h; refine kc hP (Ag4 hA hw9) ?_; cbv
   obtain ⟨w10, hw10, h⟩ := bd_e h; refine kc hP (Aaf hA hw10) ?_; cbv
   obtain ⟨w11, hw11, h⟩ := bd_e h; refine kc hP (Ag4 hA hw11) ?_; cbv
   obtain ⟨w12, hw12, h⟩ := bd_e h; refine kc hP (Aaf hA hw12) ?_; cbv
   obtain ⟨w13, hw13, h⟩ := bd_e h; refine kc hP (Abp hA hw13) ?_; cbv
   obtain ⟨w14, hw14, h⟩ := bd_e h; refine kc hP (Aaf hA hw14) ?_; cbv
   iterate 2 refine kj ?_
   exact le h hR
 ·cbv
  iterate 2 refine kj ?_
  refine kl h (fun x _ => [(14, it .i64 x.1)]) (fun x gh => [⟨4061, gh, .tok 135 TyS.node (A.nlen TyS.node x.2)⟩, ⟨4, 3, .box 135 [it .i64 2, PV.d (D.v (Value.string (ByteArray.mk (Array.mk [])))), PV.d (D.v (Value.slice none 0 0)), .os 4061 gh TyS.node x.2]⟩, ⟨2, 0, .box 135 [it .i64 0, PV.d (D.v (Value.string (ByteArray.mk (Array.mk [])))), PV.d (D.v (Value.slice none 0 0)), PV.d (D.v (Value.slice none 0 0))]⟩, ⟨1, 0, .box 27 [st x0.1, .d (.sl .matcher x0.2), .d (.sl .str x0.3), it .i64 x0.4, it .i64 x0.5, it .i64 x0.6, .d (.sl .str x0.7), bl x0.8, .d (.sl .route x0.9)]⟩]) [] ?_
  rintro ⟨t14, b3_4⟩ gh2 g2 _ _ _ hK2 hQ2 h; cbv
  refine kj ?_
  refine bc h (fun hb h => ?_) fun hb h => ?_
  ·cbv
   refine kj ?_
   refine kk h fun c15 h => ?_
   refine kj ?_
   obtain ⟨w16, hw16, h⟩ := bd_e h; refine kc hP (hqr214 _ _ hw16) ?_; cbv
   refine kk h fun c17 h => ?_
   iterate 2 refine kj ?_
   cases h; exact hK2 _ _ [(4061, 23, g2.succ.succ)] rfl hdy
  ·cbv
   refine hQ2 _ h _ _ fun h => ?_; cbv
   iterate 2 refine kj ?_
   obtain ⟨w18, hw18, h⟩ := bd_e h; refine kc hP (Aaf hA hw18) ?_; cbv
   obtain ⟨w19, hw19, h⟩ := bd_e h; refine kc hP (Ad8 hA hw19) ?_; cbv
   obtain ⟨w20, hw20, h⟩ := bd_e h; refine kc hP (Abp hA hw20) ?_; cbv
   obtain ⟨w21, hw21, h⟩ := bd_e h; refine kc hP (Ag4 hA hw21) ?_; cbv
   obtain ⟨w22, hw22, h⟩ := bd_e h; refine kc hP (Aaf hA hw22) ?_; cbv
   obtain ⟨w23, hw23, h⟩ := bd_e h; refine kc hP (Ag4 hA hw23) ?_; cbv
   obtain ⟨w24, hw24, h⟩ := bd_e h; refine kc hP (Aaf hA hw24) ?_; cbv
   obtain ⟨w25, hw25, h⟩ := bd_e h; refine kc hP (Ag4 hA hw25) ?_; cbv
   obtain ⟨w26, hw26, h⟩ := bd_e h; refine kc hP (Aaf hA hw26) ?_; cbv
   obtain ⟨w27, hw27, h⟩ := bd_e h; refine kc hP (Abp hA hw27) ?_; cbv
   obtain ⟨w28, hw28, h⟩ := bd_e h; refine kc hP (Aaf hA hw28) ?_; cbv
   iterate 2 refine kj ?_
   exact le h hR
theorem Ai5 {A : Ar} (hA : A = std) : ∀ (n : Nat) (x0 : Route) (r : Node), Abg A n x0 = some r → PFun cx 214 [Aau x0] (Ac8 r)
 | 0, _, _, h => by cases h
 | n + 1, x0, r, h => Aoi hA (fun _ _ hh => Ai5 hA n _ _ hh) h
theorem Ap0 {A : Ar} (hA : A = std) {x0 : Route} {r : Node} (h : Aif A x0 = some r) : PFun cx 214 [Aau x0] (Ac8 r) := Ai5 hA _ _ _ h
theorem Aqo {A : Ar} (hA : A = std) {x0 : Config} {r : Node} (h : Afl A x0 = some r) : PFun cx 126 [Ahk x0] (Ac8 r) := by
 refine wF hA cx_ok Tryz.func126 fun P R hP hR => ?_
 cbv; unfold Afl at h
 iterate 3 refine kj ?_
 refine kl h (fun x _ => [(14, it .i64 x.1)]) (fun x gh => [⟨4031, gh, .tok 135 TyS.node (A.nlen TyS.node x.2)⟩, ⟨3, 1, .box 135 [it .i64 2, PV.d (D.v (Value.string (ByteArray.mk (Array.mk [])))), PV.d (D.v (Value.slice none 0 0)), .os 4031 gh TyS.node x.2]⟩, ⟨2, 0, .box 135 [it .i64 0, PV.d (D.v (Value.string (ByteArray.mk (Array.mk [])))), PV.d (D.v (Value.slice none 0 0)), PV.d (D.v (Value.slice none 0 0))]⟩, ⟨1, 0, .box 31 [.d (.sl .rule x0.1), st x0.2.1, .d (.sl .matcher x0.2.2), .d (.sl .str x0.2.3), it .i64 x0.2.4, it .i64 x0.2.5, it .i64 x0.2.6, .d (.sl .str x0.2.7), bl x0.2.8, .d (.sl .route x0.2.9), .d (.sl .str x0.3), .d (.sl .inhibit x0.4), .d (.sl .hours x0.5)]⟩]) [] ?_
 rintro ⟨t14, b3_3⟩ gh1 g1 _ _ _ hK1 hQ1 h; cbv
 refine kj ?_
 refine bc h (fun hb h => ?_) fun hb h => ?_
 ·cbv
  refine kj ?_
  refine kk h fun c1 h => ?_
  refine kj ?_
  obtain ⟨w2, hw2, h⟩ := bd_e h; refine kc hP (Ad8 hA hw2) ?_; cbv
  obtain ⟨w3, hw3, h⟩ := bd_e h; refine kc hP (Ad8 hA hw3) ?_; cbv
  obtain ⟨w4, hw4, h⟩ := bd_e h; refine kc hP (Abp hA hw4) ?_; cbv
  refine kk h fun c5 h => ?_
  iterate 2 refine kj ?_
  cases h; exact hK1 _ _ [(4031, 33, g1.succ.succ)] rfl hdy
 ·cbv
  refine hQ1 _ h _ _ fun h => ?_; cbv
  iterate 2 refine kj ?_
  refine kl h (fun x _ => [(40, it .i64 x.1)]) (fun x gh => [⟨4061, gh, .tok 135 TyS.node (A.nlen TyS.node x.2)⟩, ⟨6, g1.succ, .box 135 [it .i64 2, PV.d (D.v (Value.string (ByteArray.mk (Array.mk [])))), PV.d (D.v (Value.slice none 0 0)), .os 4061 gh TyS.node x.2]⟩, ⟨3, 1, .box 135 [it .i64 2, PV.d (D.v (Value.string (ByteArray.mk (Array.mk [])))), PV.d (D.v (Value.slice none 0 0)), PV.os 4031 gh1 TyS.node b3_3]⟩, ⟨2, 0, .box 135 [it .i64 0, PV.d (D.v (Value.string (ByteArray.mk (Array.mk [])))), PV.d (D.v (Value.slice none 0 0)), PV.d (D.v (Value.slice none 0 0))]⟩, ⟨1, 0, .box 31 [.d (.sl .rule x0.1), st x0.2.1, .d (.sl .matcher x0.2.2), .d (.sl .str x0.2.3), it .i64 x0.2.4, it .i64 x0.2.5, it .i64 x0.2.6, .d (.sl .str x0.2.7), bl x0.2.8, .d (.sl .route x0.2.9), .d (.sl .str x0.3), .d (.sl .inhibit x0.4), .d (.sl .hours x0.5)]⟩, ⟨4031, gh1, Cell.tok 135 TyS.node (A.nlen TyS.node b3_3)⟩]) [] ?_
  rintro ⟨t40, b3_6⟩ gh2 g2 _ _ _ hK2 hQ2 h; cbv
  refine kj ?_
  refine bc h (fun hb h => ?_) fun hb h => ?_
  ·cbv
   refine kj ?_
   refine kk h fun c6 h => ?_
   refine kj ?_
   obtain ⟨w7, hw7, h⟩ := bd_e h; refine kc hP (Aaf hA hw7) ?_; cbv
   obtain ⟨w8, hw8, h⟩ := bd_e h; refine kc hP (Aqn hA hw8) ?_; cbv
   obtain ⟨w9, hw9, h⟩ := bd_e h; refine kc hP (Aaf hA hw9) ?_; cbv
   refine kk h fun c10 h => ?_
   iterate 2 refine kj ?_
   cases h; exact hK2 _ _ [(4061, 56, g2.succ.succ)] rfl hdy
  ·cbv
   refine hQ2 _ h _ _ fun h => ?_; cbv
   iterate 2 refine kj ?_
   obtain ⟨w11, hw11, h⟩ := bd_e h; refine kc hP (Ap0 hA hw11) ?_; cbv
   obtain ⟨w12, hw12, h⟩ := bd_e h; refine kc hP (Abp hA hw12) ?_; cbv
   iterate 2 refine kj ?_
   exact le h hR
theorem Ap1 {A : Ar} (hA : A = std) {x0 : Int} {r : Bool} (h : Agx A x0 = some r) : PFun cx 326 [it .u8 x0] (bl r) := by
 refine wF hA cx_ok Tryz.func326 fun P R hP hR => ?_
 cbv; unfold Agx at h
 iterate 2 refine kj ?_
 iterate 6 refine cj ?_
 refine ⟨by subst hA; simp +contextual [vcm], ?_⟩
 iterate 3 refine cj ?_
 exact le h hR
theorem Ap2 {A : Ar} (hA : A = std) {x0 : ByteArray} {r : Bool} (h : Aez A x0 = some r) : PFun cx 281 [st x0] (bl r) := by
 refine wF hA cx_ok Tryz.func281 fun P R hP hR => ?_
 cbv; unfold Aez at h
 iterate 2 refine kj ?_
 refine kl h (fun x _ => [(3, it .i64 x)]) (fun _ _ => []) [] ?_
 rintro i3 gh1 g1 _ _ _ hK1 hQ1 h; cbv
 refine kj ?_
 refine bc h (fun hb h => ?_) fun hb h => ?_
 ·cbv
  refine kj ?_
  refine kk h fun c1 h => ?_
  refine kj ?_
  obtain ⟨w2, hw2, h⟩ := bd_e h; refine kc hP (Ap1 hA hw2) ?_; cbv
  iterate 4 refine cj ?_
  refine ⟨by subst hA; simp +contextual [vcm], ?_⟩
  iterate 9 refine cj ?_
  refine bc h (fun hb h => ?_) fun hb h => ?_
  ·cbv
   refine kj ?_
   refine hQ1 _ h _ _ fun h => ?_; cbv
   exact le h hR
  ·cbv
   refine kj ?_
   cases h; exact hK1 _ _ [] rfl hdy
 ·cbv
  refine hQ1 _ h _ _ fun h => ?_; cbv
  refine kj ?_
  refine cj ?_
  refine ⟨by subst hA; simp +contextual [vcm], ?_⟩
  iterate 2 refine cj ?_
  exact le h hR
theorem Akd {A : Ar} (hA : A = std) {x0 : ByteArray} {r : ByteArray} (h : Aco A x0 = some r) : PFun cx 210 [st x0] (st r) := by
 refine wF hA cx_ok Tryz.func210 fun P R hP hR => ?_
 cbv; unfold Aco at h
 iterate 2 refine kj ?_
 obtain ⟨w1, hw1, h⟩ := bd_e h; refine kc hP (Ap2 hA hw1) ?_; cbv
 refine bc h (fun hb h => ?_) fun hb h => ?_
 ·cbv
  refine kj ?_
  exact le h hR
 ·cbv
  refine kj ?_
  refine and_assoc.2 ?_
  refine ⟨by subst hA; simp +contextual [vcm], ?_⟩
  refine cj ?_
  refine kj ?_
  refine kl h (fun x gh => [(3, .os 4030 gh TyS.byte x.1), (4, it .i64 x.2)]) (fun x gh => [⟨4030, gh, .tok 5 TyS.byte (A.nlen TyS.byte x.1)⟩]) [(4030, 8, 2)] ?_
  rintro ⟨b3, i4⟩ gh1 g1 _ _ _ hK1 hQ1 h; cbv
  refine kj ?_
  refine bc h (fun hb h => ?_) fun hb h => ?_
  ·cbv
   refine kj ?_
   refine kk h fun c2 h => ?_
   iterate 2 refine cj ?_
   refine kk h fun c3 h => ?_
   iterate 2 refine cj ?_
   refine bc h (fun hb h => ?_) fun hb h => ?_
   ·cbv
    refine kj ?_
    refine and_assoc.2 ?_
    refine ⟨by subst hA; simp +contextual [vcm], ?_⟩
    refine cj ?_
    refine kk h fun c4 h => ?_
    refine kj ?_
    refine ⟨c2, ?_⟩
    refine and_assoc.2 ?_
    refine kk h fun c5 h => ?_
    refine cj ?_
    refine kk h fun c6 h => ?_
    refine kj ?_
    cases h; exact hK1 _ _ [(4030, 33, g1.succ.succ.succ)] rfl hdy
   ·cbv
    refine kj ?_
    refine ⟨c2, ?_⟩
    refine and_assoc.2 ?_
    refine kk h fun c7 h => ?_
    refine cj ?_
    refine kk h fun c8 h => ?_
    refine kj ?_
    cases h; exact hK1 _ _ [(4030, 33, g1.succ.succ)] rfl hdy
  ·cbv
   refine hQ1 _ h _ _ fun h => ?_; cbv
   refine kj ?_
   refine and_assoc.2 ?_
   refine ⟨by subst hA; simp +contextual [vcm], ?_⟩
   refine cj ?_
   refine kk h fun c9 h => ?_
   refine kj ?_
   exact le h hR
theorem Aoj {A : Ar} (hA : A = std) {rf : Node → Int → Option ByteArray} {x0 : Node} {x1 : Int} (hqr125 : ∀ (x0 : Node) (x1 : Int) (r : ByteArray), rf x0 x1 = some r → PFun cx 125 [Ac8 x0, it .i64 x1] (st r)) {r : ByteArray} (h : Af4 A rf x0 x1 = some r) : PFun cx 125 [Ac8 x0, it .i64 x1] (st r) := by
 refine wF hA cx_ok Tryz.func125 fun P R hP hR => ?_
 cbv; unfold Af4 at h
 iterate 3 refine kj ?_
 refine kl h (fun x _ => [(5, st x.1), (12, it .i64 x.2)]) (fun x gh => [⟨2, 0, .box 135 [it .i64 x0.1, st x0.2, .d (.sl .str x0.3), .d (.sl .node x0.4)]⟩]) [] ?_
 rintro ⟨t5, t12⟩ gh1 g1 _ _ _ hK1 hQ1 h; cbv
 refine kj ?_
 refine bc h (fun hb h => ?_) fun hb h => ?_
 ·cbv
  refine kj ?_
  refine kk h fun c1 h => ?_
  refine kj ?_
  refine kl h (fun x _ => [(5, st x.1), (8, it .i64 x.2)]) (fun x gh => [⟨7, g1.succ, .box 135 [PV.d (D.v (Value.int .i64 (A.get TyS.node x0.4 t12).1)), PV.d (D.v (Value.string (A.get TyS.node x0.4 t12).2)), PV.d (D.sl TyS.str (A.get TyS.node x0.4 t12).3), PV.d (D.sl TyS.node (A.get TyS.node x0.4 t12).4)]⟩, ⟨2, 0, .box 135 [it .i64 x0.1, st x0.2, .d (.sl .str x0.3), .d (.sl .node x0.4)]⟩]) [] ?_
  rintro ⟨t5', t8⟩ gh2 g2 _ _ _ hK2 hQ2 h; cbv
  refine kj ?_
  refine bc h (fun hb h => ?_) fun hb h => ?_
  ·cbv
   refine kj ?_
   refine kk h fun c2 h => ?_
   refine kj ?_
   cases h; exact hK2 _ _ [] rfl hdy
  ·cbv
   refine hQ2 _ h _ _ fun h => ?_; cbv
   refine kj ?_
   refine bc h (fun hb h => ?_) fun hb h => ?_
   ·cbv
    refine kj ?_
    refine kk h fun c3 h => ?_
    refine kk h fun c4 h => ?_
    refine kk h fun c5 h => ?_
    refine kj ?_
    refine bc h (fun hb h => ?_) fun hb h => ?_
    ·cbv
     refine kj ?_
     refine kk h fun c6 h => ?_
     obtain ⟨w7, hw7, h⟩ := bd_e h; refine kc hP (Akd hA hw7) ?_; cbv
     refine kk h fun c8 h => ?_
     refine kj ?_
     refine kk h fun c9 h => ?_
     obtain ⟨w10, hw10, h⟩ := bd_e h; refine kc hP (hqr125 _ _ _ hw10) ?_; cbv
     refine kk h fun c11 h => ?_
     refine kj ?_
     cases h; exact hK1 _ _ [] rfl hdy
    ·cbv
     refine kj ?_
     iterate 4 refine cj ?_
     refine bc h (fun hb h => ?_) fun hb h => ?_
     ·cbv
      refine kj ?_
      refine kk h fun c12 h => ?_
      refine kj ?_
      refine kk h fun c13 h => ?_
      obtain ⟨w14, hw14, h⟩ := bd_e h; refine kc hP (hqr125 _ _ _ hw14) ?_; cbv
      refine kk h fun c15 h => ?_
      refine kj ?_
      cases h; exact hK1 _ _ [] rfl hdy
     ·cbv
      refine kj ?_
      refine bc h (fun hb h => ?_) fun hb h => ?_
      ·cbv
       refine kj ?_
       refine kk h fun c16 h => ?_
       refine kj ?_
       refine kk h fun c17 h => ?_
       obtain ⟨w18, hw18, h⟩ := bd_e h; refine kc hP (hqr125 _ _ _ hw18) ?_; cbv
       refine kk h fun c19 h => ?_
       refine kj ?_
       cases h; exact hK1 _ _ [] rfl hdy
      ·cbv
       refine kj ?_
       refine kk h fun c20 h => ?_
       obtain ⟨w21, hw21, h⟩ := bd_e h; refine kc hP (hqr125 _ _ _ hw21) ?_; cbv
       refine kk h fun c22 h => ?_
       refine kj ?_
       cases h; exact hK1 _ _ [] rfl hdy
   ·cbv
    refine kj ?_
    refine kk h fun c23 h => ?_
    refine kj ?_
    refine bc h (fun hb h => ?_) fun hb h => ?_
    ·cbv
     refine kj ?_
     refine kk h fun c24 h => ?_
     obtain ⟨w25, hw25, h⟩ := bd_e h; refine kc hP (Akd hA hw25) ?_; cbv
     refine kk h fun c26 h => ?_
     refine kj ?_
     refine kk h fun c27 h => ?_
     obtain ⟨w28, hw28, h⟩ := bd_e h; refine kc hP (hqr125 _ _ _ hw28) ?_; cbv
     refine kk h fun c29 h => ?_
     refine kj ?_
     cases h; exact hK1 _ _ [] rfl hdy
    ·cbv
     refine kj ?_
     iterate 4 refine cj ?_
     refine bc h (fun hb h => ?_) fun hb h => ?_
     ·cbv
      refine kj ?_
      refine kk h fun c30 h => ?_
      refine kj ?_
      refine kk h fun c31 h => ?_
      obtain ⟨w32, hw32, h⟩ := bd_e h; refine kc hP (hqr125 _ _ _ hw32) ?_; cbv
      refine kk h fun c33 h => ?_
      refine kj ?_
      cases h; exact hK1 _ _ [] rfl hdy
     ·cbv
      refine kj ?_
      refine bc h (fun hb h => ?_) fun hb h => ?_
      ·cbv
       refine kj ?_
       refine kk h fun c34 h => ?_
       refine kj ?_
       refine kk h fun c35 h => ?_
       obtain ⟨w36, hw36, h⟩ := bd_e h; refine kc hP (hqr125 _ _ _ hw36) ?_; cbv
       refine kk h fun c37 h => ?_
       refine kj ?_
       cases h; exact hK1 _ _ [] rfl hdy
      ·cbv
       refine kj ?_
       refine kk h fun c38 h => ?_
       obtain ⟨w39, hw39, h⟩ := bd_e h; refine kc hP (hqr125 _ _ _ hw39) ?_; cbv
       refine kk h fun c40 h => ?_
       refine kj ?_
       cases h; exact hK1 _ _ [] rfl hdy
 ·cbv
  refine hQ1 _ h _ _ fun h => ?_; cbv
  refine kj ?_
  exact le h hR
theorem Ai6 {A : Ar} (hA : A = std) : ∀ (n : Nat) (x0 : Node) (x1 : Int) (r : ByteArray), Aak A n x0 x1 = some r → PFun cx 125 [Ac8 x0, it .i64 x1] (st r)
 | 0, _, _, _, h => by cases h
 | n + 1, x0, x1, r, h => Aoj hA (fun _ _ _ hh => Ai6 hA n _ _ _ hh) h
theorem Ap3 {A : Ar} (hA : A = std) {x0 : Node} {x1 : Int} {r : ByteArray} (h : Aig A x0 x1 = some r) : PFun cx 125 [Ac8 x0, it .i64 x1] (st r) := Ai6 hA _ _ _ _ h
theorem Aqp {A : Ar} (hA : A = std) {x0 : Config} {r : ByteArray} (h : Afm A x0 = some r) : PFun cx 39 [Ahk x0] (st r) := by
 refine wF hA cx_ok Tryz.func39 fun P R hP hR => ?_
 cbv; unfold Afm at h
 iterate 3 refine kj ?_
 obtain ⟨w1, hw1, h⟩ := bd_e h; refine ke hP (Ao6 hA hw1) ?_; cbv
 obtain ⟨w2, hw2, h⟩ := bd_e h; refine kc hP (Aqo hA hw2) ?_; cbv
 obtain ⟨w3, hw3, h⟩ := bd_e h; refine kc hP (Ap3 hA hw3) ?_; cbv
 exact le h hR
theorem Anc {A : Ar} (hA : A = std) {x0 : Config} {r : Bool} (h : Ae0 A x0 = some r) : PFun cx 9 [Ahk x0] (bl r) := by
 refine wF hA cx_ok Tryz.func9 fun P R hP hR => ?_
 cbv; unfold Ae0 at h
 iterate 2 refine kj ?_
 obtain ⟨w1, hw1, h⟩ := bd_e h; refine kc hP (Aqw hA hw1) ?_; cbv
 refine bc h (fun hb h => ?_) fun hb h => ?_
 ·cbv
  refine kj ?_
  obtain ⟨w2, hw2, h⟩ := bd_e h; refine kc hP (Aj5 hA hw2) ?_; cbv
  exact le h hR
 ·cbv
  refine kj ?_
  obtain ⟨w3, hw3, h⟩ := bd_e h; refine kc hP (Asf hA hw3) ?_; cbv
  refine kj ?_
  obtain ⟨w4, hw4, h⟩ := bd_e h; refine kc hP (As3 hA hw4) ?_; cbv
  obtain ⟨w5, hw5, h⟩ := bd_e h; refine kc hP (Akb hA hw5) ?_; cbv
  obtain ⟨w6, hw6, h⟩ := bd_e h; refine kg hP (fun hc => (Aj5 hA (gd_e hw6 hc))) ?_; cbv
  iterate 2 refine cj ?_
  refine kj ?_
  refine bc h (fun hb h => ?_) fun hb h => ?_
  ·cbv
   refine kj ?_
   exact le h hR
  ·cbv
   refine kj ?_
   obtain ⟨w7, hw7, h⟩ := bd_e h; refine kc hP (Akb hA hw7) ?_; cbv
   refine bc h (fun hb h => ?_) fun hb h => ?_
   ·cbv
    refine kj ?_
    iterate 2 refine cj ?_
    exact le h hR
   ·cbv
    refine kj ?_
    obtain ⟨w8, hw8, h⟩ := bd_e h; refine kc hP (Aqp hA hw8) ?_; cbv
    refine kj ?_
    refine bc h (fun hb h => ?_) fun hb h => ?_
    ·cbv
     refine kj ?_
     iterate 2 refine cj ?_
     exact le h hR
    ·cbv
     refine kj ?_
     iterate 3 refine cj ?_
     exact le h hR
end Go.PL
