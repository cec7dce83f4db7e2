/- Texts of this claim: plain laws of what the program's functions compute. No condition of their own. -/
import Derived.Test.YtiddkdneoldkoaaGreatDoorNeFu
import Derived.Test.YtiddkdneoldkoaaGreatDoorNeLc
set_option linter.unusedSectionVars false
set_option linter.unusedVariables false
set_option linter.unusedSimpArgs false
set_option maxRecDepth 100000
namespace Go.PL
open Tys (Ty U)
open Enc (sz enc dflt tb ofB toB)
open Dec (dec dok)
open Go.Proofs
variable [GM]
theorem Anu {A : Ar} (hA : A = std) {rf : Route → Int → Option Int} {x0 : Route} {x1 : Int} (hqr87 : ∀ (x0 : Route) (x1 : Int) (r : Int), rf x0 x1 = some r → PFun cx 87 [Ab3 x0, it .i64 x1] (it .i64 r)) {r : Int} (h : Afy A rf x0 x1 = some r) : PFun cx 87 [Ab3 x0, it .i64 x1] (it .i64 r) := by
 refine wF hA cx_ok Tryz.func87 fun P R hP hR => ?_
 cbv; unfold Afy at h
 iterate 3 refine kj ?_
 refine kl h (fun x _ => [(5, it .i64 x.1), (11, it .i64 x.2)]) (fun x gh => [⟨2, 0, .box 27 [st x0.1, .d (.sl .matcher x0.2), .d (.sl .str x0.3), it .i64 x0.4, it .i64 x0.5, it .i64 x0.6, .d (.sl .str x0.7), bl x0.8, .d (.sl .route x0.9)]⟩]) [] ?_
 rintro ⟨n5, t11⟩ gh1 g1 _ _ _ hK1 hQ1 h; cbv
 refine kj ?_
 refine bc h (fun hb h => ?_) fun hb h => ?_
 ·cbv
  refine kj ?_
  refine kk h fun c1 h => ?_
  refine kj ?_
  refine bc h (fun hb h => ?_) fun hb h => ?_
  ·cbv
   refine hQ1 _ h _ _ fun h => ?_; cbv
   refine kj ?_
   exact le h hR
  ·cbv
   refine kj ?_
   obtain ⟨w2, hw2, h⟩ := bd_e h; refine kc hP (hqr87 _ _ _ hw2) ?_; cbv
   refine kj ?_
   cases h; exact hK1 _ _ [] rfl hdy
 ·cbv
  refine hQ1 _ h _ _ fun h => ?_; cbv
  refine kj ?_
  exact le h hR
theorem Ail {A : Ar} (hA : A = std) : ∀ (n : Nat) (x0 : Route) (x1 : Int) (r : Int), Abv A n x0 x1 = some r → PFun cx 87 [Ab3 x0, it .i64 x1] (it .i64 r)
 | 0, _, _, _, h => by cases h
 | n + 1, x0, x1, r, h => Anu hA (fun _ _ _ hh => Ail hA n _ _ _ hh) h
theorem Ao6 {A : Ar} (hA : A = std) {x0 : Route} {x1 : Int} {r : Int} (h : Aia A x0 x1 = some r) : PFun cx 87 [Ab3 x0, it .i64 x1] (it .i64 r) := Ail hA _ _ _ _ h
theorem Apm {A : Ar} (hA : A = std) {x0 : Config} {r : Bool} (h : Afn A x0 = some r) : PFun cx 21 [Ag8 x0] (bl r) := by
 refine wF hA cx_ok Tryz.func21 fun P R hP hR => ?_
 cbv; unfold Afn at h
 iterate 2 refine kj ?_
 obtain ⟨w1, hw1, h⟩ := bd_e h; refine kc hP (Ao6 hA hw1) ?_; cbv
 iterate 20 refine cj ?_
 exact le h hR
theorem Am9 {A : Ar} (hA : A = std) {x0 : Rule} {qc0 : Rule → Option Bool} {gc0 : Nat} {capc0 : List D} (hcapc0 : capOK capc0) (hqc0 : ∀ (y0 : Rule) (r : Bool), qc0 y0 = some r → PFun cx gc0 ((Ahj y0) :: un.uns capc0) (bl r)) {r : Bool} (h : Ait A x0 qc0 = some r) : PFun cx 136 [Ahj x0, .ip [.fun (.func gc0) [] capc0]] (bl r) := by
 rcases hcapc0 with rfl | ⟨dscapc0, rfl⟩
 all_goals
  refine wF hA cx_ok Tryz.func136 fun P R hP hR => ?_
  cbv; unfold Ait at h
  iterate 2 refine kj ?_
  obtain ⟨w1, hw1, h⟩ := bd_e h; refine kc hP (hqc0 _ _ hw1) ?_; cbv
  exact le h hR
theorem Amy {A : Ar} (hA : A = std) {x0 : List Rule} {q1 : Rule → Option Bool} {g1 : Nat} {cap1 : List PV} (hcap1 : bare.bares cap1 = true) (hq1 : ∀ (y0 : Rule) (r : Bool), q1 y0 = some r → PFun cx g1 ((Ahj y0) :: cap1) (bl r)) {r : Int} (h : Aes A x0 q1 = some r) : PFun cx 174 [.d (.sl TyS.rule x0), .fn (.func g1) [] cap1] (it .i64 r) := by
 refine wF hA cx_ok Tryz.func174 fun P R hP hR => ?_
 cbv; unfold Aes at h
 iterate 2 refine kj ?_
 refine kl h (fun x _ => [(8, it .i64 x)]) (fun _ _ => []) [] ?_
 rintro t8 gh1 g1 _ _ _ hK1 hQ1 h; cbv
 refine kj ?_
 refine bc h (fun hb h => ?_) fun hb h => ?_
 ·cbv
  iterate 2 refine kj ?_
  refine kk h fun c1 h => ?_
  obtain ⟨w2, hw2, h⟩ := bd_e h; refine kc hP (hq1 _ _ hw2) ?_ (by first | rfl | simp [bare, bare.bares, hcap1]); cbv
  refine bc h (fun hb h => ?_) fun hb h => ?_
  ·cbv
   refine kj ?_
   refine hQ1 _ h _ _ fun h => ?_; cbv
   exact le h hR
  ·cbv
   refine kj ?_
   cases h; exact hK1 _ _ [] rfl hdy
 ·cbv
  refine hQ1 _ h _ _ fun h => ?_; cbv
  refine kj ?_
  exact le h hR
theorem Aer {A : Ar} (hA : A = std) {x0 : List Rule} {q1 : Rule → Option Bool} {g1 : Nat} {cap1 : List PV} (hcap1 : bare.bares cap1 = true) (hq1 : ∀ (y0 : Rule) (r : Bool), q1 y0 = some r → PFun cx g1 ((Ahj y0) :: cap1) (bl r)) {r : Bool} (h : Abf A x0 q1 = some r) : PFun cx 91 [.d (.sl TyS.rule x0), .fn (.func g1) [] cap1] (bl r) := by
 refine wF hA cx_ok Tryz.func91 fun P R hP hR => ?_
 cbv; unfold Abf at h
 iterate 2 refine kj ?_
 obtain ⟨w1, hw1, h⟩ := bd_e h; refine kc hP (Amy hA hcap1 hq1 hw1) ?_ (by first | rfl | simp [bare, bare.bares, hcap1]); cbv
 exact le h hR
theorem Ath {A : Ar} (hA : A = std) {x0 : List Rule} {x1 : Int} {q2 : Rule → Option Bool} {g2 : Nat} {cap2 : List D} (hcap2 : capOK cap2) (hq2 : ∀ (y0 : Rule) (r : Bool), q2 y0 = some r → PFun cx g2 ((Ahj y0) :: un.uns cap2) (bl r)) {r : Bool} (h : Agl A x0 x1 q2 = some r) : PFun cx 46 [.d (.sl TyS.rule x0), it .i64 x1, .fn (.func g2) [] (un.uns cap2)] (bl r) := by
 rcases hcap2 with rfl | ⟨dscap2, rfl⟩
 ·refine PFun.walkF (fz := fun k => k == 5) hA cx_ok Tryz.func46 rfl rfl rfl fun P R hP hR => ?_
  cbv; unfold Agl at h
  iterate 2 refine kj ?_
  iterate 2 refine cj ?_
  obtain ⟨w1, hw1, h⟩ := bd_e h; refine kg hP (fun hc => (Aer hA (by rfl) (fun _ _ hw => Am9 (capc0 := []) hA (by first | exact .inl rfl | exact .inr ⟨_, rfl⟩) hq2 hw) (gd_e hw1 hc))) ?_; cbv
  iterate 2 refine cj ?_
  exact le h hR
 ·refine PFun.walkF (fz := fun k => k == 5) hA cx_ok Tryz.func46 rfl rfl rfl fun P R hP hR => ?_
  cbv; unfold Agl at h
  iterate 2 refine kj ?_
  iterate 2 refine cj ?_
  obtain ⟨w1, hw1, h⟩ := bd_e h; refine kg hP (fun hc => (Aer hA (by rfl) (fun _ _ hw => Am9 (capc0 := [D.ptr dscap2]) hA (by first | exact .inl rfl | exact .inr ⟨_, rfl⟩) hq2 hw) (gd_e hw1 hc))) ?_; cbv
  iterate 2 refine cj ?_
  exact le h hR
theorem Anv {A : Ar} (hA : A = std) {x0 : List Def} {q1 : Def → Option Bool} {g1 : Nat} {cap1 : List PV} (hcap1 : bare.bares cap1 = true) (hq1 : ∀ (y0 : Def) (r : Bool), q1 y0 = some r → PFun cx g1 ((defPV y0) :: cap1) (bl r)) {r : Int} (h : Afz A x0 q1 = some r) : PFun cx 298 [.d (.sl TyS.dfn x0), .fn (.func g1) [] cap1] (it .i64 r) := by
 refine wF hA cx_ok Tryz.func298 fun P R hP hR => ?_
 cbv; unfold Afz at h
 iterate 2 refine kj ?_
 refine kl h (fun x _ => [(8, it .i64 x)]) (fun _ _ => []) [] ?_
 rintro t8 gh1 g1 _ _ _ hK1 hQ1 h; cbv
 refine kj ?_
 refine bc h (fun hb h => ?_) fun hb h => ?_
 ·cbv
  iterate 2 refine kj ?_
  refine kk h fun c1 h => ?_
  obtain ⟨w2, hw2, h⟩ := bd_e h; refine kc hP (hq1 _ _ hw2) ?_ (by first | rfl | simp [bare, bare.bares, hcap1]); cbv
  refine bc h (fun hb h => ?_) fun hb h => ?_
  ·cbv
   refine kj ?_
   refine hQ1 _ h _ _ fun h => ?_; cbv
   exact le h hR
  ·cbv
   refine kj ?_
   cases h; exact hK1 _ _ [] rfl hdy
 ·cbv
  refine hQ1 _ h _ _ fun h => ?_; cbv
  refine kj ?_
  exact le h hR
theorem Amf {A : Ar} (hA : A = std) {x0 : List Def} {q1 : Def → Option Bool} {g1 : Nat} {cap1 : List PV} (hcap1 : bare.bares cap1 = true) (hq1 : ∀ (y0 : Def) (r : Bool), q1 y0 = some r → PFun cx g1 ((defPV y0) :: cap1) (bl r)) {r : Bool} (h : Acx A x0 q1 = some r) : PFun cx 229 [.d (.sl TyS.dfn x0), .fn (.func g1) [] cap1] (bl r) := by
 refine wF hA cx_ok Tryz.func229 fun P R hP hR => ?_
 cbv; unfold Acx at h
 iterate 2 refine kj ?_
 obtain ⟨w1, hw1, h⟩ := bd_e h; refine kc hP (Anv hA hcap1 hq1 hw1) ?_ (by first | rfl | simp [bare, bare.bares, hcap1]); cbv
 exact le h hR
theorem Awa {A : Ar} (hA : A = std) {x0 : Int} {r : Bool} (h : Akh A x0 = some r) : PFun cx 335 [it .u8 x0] (bl r) := by
 refine wF hA cx_ok Tryz.func335 fun P R hP hR => ?_
 cbv; unfold Akh at h
 iterate 2 refine kj ?_
 iterate 6 refine cj ?_
 refine ⟨by subst hA; simp +contextual [vcm], ?_⟩
 iterate 3 refine cj ?_
 exact le h hR
theorem Amz {A : Ar} (hA : A = std) {x0 : List UInt8} {q1 : Int → Option Bool} {g1 : Nat} {cap1 : List PV} (hcap1 : bare.bares cap1 = true) (hq1 : ∀ (y0 : Int) (r : Bool), q1 y0 = some r → PFun cx g1 ((it .u8 y0) :: cap1) (bl r)) {r : Int} (h : Aet A x0 q1 = some r) : PFun cx 235 [.d (.sl TyS.byte x0), .fn (.func g1) [] cap1] (it .i64 r) := by
 refine wF hA cx_ok Tryz.func235 fun P R hP hR => ?_
 cbv; unfold Aet at h
 iterate 2 refine kj ?_
 refine kl h (fun x _ => [(8, it .i64 x)]) (fun _ _ => []) [] ?_
 rintro t8 gh1 g1 _ _ _ hK1 hQ1 h; cbv
 refine kj ?_
 refine bc h (fun hb h => ?_) fun hb h => ?_
 ·cbv
  iterate 2 refine kj ?_
  refine kk h fun c1 h => ?_
  obtain ⟨w2, hw2, h⟩ := bd_e h; refine kc hP (hq1 _ _ hw2) ?_ (by first | rfl | simp [bare, bare.bares, hcap1]); cbv
  refine bc h (fun hb h => ?_) fun hb h => ?_
  ·cbv
   refine kj ?_
   refine hQ1 _ h _ _ fun h => ?_; cbv
   exact le h hR
  ·cbv
   refine kj ?_
   cases h; exact hK1 _ _ [] rfl hdy
 ·cbv
  refine hQ1 _ h _ _ fun h => ?_; cbv
  refine kj ?_
  exact le h hR
theorem Abp {A : Ar} (hA : A = std) {x0 : List UInt8} {q1 : Int → Option Bool} {g1 : Nat} {cap1 : List PV} (hcap1 : bare.bares cap1 = true) (hq1 : ∀ (y0 : Int) (r : Bool), q1 y0 = some r → PFun cx g1 ((it .u8 y0) :: cap1) (bl r)) {r : Bool} (h : Aac A x0 q1 = some r) : PFun cx 149 [.d (.sl TyS.byte x0), .fn (.func g1) [] cap1] (bl r) := by
 refine wF hA cx_ok Tryz.func149 fun P R hP hR => ?_
 cbv; unfold Aac at h
 iterate 2 refine kj ?_
 obtain ⟨w1, hw1, h⟩ := bd_e h; refine kc hP (Amz hA hcap1 hq1 hw1) ?_ (by first | rfl | simp [bare, bare.bares, hcap1]); cbv
 exact le h hR
theorem Ati {A : Ar} (hA : A = std) {x0 : ByteArray} {r : Bool} (h : Aiu A x0 = some r) : PFun cx 299 [st x0] (bl r) := by
 refine wF hA cx_ok Tryz.func299 fun P R hP hR => ?_
 cbv; unfold Aiu at h
 iterate 3 refine kj ?_
 iterate 6 refine cj ?_
 obtain ⟨w1, hw1, h⟩ := bd_e h; refine kf hP (fun hc => (Abp hA (by rfl) (fun _ _ hw => Awa hA hw) (gd_e hw1 hc))) ?_; cbv
 iterate 2 refine cj ?_
 exact le h hR
theorem Am0 {A : Ar} (hA : A = std) {x0 : List ByteArray} {x1 : ByteArray} {r : Int} (h : Adb A x0 x1 = some r) : PFun cx 155 [.d (.sl TyS.str x0), st x1] (it .i64 r) := by
 refine wF hA cx_ok Tryz.func155 fun P R hP hR => ?_
 cbv; unfold Adb at h
 iterate 2 refine kj ?_
 refine kl h (fun x _ => [(8, it .i64 x)]) (fun _ _ => []) [] ?_
 rintro t8 gh1 g1 _ _ _ hK1 hQ1 h; cbv
 refine kj ?_
 refine bc h (fun hb h => ?_) fun hb h => ?_
 ·cbv
  iterate 2 refine kj ?_
  refine kk h fun c1 h => ?_
  refine bc h (fun hb h => ?_) fun hb h => ?_
  ·cbv
   refine kj ?_
   refine hQ1 _ h _ _ fun h => ?_; cbv
   exact le h hR
  ·cbv
   refine kj ?_
   cases h; exact hK1 _ _ [] rfl hdy
 ·cbv
  refine hQ1 _ h _ _ fun h => ?_; cbv
  refine kj ?_
  exact le h hR
theorem Acu {A : Ar} (hA : A = std) {x0 : List ByteArray} {x1 : ByteArray} {r : Bool} (h : Aao A x0 x1 = some r) : PFun cx 67 [.d (.sl TyS.str x0), st x1] (bl r) := by
 refine wF hA cx_ok Tryz.func67 fun P R hP hR => ?_
 cbv; unfold Aao at h
 iterate 2 refine kj ?_
 obtain ⟨w1, hw1, h⟩ := bd_e h; refine kc hP (Am0 hA hw1) ?_; cbv
 exact le h hR
theorem Akz {A : Ar} (hA : A = std) {x0 : List ByteArray} {q1 : ByteArray → Option Bool} {g1 : Nat} {cap1 : List PV} (hcap1 : bare.bares cap1 = true) (hq1 : ∀ (y0 : ByteArray) (r : Bool), q1 y0 = some r → PFun cx g1 ((st y0) :: cap1) (bl r)) {r : Int} (h : Adg A x0 q1 = some r) : PFun cx 228 [.d (.sl TyS.str x0), .fn (.func g1) [] cap1] (it .i64 r) := by
 refine wF hA cx_ok Tryz.func228 fun P R hP hR => ?_
 cbv; unfold Adg at h
 iterate 2 refine kj ?_
 refine kl h (fun x _ => [(8, it .i64 x)]) (fun _ _ => []) [] ?_
 rintro t8 gh1 g1 _ _ _ hK1 hQ1 h; cbv
 refine kj ?_
 refine bc h (fun hb h => ?_) fun hb h => ?_
 ·cbv
  iterate 2 refine kj ?_
  refine kk h fun c1 h => ?_
  obtain ⟨w2, hw2, h⟩ := bd_e h; refine kc hP (hq1 _ _ hw2) ?_ (by first | rfl | simp [bare, bare.bares, hcap1]); cbv
  refine bc h (fun hb h => ?_) fun hb h => ?_
  ·cbv
   refine kj ?_
   refine hQ1 _ h _ _ fun h => ?_; cbv
   exact le h hR
  ·cbv
   refine kj ?_
   cases h; exact hK1 _ _ [] rfl hdy
 ·cbv
  refine hQ1 _ h _ _ fun h => ?_; cbv
  refine kj ?_
  exact le h hR
theorem Adj {A : Ar} (hA : A = std) {x0 : List ByteArray} {q1 : ByteArray → Option Bool} {g1 : Nat} {cap1 : List PV} (hcap1 : bare.bares cap1 = true) (hq1 : ∀ (y0 : ByteArray) (r : Bool), q1 y0 = some r → PFun cx g1 ((st y0) :: cap1) (bl r)) {r : Bool} (h : Aai A x0 q1 = some r) : PFun cx 141 [.d (.sl TyS.str x0), .fn (.func g1) [] cap1] (bl r) := by
 refine wF hA cx_ok Tryz.func141 fun P R hP hR => ?_
 cbv; unfold Aai at h
 iterate 2 refine kj ?_
 obtain ⟨w1, hw1, h⟩ := bd_e h; refine kc hP (Akz hA hcap1 hq1 hw1) ?_ (by first | rfl | simp [bare, bare.bares, hcap1]); cbv
 exact le h hR
theorem Avo {A : Ar} (hA : A = std) {x0 : Int} {r : Bool} (h : Ak6 A x0 = some r) : PFun cx 336 [it .u8 x0] (bl r) := by
 refine wF hA cx_ok Tryz.func336 fun P R hP hR => ?_
 cbv; unfold Ak6 at h
 iterate 2 refine kj ?_
 iterate 4 refine cj ?_
 exact le h hR
theorem Ayf {A : Ar} (hA : A = std) {x0 : ByteArray} {r : Bool} (h : An5 A x0 = some r) : PFun cx 301 [st x0] (bl r) := by
 refine wF hA cx_ok Tryz.func301 fun P R hP hR => ?_
 cbv; unfold An5 at h
 iterate 3 refine kj ?_
 iterate 4 refine cj ?_
 obtain ⟨w1, hw1, h⟩ := bd_e h; refine kg hP (fun hc => (Aw0 hA (gd_e hw1 hc))) ?_; cbv
 iterate 6 refine cj ?_
 obtain ⟨w2, hw2, h⟩ := bd_e h; refine kf hP (fun hc => (Abp hA (by rfl) (fun _ _ hw => Avo hA hw) (gd_e hw2 hc))) ?_; cbv
 iterate 2 refine cj ?_
 exact le h hR
theorem Ayg {A : Ar} (hA : A = std) {x0 : ByteArray} {r : Bool} (h : Alq A x0 = some r) : PFun cx 300 [st x0] (bl r) := by
 refine wF hA cx_ok Tryz.func300 fun P R hP hR => ?_
 cbv; unfold Alq at h
 iterate 2 refine kj ?_
 obtain ⟨w1, hw1, h⟩ := bd_e h; refine kc hP (Ayf hA hw1) ?_; cbv
 exact le h hR
theorem A2a {A : Ar} (hA : A = std) {x0 : Def} {r : Bool} (h : Apv A x0 = some r) : PFun cx 231 [defPV x0] (bl r) := by
 refine wF hA cx_ok Tryz.func231 fun P R hP hR => ?_
 cbv; unfold Apv at h
 iterate 2 refine kj ?_
 refine kl h (fun x _ => [(8, it .i64 x)]) (fun x gh => [⟨1, 0, .box 118 [st x0.1, .d (.sl .str x0.2), .d (.sl .str x0.3)]⟩]) [] ?_
 rintro t8 gh1 g1 _ _ _ hK1 hQ1 h; cbv
 refine kj ?_
 refine bc h (fun hb h => ?_) fun hb h => ?_
 ·cbv
  refine kj ?_
  refine kk h fun c1 h => ?_
  refine kj ?_
  obtain ⟨w2, hw2, h⟩ := bd_e h; refine kc hP (Ati hA hw2) ?_; cbv
  iterate 4 refine cj ?_
  refine kk h fun c3 h => ?_
  iterate 2 refine cj ?_
  obtain ⟨w4, hw4, h⟩ := bd_e h; refine kg hP (fun hc => (Acu hA (gd_e hw4 hc))) ?_; cbv
  refine cj ?_
  refine bc h (fun hb h => ?_) fun hb h => ?_
  ·cbv
   refine kj ?_
   refine hQ1 _ h _ _ fun h => ?_; cbv
   exact le h hR
  ·cbv
   refine kj ?_
   cases h; exact hK1 _ _ [] rfl hdy
 ·cbv
  refine hQ1 _ h _ _ fun h => ?_; cbv
  refine kj ?_
  obtain ⟨w5, hw5, h⟩ := bd_e h; refine kc hP (Ati hA hw5) ?_; cbv
  iterate 17 refine cj ?_
  obtain ⟨w6, hw6, h⟩ := bd_e h; refine kf hP (fun hc => (Adj hA (by rfl) (fun _ _ hw => Ayg hA hw) (gd_e hw6 hc))) ?_; cbv
  iterate 2 refine cj ?_
  exact le h hR
theorem Avp {A : Ar} (hA : A = std) {x0 : Def} {r : Bool} (h : Ak7 A x0 = some r) : PFun cx 230 [defPV x0] (bl r) := by
 refine wF hA cx_ok Tryz.func230 fun P R hP hR => ?_
 cbv; unfold Ak7 at h
 iterate 2 refine kj ?_
 obtain ⟨w1, hw1, h⟩ := bd_e h; refine kc hP (A2a hA hw1) ?_; cbv
 exact le h hR
theorem Al7 {A : Ar} (hA : A = std) {x0 : List Def} {r : Bool} (h : Ag4 A x0 = some r) : PFun cx 143 [.d (.sl TyS.dfn x0)] (bl r) := by
 refine wF hA cx_ok Tryz.func143 fun P R hP hR => ?_
 cbv; unfold Ag4 at h
 iterate 2 refine kj ?_
 refine cj ?_
 obtain ⟨w1, hw1, h⟩ := bd_e h; refine kf hP (fun hc => (Amf hA (by rfl) (fun _ _ hw => Avp hA hw) (gd_e hw1 hc))) ?_; cbv
 iterate 2 refine cj ?_
 exact le h hR
theorem Atj {A : Ar} (hA : A = std) {x0 : ByteArray} {r : Bool} (h : Anr A x0 = some r) : PFun cx 137 [st x0] (bl r) := by
 refine wF hA cx_ok Tryz.func137 fun P R hP hR => ?_
 cbv; unfold Anr at h
 iterate 2 refine kj ?_
 obtain ⟨w1, hw1, h⟩ := bd_e h; refine kc hP (Al7 hA hw1) ?_; cbv
 exact le h hR
theorem Atk {A : Ar} (hA : A = std) {x0 : Int} {r : Bool} (h : Apw A x0 = some r) : PFun cx 138 [it .i64 x0] (bl r) := by
 refine wF hA cx_ok Tryz.func138 fun P R hP hR => ?_
 cbv; unfold Apw at h
 iterate 2 refine kj ?_
 iterate 2 refine cj ?_
 exact le h hR
theorem Awb {A : Ar} (hA : A = std) {x0 : Int} {r : Bool} (h : Aml A x0 = some r) : PFun cx 333 [it .u8 x0] (bl r) := by
 refine wF hA cx_ok Tryz.func333 fun P R hP hR => ?_
 cbv; unfold Aml at h
 iterate 2 refine kj ?_
 iterate 6 refine cj ?_
 refine ⟨by subst hA; simp +contextual [vcm], ?_⟩
 iterate 3 refine cj ?_
 exact le h hR
theorem A0j {A : Ar} (hA : A = std) {x0 : ByteArray} {r : Bool} (h : Apx A x0 = some r) : PFun cx 296 [st x0] (bl r) := by
 refine wF hA cx_ok Tryz.func296 fun P R hP hR => ?_
 cbv; unfold Apx at h
 iterate 2 refine kj ?_
 refine kl h (fun x _ => [(2, bl x.1), (7, it .i64 x.2)]) (fun _ _ => []) [] ?_
 rintro ⟨t2, t7⟩ gh1 g1 _ _ _ hK1 hQ1 h; cbv
 refine kj ?_
 refine bc h (fun hb h => ?_) fun hb h => ?_
 ·cbv
  iterate 2 refine kj ?_
  refine kk h fun c1 h => ?_
  refine kj ?_
  obtain ⟨w2, hw2, h⟩ := bd_e h; refine kc hP (Awb hA hw2) ?_; cbv
  iterate 4 refine cj ?_
  refine ⟨by subst hA; simp +contextual [vcm], ?_⟩
  iterate 3 refine cj ?_
  refine ⟨by subst hA; simp +contextual [vcm], ?_⟩
  refine cj ?_
  refine bc h (fun hb h => ?_) fun hb h => ?_
  ·cbv
   refine kj ?_
   refine hQ1 _ h _ _ fun h => ?_; cbv
   exact le h hR
  ·cbv
   refine kj ?_
   cases h; exact hK1 _ _ [] rfl hdy
 ·cbv
  refine hQ1 _ h _ _ fun h => ?_; cbv
  refine kj ?_
  iterate 3 refine cj ?_
  exact le h hR
theorem Avq {A : Ar} (hA : A = std) {x0 : Int} {r : Bool} (h : Ang A x0 = some r) : PFun cx 334 [it .u8 x0] (bl r) := by
 refine wF hA cx_ok Tryz.func334 fun P R hP hR => ?_
 cbv; unfold Ang at h
 iterate 2 refine kj ?_
 iterate 2 refine cj ?_
 exact le h hR
theorem Ayh {A : Ar} (hA : A = std) {x0 : ByteArray} {r : Bool} (h : An6 A x0 = some r) : PFun cx 297 [st x0] (bl r) := by
 refine wF hA cx_ok Tryz.func297 fun P R hP hR => ?_
 cbv; unfold An6 at h
 iterate 2 refine kj ?_
 iterate 5 refine cj ?_
 obtain ⟨w1, hw1, h⟩ := bd_e h; refine kf hP (fun hc => (Abp hA (by rfl) (fun _ _ hw => Avq hA hw) (gd_e hw1 hc))) ?_; cbv
 iterate 2 refine cj ?_
 exact le h hR
theorem A2b {A : Ar} (hA : A = std) {x0 : Label} {r : Bool} (h : Apy A x0 = some r) : PFun cx 226 [Awz x0] (bl r) := by
 refine wF hA cx_ok Tryz.func226 fun P R hP hR => ?_
 cbv; unfold Apy at h
 iterate 2 refine kj ?_
 obtain ⟨w1, hw1, h⟩ := bd_e h; refine kc hP (A0j hA hw1) ?_; cbv
 iterate 3 refine cj ?_
 obtain ⟨w2, hw2, h⟩ := bd_e h; refine kg hP (fun hc => (Ayh hA (gd_e hw2 hc))) ?_; cbv
 refine cj ?_
 exact le h hR
theorem Ah5 {A : Ar} (hA : A = std) {x0 : List Label} {r : Bool} (h : Ae7 A x0 = some r) : PFun cx 139 [.d (.sl TyS.label x0)] (bl r) := by
 refine wF hA cx_ok Tryz.func139 fun P R hP hR => ?_
 cbv; unfold Ae7 at h
 iterate 2 refine kj ?_
 refine kl h (fun x _ => [(7, it .i64 x)]) (fun _ _ => []) [] ?_
 rintro t7 gh1 g1 _ _ _ hK1 hQ1 h; cbv
 refine kj ?_
 refine bc h (fun hb h => ?_) fun hb h => ?_
 ·cbv
  refine kj ?_
  refine kk h fun c1 h => ?_
  refine kj ?_
  obtain ⟨w2, hw2, h⟩ := bd_e h; refine kc hP (A2b hA hw2) ?_; cbv
  iterate 5 refine cj ?_
  refine kk h fun c3 h => ?_
  iterate 7 refine cj ?_
  refine ⟨by subst hA; simp +contextual [vcm], ?_⟩
  refine cj ?_
  refine kj ?_
  refine bc h (fun hb h => ?_) fun hb h => ?_
  ·cbv
   refine kj ?_
   refine hQ1 _ h _ _ fun h => ?_; cbv
   exact le h hR
  ·cbv
   refine kj ?_
   cases h; exact hK1 _ _ [] rfl hdy
 ·cbv
  refine hQ1 _ h _ _ fun h => ?_; cbv
  refine kj ?_
  exact le h hR
theorem Ayi {A : Ar} (hA : A = std) {x0 : Label} {c0 : ByteArray} {r : Bool} (h : An7 A x0 c0 = some r) : PFun cx 227 [Awz x0, .ip [.v (.string c0)]] (bl r) := by
 refine wF hA cx_ok Tryz.func227 fun P R hP hR => ?_
 cbv; unfold An7 at h
 iterate 2 refine kj ?_
 exact le h hR
theorem Ag9 {A : Ar} (hA : A = std) {x0 : List Label} {q1 : Label → Option Bool} {g1 : Nat} {cap1 : List PV} (hcap1 : bare.bares cap1 = true) (hq1 : ∀ (y0 : Label) (r : Bool), q1 y0 = some r → PFun cx g1 ((Awz y0) :: cap1) (bl r)) {r : Int} (h : Abm A x0 q1 = some r) : PFun cx 175 [.d (.sl TyS.label x0), .fn (.func g1) [] cap1] (it .i64 r) := by
 refine wF hA cx_ok Tryz.func175 fun P R hP hR => ?_
 cbv; unfold Abm at h
 iterate 2 refine kj ?_
 refine kl h (fun x _ => [(8, it .i64 x)]) (fun _ _ => []) [] ?_
 rintro t8 gh1 g1 _ _ _ hK1 hQ1 h; cbv
 refine kj ?_
 refine bc h (fun hb h => ?_) fun hb h => ?_
 ·cbv
  iterate 2 refine kj ?_
  refine kk h fun c1 h => ?_
  obtain ⟨w2, hw2, h⟩ := bd_e h; refine kc hP (hq1 _ _ hw2) ?_ (by first | rfl | simp [bare, bare.bares, hcap1]); cbv
  refine bc h (fun hb h => ?_) fun hb h => ?_
  ·cbv
   refine kj ?_
   refine hQ1 _ h _ _ fun h => ?_; cbv
   exact le h hR
  ·cbv
   refine kj ?_
   cases h; exact hK1 _ _ [] rfl hdy
 ·cbv
  refine hQ1 _ h _ _ fun h => ?_; cbv
  refine kj ?_
  exact le h hR
theorem A2c {A : Ar} (hA : A = std) {x0 : List Label} {x1 : ByteArray} {r : ByteArray} (h : Arj A x0 x1 = some r) : PFun cx 140 [.d (.sl TyS.label x0), st x1] (st r) := by
 refine PFun.walkF (fz := fun k => k == 3) hA cx_ok Tryz.func140 rfl rfl rfl fun P R hP hR => ?_
 cbv; unfold Arj at h
 iterate 2 refine kj ?_
 obtain ⟨w1, hw1, h⟩ := bd_e h; refine kc hP (Ag9 hA (by rfl) (fun _ _ hw => Ayi hA hw) hw1) ?_; cbv
 refine kj ?_
 refine bc h (fun hb h => ?_) fun hb h => ?_
 ·cbv
  refine kj ?_
  exact le h hR
 ·cbv
  refine kj ?_
  refine kk h fun c2 h => ?_
  exact le h hR
theorem Asd {A : Ar} (hA : A = std) {x0 : Rule} {r : Bool} (h : Aj8 A x0 = some r) : PFun cx 47 [Ahj x0] (bl r) := by
 refine wF hA cx_ok Tryz.func47 fun P R hP hR => ?_
 cbv; unfold Aj8 at h
 iterate 2 refine kj ?_
 obtain ⟨w1, hw1, h⟩ := bd_e h; refine kc hP (Atj hA hw1) ?_; cbv
 iterate 3 refine cj ?_
 obtain ⟨w2, hw2, h⟩ := bd_e h; refine kg hP (fun hc => (Atj hA (gd_e hw2 hc))) ?_; cbv
 iterate 9 refine cj ?_
 refine kj ?_
 obtain ⟨w3, hw3, h⟩ := bd_e h; refine kc hP (Atk hA hw3) ?_; cbv
 iterate 3 refine cj ?_
 obtain ⟨w4, hw4, h⟩ := bd_e h; refine kg hP (fun hc => (Atk hA (gd_e hw4 hc))) ?_; cbv
 iterate 9 refine cj ?_
 refine kj ?_
 iterate 17 refine cj ?_
 obtain ⟨w5, hw5, h⟩ := bd_e h; refine kg hP (fun hc => (Ah5 hA (gd_e hw5 hc))) ?_; cbv
 iterate 4 refine cj ?_
 obtain ⟨w6, hw6, h⟩ := bd_e h; refine kg hP (fun hc => (A2c hA (gd_e hw6 hc))) ?_; cbv
 iterate 2 refine cj ?_
 exact le h hR
theorem Ali {A : Ar} (hA : A = std) {x0 : ByteArray} {qc0 : ByteArray → Option Bool} {gc0 : Nat} {capc0 : List D} (hcapc0 : capOK capc0) (hqc0 : ∀ (y0 : ByteArray) (r : Bool), qc0 y0 = some r → PFun cx gc0 ((st y0) :: un.uns capc0) (bl r)) {r : Bool} (h : Ahm A x0 qc0 = some r) : PFun cx 142 [st x0, .ip [.fun (.func gc0) [] capc0]] (bl r) := by
 rcases hcapc0 with rfl | ⟨dscapc0, rfl⟩
 all_goals
  refine wF hA cx_ok Tryz.func142 fun P R hP hR => ?_
  cbv; unfold Ahm at h
  iterate 2 refine kj ?_
  obtain ⟨w1, hw1, h⟩ := bd_e h; refine kc hP (hqc0 _ _ hw1) ?_; cbv
  exact le h hR
theorem Ajg {A : Ar} (hA : A = std) {x0 : List ByteArray} {x1 : Int} {q2 : ByteArray → Option Bool} {g2 : Nat} {cap2 : List D} (hcap2 : capOK cap2) (hq2 : ∀ (y0 : ByteArray) (r : Bool), q2 y0 = some r → PFun cx g2 ((st y0) :: un.uns cap2) (bl r)) {r : Bool} (h : Ac3 A x0 x1 q2 = some r) : PFun cx 48 [.d (.sl TyS.str x0), it .i64 x1, .fn (.func g2) [] (un.uns cap2)] (bl r) := by
 rcases hcap2 with rfl | ⟨dscap2, rfl⟩
 ·refine PFun.walkF (fz := fun k => k == 5) hA cx_ok Tryz.func48 rfl rfl rfl fun P R hP hR => ?_
  cbv; unfold Ac3 at h
  iterate 2 refine kj ?_
  iterate 2 refine cj ?_
  obtain ⟨w1, hw1, h⟩ := bd_e h; refine kg hP (fun hc => (Adj hA (by rfl) (fun _ _ hw => Ali (capc0 := []) hA (by first | exact .inl rfl | exact .inr ⟨_, rfl⟩) hq2 hw) (gd_e hw1 hc))) ?_; cbv
  iterate 2 refine cj ?_
  exact le h hR
 ·refine PFun.walkF (fz := fun k => k == 5) hA cx_ok Tryz.func48 rfl rfl rfl fun P R hP hR => ?_
  cbv; unfold Ac3 at h
  iterate 2 refine kj ?_
  iterate 2 refine cj ?_
  obtain ⟨w1, hw1, h⟩ := bd_e h; refine kg hP (fun hc => (Adj hA (by rfl) (fun _ _ hw => Ali (capc0 := [D.ptr dscap2]) hA (by first | exact .inl rfl | exact .inr ⟨_, rfl⟩) hq2 hw) (gd_e hw1 hc))) ?_; cbv
  iterate 2 refine cj ?_
  exact le h hR
theorem Ayj {A : Ar} (hA : A = std) {x0 : ByteArray} {r : Bool} (h : Als A x0 = some r) : PFun cx 49 [st x0] (bl r) := by
 refine wF hA cx_ok Tryz.func49 fun P R hP hR => ?_
 cbv; unfold Als at h
 iterate 2 refine kj ?_
 obtain ⟨w1, hw1, h⟩ := bd_e h; refine kc hP (Al7 hA hw1) ?_; cbv
 exact le h hR
theorem Ak0 {A : Ar} (hA : A = std) {x0 : Inhibit} {qc0 : Inhibit → Option Bool} {gc0 : Nat} {capc0 : List D} (hcapc0 : capOK capc0) (hqc0 : ∀ (y0 : Inhibit) (r : Bool), qc0 y0 = some r → PFun cx gc0 ((Agy y0) :: un.uns capc0) (bl r)) {r : Bool} (h : Ag6 A x0 qc0 = some r) : PFun cx 144 [Agy x0, .ip [.fun (.func gc0) [] capc0]] (bl r) := by
 rcases hcapc0 with rfl | ⟨dscapc0, rfl⟩
 all_goals
  refine wF hA cx_ok Tryz.func144 fun P R hP hR => ?_
  cbv; unfold Ag6 at h
  iterate 2 refine kj ?_
  obtain ⟨w1, hw1, h⟩ := bd_e h; refine kc hP (hqc0 _ _ hw1) ?_; cbv
  exact le h hR
theorem Aj6 {A : Ar} (hA : A = std) {x0 : List Inhibit} {q1 : Inhibit → Option Bool} {g1 : Nat} {cap1 : List PV} (hcap1 : bare.bares cap1 = true) (hq1 : ∀ (y0 : Inhibit) (r : Bool), q1 y0 = some r → PFun cx g1 ((Agy y0) :: cap1) (bl r)) {r : Int} (h : Acv A x0 q1 = some r) : PFun cx 196 [.d (.sl TyS.inhibit x0), .fn (.func g1) [] cap1] (it .i64 r) := by
 refine wF hA cx_ok Tryz.func196 fun P R hP hR => ?_
 cbv; unfold Acv at h
 iterate 2 refine kj ?_
 refine kl h (fun x _ => [(8, it .i64 x)]) (fun _ _ => []) [] ?_
 rintro t8 gh1 g1 _ _ _ hK1 hQ1 h; cbv
 refine kj ?_
 refine bc h (fun hb h => ?_) fun hb h => ?_
 ·cbv
  iterate 2 refine kj ?_
  refine kk h fun c1 h => ?_
  obtain ⟨w2, hw2, h⟩ := bd_e h; refine kc hP (hq1 _ _ hw2) ?_ (by first | rfl | simp [bare, bare.bares, hcap1]); cbv
  refine bc h (fun hb h => ?_) fun hb h => ?_
  ·cbv
   refine kj ?_
   refine hQ1 _ h _ _ fun h => ?_; cbv
   exact le h hR
  ·cbv
   refine kj ?_
   cases h; exact hK1 _ _ [] rfl hdy
 ·cbv
  refine hQ1 _ h _ _ fun h => ?_; cbv
  refine kj ?_
  exact le h hR
theorem Afu {A : Ar} (hA : A = std) {x0 : List Inhibit} {q1 : Inhibit → Option Bool} {g1 : Nat} {cap1 : List PV} (hcap1 : bare.bares cap1 = true) (hq1 : ∀ (y0 : Inhibit) (r : Bool), q1 y0 = some r → PFun cx g1 ((Agy y0) :: cap1) (bl r)) {r : Bool} (h : Aa9 A x0 q1 = some r) : PFun cx 118 [.d (.sl TyS.inhibit x0), .fn (.func g1) [] cap1] (bl r) := by
 refine wF hA cx_ok Tryz.func118 fun P R hP hR => ?_
 cbv; unfold Aa9 at h
 iterate 2 refine kj ?_
 obtain ⟨w1, hw1, h⟩ := bd_e h; refine kc hP (Aj6 hA hcap1 hq1 hw1) ?_ (by first | rfl | simp [bare, bare.bares, hcap1]); cbv
 exact le h hR
theorem Ara {A : Ar} (hA : A = std) {x0 : List Inhibit} {x1 : Int} {q2 : Inhibit → Option Bool} {g2 : Nat} {cap2 : List D} (hcap2 : capOK cap2) (hq2 : ∀ (y0 : Inhibit) (r : Bool), q2 y0 = some r → PFun cx g2 ((Agy y0) :: un.uns cap2) (bl r)) {r : Bool} (h : Ad5 A x0 x1 q2 = some r) : PFun cx 50 [.d (.sl TyS.inhibit x0), it .i64 x1, .fn (.func g2) [] (un.uns cap2)] (bl r) := by
 rcases hcap2 with rfl | ⟨dscap2, rfl⟩
 ·refine PFun.walkF (fz := fun k => k == 5) hA cx_ok Tryz.func50 rfl rfl rfl fun P R hP hR => ?_
  cbv; unfold Ad5 at h
  iterate 2 refine kj ?_
  iterate 2 refine cj ?_
  obtain ⟨w1, hw1, h⟩ := bd_e h; refine kg hP (fun hc => (Afu hA (by rfl) (fun _ _ hw => Ak0 (capc0 := []) hA (by first | exact .inl rfl | exact .inr ⟨_, rfl⟩) hq2 hw) (gd_e hw1 hc))) ?_; cbv
  iterate 2 refine cj ?_
  exact le h hR
 ·refine PFun.walkF (fz := fun k => k == 5) hA cx_ok Tryz.func50 rfl rfl rfl fun P R hP hR => ?_
  cbv; unfold Ad5 at h
  iterate 2 refine kj ?_
  iterate 2 refine cj ?_
  obtain ⟨w1, hw1, h⟩ := bd_e h; refine kg hP (fun hc => (Afu hA (by rfl) (fun _ _ hw => Ak0 (capc0 := [D.ptr dscap2]) hA (by first | exact .inl rfl | exact .inr ⟨_, rfl⟩) hq2 hw) (gd_e hw1 hc))) ?_; cbv
  iterate 2 refine cj ?_
  exact le h hR
theorem Ak1 {A : Ar} (hA : A = std) {x0 : Matcher} {qc0 : Matcher → Option Bool} {gc0 : Nat} {capc0 : List D} (hcapc0 : capOK capc0) (hqc0 : ∀ (y0 : Matcher) (r : Bool), qc0 y0 = some r → PFun cx gc0 ((Aj0 y0) :: un.uns capc0) (bl r)) {r : Bool} (h : Ag7 A x0 qc0 = some r) : PFun cx 232 [Aj0 x0, .ip [.fun (.func gc0) [] capc0]] (bl r) := by
 rcases hcapc0 with rfl | ⟨dscapc0, rfl⟩
 all_goals
  refine wF hA cx_ok Tryz.func232 fun P R hP hR => ?_
  cbv; unfold Ag7 at h
  iterate 2 refine kj ?_
  obtain ⟨w1, hw1, h⟩ := bd_e h; refine kc hP (hqc0 _ _ hw1) ?_; cbv
  exact le h hR
theorem Aj7 {A : Ar} (hA : A = std) {x0 : List Matcher} {q1 : Matcher → Option Bool} {g1 : Nat} {cap1 : List PV} (hcap1 : bare.bares cap1 = true) (hq1 : ∀ (y0 : Matcher) (r : Bool), q1 y0 = some r → PFun cx g1 ((Aj0 y0) :: cap1) (bl r)) {r : Int} (h : Acw A x0 q1 = some r) : PFun cx 270 [.d (.sl TyS.matcher x0), .fn (.func g1) [] cap1] (it .i64 r) := by
 refine wF hA cx_ok Tryz.func270 fun P R hP hR => ?_
 cbv; unfold Acw at h
 iterate 2 refine kj ?_
 refine kl h (fun x _ => [(8, it .i64 x)]) (fun _ _ => []) [] ?_
 rintro t8 gh1 g1 _ _ _ hK1 hQ1 h; cbv
 refine kj ?_
 refine bc h (fun hb h => ?_) fun hb h => ?_
 ·cbv
  iterate 2 refine kj ?_
  refine kk h fun c1 h => ?_
  obtain ⟨w2, hw2, h⟩ := bd_e h; refine kc hP (hq1 _ _ hw2) ?_ (by first | rfl | simp [bare, bare.bares, hcap1]); cbv
  refine bc h (fun hb h => ?_) fun hb h => ?_
  ·cbv
   refine kj ?_
   refine hQ1 _ h _ _ fun h => ?_; cbv
   exact le h hR
  ·cbv
   refine kj ?_
   cases h; exact hK1 _ _ [] rfl hdy
 ·cbv
  refine hQ1 _ h _ _ fun h => ?_; cbv
  refine kj ?_
  exact le h hR
theorem Ac2 {A : Ar} (hA : A = std) {x0 : List Matcher} {q1 : Matcher → Option Bool} {g1 : Nat} {cap1 : List PV} (hcap1 : bare.bares cap1 = true) (hq1 : ∀ (y0 : Matcher) (r : Bool), q1 y0 = some r → PFun cx g1 ((Aj0 y0) :: cap1) (bl r)) {r : Bool} (h : Aar A x0 q1 = some r) : PFun cx 191 [.d (.sl TyS.matcher x0), .fn (.func g1) [] cap1] (bl r) := by
 refine wF hA cx_ok Tryz.func191 fun P R hP hR => ?_
 cbv; unfold Aar at h
 iterate 2 refine kj ?_
 obtain ⟨w1, hw1, h⟩ := bd_e h; refine kc hP (Aj7 hA hcap1 hq1 hw1) ?_ (by first | rfl | simp [bare, bare.bares, hcap1]); cbv
 exact le h hR
theorem Amg {A : Ar} (hA : A = std) {x0 : List Matcher} {x1 : Int} {q2 : Matcher → Option Bool} {g2 : Nat} {cap2 : List D} (hcap2 : capOK cap2) (hq2 : ∀ (y0 : Matcher) (r : Bool), q2 y0 = some r → PFun cx g2 ((Aj0 y0) :: un.uns cap2) (bl r)) {r : Bool} (h : Ab5 A x0 x1 q2 = some r) : PFun cx 145 [.d (.sl TyS.matcher x0), it .i64 x1, .fn (.func g2) [] (un.uns cap2)] (bl r) := by
 rcases hcap2 with rfl | ⟨dscap2, rfl⟩
 ·refine PFun.walkF (fz := fun k => k == 5) hA cx_ok Tryz.func145 rfl rfl rfl fun P R hP hR => ?_
  cbv; unfold Ab5 at h
  iterate 2 refine kj ?_
  iterate 2 refine cj ?_
  obtain ⟨w1, hw1, h⟩ := bd_e h; refine kg hP (fun hc => (Ac2 hA (by rfl) (fun _ _ hw => Ak1 (capc0 := []) hA (by first | exact .inl rfl | exact .inr ⟨_, rfl⟩) hq2 hw) (gd_e hw1 hc))) ?_; cbv
  iterate 2 refine cj ?_
  exact le h hR
 ·refine PFun.walkF (fz := fun k => k == 5) hA cx_ok Tryz.func145 rfl rfl rfl fun P R hP hR => ?_
  cbv; unfold Ab5 at h
  iterate 2 refine kj ?_
  iterate 2 refine cj ?_
  obtain ⟨w1, hw1, h⟩ := bd_e h; refine kg hP (fun hc => (Ac2 hA (by rfl) (fun _ _ hw => Ak1 (capc0 := [D.ptr dscap2]) hA (by first | exact .inl rfl | exact .inr ⟨_, rfl⟩) hq2 hw) (gd_e hw1 hc))) ?_; cbv
  iterate 2 refine cj ?_
  exact le h hR
theorem Avr {A : Ar} (hA : A = std) {x0 : Int} {r : Bool} (h : Ak8 A x0 = some r) : PFun cx 303 [it .u8 x0] (bl r) := by
 refine wF hA cx_ok Tryz.func303 fun P R hP hR => ?_
 cbv; unfold Ak8 at h
 iterate 2 refine kj ?_
 iterate 6 refine cj ?_
 refine ⟨by subst hA; simp +contextual [vcm], ?_⟩
 iterate 5 refine cj ?_
 refine ⟨by subst hA; simp +contextual [vcm], ?_⟩
 iterate 2 refine cj ?_
 obtain ⟨w1, hw1, h⟩ := bd_e h; refine kg hP (fun hc => (Asa hA (gd_e hw1 hc))) ?_; cbv
 iterate 2 refine cj ?_
 exact le h hR
theorem Auc {A : Ar} (hA : A = std) {x0 : Int} {r : Bool} (h : Al8 A x0 = some r) : PFun cx 302 [it .u8 x0] (bl r) := by
 refine wF hA cx_ok Tryz.func302 fun P R hP hR => ?_
 cbv; unfold Al8 at h
 iterate 2 refine kj ?_
 obtain ⟨w1, hw1, h⟩ := bd_e h; refine kc hP (Avr hA hw1) ?_; cbv
 exact le h hR
theorem Arb {A : Ar} (hA : A = std) {x0 : ByteArray} {r : Bool} (h : Ahi A x0 = some r) : PFun cx 233 [st x0] (bl r) := by
 refine wF hA cx_ok Tryz.func233 fun P R hP hR => ?_
 cbv; unfold Ahi at h
 iterate 2 refine kj ?_
 iterate 2 refine cj ?_
 obtain ⟨w1, hw1, h⟩ := bd_e h; refine kf hP (fun hc => (Abp hA (by rfl) (fun _ _ hw => Auc hA hw) (gd_e hw1 hc))) ?_; cbv
 iterate 2 refine cj ?_
 exact le h hR
theorem Am1 {A : Ar} (hA : A = std) {r : Unit} (h : Afd A = some r) : PFunM cx 234 [] [] (.mp 2000 1) [⟨2000, 1, .map [(.int .i64 1, .d (.v (.string (ByteArray.mk (Array.mk [61]))))), (.int .i64 2, .d (.v (.string (ByteArray.mk (Array.mk [33, 61]))))), (.int .i64 3, .d (.v (.string (ByteArray.mk (Array.mk [61, 126]))))), (.int .i64 4, .d (.v (.string (ByteArray.mk (Array.mk [33, 126])))))]⟩] := by
 refine PFunM.walkM (fz := fun _ => false) hA cx_ok Tryz.func234 rfl rfl fun P R hP hR => ?_
 cbv; unfold Afd at h
 iterate 2 refine kj ?_
 refine and_assoc.2 ?_
 refine ⟨by subst hA; simp +contextual [vcm], ?_⟩
 refine cj ?_
 refine and_assoc.2 ?_
 refine ⟨by subst hA; simp +contextual [vcm], ?_⟩
 refine and_assoc.2 ?_
 refine ⟨by subst hA; simp +contextual [vcm], ?_⟩
 refine cj ?_
 refine and_assoc.2 ?_
 refine ⟨by subst hA; simp +contextual [vcm], ?_⟩
 refine and_assoc.2 ?_
 refine ⟨by subst hA; simp +contextual [vcm], ?_⟩
 refine and_assoc.2 ?_
 refine ⟨by subst hA; simp +contextual [vcm], ?_⟩
 refine cj ?_
 cases h
 refine hR _ _ ⟨[(1, 3)], ⟨by rfl, ez, by rfl, ez⟩⟩
theorem Aj4 {A : Ar} (hA : A = std) {x0 : Matcher} {r : Bool} (h : Ad6 A x0 = some r) : PFun cx 146 [Aj0 x0] (bl r) := by
 refine wF hA cx_ok Tryz.func146 fun P R hP hR => ?_
 cbv; unfold Ad6 at h
 iterate 3 refine kj ?_
 refine bc h (fun hb h => ?_) fun hb h => ?_
 ·cbv
  iterate 2 refine kj ?_
  refine kl h (fun x _ => [(14, it .i64 x)]) (fun x gh => [⟨1, 0, .box 99 [st x0.1, it .i64 x0.2, .d (.sl .str x0.3)]⟩]) [] ?_
  rintro t14 gh1 g1 _ _ _ hK1 hQ1 h; cbv
  refine kj ?_
  refine bc h (fun hb h => ?_) fun hb h => ?_
  ·cbv
   refine kj ?_
   refine kk h fun c1 h => ?_
   refine kj ?_
   obtain ⟨w2, hw2, h⟩ := bd_e h; refine kc hP (Arb hA hw2) ?_; cbv
   iterate 7 refine cj ?_
   refine kk h fun c3 h => ?_
   iterate 4 refine cj ?_
   refine ⟨by subst hA; simp +contextual [vcm], ?_⟩
   refine cj ?_
   refine bc h (fun hb h => ?_) fun hb h => ?_
   ·cbv
    refine kj ?_
    refine hQ1 _ h _ _ fun h => ?_; cbv
    exact le h hR
   ·cbv
    refine kj ?_
    cases h; exact hK1 _ _ [] rfl hdy
  ·cbv
   refine hQ1 _ h _ _ fun h => ?_; cbv
   refine kj ?_
   obtain ⟨w4, hw4, h⟩ := bd_e h; refine km hP [] (Am1 hA hw4) ?_; cbv
   refine ⟨by first | exact Ahs hA _ | exact ⟨rfl⟩, ?_⟩
   obtain ⟨w5, hw5, h⟩ := bd_e h
   have hw5' := Av1 A x0.2 (fun x => st x) (ByteArray.mk (Array.mk [])) [(1, ByteArray.mk (Array.mk [61])), (2, ByteArray.mk (Array.mk [33, 61])), (3, ByteArray.mk (Array.mk [61, 126])), (4, ByteArray.mk (Array.mk [33, 126]))]
   rw [Option.some.inj hw5] at hw5'
   refine LookK.one _ _ hw5' ?_
   cbv
   iterate 2 refine kj ?_
   iterate 6 refine cj ?_
   obtain ⟨w6, hw6, h⟩ := bd_e h; refine kg hP (fun hc => (Ah5 hA (gd_e hw6 hc))) ?_; cbv
   iterate 12 refine cj ?_
   exact le h hR
 ·cbv
  refine kj ?_
  refine kl h (fun x _ => [(14, it .i64 x)]) (fun x gh => [⟨1, 0, .box 99 [st x0.1, it .i64 x0.2, .d (.sl .str x0.3)]⟩]) [] ?_
  rintro t14 gh2 g2 _ _ _ hK2 hQ2 h; cbv
  refine kj ?_
  refine bc h (fun hb h => ?_) fun hb h => ?_
  ·cbv
   refine kj ?_
   refine kk h fun c7 h => ?_
   refine kj ?_
   obtain ⟨w8, hw8, h⟩ := bd_e h; refine kc hP (Arb hA hw8) ?_; cbv
   iterate 7 refine cj ?_
   refine kk h fun c9 h => ?_
   iterate 4 refine cj ?_
   refine ⟨by subst hA; simp +contextual [vcm], ?_⟩
   refine cj ?_
   refine bc h (fun hb h => ?_) fun hb h => ?_
   ·cbv
    refine kj ?_
    refine hQ2 _ h _ _ fun h => ?_; cbv
    exact le h hR
   ·cbv
    refine kj ?_
    cases h; exact hK2 _ _ [] rfl hdy
  ·cbv
   refine hQ2 _ h _ _ fun h => ?_; cbv
   refine kj ?_
   obtain ⟨w10, hw10, h⟩ := bd_e h; refine km hP [] (Am1 hA hw10) ?_; cbv
   refine ⟨by first | exact Ahs hA _ | exact ⟨rfl⟩, ?_⟩
   obtain ⟨w11, hw11, h⟩ := bd_e h
   have hw11' := Av1 A x0.2 (fun x => st x) (ByteArray.mk (Array.mk [])) [(1, ByteArray.mk (Array.mk [61])), (2, ByteArray.mk (Array.mk [33, 61])), (3, ByteArray.mk (Array.mk [61, 126])), (4, ByteArray.mk (Array.mk [33, 126]))]
   rw [Option.some.inj hw11] at hw11'
   refine LookK.one _ _ hw11' ?_
   cbv
   iterate 2 refine kj ?_
   iterate 6 refine cj ?_
   obtain ⟨w12, hw12, h⟩ := bd_e h; refine kg hP (fun hc => (Ah5 hA (gd_e hw12 hc))) ?_; cbv
   iterate 12 refine cj ?_
   exact le h hR
theorem Atl {A : Ar} (hA : A = std) {x0 : Inhibit} {r : Bool} (h : Ahb A x0 = some r) : PFun cx 51 [Agy x0] (bl r) := by
 refine wF hA cx_ok Tryz.func51 fun P R hP hR => ?_
 cbv; unfold Ahb at h
 iterate 2 refine kj ?_
 refine kl h (fun x _ => [(9, it .i64 x)]) (fun x gh => [⟨1, 0, .box 63 [.d (.sl .matcher x0.1), .d (.sl .matcher x0.2), .d (.sl .str x0.3)]⟩]) [] ?_
 rintro t9 gh1 g1 _ _ _ hK1 hQ1 h; cbv
 refine kj ?_
 refine bc h (fun hb h => ?_) fun hb h => ?_
 ·cbv
  refine kj ?_
  refine kk h fun c1 h => ?_
  refine kj ?_
  obtain ⟨w2, hw2, h⟩ := bd_e h; refine kc hP (Ah5 hA hw2) ?_; cbv
  iterate 7 refine cj ?_
  refine kk h fun c3 h => ?_
  iterate 4 refine cj ?_
  refine ⟨by subst hA; simp +contextual [vcm], ?_⟩
  refine cj ?_
  refine bc h (fun hb h => ?_) fun hb h => ?_
  ·cbv
   refine kj ?_
   refine hQ1 _ h _ _ fun h => ?_; cbv
   exact le h hR
  ·cbv
   refine kj ?_
   cases h; exact hK1 _ _ [] rfl hdy
 ·cbv
  refine hQ1 _ h _ _ fun h => ?_; cbv
  refine kj ?_
  iterate 10 refine cj ?_
  refine kj ?_
  iterate 3 refine cj ?_
  obtain ⟨w4, hw4, h⟩ := bd_e h; refine kf hP (fun hc => (Amg (cap2 := []) hA (by first | exact .inl rfl | exact .inr ⟨_, rfl⟩) (fun _ _ hw => Aj4 hA hw) (gd_e hw4 hc))) ?_; cbv
  iterate 4 refine cj ?_
  obtain ⟨w5, hw5, h⟩ := bd_e h; refine kf hP (fun hc => (Amg (cap2 := []) hA (by first | exact .inl rfl | exact .inr ⟨_, rfl⟩) (fun _ _ hw => Aj4 hA hw) (gd_e hw5 hc))) ?_; cbv
  refine cj ?_
  exact le h hR
theorem Amh {A : Ar} (hA : A = std) {x0 : Hours} {qc0 : Hours → Option Bool} {gc0 : Nat} {capc0 : List D} (hcapc0 : capOK capc0) (hqc0 : ∀ (y0 : Hours) (r : Bool), qc0 y0 = some r → PFun cx gc0 ((Agg y0) :: un.uns capc0) (bl r)) {r : Bool} (h : Aif A x0 qc0 = some r) : PFun cx 147 [Agg x0, .ip [.fun (.func gc0) [] capc0]] (bl r) := by
 rcases hcapc0 with rfl | ⟨dscapc0, rfl⟩
 all_goals
  refine wF hA cx_ok Tryz.func147 fun P R hP hR => ?_
  cbv; unfold Aif at h
  iterate 2 refine kj ?_
  obtain ⟨w1, hw1, h⟩ := bd_e h; refine kc hP (hqc0 _ _ hw1) ?_; cbv
  exact le h hR
theorem All {A : Ar} (hA : A = std) {x0 : List Hours} {q1 : Hours → Option Bool} {g1 : Nat} {cap1 : List PV} (hcap1 : bare.bares cap1 = true) (hq1 : ∀ (y0 : Hours) (r : Bool), q1 y0 = some r → PFun cx g1 ((Agg y0) :: cap1) (bl r)) {r : Int} (h : Adw A x0 q1 = some r) : PFun cx 154 [.d (.sl TyS.hours x0), .fn (.func g1) [] cap1] (it .i64 r) := by
 refine wF hA cx_ok Tryz.func154 fun P R hP hR => ?_
 cbv; unfold Adw at h
 iterate 2 refine kj ?_
 refine kl h (fun x _ => [(8, it .i64 x)]) (fun _ _ => []) [] ?_
 rintro t8 gh1 g1 _ _ _ hK1 hQ1 h; cbv
 refine kj ?_
 refine bc h (fun hb h => ?_) fun hb h => ?_
 ·cbv
  iterate 2 refine kj ?_
  refine kk h fun c1 h => ?_
  obtain ⟨w2, hw2, h⟩ := bd_e h; refine kc hP (hq1 _ _ hw2) ?_ (by first | rfl | simp [bare, bare.bares, hcap1]); cbv
  refine bc h (fun hb h => ?_) fun hb h => ?_
  ·cbv
   refine kj ?_
   refine hQ1 _ h _ _ fun h => ?_; cbv
   exact le h hR
  ·cbv
   refine kj ?_
   cases h; exact hK1 _ _ [] rfl hdy
 ·cbv
  refine hQ1 _ h _ _ fun h => ?_; cbv
  refine kj ?_
  exact le h hR
theorem Ad2 {A : Ar} (hA : A = std) {x0 : List Hours} {q1 : Hours → Option Bool} {g1 : Nat} {cap1 : List PV} (hcap1 : bare.bares cap1 = true) (hq1 : ∀ (y0 : Hours) (r : Bool), q1 y0 = some r → PFun cx g1 ((Agg y0) :: cap1) (bl r)) {r : Bool} (h : Aa7 A x0 q1 = some r) : PFun cx 64 [.d (.sl TyS.hours x0), .fn (.func g1) [] cap1] (bl r) := by
 refine wF hA cx_ok Tryz.func64 fun P R hP hR => ?_
 cbv; unfold Aa7 at h
 iterate 2 refine kj ?_
 obtain ⟨w1, hw1, h⟩ := bd_e h; refine kc hP (All hA hcap1 hq1 hw1) ?_ (by first | rfl | simp [bare, bare.bares, hcap1]); cbv
 exact le h hR
theorem Asw {A : Ar} (hA : A = std) {x0 : List Hours} {x1 : Int} {q2 : Hours → Option Bool} {g2 : Nat} {cap2 : List D} (hcap2 : capOK cap2) (hq2 : ∀ (y0 : Hours) (r : Bool), q2 y0 = some r → PFun cx g2 ((Agg y0) :: un.uns cap2) (bl r)) {r : Bool} (h : Af6 A x0 x1 q2 = some r) : PFun cx 52 [.d (.sl TyS.hours x0), it .i64 x1, .fn (.func g2) [] (un.uns cap2)] (bl r) := by
 rcases hcap2 with rfl | ⟨dscap2, rfl⟩
 ·refine PFun.walkF (fz := fun k => k == 5) hA cx_ok Tryz.func52 rfl rfl rfl fun P R hP hR => ?_
  cbv; unfold Af6 at h
  iterate 2 refine kj ?_
  iterate 2 refine cj ?_
  obtain ⟨w1, hw1, h⟩ := bd_e h; refine kg hP (fun hc => (Ad2 hA (by rfl) (fun _ _ hw => Amh (capc0 := []) hA (by first | exact .inl rfl | exact .inr ⟨_, rfl⟩) hq2 hw) (gd_e hw1 hc))) ?_; cbv
  iterate 2 refine cj ?_
  exact le h hR
 ·refine PFun.walkF (fz := fun k => k == 5) hA cx_ok Tryz.func52 rfl rfl rfl fun P R hP hR => ?_
  cbv; unfold Af6 at h
  iterate 2 refine kj ?_
  iterate 2 refine cj ?_
  obtain ⟨w1, hw1, h⟩ := bd_e h; refine kg hP (fun hc => (Ad2 hA (by rfl) (fun _ _ hw => Amh (capc0 := [D.ptr dscap2]) hA (by first | exact .inl rfl | exact .inr ⟨_, rfl⟩) hq2 hw) (gd_e hw1 hc))) ?_; cbv
  iterate 2 refine cj ?_
  exact le h hR
theorem Avs {A : Ar} (hA : A = std) {x0 : Int} {r : Bool} (h : Aqh A x0 = some r) : PFun cx 148 [it .u8 x0] (bl r) := by
 refine wF hA cx_ok Tryz.func148 fun P R hP hR => ?_
 cbv; unfold Aqh at h
 iterate 2 refine kj ?_
 iterate 6 refine cj ?_
 refine ⟨by subst hA; simp +contextual [vcm], ?_⟩
 iterate 3 refine cj ?_
 exact le h hR
theorem Ase {A : Ar} (hA : A = std) {x0 : Hours} {r : Bool} (h : Aio A x0 = some r) : PFun cx 53 [Agg x0] (bl r) := by
 refine wF hA cx_ok Tryz.func53 fun P R hP hR => ?_
 cbv; unfold Aio at h
 iterate 3 refine kj ?_
 iterate 10 refine cj ?_
 obtain ⟨w1, hw1, h⟩ := bd_e h; refine kf hP (fun hc => (Abp hA (by rfl) (fun _ _ hw => Avs hA hw) (gd_e hw1 hc))) ?_; cbv
 iterate 29 refine cj ?_
 exact le h hR
theorem Arc {A : Ar} (hA : A = std) {x0 : List Rule} {q1 : Rule → Option ByteArray} {g1 : Nat} {cap1 : List PV} (hcap1 : bare.bares cap1 = true) (hq1 : ∀ (y0 : Rule) (r : ByteArray), q1 y0 = some r → PFun cx g1 ((Ahj y0) :: cap1) (st r)) {r : Bool} (h : Af0 A x0 q1 = some r) : PFun cx 54 [.d (.sl TyS.rule x0), .fn (.func g1) [] cap1] (bl r) := by
 refine wF hA cx_ok Tryz.func54 fun P R hP hR => ?_
 cbv; unfold Af0 at h
 iterate 3 refine kj ?_
 refine kl h (fun x _ => [(11, it .i64 x.1)]) (fun x gh => [⟨8, 1, .map (A.mesB x.2)⟩]) [] ?_
 rintro ⟨t11, map8⟩ gh1 g1 _ _ _ hK1 hQ1 h; cbv
 refine kj ?_
 refine bc h (fun hb h => ?_) fun hb h => ?_
 ·cbv
  refine kj ?_
  refine kk h fun c1 h => ?_
  refine kj ?_
  obtain ⟨w2, hw2, h⟩ := bd_e h; refine kc hP (hq1 _ _ hw2) ?_ (by first | rfl | simp [bare, bare.bares, hcap1]); cbv
  refine ⟨by first | exact Ahs hA _ | exact ⟨rfl⟩, ?_⟩
  obtain ⟨w3, hw3, h⟩ := bd_e h
  have hw3' := A04 hA w2 false map8
  rw [Option.some.inj hw3] at hw3'
  refine LookK.one _ _ hw3' ?_
  cbv
  refine bc h (fun hb h => ?_) fun hb h => ?_
  ·cbv
   refine kj ?_
   refine hQ1 _ h _ _ fun h => ?_; cbv
   exact le h hR
  ·cbv
   refine kj ?_
   obtain ⟨w4, hw4, h⟩ := bd_e h; refine kc hP (hq1 _ _ hw4) ?_ (by first | rfl | simp [bare, bare.bares, hcap1]); cbv
   refine ⟨by first | exact Ahs hA _ | exact ⟨rfl⟩, ?_⟩
   refine kk h fun c5 h => ?_
   refine kj ?_
   cases h; exact hK1 _ _ [] rfl hdy
 ·cbv
  refine hQ1 _ h _ _ fun h => ?_; cbv
  refine kj ?_
  exact le h hR
theorem Ard {A : Ar} (hA : A = std) {x0 : Rule} {r : ByteArray} (h : Aki A x0 = some r) : PFun cx 55 [Ahj x0] (st r) := by
 refine wF hA cx_ok Tryz.func55 fun P R hP hR => ?_
 cbv; unfold Aki at h
 iterate 2 refine kj ?_
 exact le h hR
theorem Aqf {A : Ar} (hA : A = std) {x0 : List ByteArray} {q1 : ByteArray → Option ByteArray} {g1 : Nat} {cap1 : List PV} (hcap1 : bare.bares cap1 = true) (hq1 : ∀ (y0 : ByteArray) (r : ByteArray), q1 y0 = some r → PFun cx g1 ((st y0) :: cap1) (st r)) {r : Bool} (h : Aeo A x0 q1 = some r) : PFun cx 56 [.d (.sl TyS.str x0), .fn (.func g1) [] cap1] (bl r) := by
 refine wF hA cx_ok Tryz.func56 fun P R hP hR => ?_
 cbv; unfold Aeo at h
 iterate 3 refine kj ?_
 refine kl h (fun x _ => [(11, it .i64 x.1)]) (fun x gh => [⟨8, 1, .map (A.mesB x.2)⟩]) [] ?_
 rintro ⟨t11, map8⟩ gh1 g1 _ _ _ hK1 hQ1 h; cbv
 refine kj ?_
 refine bc h (fun hb h => ?_) fun hb h => ?_
 ·cbv
  refine kj ?_
  refine kk h fun c1 h => ?_
  refine kj ?_
  obtain ⟨w2, hw2, h⟩ := bd_e h; refine kc hP (hq1 _ _ hw2) ?_ (by first | rfl | simp [bare, bare.bares, hcap1]); cbv
  refine ⟨by first | exact Ahs hA _ | exact ⟨rfl⟩, ?_⟩
  obtain ⟨w3, hw3, h⟩ := bd_e h
  have hw3' := A04 hA w2 false map8
  rw [Option.some.inj hw3] at hw3'
  refine LookK.one _ _ hw3' ?_
  cbv
  refine bc h (fun hb h => ?_) fun hb h => ?_
  ·cbv
   refine kj ?_
   refine hQ1 _ h _ _ fun h => ?_; cbv
   exact le h hR
  ·cbv
   refine kj ?_
   obtain ⟨w4, hw4, h⟩ := bd_e h; refine kc hP (hq1 _ _ hw4) ?_ (by first | rfl | simp [bare, bare.bares, hcap1]); cbv
   refine ⟨by first | exact Ahs hA _ | exact ⟨rfl⟩, ?_⟩
   refine kk h fun c5 h => ?_
   refine kj ?_
   cases h; exact hK1 _ _ [] rfl hdy
 ·cbv
  refine hQ1 _ h _ _ fun h => ?_; cbv
  refine kj ?_
  exact le h hR
theorem Aqz {A : Ar} (hA : A = std) {x0 : ByteArray} {r : ByteArray} (h : Ahn A x0 = some r) : PFun cx 57 [st x0] (st r) := by
 refine wF hA cx_ok Tryz.func57 fun P R hP hR => ?_
 cbv; unfold Ahn at h
 iterate 2 refine kj ?_
 exact le h hR
theorem Aq7 {A : Ar} (hA : A = std) {x0 : List Hours} {q1 : Hours → Option ByteArray} {g1 : Nat} {cap1 : List PV} (hcap1 : bare.bares cap1 = true) (hq1 : ∀ (y0 : Hours) (r : ByteArray), q1 y0 = some r → PFun cx g1 ((Agg y0) :: cap1) (st r)) {r : Bool} (h : Ae8 A x0 q1 = some r) : PFun cx 58 [.d (.sl TyS.hours x0), .fn (.func g1) [] cap1] (bl r) := by
 refine wF hA cx_ok Tryz.func58 fun P R hP hR => ?_
 cbv; unfold Ae8 at h
 iterate 3 refine kj ?_
 refine kl h (fun x _ => [(11, it .i64 x.1)]) (fun x gh => [⟨8, 1, .map (A.mesB x.2)⟩]) [] ?_
 rintro ⟨t11, map8⟩ gh1 g1 _ _ _ hK1 hQ1 h; cbv
 refine kj ?_
 refine bc h (fun hb h => ?_) fun hb h => ?_
 ·cbv
  refine kj ?_
  refine kk h fun c1 h => ?_
  refine kj ?_
  obtain ⟨w2, hw2, h⟩ := bd_e h; refine kc hP (hq1 _ _ hw2) ?_ (by first | rfl | simp [bare, bare.bares, hcap1]); cbv
  refine ⟨by first | exact Ahs hA _ | exact ⟨rfl⟩, ?_⟩
  obtain ⟨w3, hw3, h⟩ := bd_e h
  have hw3' := A04 hA w2 false map8
  rw [Option.some.inj hw3] at hw3'
  refine LookK.one _ _ hw3' ?_
  cbv
  refine bc h (fun hb h => ?_) fun hb h => ?_
  ·cbv
   refine kj ?_
   refine hQ1 _ h _ _ fun h => ?_; cbv
   exact le h hR
  ·cbv
   refine kj ?_
   obtain ⟨w4, hw4, h⟩ := bd_e h; refine kc hP (hq1 _ _ hw4) ?_ (by first | rfl | simp [bare, bare.bares, hcap1]); cbv
   refine ⟨by first | exact Ahs hA _ | exact ⟨rfl⟩, ?_⟩
   refine kk h fun c5 h => ?_
   refine kj ?_
   cases h; exact hK1 _ _ [] rfl hdy
 ·cbv
  refine hQ1 _ h _ _ fun h => ?_; cbv
  refine kj ?_
  exact le h hR
theorem Aq0 {A : Ar} (hA : A = std) {x0 : Hours} {r : ByteArray} (h : Aiv A x0 = some r) : PFun cx 59 [Agg x0] (st r) := by
 refine wF hA cx_ok Tryz.func59 fun P R hP hR => ?_
 cbv; unfold Aiv at h
 iterate 2 refine kj ?_
 exact le h hR
theorem Awc {A : Ar} (hA : A = std) {x0 : Matcher} {r : Bool} (h : Amm A x0 = some r) : PFun cx 236 [Aj0 x0] (bl r) := by
 refine wF hA cx_ok Tryz.func236 fun P R hP hR => ?_
 cbv; unfold Amm at h
 iterate 2 refine kj ?_
 obtain ⟨w1, hw1, h⟩ := bd_e h; refine kc hP (Aj4 hA hw1) ?_; cbv
 exact le h hR
theorem Asf {A : Ar} (hA : A = std) {x0 : ByteArray} {r : Bool} (h : Alu A x0 = some r) : PFun cx 237 [st x0] (bl r) := by
 refine wF hA cx_ok Tryz.func237 fun P R hP hR => ?_
 cbv; unfold Alu at h
 iterate 2 refine kj ?_
 obtain ⟨w1, hw1, h⟩ := bd_e h; refine kc hP (Al7 hA hw1) ?_; cbv
 exact le h hR
theorem Apn {A : Ar} (hA : A = std) {x0 : List ByteArray} {q1 : ByteArray → Option Bool} {g1 : Nat} {cap1 : List PV} (hcap1 : bare.bares cap1 = true) (hq1 : ∀ (y0 : ByteArray) (r : Bool), q1 y0 = some r → PFun cx g1 ((st y0) :: cap1) (bl r)) {r : Bool} (h : Ah6 A x0 q1 = some r) : PFun cx 238 [.d (.sl TyS.str x0), .fn (.func g1) [] cap1] (bl r) := by
 refine wF hA cx_ok Tryz.func238 fun P R hP hR => ?_
 cbv; unfold Ah6 at h
 iterate 2 refine kj ?_
 refine kl h (fun x _ => [(4, bl x.1), (9, it .i64 x.2)]) (fun _ _ => []) [] ?_
 rintro ⟨t4, t9⟩ gh1 g1 _ _ _ hK1 hQ1 h; cbv
 refine kj ?_
 refine bc h (fun hb h => ?_) fun hb h => ?_
 ·cbv
  refine kj ?_
  refine kk h fun c1 h => ?_
  refine kj ?_
  obtain ⟨w2, hw2, h⟩ := bd_e h; refine kc hP (hq1 _ _ hw2) ?_ (by first | rfl | simp [bare, bare.bares, hcap1]); cbv
  iterate 5 refine cj ?_
  refine kk h fun c3 h => ?_
  iterate 4 refine cj ?_
  refine ⟨by subst hA; simp +contextual [vcm], ?_⟩
  refine cj ?_
  refine bc h (fun hb h => ?_) fun hb h => ?_
  ·cbv
   refine kj ?_
   refine hQ1 _ h _ _ fun h => ?_; cbv
   exact le h hR
  ·cbv
   refine kj ?_
   cases h; exact hK1 _ _ [] rfl hdy
 ·cbv
  refine hQ1 _ h _ _ fun h => ?_; cbv
  refine kj ?_
  exact le h hR
theorem Ayk {A : Ar} (hA : A = std) {x0 : ByteArray} {r : Bool} (h : An8 A x0 = some r) : PFun cx 239 [st x0] (bl r) := by
 refine wF hA cx_ok Tryz.func239 fun P R hP hR => ?_
 cbv; unfold An8 at h
 iterate 2 refine kj ?_
 obtain ⟨w1, hw1, h⟩ := bd_e h; refine kc hP (Ah5 hA hw1) ?_; cbv
 exact le h hR
theorem Aud {A : Ar} (hA : A = std) {x0 : Int} {c0 : Int} {r : Bool} (h : Ajn A x0 c0 = some r) : PFun cx 305 [it .i64 x0, .ip [.v (.int .i64 c0)]] (bl r) := by
 refine wF hA cx_ok Tryz.func305 fun P R hP hR => ?_
 cbv; unfold Ajn at h
 iterate 2 refine kj ?_
 iterate 2 refine cj ?_
 exact le h hR
theorem Anw {A : Ar} (hA : A = std) {x0 : List Int} {q1 : Int → Option Bool} {g1 : Nat} {cap1 : List PV} (hcap1 : bare.bares cap1 = true) (hq1 : ∀ (y0 : Int) (r : Bool), q1 y0 = some r → PFun cx g1 ((it .i64 y0) :: cap1) (bl r)) {r : Int} (h : Af1 A x0 q1 = some r) : PFun cx 339 [.d (.sl TyS.int x0), .fn (.func g1) [] cap1] (it .i64 r) := by
 refine wF hA cx_ok Tryz.func339 fun P R hP hR => ?_
 cbv; unfold Af1 at h
 iterate 2 refine kj ?_
 refine kl h (fun x _ => [(8, it .i64 x)]) (fun _ _ => []) [] ?_
 rintro t8 gh1 g1 _ _ _ hK1 hQ1 h; cbv
 refine kj ?_
 refine bc h (fun hb h => ?_) fun hb h => ?_
 ·cbv
  iterate 2 refine kj ?_
  refine kk h fun c1 h => ?_
  obtain ⟨w2, hw2, h⟩ := bd_e h; refine kc hP (hq1 _ _ hw2) ?_ (by first | rfl | simp [bare, bare.bares, hcap1]); cbv
  refine bc h (fun hb h => ?_) fun hb h => ?_
  ·cbv
   refine kj ?_
   refine hQ1 _ h _ _ fun h => ?_; cbv
   exact le h hR
  ·cbv
   refine kj ?_
   cases h; exact hK1 _ _ [] rfl hdy
 ·cbv
  refine hQ1 _ h _ _ fun h => ?_; cbv
  refine kj ?_
  exact le h hR
theorem Ami {A : Ar} (hA : A = std) {x0 : List Int} {q1 : Int → Option Bool} {g1 : Nat} {cap1 : List PV} (hcap1 : bare.bares cap1 = true) (hq1 : ∀ (y0 : Int) (r : Bool), q1 y0 = some r → PFun cx g1 ((it .i64 y0) :: cap1) (bl r)) {r : Bool} (h : Acy A x0 q1 = some r) : PFun cx 304 [.d (.sl TyS.int x0), .fn (.func g1) [] cap1] (bl r) := by
 refine wF hA cx_ok Tryz.func304 fun P R hP hR => ?_
 cbv; unfold Acy at h
 iterate 2 refine kj ?_
 obtain ⟨w1, hw1, h⟩ := bd_e h; refine kc hP (Anw hA hcap1 hq1 hw1) ?_ (by first | rfl | simp [bare, bare.bares, hcap1]); cbv
 exact le h hR
theorem Are {A : Ar} (hA : A = std) {x0 : Int} {x1 : List Int} {r : Bool} (h : Akj A x0 x1 = some r) : PFun cx 240 [it .i64 x0, .d (.sl TyS.int x1)] (bl r) := by
 refine PFun.walkF (fz := fun k => k == 2) hA cx_ok Tryz.func240 rfl rfl rfl fun P R hP hR => ?_
 cbv; unfold Akj at h
 iterate 2 refine kj ?_
 obtain ⟨w1, hw1, h⟩ := bd_e h; refine kc hP (Ami hA (by rfl) (fun _ _ hw => Aud hA hw) hw1) ?_; cbv
 exact le h hR
theorem Alm {A : Ar} (hA : A = std) {x0 : List Route} {q1 : Route → Option Bool} {g1 : Nat} {cap1 : List PV} (hcap1 : bare.bares cap1 = true) (hq1 : ∀ (y0 : Route) (r : Bool), q1 y0 = some r → PFun cx g1 ((Ab3 y0) :: cap1) (bl r)) {r : Int} (h : Adx A x0 q1 = some r) : PFun cx 271 [.d (.sl TyS.route x0), .fn (.func g1) [] cap1] (it .i64 r) := by
 refine wF hA cx_ok Tryz.func271 fun P R hP hR => ?_
 cbv; unfold Adx at h
 iterate 2 refine kj ?_
 refine kl h (fun x _ => [(8, it .i64 x)]) (fun _ _ => []) [] ?_
 rintro t8 gh1 g1 _ _ _ hK1 hQ1 h; cbv
 refine kj ?_
 refine bc h (fun hb h => ?_) fun hb h => ?_
 ·cbv
  iterate 2 refine kj ?_
  refine kk h fun c1 h => ?_
  obtain ⟨w2, hw2, h⟩ := bd_e h; refine kc hP (hq1 _ _ hw2) ?_ (by first | rfl | simp [bare, bare.bares, hcap1]); cbv
  refine bc h (fun hb h => ?_) fun hb h => ?_
  ·cbv
   refine kj ?_
   refine hQ1 _ h _ _ fun h => ?_; cbv
   exact le h hR
  ·cbv
   refine kj ?_
   cases h; exact hK1 _ _ [] rfl hdy
 ·cbv
  refine hQ1 _ h _ _ fun h => ?_; cbv
  refine kj ?_
  exact le h hR
theorem Akx {A : Ar} (hA : A = std) {x0 : List Route} {q1 : Route → Option Bool} {g1 : Nat} {cap1 : List PV} (hcap1 : bare.bares cap1 = true) (hq1 : ∀ (y0 : Route) (r : Bool), q1 y0 = some r → PFun cx g1 ((Ab3 y0) :: cap1) (bl r)) {r : Bool} (h : Abw A x0 q1 = some r) : PFun cx 194 [.d (.sl TyS.route x0), .fn (.func g1) [] cap1] (bl r) := by
 refine wF hA cx_ok Tryz.func194 fun P R hP hR => ?_
 cbv; unfold Abw at h
 iterate 2 refine kj ?_
 obtain ⟨w1, hw1, h⟩ := bd_e h; refine kc hP (Alm hA hcap1 hq1 hw1) ?_ (by first | rfl | simp [bare, bare.bares, hcap1]); cbv
 exact le h hR
theorem Awd {A : Ar} (hA : A = std) {rf : Route → Int → Option Bool} {x0 : Route} {c0 : Int} (hqr150 : ∀ (x0 : Route) (x1 : Int) (r : Bool), rf x0 x1 = some r → PFun cx 150 [Ab3 x0, it .i64 x1] (bl r)) {r : Bool} (h : Amn A rf x0 c0 = some r) : PFun cx 241 [Ab3 x0, .ip [.v (.int .i64 c0)]] (bl r) := by
 refine wF hA cx_ok Tryz.func241 fun P R hP hR => ?_
 cbv; unfold Amn at h
 iterate 2 refine kj ?_
 obtain ⟨w1, hw1, h⟩ := bd_e h; refine kc hP (hqr150 _ _ _ hw1) ?_; cbv
 exact le h hR
theorem Awe {A : Ar} (hA : A = std) {rf : Route → Int → Option Bool} {x0 : Route} {x1 : Int} (hqr150 : ∀ (x0 : Route) (x1 : Int) (r : Bool), rf x0 x1 = some r → PFun cx 150 [Ab3 x0, it .i64 x1] (bl r)) {r : Bool} (h : Amo A rf x0 x1 = some r) : PFun cx 150 [Ab3 x0, it .i64 x1] (bl r) := by
 refine PFun.walkF (fz := fun k => k == 3) hA cx_ok Tryz.func150 rfl rfl rfl fun P R hP hR => ?_
 cbv; unfold Amo at h
 iterate 3 refine kj ?_
 iterate 3 refine cj ?_
 obtain ⟨w1, hw1, h⟩ := bd_e h; refine kg hP (fun hc => (Asf hA (gd_e hw1 hc))) ?_; cbv
 iterate 11 refine cj ?_
 obtain ⟨w2, hw2, h⟩ := bd_e h; refine kf hP (fun hc => (Ac2 hA (by rfl) (fun _ _ hw => Awc hA hw) (gd_e hw2 hc))) ?_; cbv
 iterate 6 refine cj ?_
 refine bc h (fun hb h => ?_) fun hb h => ?_
 ·cbv
  refine kj ?_
  exact le h hR
 ·cbv
  refine kj ?_
  obtain ⟨w3, hw3, h⟩ := bd_e h; refine ke hP (Apn hA (by rfl) (fun _ _ hw => Ayk hA hw) hw3) ?_; cbv
  iterate 3 refine cj ?_
  obtain ⟨w4, hw4, h⟩ := bd_e h; refine kf hP (fun hc => (Apn hA (by rfl) (fun _ _ hw => Asf hA hw) (gd_e hw4 hc))) ?_; cbv
  iterate 7 refine cj ?_
  obtain ⟨w5, hw5, h⟩ := bd_e h; refine kg hP (fun hc => (Are hA (gd_e hw5 hc))) ?_; cbv
  iterate 10 refine cj ?_
  obtain ⟨w6, hw6, h⟩ := bd_e h; refine kg hP (fun hc => (Are hA (gd_e hw6 hc))) ?_; cbv
  iterate 2 refine cj ?_
  refine bc h (fun hb h => ?_) fun hb h => ?_
  ·cbv
   refine kj ?_
   exact le h hR
  ·cbv
   refine kj ?_
   obtain ⟨w7, hw7, h⟩ := bd_e h; refine kc hP (Akx hA (by rfl) (fun _ _ hw => Awd hA hqr150 hw) hw7) ?_; cbv
   exact le h hR
theorem Arf {A : Ar} (hA : A = std) : ∀ (n : Nat) (x0 : Route) (x1 : Int) (r : Bool), Akk A n x0 x1 = some r → PFun cx 150 [Ab3 x0, it .i64 x1] (bl r)
 | 0, _, _, _, h => by cases h
 | n + 1, x0, x1, r, h => Awe hA (fun _ _ _ hh => Arf hA n _ _ _ hh) h
theorem A0k {A : Ar} (hA : A = std) {x0 : Route} {x1 : Int} {r : Bool} (h : Aul A x0 x1 = some r) : PFun cx 150 [Ab3 x0, it .i64 x1] (bl r) := Arf hA _ _ _ _ h
theorem Awf {A : Ar} (hA : A = std) {x0 : Route} {r : Bool} (h : Amp A x0 = some r) : PFun cx 60 [Ab3 x0] (bl r) := by
 refine wF hA cx_ok Tryz.func60 fun P R hP hR => ?_
 cbv; unfold Amp at h
 iterate 2 refine kj ?_
 obtain ⟨w1, hw1, h⟩ := bd_e h; refine kc hP (A0k hA hw1) ?_; cbv
 exact le h hR
theorem Aue {A : Ar} (hA : A = std) {rf : Route → Option Int} {x0 : Route} (hqr61 : ∀ (x0 : Route) (r : Int), rf x0 = some r → PFun cx 61 [Ab3 x0] (it .i64 r)) {r : Int} (h : Ajo A rf x0 = some r) : PFun cx 61 [Ab3 x0] (it .i64 r) := by
 refine wF hA cx_ok Tryz.func61 fun P R hP hR => ?_
 cbv; unfold Ajo at h
 iterate 3 refine kj ?_
 refine kl h (fun x _ => [(3, it .i64 x.1), (9, it .i64 x.2)]) (fun x gh => [⟨1, 0, .box 27 [st x0.1, .d (.sl .matcher x0.2), .d (.sl .str x0.3), it .i64 x0.4, it .i64 x0.5, it .i64 x0.6, .d (.sl .str x0.7), bl x0.8, .d (.sl .route x0.9)]⟩]) [] ?_
 rintro ⟨n3, t9⟩ gh1 g1 _ _ _ hK1 hQ1 h; cbv
 refine kj ?_
 refine bc h (fun hb h => ?_) fun hb h => ?_
 ·cbv
  refine kj ?_
  refine kk h fun c1 h => ?_
  refine kj ?_
  obtain ⟨w2, hw2, h⟩ := bd_e h; refine kc hP (hqr61 _ _ hw2) ?_; cbv
  refine kj ?_
  cases h; exact hK1 _ _ [] rfl hdy
 ·cbv
  refine hQ1 _ h _ _ fun h => ?_; cbv
  refine kj ?_
  exact le h hR
theorem Apo {A : Ar} (hA : A = std) : ∀ (n : Nat) (x0 : Route) (r : Int), Ah7 A n x0 = some r → PFun cx 61 [Ab3 x0] (it .i64 r)
 | 0, _, _, h => by cases h
 | n + 1, x0, r, h => Aue hA (fun _ _ hh => Apo hA n _ _ hh) h
theorem Awg {A : Ar} (hA : A = std) {x0 : Route} {r : Int} (h : Ark A x0 = some r) : PFun cx 61 [Ab3 x0] (it .i64 r) := Apo hA _ _ _ h
theorem Anx {A : Ar} (hA : A = std) {rf : Route → (List ByteArray) → Option (List ByteArray)} {x0 : Route} {qc0 : Route → Option (List ByteArray)} {c1 : List ByteArray} {gc0 : Nat} {capc0 : List D} (hcapc0 : capOK capc0) (hqc0 : ∀ (y0 : Route) (r : List ByteArray), qc0 y0 = some r → PFun cx gc0 ((Ab3 y0) :: un.uns capc0) (.d (.sl TyS.str r))) (hqr242 : ∀ (x0 : Route) (c1 : List ByteArray) (r : List ByteArray), rf x0 c1 = some r → PFunM cx 242 [Ab3 x0, .ip [.fun (.func gc0) [] capc0], .bx 1000 0 0, .bx 1001 0 0] [⟨1000, 0, .box 24 [.os 1002 0 TyS.str c1]⟩, ⟨1001, 0, .box 231 [.fn (.func 242) [] [.ip [.fun (.func gc0) [] capc0], .bx 1000 0 0, .bx 1001 0 0]]⟩, ⟨1002, 0, .tok 9 TyS.str (A.nlen TyS.str c1)⟩] (.tu []) [⟨1000, 0, .box 24 [.os 2000 1 TyS.str r]⟩, ⟨1001, 0, .box 231 [.fn (.func 242) [] [.ip [.fun (.func gc0) [] capc0], .bx 1000 0 0, .bx 1001 0 0]]⟩, ⟨2000, 1, .tok 9 TyS.str (A.nlen TyS.str r)⟩]) {r : List ByteArray} (h : Acr A rf x0 qc0 c1 = some r) : PFunM cx 242 [Ab3 x0, .ip [.fun (.func gc0) [] capc0], .bx 1000 0 0, .bx 1001 0 0] [⟨1000, 0, .box 24 [.os 1002 0 TyS.str c1]⟩, ⟨1001, 0, .box 231 [.fn (.func 242) [] [.ip [.fun (.func gc0) [] capc0], .bx 1000 0 0, .bx 1001 0 0]]⟩, ⟨1002, 0, .tok 9 TyS.str (A.nlen TyS.str c1)⟩] (.tu []) [⟨1000, 0, .box 24 [.os 2000 1 TyS.str r]⟩, ⟨1001, 0, .box 231 [.fn (.func 242) [] [.ip [.fun (.func gc0) [] capc0], .bx 1000 0 0, .bx 1001 0 0]]⟩, ⟨2000, 1, .tok 9 TyS.str (A.nlen TyS.str r)⟩] := by
 rcases hcapc0 with rfl | ⟨dscapc0, rfl⟩
 ·refine PFunM.walkM (fz := fun _ => false) hA cx_ok Tryz.func242 rfl rfl fun P R hP hR => ?_
  cbv; unfold Acr at h
  iterate 2 refine kj ?_
  obtain ⟨w1, hw1, h⟩ := bd_e h; refine kc hP (hqc0 _ _ hw1) ?_; cbv
  refine kl h (fun x _ => [(13, it .i64 x.1)]) (fun x gh => [⟨4031, gh, .tok 9 TyS.str (A.nlen TyS.str x.2)⟩, ⟨4, 2, .box 27 [st x0.1, .d (.sl .matcher x0.2), .d (.sl .str x0.3), it .i64 x0.4, it .i64 x0.5, it .i64 x0.6, .d (.sl .str x0.7), bl x0.8, .d (.sl .route x0.9)]⟩, ⟨1000, 0, .box 24 [.os 4031 gh TyS.str x.2]⟩, ⟨1001, 0, .box 231 [PV.fn (Fn.func 242) [] [PV.ip [D.fun (Fn.func gc0) [] []], PV.bx 1000 0 0, PV.bx 1001 0 0]]⟩]) [(4031, 1002, 0)] ?_
  rintro ⟨t13, b0_1000⟩ gh1 g1 _ _ _ hK1 hQ1 h; cbv
  refine kj ?_
  refine bc h (fun hb h => ?_) fun hb h => ?_
  ·cbv
   refine kj ?_
   refine kk h fun c2 h => ?_
   refine kj ?_
   obtain ⟨w3, hw3, h⟩ := bd_e h; refine kc hP (Acu hA hw3) ?_; cbv
   refine bc h (fun hb h => ?_) fun hb h => ?_
   ·cbv
    refine kj ?_
    refine kk h fun c4 h => ?_
    refine kj ?_
    cases h; exact hK1 _ _ [(4031, 24, g1.succ.succ.succ)] rfl hdy
   ·cbv
    refine kj ?_
    cases h; exact hK1 _ _ [(4031, 4031, gh1)] rfl hdy
  ·cbv
   refine hQ1 _ h _ _ fun h => ?_; cbv
   refine kj ?_
   refine kl h (fun x _ => [(29, it .i64 x.1)]) (fun x gh => [⟨4061, gh, .tok 9 TyS.str (A.nlen TyS.str x.2)⟩, ⟨4, 2, .box 27 [st x0.1, .d (.sl .matcher x0.2), .d (.sl .str x0.3), it .i64 x0.4, it .i64 x0.5, it .i64 x0.6, .d (.sl .str x0.7), bl x0.8, .d (.sl .route x0.9)]⟩, ⟨1000, 0, .box 24 [.os 4061 gh TyS.str x.2]⟩, ⟨1001, 0, .box 231 [PV.fn (Fn.func 242) [] [PV.ip [D.fun (Fn.func gc0) [] []], PV.bx 1000 0 0, PV.bx 1001 0 0]]⟩]) [(4061, 4031, gh1)] ?_
   rintro ⟨t29, b0_1000'⟩ gh2 g2 _ _ _ hK2 hQ2 h; cbv
   refine kj ?_
   refine bc h (fun hb h => ?_) fun hb h => ?_
   ·cbv
    refine kj ?_
    refine kk h fun c5 h => ?_
    refine kj ?_
    obtain ⟨w6, hw6, h⟩ := bd_e h; refine km hP [(1000, 0), (1001, 0), (4061, gh2)] (hqr242 _ _ _ hw6) ?_; cbv
    refine kj ?_
    cases h; exact hK2 _ _ [(4061, 35, g2.succ.succ)] rfl hdy
   ·cbv
    refine hQ2 _ h _ _ fun h => ?_; cbv
    cases h
    refine hR _ _ ⟨[(4061, gh2)], ⟨by rfl, ez, by rfl, ez⟩⟩
 ·refine PFunM.walkM (fz := fun _ => false) hA cx_ok Tryz.func242 rfl rfl fun P R hP hR => ?_
  cbv; unfold Acr at h
  iterate 2 refine kj ?_
  obtain ⟨w1, hw1, h⟩ := bd_e h; refine kc hP (hqc0 _ _ hw1) ?_; cbv
  refine kl h (fun x _ => [(13, it .i64 x.1)]) (fun x gh => [⟨4031, gh, .tok 9 TyS.str (A.nlen TyS.str x.2)⟩, ⟨4, 2, .box 27 [st x0.1, .d (.sl .matcher x0.2), .d (.sl .str x0.3), it .i64 x0.4, it .i64 x0.5, it .i64 x0.6, .d (.sl .str x0.7), bl x0.8, .d (.sl .route x0.9)]⟩, ⟨1000, 0, .box 24 [.os 4031 gh TyS.str x.2]⟩, ⟨1001, 0, .box 231 [PV.fn (Fn.func 242) [] [PV.ip [D.fun (Fn.func gc0) [] [D.ptr dscapc0]], PV.bx 1000 0 0, PV.bx 1001 0 0]]⟩]) [(4031, 1002, 0)] ?_
  rintro ⟨t13, b0_1000⟩ gh1 g1 _ _ _ hK1 hQ1 h; cbv
  refine kj ?_
  refine bc h (fun hb h => ?_) fun hb h => ?_
  ·cbv
   refine kj ?_
   refine kk h fun c2 h => ?_
   refine kj ?_
   obtain ⟨w3, hw3, h⟩ := bd_e h; refine kc hP (Acu hA hw3) ?_; cbv
   refine bc h (fun hb h => ?_) fun hb h => ?_
   ·cbv
    refine kj ?_
    refine kk h fun c4 h => ?_
    refine kj ?_
    cases h; exact hK1 _ _ [(4031, 24, g1.succ.succ.succ)] rfl hdy
   ·cbv
    refine kj ?_
    cases h; exact hK1 _ _ [(4031, 4031, gh1)] rfl hdy
  ·cbv
   refine hQ1 _ h _ _ fun h => ?_; cbv
   refine kj ?_
   refine kl h (fun x _ => [(29, it .i64 x.1)]) (fun x gh => [⟨4061, gh, .tok 9 TyS.str (A.nlen TyS.str x.2)⟩, ⟨4, 2, .box 27 [st x0.1, .d (.sl .matcher x0.2), .d (.sl .str x0.3), it .i64 x0.4, it .i64 x0.5, it .i64 x0.6, .d (.sl .str x0.7), bl x0.8, .d (.sl .route x0.9)]⟩, ⟨1000, 0, .box 24 [.os 4061 gh TyS.str x.2]⟩, ⟨1001, 0, .box 231 [PV.fn (Fn.func 242) [] [PV.ip [D.fun (Fn.func gc0) [] [D.ptr dscapc0]], PV.bx 1000 0 0, PV.bx 1001 0 0]]⟩]) [(4061, 4031, gh1)] ?_
   rintro ⟨t29, b0_1000'⟩ gh2 g2 _ _ _ hK2 hQ2 h; cbv
   refine kj ?_
   refine bc h (fun hb h => ?_) fun hb h => ?_
   ·cbv
    refine kj ?_
    refine kk h fun c5 h => ?_
    refine kj ?_
    obtain ⟨w6, hw6, h⟩ := bd_e h; refine km hP [(1000, 0), (1001, 0), (4061, gh2)] (hqr242 _ _ _ hw6) ?_; cbv
    refine kj ?_
    cases h; exact hK2 _ _ [(4061, 35, g2.succ.succ)] rfl hdy
   ·cbv
    refine hQ2 _ h _ _ fun h => ?_; cbv
    cases h
    refine hR _ _ ⟨[(4061, gh2)], ⟨by rfl, ez, by rfl, ez⟩⟩
theorem Aim {A : Ar} (hA : A = std) {qc0 : Route → Option (List ByteArray)} {gc0 : Nat} {capc0 : List D} (hcapc0 : capOK capc0) (hqc0 : ∀ (y0 : Route) (r : List ByteArray), qc0 y0 = some r → PFun cx gc0 ((Ab3 y0) :: un.uns capc0) (.d (.sl TyS.str r))) : ∀ (n : Nat) (x0 : Route) (c1 : List ByteArray) (r : List ByteArray), Abd A qc0 n x0 c1 = some r → PFunM cx 242 [Ab3 x0, .ip [.fun (.func gc0) [] capc0], .bx 1000 0 0, .bx 1001 0 0] [⟨1000, 0, .box 24 [.os 1002 0 TyS.str c1]⟩, ⟨1001, 0, .box 231 [.fn (.func 242) [] [.ip [.fun (.func gc0) [] capc0], .bx 1000 0 0, .bx 1001 0 0]]⟩, ⟨1002, 0, .tok 9 TyS.str (A.nlen TyS.str c1)⟩] (.tu []) [⟨1000, 0, .box 24 [.os 2000 1 TyS.str r]⟩, ⟨1001, 0, .box 231 [.fn (.func 242) [] [.ip [.fun (.func gc0) [] capc0], .bx 1000 0 0, .bx 1001 0 0]]⟩, ⟨2000, 1, .tok 9 TyS.str (A.nlen TyS.str r)⟩]
 | 0, _, _, _, h => by cases h
 | n + 1, x0, c1, r, h => Anx hA hcapc0 hqc0 (fun _ _ _ hh => Aim hA hcapc0 hqc0 n _ _ _ hh) h
theorem Ajk {A : Ar} (hA : A = std) {x0 : Route} {qc0 : Route → Option (List ByteArray)} {c1 : List ByteArray} {gc0 : Nat} {capc0 : List D} (hcapc0 : capOK capc0) (hqc0 : ∀ (y0 : Route) (r : List ByteArray), qc0 y0 = some r → PFun cx gc0 ((Ab3 y0) :: un.uns capc0) (.d (.sl TyS.str r))) {r : List ByteArray} (h : Aib A x0 qc0 c1 = some r) : PFunM cx 242 [Ab3 x0, .ip [.fun (.func gc0) [] capc0], .bx 1000 0 0, .bx 1001 0 0] [⟨1000, 0, .box 24 [.os 1002 0 TyS.str c1]⟩, ⟨1001, 0, .box 231 [.fn (.func 242) [] [.ip [.fun (.func gc0) [] capc0], .bx 1000 0 0, .bx 1001 0 0]]⟩, ⟨1002, 0, .tok 9 TyS.str (A.nlen TyS.str c1)⟩] (.tu []) [⟨1000, 0, .box 24 [.os 2000 1 TyS.str r]⟩, ⟨1001, 0, .box 231 [.fn (.func 242) [] [.ip [.fun (.func gc0) [] capc0], .bx 1000 0 0, .bx 1001 0 0]]⟩, ⟨2000, 1, .tok 9 TyS.str (A.nlen TyS.str r)⟩] := Aim hA hcapc0 hqc0 _ _ _ _ h
theorem Ak2 {A : Ar} (hA : A = std) {x0 : Route} {q1 : Route → Option (List ByteArray)} {g1 : Nat} {cap1 : List D} (hcap1 : capOK cap1) (hq1 : ∀ (y0 : Route) (r : List ByteArray), q1 y0 = some r → PFun cx g1 ((Ab3 y0) :: un.uns cap1) (.d (.sl TyS.str r))) {r : List ByteArray} (h : Aep A x0 q1 = some r) : PFun cx 151 [Ab3 x0, .fn (.func g1) [] (un.uns cap1)] (.d (.sl TyS.str r)) := by
 rcases hcap1 with rfl | ⟨dscap1, rfl⟩
 ·refine PFun.walkF (fz := fun k => k == 3 || k == 131077) hA cx_ok Tryz.func151 rfl rfl rfl fun P R hP hR => ?_
  cbv; unfold Aep at h
  iterate 5 refine kj ?_
  obtain ⟨w1, hw1, h⟩ := bd_e h; refine km hP [(5, 1), (6, 2), (65541, 1)] (Ajk (capc0 := []) hA (by first | exact .inl rfl | exact .inr ⟨_, rfl⟩) hq1 hw1) ?_; cbv
  refine kj ?_
  cases h; subst hR; exact ey
 ·refine PFun.walkF (fz := fun k => k == 3 || k == 131077) hA cx_ok Tryz.func151 rfl rfl rfl fun P R hP hR => ?_
  cbv; unfold Aep at h
  iterate 5 refine kj ?_
  obtain ⟨w1, hw1, h⟩ := bd_e h; refine km hP [(5, 1), (6, 2), (65541, 1)] (Ajk (capc0 := [D.ptr dscap1]) hA (by first | exact .inl rfl | exact .inr ⟨_, rfl⟩) hq1 hw1) ?_; cbv
  refine kj ?_
  cases h; subst hR; exact ey
theorem Auf {A : Ar} (hA : A = std) {x0 : Route} {r : List ByteArray} (h : Al9 A x0 = some r) : PFun cx 152 [Ab3 x0] (.d (.sl TyS.str r)) := by
 refine wF hA cx_ok Tryz.func152 fun P R hP hR => ?_
 cbv; unfold Al9 at h
 iterate 2 refine kj ?_
 cases h; subst hR; exact ey
theorem Aug {A : Ar} (hA : A = std) {x0 : Route} {r : List ByteArray} (h : Ama A x0 = some r) : PFun cx 153 [Ab3 x0] (.d (.sl TyS.str r)) := by
 refine wF hA cx_ok Tryz.func153 fun P R hP hR => ?_
 cbv; unfold Ama at h
 iterate 2 refine kj ?_
 cases h; subst hR; exact ey
theorem Awh {A : Ar} (hA : A = std) {x0 : Route} {r : (List ByteArray) × (List ByteArray)} (h : Amq A x0 = some r) : PFun cx 62 [Ab3 x0] (.tu [.d (.sl TyS.str r.1), .d (.sl TyS.str r.2)]) := by
 refine wF hA cx_ok Tryz.func62 fun P R hP hR => ?_
 cbv; unfold Amq at h
 iterate 2 refine kj ?_
 obtain ⟨w1, hw1, h⟩ := bd_e h; refine ke hP (Ak2 (cap1 := []) hA (by first | exact .inl rfl | exact .inr ⟨_, rfl⟩) (fun _ _ hw => Auf hA hw) hw1) ?_; cbv
 refine kj ?_
 obtain ⟨w2, hw2, h⟩ := bd_e h; refine ke hP (Ak2 (cap1 := []) hA (by first | exact .inl rfl | exact .inr ⟨_, rfl⟩) (fun _ _ hw => Aug hA hw) hw2) ?_; cbv
 cases h; subst hR; exact ey
theorem Asx {A : Ar} (hA : A = std) {x0 : Hours} {c0 : ByteArray} {r : Bool} (h : Ah0 A x0 c0 = some r) : PFun cx 65 [Agg x0, .ip [.v (.string c0)]] (bl r) := by
 refine wF hA cx_ok Tryz.func65 fun P R hP hR => ?_
 cbv; unfold Ah0 at h
 iterate 2 refine kj ?_
 exact le h hR
theorem Auh {A : Ar} (hA : A = std) {x0 : ByteArray} {c0 : Config} {r : Bool} (h : Ah8 A x0 c0 = some r) : PFun cx 63 [st x0, .ip [.sl TyS.rule c0.Rules, .v (.string c0.Route.Receiver), .sl TyS.matcher c0.Route.Match, .sl TyS.str c0.Route.By, .v (.int .i64 c0.Route.Wait), .v (.int .i64 c0.Route.Every), .v (.int .i64 c0.Route.Repeat), .sl TyS.str c0.Route.Mute, .v (.bool c0.Route.On), .sl TyS.route c0.Route.Routes, .sl TyS.str c0.Receivers, .sl TyS.inhibit c0.Inhibits, .sl TyS.hours c0.Hours]] (bl r) := by
 refine PFun.walkF (fz := fun k => k == 2) hA cx_ok Tryz.func63 rfl rfl rfl fun P R hP hR => ?_
 cbv; unfold Ah8 at h
 iterate 2 refine kj ?_
 obtain ⟨w1, hw1, h⟩ := bd_e h; refine kc hP (Ad2 hA (by rfl) (fun _ _ hw => Asx hA hw) hw1) ?_; cbv
 exact le h hR
theorem Aui {A : Ar} (hA : A = std) {x0 : ByteArray} {c0 : Config} {r : Bool} (h : Ah9 A x0 c0 = some r) : PFun cx 66 [st x0, .ip [.sl TyS.rule c0.Rules, .v (.string c0.Route.Receiver), .sl TyS.matcher c0.Route.Match, .sl TyS.str c0.Route.By, .v (.int .i64 c0.Route.Wait), .v (.int .i64 c0.Route.Every), .v (.int .i64 c0.Route.Repeat), .sl TyS.str c0.Route.Mute, .v (.bool c0.Route.On), .sl TyS.route c0.Route.Routes, .sl TyS.str c0.Receivers, .sl TyS.inhibit c0.Inhibits, .sl TyS.hours c0.Hours]] (bl r) := by
 refine wF hA cx_ok Tryz.func66 fun P R hP hR => ?_
 cbv; unfold Ah9 at h
 iterate 2 refine kj ?_
 obtain ⟨w1, hw1, h⟩ := bd_e h; refine kc hP (Acu hA hw1) ?_; cbv
 exact le h hR
theorem Anz {A : Ar} (hA : A = std) {x0 : Config} {r : Bool} (h : Aip A x0 = some r) : PFun cx 16 [Ag8 x0] (bl r) := by
 refine PFun.walkF (fz := fun k => k == 1) hA cx_ok Tryz.func16 rfl rfl rfl fun P R hP hR => ?_
 cbv; unfold Aip at h
 iterate 2 refine kj ?_
 obtain ⟨w1, hw1, h⟩ := bd_e h; refine ke hP (Ath (cap2 := []) hA (by first | exact .inl rfl | exact .inr ⟨_, rfl⟩) (fun _ _ hw => Asd hA hw) hw1) ?_; cbv
 iterate 2 refine cj ?_
 obtain ⟨w2, hw2, h⟩ := bd_e h; refine kf hP (fun hc => (Ajg (cap2 := []) hA (by first | exact .inl rfl | exact .inr ⟨_, rfl⟩) (fun _ _ hw => Ayj hA hw) (gd_e hw2 hc))) ?_; cbv
 iterate 3 refine cj ?_
 obtain ⟨w3, hw3, h⟩ := bd_e h; refine kf hP (fun hc => (Ara (cap2 := []) hA (by first | exact .inl rfl | exact .inr ⟨_, rfl⟩) (fun _ _ hw => Atl hA hw) (gd_e hw3 hc))) ?_; cbv
 iterate 3 refine cj ?_
 obtain ⟨w4, hw4, h⟩ := bd_e h; refine kf hP (fun hc => (Asw (cap2 := []) hA (by first | exact .inl rfl | exact .inr ⟨_, rfl⟩) (fun _ _ hw => Ase hA hw) (gd_e hw4 hc))) ?_; cbv
 refine cj ?_
 refine kj ?_
 iterate 2 refine cj ?_
 obtain ⟨w5, hw5, h⟩ := bd_e h; refine kf hP (fun hc => (Arc hA (by rfl) (fun _ _ hw => Ard hA hw) (gd_e hw5 hc))) ?_; cbv
 iterate 4 refine cj ?_
 obtain ⟨w6, hw6, h⟩ := bd_e h; refine kf hP (fun hc => (Aqf hA (by rfl) (fun _ _ hw => Aqz hA hw) (gd_e hw6 hc))) ?_; cbv
 iterate 4 refine cj ?_
 obtain ⟨w7, hw7, h⟩ := bd_e h; refine kf hP (fun hc => (Aq7 hA (by rfl) (fun _ _ hw => Aq0 hA hw) (gd_e hw7 hc))) ?_; cbv
 iterate 2 refine cj ?_
 refine bc h (fun hb h => ?_) fun hb h => ?_
 ·cbv
  refine kj ?_
  exact le h hR
 ·cbv
  refine kj ?_
  obtain ⟨w8, hw8, h⟩ := bd_e h; refine kc hP (Awf hA hw8) ?_; cbv
  iterate 10 refine cj ?_
  obtain ⟨w9, hw9, h⟩ := bd_e h; refine kg hP (fun hc => (Awg hA (gd_e hw9 hc))) ?_; cbv
  iterate 2 refine cj ?_
  refine bc h (fun hb h => ?_) fun hb h => ?_
  ·cbv
   refine kj ?_
   exact le h hR
  ·cbv
   refine kj ?_
   obtain ⟨w10, hw10, h⟩ := bd_e h; refine kc hP (Awh hA hw10) ?_; cbv
   iterate 2 refine kj ?_
   obtain ⟨w11, hw11, h⟩ := bd_e h; refine kc hP (Ajg (cap2 := [D.ptr [D.sl TyS.rule x0.1, D.v (Value.string x0.2.1), D.sl TyS.matcher x0.2.2, D.sl TyS.str x0.2.3, D.v (Value.int .i64 x0.2.4), D.v (Value.int .i64 x0.2.5), D.v (Value.int .i64 x0.2.6), D.sl TyS.str x0.2.7, D.v (Value.bool x0.2.8), D.sl TyS.route x0.2.9, D.sl TyS.str x0.3, D.sl TyS.inhibit x0.4, D.sl TyS.hours x0.5]]) hA (by first | exact .inl rfl | exact .inr ⟨_, rfl⟩) (fun _ _ hw => Aui hA hw) hw11) ?_; cbv
   iterate 2 refine cj ?_
   obtain ⟨w12, hw12, h⟩ := bd_e h; refine kg hP (fun hc => (Ajg (cap2 := [D.ptr [D.sl TyS.rule x0.1, D.v (Value.string x0.2.1), D.sl TyS.matcher x0.2.2, D.sl TyS.str x0.2.3, D.v (Value.int .i64 x0.2.4), D.v (Value.int .i64 x0.2.5), D.v (Value.int .i64 x0.2.6), D.sl TyS.str x0.2.7, D.v (Value.bool x0.2.8), D.sl TyS.route x0.2.9, D.sl TyS.str x0.3, D.sl TyS.inhibit x0.4, D.sl TyS.hours x0.5]]) hA (by first | exact .inl rfl | exact .inr ⟨_, rfl⟩) (fun _ _ hw => Auh hA hw) (gd_e hw12 hc))) ?_; cbv
   refine cj ?_
   exact le h hR
theorem Awi {A : Ar} (hA : A = std) {x0 : Matcher} {r : ByteArray × Int} (h : Amr A x0 = some r) : PFun cx 193 [Aj0 x0] (.tu [st r.1, it .i64 r.2]) := by
 refine wF hA cx_ok Tryz.func193 fun P R hP hR => ?_
 cbv; unfold Amr at h
 iterate 2 refine kj ?_
 obtain ⟨w1, hw1, h⟩ := bd_e h; refine kc hP (Aj4 hA hw1) ?_; cbv
 refine bc h (fun hb h => ?_) fun hb h => ?_
 ·cbv
  refine kj ?_
  cases h; subst hR; exact ey
 ·cbv
  refine kj ?_
  obtain ⟨w2, hw2, h⟩ := bd_e h; refine km hP [] (Am1 hA hw2) ?_; cbv
  refine ⟨by first | exact Ahs hA _ | exact ⟨rfl⟩, ?_⟩
  obtain ⟨w3, hw3, h⟩ := bd_e h
  have hw3' := Av1 A x0.2 (fun x => st x) (ByteArray.mk (Array.mk [])) [(1, ByteArray.mk (Array.mk [61])), (2, ByteArray.mk (Array.mk [33, 61])), (3, ByteArray.mk (Array.mk [61, 126])), (4, ByteArray.mk (Array.mk [33, 126]))]
  rw [Option.some.inj hw3] at hw3'
  refine LookK.one _ _ hw3' ?_
  cbv
  refine kk h fun c4 h => ?_
  refine kk h fun c5 h => ?_
  obtain ⟨w6, hw6, h⟩ := bd_e h; refine kc hP (Aog hA hw6) ?_; cbv
  refine kk h fun c7 h => ?_
  refine kk h fun c8 h => ?_
  refine kj ?_
  cases h; subst hR; exact ey
theorem Awj {A : Ar} (hA : A = std) {x0 : Int} {r : ByteArray × Int} (h : Ams A x0 = some r) : PFun cx 221 [it .i64 x0] (.tu [st r.1, it .i64 r.2]) := by
 refine wF hA cx_ok Tryz.func221 fun P R hP hR => ?_
 cbv; unfold Ams at h
 iterate 2 refine kj ?_
 iterate 2 refine cj ?_
 refine bc h (fun hb h => ?_) fun hb h => ?_
 ·cbv
  refine kj ?_
  cases h; subst hR; exact ey
 ·cbv
  refine kj ?_
  refine kl h (fun x gh => [(0, it .i64 x.1), (4, .os 4031 gh TyS.byte x.2)]) (fun x gh => [⟨4031, gh, .tok 5 TyS.byte (A.nlen TyS.byte x.2)⟩]) [] ?_
  rintro ⟨n0, out4⟩ gh1 g1 _ _ _ hK1 hQ1 h; cbv
  refine kj ?_
  refine bc h (fun hb h => ?_) fun hb h => ?_
  ·cbv
   refine kj ?_
   refine ⟨by subst hA; simp +contextual [vcm], ?_⟩
   refine and_assoc.2 ?_
   refine kk h fun c1 h => ?_
   refine cj ?_
   refine kk h fun c2 h => ?_
   refine kj ?_
   refine ⟨by subst hA; simp +contextual [vcm], ?_⟩
   cases h; exact hK1 _ _ [(4031, 21, g1.succ)] rfl hdy
  ·cbv
   refine hQ1 _ h _ _ fun h => ?_; cbv
   refine kj ?_
   refine and_assoc.2 ?_
   refine kk h fun c3 h => ?_
   refine cj ?_
   refine kk h fun c4 h => ?_
   cases h; subst hR; exact ey
theorem Amj {A : Ar} (hA : A = std) {x0 : List UInt8} {r : List UInt8} (h : Ad8 A x0 = some r) : PFunM cx 225 [.bx 1000 0 0] [⟨1000, 0, .box 147 [.d (.v (.pointer none)), .os 1001 0 TyS.byte x0]⟩, ⟨1001, 0, .tok 5 TyS.byte (A.nlen TyS.byte x0)⟩] (.tu []) [⟨1000, 0, .box 147 [.np 1000 0, .os 2000 1 TyS.byte r]⟩, ⟨2000, 1, .tok 5 TyS.byte (A.nlen TyS.byte r)⟩] := by
 refine PFunM.walkM (fz := fun _ => false) hA cx_ok Tryz.func225 rfl rfl fun P R hP hR => ?_
 cbv; unfold Ad8 at h
 iterate 2 refine kj ?_
 obtain ⟨w1, hw1, h⟩ := bd_e h; refine km hP [(1000, 0), (1001, 0)] (Aw1 hA hw1) ?_; cbv
 cases h
 refine hR _ _ ⟨[(1001, 0)], ⟨by rfl, ez, by rfl, ez⟩⟩
theorem Amk {A : Ar} (hA : A = std) {x0 : List UInt8} {r : List UInt8} (h : Ad9 A x0 = some r) : PFunM cx 225 [.bx 1000 0 0] [⟨1000, 0, .box 147 [.bx 1000 0 0, .os 1001 0 TyS.byte x0]⟩, ⟨1001, 0, .tok 5 TyS.byte (A.nlen TyS.byte x0)⟩] (.tu []) [⟨1000, 0, .box 147 [.np 1000 0, .os 2000 1 TyS.byte r]⟩, ⟨2000, 1, .tok 5 TyS.byte (A.nlen TyS.byte r)⟩] := by
 refine PFunM.walkM (fz := fun _ => false) hA cx_ok Tryz.func225 rfl rfl fun P R hP hR => ?_
 cbv; unfold Ad9 at h
 iterate 2 refine kj ?_
 cases h
 refine hR _ _ ⟨[(1001, 0)], ⟨by rfl, ez, by rfl, ez⟩⟩
theorem Ana {A : Ar} (hA : A = std) {x0 : List UInt8} {r : List UInt8} (h : Adl A x0 = some r) : PFunM cx 225 [.bx 1000 0 0] [⟨1000, 0, .box 147 [.np 1000 0, .os 1001 0 TyS.byte x0]⟩, ⟨1001, 0, .tok 5 TyS.byte (A.nlen TyS.byte x0)⟩] (.tu []) [⟨1000, 0, .box 147 [.np 1000 0, .os 2000 1 TyS.byte r]⟩, ⟨2000, 1, .tok 5 TyS.byte (A.nlen TyS.byte r)⟩] := by
 unfold Adl at h
 obtain ⟨a, h1, h⟩ := bd_e h
 obtain ⟨b, h2, h⟩ := bd_e h
 obtain ⟨e, h⟩ := ck_e h
 cases h; subst e
 exact PFunM.np (Amj hA h1) (Amk hA h2)
theorem Ab7 {A : Ar} (hA : A = std) {x0 : List UInt8} {x1 : ByteArray} {r : List UInt8} (h : Aal A x0 x1 = some r) : PFunM cx 168 [.bx 1000 0 0, st x1] [⟨1000, 0, .box 147 [.np 1000 0, .os 1001 0 TyS.byte x0]⟩, ⟨1001, 0, .tok 5 TyS.byte (A.nlen TyS.byte x0)⟩] (.tu [it .i64 (A.slen x1), .d (.v .nilIface)]) [⟨1000, 0, .box 147 [.np 1000 0, .os 2000 1 TyS.byte r]⟩, ⟨2000, 1, .tok 5 TyS.byte (A.nlen TyS.byte r)⟩] := by
 refine PFunM.walkM (fz := fun _ => false) hA cx_ok Tryz.func168 rfl rfl fun P R hP hR => ?_
 cbv; unfold Aal at h
 iterate 2 refine kj ?_
 obtain ⟨w1, hw1, h⟩ := bd_e h; refine km hP [(1000, 0), (1001, 0)] (Ana hA hw1) ?_; cbv
 refine kj ?_
 refine kk h fun c2 h => ?_
 refine kj ?_
 cases h
 refine hR _ _ ⟨[(14, 4)], ⟨by rfl, ez, by rfl, ez⟩⟩
theorem A0l {A : Ar} (hA : A = std) {x0 : List ByteArray} {r : ByteArray × Int} (h : Ap0 A x0 = some r) : PFun cx 220 [.d (.sl TyS.str x0)] (.tu [st r.1, it .i64 r.2]) := by
 refine PFun.walkF (fz := fun k => k == 131076) hA cx_ok Tryz.func220 rfl rfl rfl fun P R hP hR => ?_
 cbv; unfold Ap0 at h
 iterate 2 refine kj ?_
 refine bc h (fun hb h => ?_) fun hb h => ?_
 ·cbv
  refine kj ?_
  cases h; subst hR; exact ey
 ·cbv
  iterate 2 refine kj ?_
  refine kl h (fun x _ => [(14, it .i64 x.1)]) (fun x gh => [⟨4031, gh, .tok 5 TyS.byte (A.nlen TyS.byte x.2)⟩, ⟨4, 2, .box 147 [PV.np 4 2, .os 4031 gh TyS.byte x.2]⟩]) [(4031, 65540, 2)] ?_
  rintro ⟨t14, b1_4⟩ gh1 g1 _ _ _ hK1 hQ1 h; cbv
  refine kj ?_
  refine bc h (fun hb h => ?_) fun hb h => ?_
  ·cbv
   refine kj ?_
   refine kk h fun c1 h => ?_
   refine kj ?_
   refine bc h (fun hb h => ?_) fun hb h => ?_
   ·cbv
    refine kj ?_
    refine hQ1 _ h _ _ fun h => ?_; cbv
    cases h; subst hR; exact ey
   ·cbv
    refine kj ?_
    obtain ⟨w2, hw2, h⟩ := bd_e h; refine kc hP (Awj hA hw2) ?_; cbv
    refine kj ?_
    obtain ⟨w3, hw3, h⟩ := bd_e h; refine km hP [(4, 2), (4031, gh1)] (Ab7 hA hw3) ?_; cbv
    refine kj ?_
    obtain ⟨w4, hw4, h⟩ := bd_e h; refine km hP [(4, 2), (28, g1.succ.succ.succ.succ)] (Ab7 hA hw4) ?_; cbv
    refine kj ?_
    cases h; exact hK1 _ _ [(4031, 30, g1.succ.succ.succ.succ.succ)] rfl hdy
  ·cbv
   refine hQ1 _ h _ _ fun h => ?_; cbv
   refine kj ?_
   obtain ⟨w5, hw5, h⟩ := bd_e h; refine km hP [(4, 2), (4031, gh1)] (Aj1 hA hw5) ?_; cbv
   cases h; subst hR; exact ey
theorem Ao7 {A : Ar} (hA : A = std) {x0 : Bool} {x1 : List ByteArray} {r : ByteArray × Bool} (h : Akb A x0 x1 = some r) : PFunM cx 131 [.bx 1000 0 0, .d (.sl TyS.str x1)] [⟨1000, 0, .box 4 [bl x0]⟩] (st r.1) [⟨1000, 0, .box 4 [bl r.2]⟩] := by
 refine PFunM.walkM (fz := fun _ => false) hA cx_ok Tryz.func131 rfl rfl fun P R hP hR => ?_
 cbv; unfold Akb at h
 iterate 2 refine kj ?_
 obtain ⟨w1, hw1, h⟩ := bd_e h; refine kc hP (A0l hA hw1) ?_; cbv
 refine kj ?_
 iterate 2 refine cj ?_
 refine kj ?_
 cases h
 refine hR _ _ ⟨[], ⟨by rfl, ez, by rfl, ez⟩⟩
theorem Aox {A : Ar} (hA : A = std) {x0 : Bool} {x1 : List Matcher} {r : ByteArray × Bool} (h : Ahd A x0 x1 = some r) : PFunM cx 219 [.bx 1000 0 0, .d (.sl TyS.matcher x1)] [⟨1000, 0, .box 4 [bl x0]⟩] (st r.1) [⟨1000, 0, .box 4 [bl r.2]⟩] := by
 refine PFunM.walkM (fz := fun _ => false) hA cx_ok Tryz.func219 rfl rfl fun P R hP hR => ?_
 cbv; unfold Ahd at h
 iterate 3 refine kj ?_
 refine kl h (fun x gh => [(5, .os 4030 gh TyS.str x.1), (12, it .i64 x.2)]) (fun x gh => [⟨4030, gh, .tok 9 TyS.str (A.nlen TyS.str x.1)⟩, ⟨1000, 0, .box 4 [bl x0]⟩]) [] ?_
 rintro ⟨out5, t12⟩ gh1 g1 _ _ _ hK1 hQ1 h; cbv
 refine kj ?_
 refine bc h (fun hb h => ?_) fun hb h => ?_
 ·cbv
  refine kj ?_
  refine kk h fun c1 h => ?_
  refine kj ?_
  obtain ⟨w2, hw2, h⟩ := bd_e h; refine kc hP (Awi hA hw2) ?_; cbv
  refine kj ?_
  refine kk h fun c3 h => ?_
  refine kj ?_
  cases h; exact hK1 _ _ [(4030, 24, g1.succ.succ.succ)] rfl hdy
 ·cbv
  refine hQ1 _ h _ _ fun h => ?_; cbv
  refine kj ?_
  obtain ⟨w4, hw4, h⟩ := bd_e h; refine km hP [(1000, 0)] (Ao7 hA hw4) ?_; cbv
  cases h
  refine hR _ _ ⟨[], ⟨by rfl, ez, by rfl, ez⟩⟩
theorem Auj {A : Ar} (hA : A = std) {x0 : Bool} {x1 : Inhibit} {r : ByteArray × Bool} (h : Amb A x0 x1 = some r) : PFunM cx 130 [.bx 1000 0 0, Agy x1] [⟨1000, 0, .box 4 [bl x0]⟩] (st r.1) [⟨1000, 0, .box 4 [bl r.2]⟩] := by
 refine PFunM.walkM (fz := fun _ => false) hA cx_ok Tryz.func130 rfl rfl fun P R hP hR => ?_
 cbv; unfold Amb at h
 iterate 2 refine kj ?_
 obtain ⟨w1, hw1, h⟩ := bd_e h; refine km hP [(1000, 0)] (Aox hA hw1) ?_; cbv
 obtain ⟨w2, hw2, h⟩ := bd_e h; refine km hP [(1000, 0)] (Aox hA hw2) ?_; cbv
 obtain ⟨w3, hw3, h⟩ := bd_e h; refine km hP [(1000, 0)] (Ao7 hA hw3) ?_; cbv
 obtain ⟨w4, hw4, h⟩ := bd_e h; refine km hP [(1000, 0)] (Ao7 hA hw4) ?_; cbv
 refine kj ?_
 cases h
 refine hR _ _ ⟨[], ⟨by rfl, ez, by rfl, ez⟩⟩
theorem Aic {A : Ar} (hA : A = std) {x0 : Inhibit} {c0 : Bool} {r : ByteArray × Bool} (h : Afo A x0 c0 = some r) : PFunM cx 156 [Agy x0, .bx 1000 0 0] [⟨1000, 0, .box 4 [bl c0]⟩] (st r.1) [⟨1000, 0, .box 4 [bl r.2]⟩] := by
 refine PFunM.walkM (fz := fun _ => false) hA cx_ok Tryz.func156 rfl rfl fun P R hP hR => ?_
 cbv; unfold Afo at h
 iterate 2 refine kj ?_
 obtain ⟨w1, hw1, h⟩ := bd_e h; refine km hP [(1000, 0)] (Auj hA hw1) ?_; cbv
 cases h
 refine hR _ _ ⟨[], ⟨by rfl, ez, by rfl, ez⟩⟩
theorem Ajl {A : Ar} (hA : A = std) {x0 : List Rule} {r : Int × List Rule} (h : Aey A x0 = some r) : PFunM cx 243 [.d (.sl TyS.rule x0)] [] (.ms 2000 1 TyS.rule 0 r.1) [⟨2000, 1, .arr 36 TyS.rule r.2⟩] := by
 refine PFunM.walkM (fz := fun k => k == 65541 || k == 65543 || k == 65538 || k == 65538 || k == 65538) hA cx_ok Tryz.func243 rfl rfl fun P R hP hR => ?_
 cbv; unfold Aey at h
 iterate 2 refine kj ?_
 obtain ⟨h1, h2⟩ := A56 h
 refine ⟨fun hc => ?_, ?_⟩
 ·have h := h1 hc
  clear h1 h2
  cbv
  refine kj ?_
  cases h
  refine hR _ _ ⟨[(2, 4)], ⟨by rfl, ez, by rfl, ez⟩⟩
 ·have h := h2
  clear h1 h2
  refine kj ?_
  refine kk h fun c1 h => ?_
  cases h
  refine hR _ _ ⟨[(7, 4)], ⟨by rfl, ez, by rfl, ez⟩⟩
theorem Ak3 {A : Ar} (hA : A = std) {x0 : Rule} {x1 : Rule} {qc0 : Rule → Option ByteArray} {gc0 : Nat} {capc0 : List D} (hcapc0 : capOK capc0) (hqc0 : ∀ (y0 : Rule) (r : ByteArray), qc0 y0 = some r → PFun cx gc0 ((Ahj y0) :: un.uns capc0) (st r)) {r : Int} (h : Aga A x0 x1 qc0 = some r) : PFun cx 245 [Ahj x0, Ahj x1, .ip [.fun (.func gc0) [] capc0]] (it .i64 r) := by
 rcases hcapc0 with rfl | ⟨dscapc0, rfl⟩
 all_goals
  refine wF hA cx_ok Tryz.func245 fun P R hP hR => ?_
  cbv; unfold Aga at h
  iterate 2 refine kj ?_
  obtain ⟨w1, hw1, h⟩ := bd_e h; refine kc hP (hqc0 _ _ hw1) ?_; cbv
  obtain ⟨w2, hw2, h⟩ := bd_e h; refine kc hP (hqc0 _ _ hw2) ?_; cbv
  obtain ⟨w3, hw3, h⟩ := bd_e h; refine kc hP (Aij hA hw3) ?_; cbv
  refine kj ?_
  exact le h hR
theorem Acc {A : Ar} (hA : A = std) {x0 : List Rule} {n0 : Int} {x1 : Int} {x2 : Int} {q3 : Rule → Rule → Option Int} {g3 : Nat} {cap3 : List D} (hcap3 : capOK cap3) (hq3 : ∀ (y0 : Rule) (y1 : Rule) (r : Int), q3 y0 y1 = some r → PFun cx g3 ((Ahj y0) :: (Ahj y1) :: un.uns cap3) (it .i64 r)) {r : List Rule} (h : Aa3 A x0 n0 x1 x2 q3 = some r) : PFunM cx 340 [.ms 1000 0 TyS.rule 0 n0, it .i64 x1, it .i64 x2, .fn (.func g3) [] (un.uns cap3)] [⟨1000, 0, .arr 36 TyS.rule x0⟩] (.tu []) [⟨1000, 0, .arr 36 TyS.rule r⟩] := by
 rcases hcap3 with rfl | ⟨dscap3, rfl⟩
 all_goals
  refine PFunM.walkM (fz := fun _ => false) hA cx_ok Tryz.func340 rfl rfl fun P R hP hR => ?_
  cbv; unfold Aa3 at h
  refine kj ?_
  refine kl h (fun x _ => [(8, it .i64 x.1)]) (fun x gh => [⟨1000, 0, .arr 36 TyS.rule x.2⟩]) [] ?_
  rintro ⟨i8, row1000⟩ gh1 g1 _ _ _ hK1 hQ1 h; cbv
  refine kj ?_
  refine bc h (fun hb h => ?_) fun hb h => ?_
  ·cbv
   refine kj ?_
   refine kl h (fun x _ => [(9, it .i64 x.1)]) (fun x gh => [⟨1000, 0, .arr 36 TyS.rule x.2⟩]) [] ?_
   rintro ⟨j9, row1000'⟩ gh2 g2 _ _ _ hK2 hQ2 h; cbv
   refine kj ?_
   iterate 2 refine cj ?_
   refine kk h fun c1 h => ?_
   iterate 2 refine cj ?_
   refine kk h fun c2 h => ?_
   iterate 3 refine cj ?_
   refine kk h fun c3 h => ?_
   iterate 2 refine cj ?_
   refine kk h fun c4 h => ?_
   iterate 3 refine cj ?_
   obtain ⟨w5, hw5, h⟩ := bd_e h; refine kg hP (fun hc => (hq3 _ _ _ (gd_e hw5 hc))) ?_; cbv
   iterate 2 refine cj ?_
   refine kj ?_
   refine bc h (fun hb h => ?_) fun hb h => ?_
   ·cbv
    refine kj ?_
    refine kk h fun c6 h => ?_
    refine kk h fun c7 h => ?_
    refine kk h fun c8 h => ?_
    refine kk h fun c9 h => ?_
    refine ⟨c8, ?_⟩
    refine ⟨c9, ?_⟩
    refine ⟨c6, ?_⟩
    refine kk h fun c10 h => ?_
    iterate 2 refine kj ?_
    cases h; exact hK2 _ _ [] rfl hdy
   ·cbv
    refine hQ2 _ h _ _ fun h => ?_; cbv
    refine kj ?_
    cases h; exact hK1 _ _ [] rfl hdy
  ·cbv
   refine hQ1 _ h _ _ fun h => ?_; cbv
   cases h
   refine hR _ _ ⟨[], ⟨by rfl, ez, by rfl, ez⟩⟩
theorem Aid {A : Ar} (hA : A = std) {x0 : List Rule} {n0 : Int} {x1 : Int} {q2 : Rule → Rule → Option Int} {g2 : Nat} {cap2 : List D} (hcap2 : capOK cap2) (hq2 : ∀ (y0 : Rule) (y1 : Rule) (r : Int), q2 y0 y1 = some r → PFun cx g2 ((Ahj y0) :: (Ahj y1) :: un.uns cap2) (it .i64 r)) {r : List Rule} (h : Acj A x0 n0 x1 q2 = some r) : PFunM cx 306 [.ms 1000 0 TyS.rule 0 n0, it .i64 x1, .fn (.func g2) [] (un.uns cap2)] [⟨1000, 0, .arr 36 TyS.rule x0⟩] (.tu []) [⟨1000, 0, .arr 36 TyS.rule r⟩] := by
 rcases hcap2 with rfl | ⟨dscap2, rfl⟩
 ·refine PFunM.walkM (fz := fun _ => false) hA cx_ok Tryz.func306 rfl rfl fun P R hP hR => ?_
  cbv; unfold Acj at h
  iterate 2 refine kj ?_
  refine kl h (fun x _ => [(7, it .i64 x.1), (8, it .i64 x.2.1)]) (fun x gh => [⟨1000, 0, .arr 36 TyS.rule x.2.2⟩]) [] ?_
  rintro ⟨a7, b8, row1000⟩ gh1 g1 _ _ _ hK1 hQ1 h; cbv
  refine kj ?_
  refine bc h (fun hb h => ?_) fun hb h => ?_
  ·cbv
   refine kj ?_
   obtain ⟨w1, hw1, h⟩ := bd_e h; refine km hP [(1000, 0)] (Acc (cap3 := []) hA (by first | exact .inl rfl | exact .inr ⟨_, rfl⟩) hq2 hw1) ?_; cbv
   iterate 2 refine kj ?_
   cases h; exact hK1 _ _ [] rfl hdy
  ·cbv
   refine hQ1 _ h _ _ fun h => ?_; cbv
   refine kj ?_
   obtain ⟨w2, hw2, h⟩ := bd_e h; refine km hP [(1000, 0)] (Acc (cap3 := []) hA (by first | exact .inl rfl | exact .inr ⟨_, rfl⟩) hq2 hw2) ?_; cbv
   refine kl h (fun x _ => [(6, it .i64 x)]) (fun _ _ => [⟨1000, 0, Cell.arr 36 TyS.rule w2⟩]) [] ?_
   rintro blockSize6 gh2 g2 _ _ _ hK2 hQ2 h; cbv
   refine kj ?_
   refine bc h (fun hb h => ?_) fun hb h => ?_
   ·cbv
    refine kj ?_
    refine kl h (fun x _ => [(7, it .i64 x.1), (8, it .i64 x.2)]) (fun _ _ => [⟨1000, 0, Cell.arr 36 TyS.rule w2⟩]) [] ?_
    rintro ⟨a7', b8'⟩ gh3 g3 _ _ _ hK3 hQ3 h; cbv
    refine kj ?_
    refine bc h (fun hb h => ?_) fun hb h => ?_
    ·cbv
     refine kj ?_
     cases h
    ·cbv
     refine hQ3 _ h _ _ fun h => ?_; cbv
     iterate 2 refine kj ?_
     refine bc h (fun hb h => ?_) fun hb h => ?_
     ·cbv
      refine kj ?_
      cases h
     ·cbv
      refine kj ?_
      cases h; exact hK2 _ _ [] rfl hdy
   ·cbv
    refine hQ2 _ h _ _ fun h => ?_; cbv
    cases h
    refine hR _ _ ⟨[], ⟨by rfl, ez, by rfl, ez⟩⟩
 ·refine PFunM.walkM (fz := fun _ => false) hA cx_ok Tryz.func306 rfl rfl fun P R hP hR => ?_
  cbv; unfold Acj at h
  iterate 2 refine kj ?_
  refine kl h (fun x _ => [(7, it .i64 x.1), (8, it .i64 x.2.1)]) (fun x gh => [⟨1000, 0, .arr 36 TyS.rule x.2.2⟩]) [] ?_
  rintro ⟨a7, b8, row1000⟩ gh1 g1 _ _ _ hK1 hQ1 h; cbv
  refine kj ?_
  refine bc h (fun hb h => ?_) fun hb h => ?_
  ·cbv
   refine kj ?_
   obtain ⟨w1, hw1, h⟩ := bd_e h; refine km hP [(1000, 0)] (Acc (cap3 := [D.ptr dscap2]) hA (by first | exact .inl rfl | exact .inr ⟨_, rfl⟩) hq2 hw1) ?_; cbv
   iterate 2 refine kj ?_
   cases h; exact hK1 _ _ [] rfl hdy
  ·cbv
   refine hQ1 _ h _ _ fun h => ?_; cbv
   refine kj ?_
   obtain ⟨w2, hw2, h⟩ := bd_e h; refine km hP [(1000, 0)] (Acc (cap3 := [D.ptr dscap2]) hA (by first | exact .inl rfl | exact .inr ⟨_, rfl⟩) hq2 hw2) ?_; cbv
   refine kl h (fun x _ => [(6, it .i64 x)]) (fun _ _ => [⟨1000, 0, Cell.arr 36 TyS.rule w2⟩]) [] ?_
   rintro blockSize6 gh2 g2 _ _ _ hK2 hQ2 h; cbv
   refine kj ?_
   refine bc h (fun hb h => ?_) fun hb h => ?_
   ·cbv
    refine kj ?_
    refine kl h (fun x _ => [(7, it .i64 x.1), (8, it .i64 x.2)]) (fun _ _ => [⟨1000, 0, Cell.arr 36 TyS.rule w2⟩]) [] ?_
    rintro ⟨a7', b8'⟩ gh3 g3 _ _ _ hK3 hQ3 h; cbv
    refine kj ?_
    refine bc h (fun hb h => ?_) fun hb h => ?_
    ·cbv
     refine kj ?_
     cases h
    ·cbv
     refine hQ3 _ h _ _ fun h => ?_; cbv
     iterate 2 refine kj ?_
     refine bc h (fun hb h => ?_) fun hb h => ?_
     ·cbv
      refine kj ?_
      cases h
     ·cbv
      refine kj ?_
      cases h; exact hK2 _ _ [] rfl hdy
   ·cbv
    refine hQ2 _ h _ _ fun h => ?_; cbv
    cases h
    refine hR _ _ ⟨[], ⟨by rfl, ez, by rfl, ez⟩⟩
theorem Agp {A : Ar} (hA : A = std) {x0 : List Rule} {n0 : Int} {q1 : Rule → Rule → Option Int} {g1 : Nat} {cap1 : List D} (hcap1 : capOK cap1) (hq1 : ∀ (y0 : Rule) (y1 : Rule) (r : Int), q1 y0 y1 = some r → PFun cx g1 ((Ahj y0) :: (Ahj y1) :: un.uns cap1) (it .i64 r)) {r : List Rule} (h : Abx A x0 n0 q1 = some r) : PFunM cx 244 [.ms 1000 0 TyS.rule 0 n0, .fn (.func g1) [] (un.uns cap1)] [⟨1000, 0, .arr 36 TyS.rule x0⟩] (.tu []) [⟨1000, 0, .arr 36 TyS.rule r⟩] := by
 rcases hcap1 with rfl | ⟨dscap1, rfl⟩
 ·refine PFunM.walkM (fz := fun _ => false) hA cx_ok Tryz.func244 rfl rfl fun P R hP hR => ?_
  cbv; unfold Abx at h
  refine kj ?_
  obtain ⟨w1, hw1, h⟩ := bd_e h; refine km hP [(1000, 0)] (Aid (cap2 := []) hA (by first | exact .inl rfl | exact .inr ⟨_, rfl⟩) hq1 hw1) ?_; cbv
  cases h
  refine hR _ _ ⟨[], ⟨by rfl, ez, by rfl, ez⟩⟩
 ·refine PFunM.walkM (fz := fun _ => false) hA cx_ok Tryz.func244 rfl rfl fun P R hP hR => ?_
  cbv; unfold Abx at h
  refine kj ?_
  obtain ⟨w1, hw1, h⟩ := bd_e h; refine km hP [(1000, 0)] (Aid (cap2 := [D.ptr dscap1]) hA (by first | exact .inl rfl | exact .inr ⟨_, rfl⟩) hq1 hw1) ?_; cbv
  cases h
  refine hR _ _ ⟨[], ⟨by rfl, ez, by rfl, ez⟩⟩
theorem Arh {A : Ar} (hA : A = std) {x0 : List Rule} {q1 : Rule → Option ByteArray} {g1 : Nat} {cap1 : List D} (hcap1 : capOK cap1) (hq1 : ∀ (y0 : Rule) (r : ByteArray), q1 y0 = some r → PFun cx g1 ((Ahj y0) :: un.uns cap1) (st r)) {r : List Rule} (h : Af2 A x0 q1 = some r) : PFun cx 157 [.d (.sl TyS.rule x0), .fn (.func g1) [] (un.uns cap1)] (.d (.sl TyS.rule r)) := by
 rcases hcap1 with rfl | ⟨dscap1, rfl⟩
 ·refine PFun.walkF (fz := fun k => k == 3) hA cx_ok Tryz.func157 rfl rfl rfl fun P R hP hR => ?_
  cbv; unfold Af2 at h
  iterate 2 refine kj ?_
  obtain ⟨w1, hw1, h⟩ := bd_e h; refine km hP [] (Ajl hA hw1) ?_; cbv
  refine kj ?_
  obtain ⟨w2, hw2, h⟩ := bd_e h; refine km hP [(7, 1)] (Agp (cap1 := [D.ptr [D.fun (Fn.func g1) [] []]]) hA (by first | exact .inl rfl | exact .inr ⟨_, rfl⟩) (fun _ _ _ hw => Ak3 (capc0 := []) hA (by first | exact .inl rfl | exact .inr ⟨_, rfl⟩) hq1 hw) hw2) ?_; cbv
  refine kj ?_
  refine kk h fun c3 h => ?_
  cases h; subst hR; exact ey
 ·refine PFun.walkF (fz := fun k => k == 3) hA cx_ok Tryz.func157 rfl rfl rfl fun P R hP hR => ?_
  cbv; unfold Af2 at h
  iterate 2 refine kj ?_
  obtain ⟨w1, hw1, h⟩ := bd_e h; refine km hP [] (Ajl hA hw1) ?_; cbv
  refine kj ?_
  obtain ⟨w2, hw2, h⟩ := bd_e h; refine km hP [(7, 1)] (Agp (cap1 := [D.ptr [D.fun (Fn.func g1) [] [D.ptr dscap1]]]) hA (by first | exact .inl rfl | exact .inr ⟨_, rfl⟩) (fun _ _ _ hw => Ak3 (capc0 := [D.ptr dscap1]) hA (by first | exact .inl rfl | exact .inr ⟨_, rfl⟩) hq1 hw) hw2) ?_; cbv
  refine kj ?_
  refine kk h fun c3 h => ?_
  cases h; subst hR; exact ey
theorem Ahv {A : Ar} (hA : A = std) {x0 : List ByteArray} {r : Int × List ByteArray} (h : Adc A x0 = some r) : PFunM cx 247 [.d (.sl TyS.str x0)] [] (.ms 2000 1 TyS.str 0 r.1) [⟨2000, 1, .arr 9 TyS.str r.2⟩] := by
 refine PFunM.walkM (fz := fun k => k == 65541 || k == 65543 || k == 65538 || k == 65538 || k == 65538) hA cx_ok Tryz.func247 rfl rfl fun P R hP hR => ?_
 cbv; unfold Adc at h
 iterate 2 refine kj ?_
 obtain ⟨h1, h2⟩ := A56 h
 refine ⟨fun hc => ?_, ?_⟩
 ·have h := h1 hc
  clear h1 h2
  cbv
  refine kj ?_
  cases h
  refine hR _ _ ⟨[(2, 4)], ⟨by rfl, ez, by rfl, ez⟩⟩
 ·have h := h2
  clear h1 h2
  refine kj ?_
  refine kk h fun c1 h => ?_
  cases h
  refine hR _ _ ⟨[(7, 4)], ⟨by rfl, ez, by rfl, ez⟩⟩
theorem Ajm {A : Ar} (hA : A = std) {x0 : ByteArray} {x1 : ByteArray} {qc0 : ByteArray → Option ByteArray} {gc0 : Nat} {capc0 : List D} (hcapc0 : capOK capc0) (hqc0 : ∀ (y0 : ByteArray) (r : ByteArray), qc0 y0 = some r → PFun cx gc0 ((st y0) :: un.uns capc0) (st r)) {r : Int} (h : Aez A x0 x1 qc0 = some r) : PFun cx 249 [st x0, st x1, .ip [.fun (.func gc0) [] capc0]] (it .i64 r) := by
 rcases hcapc0 with rfl | ⟨dscapc0, rfl⟩
 all_goals
  refine wF hA cx_ok Tryz.func249 fun P R hP hR => ?_
  cbv; unfold Aez at h
  iterate 2 refine kj ?_
  obtain ⟨w1, hw1, h⟩ := bd_e h; refine kc hP (hqc0 _ _ hw1) ?_; cbv
  obtain ⟨w2, hw2, h⟩ := bd_e h; refine kc hP (hqc0 _ _ hw2) ?_; cbv
  obtain ⟨w3, hw3, h⟩ := bd_e h; refine kc hP (Aij hA hw3) ?_; cbv
  refine kj ?_
  exact le h hR
theorem Abr {A : Ar} (hA : A = std) {x0 : List ByteArray} {n0 : Int} {x1 : Int} {x2 : Int} {q3 : ByteArray → ByteArray → Option Int} {g3 : Nat} {cap3 : List D} (hcap3 : capOK cap3) (hq3 : ∀ (y0 : ByteArray) (y1 : ByteArray) (r : Int), q3 y0 y1 = some r → PFun cx g3 ((st y0) :: (st y1) :: un.uns cap3) (it .i64 r)) {r : List ByteArray} (h : Aav A x0 n0 x1 x2 q3 = some r) : PFunM cx 343 [.ms 1000 0 TyS.str 0 n0, it .i64 x1, it .i64 x2, .fn (.func g3) [] (un.uns cap3)] [⟨1000, 0, .arr 9 TyS.str x0⟩] (.tu []) [⟨1000, 0, .arr 9 TyS.str r⟩] := by
 rcases hcap3 with rfl | ⟨dscap3, rfl⟩
 all_goals
  refine PFunM.walkM (fz := fun _ => false) hA cx_ok Tryz.func343 rfl rfl fun P R hP hR => ?_
  cbv; unfold Aav at h
  refine kj ?_
  refine kl h (fun x _ => [(8, it .i64 x.1)]) (fun x gh => [⟨1000, 0, .arr 9 TyS.str x.2⟩]) [] ?_
  rintro ⟨i8, row1000⟩ gh1 g1 _ _ _ hK1 hQ1 h; cbv
  refine kj ?_
  refine bc h (fun hb h => ?_) fun hb h => ?_
  ·cbv
   refine kj ?_
   refine kl h (fun x _ => [(9, it .i64 x.1)]) (fun x gh => [⟨1000, 0, .arr 9 TyS.str x.2⟩]) [] ?_
   rintro ⟨j9, row1000'⟩ gh2 g2 _ _ _ hK2 hQ2 h; cbv
   refine kj ?_
   iterate 2 refine cj ?_
   refine kk h fun c1 h => ?_
   iterate 2 refine cj ?_
   refine kk h fun c2 h => ?_
   iterate 3 refine cj ?_
   refine kk h fun c3 h => ?_
   iterate 2 refine cj ?_
   refine kk h fun c4 h => ?_
   iterate 3 refine cj ?_
   obtain ⟨w5, hw5, h⟩ := bd_e h; refine kg hP (fun hc => (hq3 _ _ _ (gd_e hw5 hc))) ?_; cbv
   iterate 2 refine cj ?_
   refine kj ?_
   refine bc h (fun hb h => ?_) fun hb h => ?_
   ·cbv
    refine kj ?_
    refine kk h fun c6 h => ?_
    refine kk h fun c7 h => ?_
    refine kk h fun c8 h => ?_
    refine kk h fun c9 h => ?_
    refine ⟨c8, ?_⟩
    refine ⟨c9, ?_⟩
    refine ⟨c6, ?_⟩
    refine kk h fun c10 h => ?_
    iterate 2 refine kj ?_
    cases h; exact hK2 _ _ [] rfl hdy
   ·cbv
    refine hQ2 _ h _ _ fun h => ?_; cbv
    refine kj ?_
    cases h; exact hK1 _ _ [] rfl hdy
  ·cbv
   refine hQ1 _ h _ _ fun h => ?_; cbv
   cases h
   refine hR _ _ ⟨[], ⟨by rfl, ez, by rfl, ez⟩⟩
theorem Ahh {A : Ar} (hA : A = std) {x0 : List ByteArray} {n0 : Int} {x1 : Int} {q2 : ByteArray → ByteArray → Option Int} {g2 : Nat} {cap2 : List D} (hcap2 : capOK cap2) (hq2 : ∀ (y0 : ByteArray) (y1 : ByteArray) (r : Int), q2 y0 y1 = some r → PFun cx g2 ((st y0) :: (st y1) :: un.uns cap2) (it .i64 r)) {r : List ByteArray} (h : Aby A x0 n0 x1 q2 = some r) : PFunM cx 308 [.ms 1000 0 TyS.str 0 n0, it .i64 x1, .fn (.func g2) [] (un.uns cap2)] [⟨1000, 0, .arr 9 TyS.str x0⟩] (.tu []) [⟨1000, 0, .arr 9 TyS.str r⟩] := by
 rcases hcap2 with rfl | ⟨dscap2, rfl⟩
 ·refine PFunM.walkM (fz := fun _ => false) hA cx_ok Tryz.func308 rfl rfl fun P R hP hR => ?_
  cbv; unfold Aby at h
  iterate 2 refine kj ?_
  refine kl h (fun x _ => [(7, it .i64 x.1), (8, it .i64 x.2.1)]) (fun x gh => [⟨1000, 0, .arr 9 TyS.str x.2.2⟩]) [] ?_
  rintro ⟨a7, b8, row1000⟩ gh1 g1 _ _ _ hK1 hQ1 h; cbv
  refine kj ?_
  refine bc h (fun hb h => ?_) fun hb h => ?_
  ·cbv
   refine kj ?_
   obtain ⟨w1, hw1, h⟩ := bd_e h; refine km hP [(1000, 0)] (Abr (cap3 := []) hA (by first | exact .inl rfl | exact .inr ⟨_, rfl⟩) hq2 hw1) ?_; cbv
   iterate 2 refine kj ?_
   cases h; exact hK1 _ _ [] rfl hdy
  ·cbv
   refine hQ1 _ h _ _ fun h => ?_; cbv
   refine kj ?_
   obtain ⟨w2, hw2, h⟩ := bd_e h; refine km hP [(1000, 0)] (Abr (cap3 := []) hA (by first | exact .inl rfl | exact .inr ⟨_, rfl⟩) hq2 hw2) ?_; cbv
   refine kl h (fun x _ => [(6, it .i64 x)]) (fun _ _ => [⟨1000, 0, Cell.arr 9 TyS.str w2⟩]) [] ?_
   rintro blockSize6 gh2 g2 _ _ _ hK2 hQ2 h; cbv
   refine kj ?_
   refine bc h (fun hb h => ?_) fun hb h => ?_
   ·cbv
    refine kj ?_
    refine kl h (fun x _ => [(7, it .i64 x.1), (8, it .i64 x.2)]) (fun _ _ => [⟨1000, 0, Cell.arr 9 TyS.str w2⟩]) [] ?_
    rintro ⟨a7', b8'⟩ gh3 g3 _ _ _ hK3 hQ3 h; cbv
    refine kj ?_
    refine bc h (fun hb h => ?_) fun hb h => ?_
    ·cbv
     refine kj ?_
     cases h
    ·cbv
     refine hQ3 _ h _ _ fun h => ?_; cbv
     iterate 2 refine kj ?_
     refine bc h (fun hb h => ?_) fun hb h => ?_
     ·cbv
      refine kj ?_
      cases h
     ·cbv
      refine kj ?_
      cases h; exact hK2 _ _ [] rfl hdy
   ·cbv
    refine hQ2 _ h _ _ fun h => ?_; cbv
    cases h
    refine hR _ _ ⟨[], ⟨by rfl, ez, by rfl, ez⟩⟩
 ·refine PFunM.walkM (fz := fun _ => false) hA cx_ok Tryz.func308 rfl rfl fun P R hP hR => ?_
  cbv; unfold Aby at h
  iterate 2 refine kj ?_
  refine kl h (fun x _ => [(7, it .i64 x.1), (8, it .i64 x.2.1)]) (fun x gh => [⟨1000, 0, .arr 9 TyS.str x.2.2⟩]) [] ?_
  rintro ⟨a7, b8, row1000⟩ gh1 g1 _ _ _ hK1 hQ1 h; cbv
  refine kj ?_
  refine bc h (fun hb h => ?_) fun hb h => ?_
  ·cbv
   refine kj ?_
   obtain ⟨w1, hw1, h⟩ := bd_e h; refine km hP [(1000, 0)] (Abr (cap3 := [D.ptr dscap2]) hA (by first | exact .inl rfl | exact .inr ⟨_, rfl⟩) hq2 hw1) ?_; cbv
   iterate 2 refine kj ?_
   cases h; exact hK1 _ _ [] rfl hdy
  ·cbv
   refine hQ1 _ h _ _ fun h => ?_; cbv
   refine kj ?_
   obtain ⟨w2, hw2, h⟩ := bd_e h; refine km hP [(1000, 0)] (Abr (cap3 := [D.ptr dscap2]) hA (by first | exact .inl rfl | exact .inr ⟨_, rfl⟩) hq2 hw2) ?_; cbv
   refine kl h (fun x _ => [(6, it .i64 x)]) (fun _ _ => [⟨1000, 0, Cell.arr 9 TyS.str w2⟩]) [] ?_
   rintro blockSize6 gh2 g2 _ _ _ hK2 hQ2 h; cbv
   refine kj ?_
   refine bc h (fun hb h => ?_) fun hb h => ?_
   ·cbv
    refine kj ?_
    refine kl h (fun x _ => [(7, it .i64 x.1), (8, it .i64 x.2)]) (fun _ _ => [⟨1000, 0, Cell.arr 9 TyS.str w2⟩]) [] ?_
    rintro ⟨a7', b8'⟩ gh3 g3 _ _ _ hK3 hQ3 h; cbv
    refine kj ?_
    refine bc h (fun hb h => ?_) fun hb h => ?_
    ·cbv
     refine kj ?_
     cases h
    ·cbv
     refine hQ3 _ h _ _ fun h => ?_; cbv
     iterate 2 refine kj ?_
     refine bc h (fun hb h => ?_) fun hb h => ?_
     ·cbv
      refine kj ?_
      cases h
     ·cbv
      refine kj ?_
      cases h; exact hK2 _ _ [] rfl hdy
   ·cbv
    refine hQ2 _ h _ _ fun h => ?_; cbv
    cases h
    refine hR _ _ ⟨[], ⟨by rfl, ez, by rfl, ez⟩⟩
theorem Afv {A : Ar} (hA : A = std) {x0 : List ByteArray} {n0 : Int} {q1 : ByteArray → ByteArray → Option Int} {g1 : Nat} {cap1 : List D} (hcap1 : capOK cap1) (hq1 : ∀ (y0 : ByteArray) (y1 : ByteArray) (r : Int), q1 y0 y1 = some r → PFun cx g1 ((st y0) :: (st y1) :: un.uns cap1) (it .i64 r)) {r : List ByteArray} (h : Aba A x0 n0 q1 = some r) : PFunM cx 248 [.ms 1000 0 TyS.str 0 n0, .fn (.func g1) [] (un.uns cap1)] [⟨1000, 0, .arr 9 TyS.str x0⟩] (.tu []) [⟨1000, 0, .arr 9 TyS.str r⟩] := by
 rcases hcap1 with rfl | ⟨dscap1, rfl⟩
 ·refine PFunM.walkM (fz := fun _ => false) hA cx_ok Tryz.func248 rfl rfl fun P R hP hR => ?_
  cbv; unfold Aba at h
  refine kj ?_
  obtain ⟨w1, hw1, h⟩ := bd_e h; refine km hP [(1000, 0)] (Ahh (cap2 := []) hA (by first | exact .inl rfl | exact .inr ⟨_, rfl⟩) hq1 hw1) ?_; cbv
  cases h
  refine hR _ _ ⟨[], ⟨by rfl, ez, by rfl, ez⟩⟩
 ·refine PFunM.walkM (fz := fun _ => false) hA cx_ok Tryz.func248 rfl rfl fun P R hP hR => ?_
  cbv; unfold Aba at h
  refine kj ?_
  obtain ⟨w1, hw1, h⟩ := bd_e h; refine km hP [(1000, 0)] (Ahh (cap2 := [D.ptr dscap1]) hA (by first | exact .inl rfl | exact .inr ⟨_, rfl⟩) hq1 hw1) ?_; cbv
  cases h
  refine hR _ _ ⟨[], ⟨by rfl, ez, by rfl, ez⟩⟩
theorem Aqg {A : Ar} (hA : A = std) {x0 : List ByteArray} {q1 : ByteArray → Option ByteArray} {g1 : Nat} {cap1 : List D} (hcap1 : capOK cap1) (hq1 : ∀ (y0 : ByteArray) (r : ByteArray), q1 y0 = some r → PFun cx g1 ((st y0) :: un.uns cap1) (st r)) {r : List ByteArray} (h : Aeq A x0 q1 = some r) : PFun cx 158 [.d (.sl TyS.str x0), .fn (.func g1) [] (un.uns cap1)] (.d (.sl TyS.str r)) := by
 rcases hcap1 with rfl | ⟨dscap1, rfl⟩
 ·refine PFun.walkF (fz := fun k => k == 3) hA cx_ok Tryz.func158 rfl rfl rfl fun P R hP hR => ?_
  cbv; unfold Aeq at h
  iterate 2 refine kj ?_
  obtain ⟨w1, hw1, h⟩ := bd_e h; refine km hP [] (Ahv hA hw1) ?_; cbv
  refine kj ?_
  obtain ⟨w2, hw2, h⟩ := bd_e h; refine km hP [(7, 1)] (Afv (cap1 := [D.ptr [D.fun (Fn.func g1) [] []]]) hA (by first | exact .inl rfl | exact .inr ⟨_, rfl⟩) (fun _ _ _ hw => Ajm (capc0 := []) hA (by first | exact .inl rfl | exact .inr ⟨_, rfl⟩) hq1 hw) hw2) ?_; cbv
  refine kj ?_
  refine kk h fun c3 h => ?_
  cases h; subst hR; exact ey
 ·refine PFun.walkF (fz := fun k => k == 3) hA cx_ok Tryz.func158 rfl rfl rfl fun P R hP hR => ?_
  cbv; unfold Aeq at h
  iterate 2 refine kj ?_
  obtain ⟨w1, hw1, h⟩ := bd_e h; refine km hP [] (Ahv hA hw1) ?_; cbv
  refine kj ?_
  obtain ⟨w2, hw2, h⟩ := bd_e h; refine km hP [(7, 1)] (Afv (cap1 := [D.ptr [D.fun (Fn.func g1) [] [D.ptr dscap1]]]) hA (by first | exact .inl rfl | exact .inr ⟨_, rfl⟩) (fun _ _ _ hw => Ajm (capc0 := [D.ptr dscap1]) hA (by first | exact .inl rfl | exact .inr ⟨_, rfl⟩) hq1 hw) hw2) ?_; cbv
  refine kj ?_
  refine kk h fun c3 h => ?_
  cases h; subst hR; exact ey
theorem Ain {A : Ar} (hA : A = std) {x0 : List Hours} {r : Int × List Hours} (h : Adp A x0 = some r) : PFunM cx 250 [.d (.sl TyS.hours x0)] [] (.ms 2000 1 TyS.hours 0 r.1) [⟨2000, 1, .arr 67 TyS.hours r.2⟩] := by
 refine PFunM.walkM (fz := fun k => k == 65541 || k == 65543 || k == 65538 || k == 65538 || k == 65538) hA cx_ok Tryz.func250 rfl rfl fun P R hP hR => ?_
 cbv; unfold Adp at h
 iterate 2 refine kj ?_
 obtain ⟨h1, h2⟩ := A56 h
 refine ⟨fun hc => ?_, ?_⟩
 ·have h := h1 hc
  clear h1 h2
  cbv
  refine kj ?_
  cases h
  refine hR _ _ ⟨[(2, 4)], ⟨by rfl, ez, by rfl, ez⟩⟩
 ·have h := h2
  clear h1 h2
  refine kj ?_
  refine kk h fun c1 h => ?_
  cases h
  refine hR _ _ ⟨[(7, 4)], ⟨by rfl, ez, by rfl, ez⟩⟩
theorem Ake {A : Ar} (hA : A = std) {x0 : Hours} {x1 : Hours} {qc0 : Hours → Option ByteArray} {gc0 : Nat} {capc0 : List D} (hcapc0 : capOK capc0) (hqc0 : ∀ (y0 : Hours) (r : ByteArray), qc0 y0 = some r → PFun cx gc0 ((Agg y0) :: un.uns capc0) (st r)) {r : Int} (h : Afr A x0 x1 qc0 = some r) : PFun cx 252 [Agg x0, Agg x1, .ip [.fun (.func gc0) [] capc0]] (it .i64 r) := by
 rcases hcapc0 with rfl | ⟨dscapc0, rfl⟩
 all_goals
  refine wF hA cx_ok Tryz.func252 fun P R hP hR => ?_
  cbv; unfold Afr at h
  iterate 2 refine kj ?_
  obtain ⟨w1, hw1, h⟩ := bd_e h; refine kc hP (hqc0 _ _ hw1) ?_; cbv
  obtain ⟨w2, hw2, h⟩ := bd_e h; refine kc hP (hqc0 _ _ hw2) ?_; cbv
  obtain ⟨w3, hw3, h⟩ := bd_e h; refine kc hP (Aij hA hw3) ?_; cbv
  refine kj ?_
  exact le h hR
theorem Ab4 {A : Ar} (hA : A = std) {x0 : List Hours} {n0 : Int} {x1 : Int} {x2 : Int} {q3 : Hours → Hours → Option Int} {g3 : Nat} {cap3 : List D} (hcap3 : capOK cap3) (hq3 : ∀ (y0 : Hours) (y1 : Hours) (r : Int), q3 y0 y1 = some r → PFun cx g3 ((Agg y0) :: (Agg y1) :: un.uns cap3) (it .i64 r)) {r : List Hours} (h : Aax A x0 n0 x1 x2 q3 = some r) : PFunM cx 345 [.ms 1000 0 TyS.hours 0 n0, it .i64 x1, it .i64 x2, .fn (.func g3) [] (un.uns cap3)] [⟨1000, 0, .arr 67 TyS.hours x0⟩] (.tu []) [⟨1000, 0, .arr 67 TyS.hours r⟩] := by
 rcases hcap3 with rfl | ⟨dscap3, rfl⟩
 all_goals
  refine PFunM.walkM (fz := fun _ => false) hA cx_ok Tryz.func345 rfl rfl fun P R hP hR => ?_
  cbv; unfold Aax at h
  refine kj ?_
  refine kl h (fun x _ => [(8, it .i64 x.1)]) (fun x gh => [⟨1000, 0, .arr 67 TyS.hours x.2⟩]) [] ?_
  rintro ⟨i8, row1000⟩ gh1 g1 _ _ _ hK1 hQ1 h; cbv
  refine kj ?_
  refine bc h (fun hb h => ?_) fun hb h => ?_
  ·cbv
   refine kj ?_
   refine kl h (fun x _ => [(9, it .i64 x.1)]) (fun x gh => [⟨1000, 0, .arr 67 TyS.hours x.2⟩]) [] ?_
   rintro ⟨j9, row1000'⟩ gh2 g2 _ _ _ hK2 hQ2 h; cbv
   refine kj ?_
   iterate 2 refine cj ?_
   refine kk h fun c1 h => ?_
   iterate 2 refine cj ?_
   refine kk h fun c2 h => ?_
   iterate 3 refine cj ?_
   refine kk h fun c3 h => ?_
   iterate 2 refine cj ?_
   refine kk h fun c4 h => ?_
   iterate 3 refine cj ?_
   obtain ⟨w5, hw5, h⟩ := bd_e h; refine kg hP (fun hc => (hq3 _ _ _ (gd_e hw5 hc))) ?_; cbv
   iterate 2 refine cj ?_
   refine kj ?_
   refine bc h (fun hb h => ?_) fun hb h => ?_
   ·cbv
    refine kj ?_
    refine kk h fun c6 h => ?_
    refine kk h fun c7 h => ?_
    refine kk h fun c8 h => ?_
    refine kk h fun c9 h => ?_
    refine ⟨c8, ?_⟩
    refine ⟨c9, ?_⟩
    refine ⟨c6, ?_⟩
    refine kk h fun c10 h => ?_
    iterate 2 refine kj ?_
    cases h; exact hK2 _ _ [] rfl hdy
   ·cbv
    refine hQ2 _ h _ _ fun h => ?_; cbv
    refine kj ?_
    cases h; exact hK1 _ _ [] rfl hdy
  ·cbv
   refine hQ1 _ h _ _ fun h => ?_; cbv
   cases h
   refine hR _ _ ⟨[], ⟨by rfl, ez, by rfl, ez⟩⟩
theorem Ahw {A : Ar} (hA : A = std) {x0 : List Hours} {n0 : Int} {x1 : Int} {q2 : Hours → Hours → Option Int} {g2 : Nat} {cap2 : List D} (hcap2 : capOK cap2) (hq2 : ∀ (y0 : Hours) (y1 : Hours) (r : Int), q2 y0 y1 = some r → PFun cx g2 ((Agg y0) :: (Agg y1) :: un.uns cap2) (it .i64 r)) {r : List Hours} (h : Ab9 A x0 n0 x1 q2 = some r) : PFunM cx 309 [.ms 1000 0 TyS.hours 0 n0, it .i64 x1, .fn (.func g2) [] (un.uns cap2)] [⟨1000, 0, .arr 67 TyS.hours x0⟩] (.tu []) [⟨1000, 0, .arr 67 TyS.hours r⟩] := by
 rcases hcap2 with rfl | ⟨dscap2, rfl⟩
 ·refine PFunM.walkM (fz := fun _ => false) hA cx_ok Tryz.func309 rfl rfl fun P R hP hR => ?_
  cbv; unfold Ab9 at h
  iterate 2 refine kj ?_
  refine kl h (fun x _ => [(7, it .i64 x.1), (8, it .i64 x.2.1)]) (fun x gh => [⟨1000, 0, .arr 67 TyS.hours x.2.2⟩]) [] ?_
  rintro ⟨a7, b8, row1000⟩ gh1 g1 _ _ _ hK1 hQ1 h; cbv
  refine kj ?_
  refine bc h (fun hb h => ?_) fun hb h => ?_
  ·cbv
   refine kj ?_
   obtain ⟨w1, hw1, h⟩ := bd_e h; refine km hP [(1000, 0)] (Ab4 (cap3 := []) hA (by first | exact .inl rfl | exact .inr ⟨_, rfl⟩) hq2 hw1) ?_; cbv
   iterate 2 refine kj ?_
   cases h; exact hK1 _ _ [] rfl hdy
  ·cbv
   refine hQ1 _ h _ _ fun h => ?_; cbv
   refine kj ?_
   obtain ⟨w2, hw2, h⟩ := bd_e h; refine km hP [(1000, 0)] (Ab4 (cap3 := []) hA (by first | exact .inl rfl | exact .inr ⟨_, rfl⟩) hq2 hw2) ?_; cbv
   refine kl h (fun x _ => [(6, it .i64 x)]) (fun _ _ => [⟨1000, 0, Cell.arr 67 TyS.hours w2⟩]) [] ?_
   rintro blockSize6 gh2 g2 _ _ _ hK2 hQ2 h; cbv
   refine kj ?_
   refine bc h (fun hb h => ?_) fun hb h => ?_
   ·cbv
    refine kj ?_
    refine kl h (fun x _ => [(7, it .i64 x.1), (8, it .i64 x.2)]) (fun _ _ => [⟨1000, 0, Cell.arr 67 TyS.hours w2⟩]) [] ?_
    rintro ⟨a7', b8'⟩ gh3 g3 _ _ _ hK3 hQ3 h; cbv
    refine kj ?_
    refine bc h (fun hb h => ?_) fun hb h => ?_
    ·cbv
     refine kj ?_
     cases h
    ·cbv
     refine hQ3 _ h _ _ fun h => ?_; cbv
     iterate 2 refine kj ?_
     refine bc h (fun hb h => ?_) fun hb h => ?_
     ·cbv
      refine kj ?_
      cases h
     ·cbv
      refine kj ?_
      cases h; exact hK2 _ _ [] rfl hdy
   ·cbv
    refine hQ2 _ h _ _ fun h => ?_; cbv
    cases h
    refine hR _ _ ⟨[], ⟨by rfl, ez, by rfl, ez⟩⟩
 ·refine PFunM.walkM (fz := fun _ => false) hA cx_ok Tryz.func309 rfl rfl fun P R hP hR => ?_
  cbv; unfold Ab9 at h
  iterate 2 refine kj ?_
  refine kl h (fun x _ => [(7, it .i64 x.1), (8, it .i64 x.2.1)]) (fun x gh => [⟨1000, 0, .arr 67 TyS.hours x.2.2⟩]) [] ?_
  rintro ⟨a7, b8, row1000⟩ gh1 g1 _ _ _ hK1 hQ1 h; cbv
  refine kj ?_
  refine bc h (fun hb h => ?_) fun hb h => ?_
  ·cbv
   refine kj ?_
   obtain ⟨w1, hw1, h⟩ := bd_e h; refine km hP [(1000, 0)] (Ab4 (cap3 := [D.ptr dscap2]) hA (by first | exact .inl rfl | exact .inr ⟨_, rfl⟩) hq2 hw1) ?_; cbv
   iterate 2 refine kj ?_
   cases h; exact hK1 _ _ [] rfl hdy
  ·cbv
   refine hQ1 _ h _ _ fun h => ?_; cbv
   refine kj ?_
   obtain ⟨w2, hw2, h⟩ := bd_e h; refine km hP [(1000, 0)] (Ab4 (cap3 := [D.ptr dscap2]) hA (by first | exact .inl rfl | exact .inr ⟨_, rfl⟩) hq2 hw2) ?_; cbv
   refine kl h (fun x _ => [(6, it .i64 x)]) (fun _ _ => [⟨1000, 0, Cell.arr 67 TyS.hours w2⟩]) [] ?_
   rintro blockSize6 gh2 g2 _ _ _ hK2 hQ2 h; cbv
   refine kj ?_
   refine bc h (fun hb h => ?_) fun hb h => ?_
   ·cbv
    refine kj ?_
    refine kl h (fun x _ => [(7, it .i64 x.1), (8, it .i64 x.2)]) (fun _ _ => [⟨1000, 0, Cell.arr 67 TyS.hours w2⟩]) [] ?_
    rintro ⟨a7', b8'⟩ gh3 g3 _ _ _ hK3 hQ3 h; cbv
    refine kj ?_
    refine bc h (fun hb h => ?_) fun hb h => ?_
    ·cbv
     refine kj ?_
     cases h
    ·cbv
     refine hQ3 _ h _ _ fun h => ?_; cbv
     iterate 2 refine kj ?_
     refine bc h (fun hb h => ?_) fun hb h => ?_
     ·cbv
      refine kj ?_
      cases h
     ·cbv
      refine kj ?_
      cases h; exact hK2 _ _ [] rfl hdy
   ·cbv
    refine hQ2 _ h _ _ fun h => ?_; cbv
    cases h
    refine hR _ _ ⟨[], ⟨by rfl, ez, by rfl, ez⟩⟩
theorem Agi {A : Ar} (hA : A = std) {x0 : List Hours} {n0 : Int} {q1 : Hours → Hours → Option Int} {g1 : Nat} {cap1 : List D} (hcap1 : capOK cap1) (hq1 : ∀ (y0 : Hours) (y1 : Hours) (r : Int), q1 y0 y1 = some r → PFun cx g1 ((Agg y0) :: (Agg y1) :: un.uns cap1) (it .i64 r)) {r : List Hours} (h : Abh A x0 n0 q1 = some r) : PFunM cx 251 [.ms 1000 0 TyS.hours 0 n0, .fn (.func g1) [] (un.uns cap1)] [⟨1000, 0, .arr 67 TyS.hours x0⟩] (.tu []) [⟨1000, 0, .arr 67 TyS.hours r⟩] := by
 rcases hcap1 with rfl | ⟨dscap1, rfl⟩
 ·refine PFunM.walkM (fz := fun _ => false) hA cx_ok Tryz.func251 rfl rfl fun P R hP hR => ?_
  cbv; unfold Abh at h
  refine kj ?_
  obtain ⟨w1, hw1, h⟩ := bd_e h; refine km hP [(1000, 0)] (Ahw (cap2 := []) hA (by first | exact .inl rfl | exact .inr ⟨_, rfl⟩) hq1 hw1) ?_; cbv
  cases h
  refine hR _ _ ⟨[], ⟨by rfl, ez, by rfl, ez⟩⟩
 ·refine PFunM.walkM (fz := fun _ => false) hA cx_ok Tryz.func251 rfl rfl fun P R hP hR => ?_
  cbv; unfold Abh at h
  refine kj ?_
  obtain ⟨w1, hw1, h⟩ := bd_e h; refine km hP [(1000, 0)] (Ahw (cap2 := [D.ptr dscap1]) hA (by first | exact .inl rfl | exact .inr ⟨_, rfl⟩) hq1 hw1) ?_; cbv
  cases h
  refine hR _ _ ⟨[], ⟨by rfl, ez, by rfl, ez⟩⟩
theorem Aq8 {A : Ar} (hA : A = std) {x0 : List Hours} {q1 : Hours → Option ByteArray} {g1 : Nat} {cap1 : List D} (hcap1 : capOK cap1) (hq1 : ∀ (y0 : Hours) (r : ByteArray), q1 y0 = some r → PFun cx g1 ((Agg y0) :: un.uns cap1) (st r)) {r : List Hours} (h : Ae9 A x0 q1 = some r) : PFun cx 159 [.d (.sl TyS.hours x0), .fn (.func g1) [] (un.uns cap1)] (.d (.sl TyS.hours r)) := by
 rcases hcap1 with rfl | ⟨dscap1, rfl⟩
 ·refine PFun.walkF (fz := fun k => k == 3) hA cx_ok Tryz.func159 rfl rfl rfl fun P R hP hR => ?_
  cbv; unfold Ae9 at h
  iterate 2 refine kj ?_
  obtain ⟨w1, hw1, h⟩ := bd_e h; refine km hP [] (Ain hA hw1) ?_; cbv
  refine kj ?_
  obtain ⟨w2, hw2, h⟩ := bd_e h; refine km hP [(7, 1)] (Agi (cap1 := [D.ptr [D.fun (Fn.func g1) [] []]]) hA (by first | exact .inl rfl | exact .inr ⟨_, rfl⟩) (fun _ _ _ hw => Ake (capc0 := []) hA (by first | exact .inl rfl | exact .inr ⟨_, rfl⟩) hq1 hw) hw2) ?_; cbv
  refine kj ?_
  refine kk h fun c3 h => ?_
  cases h; subst hR; exact ey
 ·refine PFun.walkF (fz := fun k => k == 3) hA cx_ok Tryz.func159 rfl rfl rfl fun P R hP hR => ?_
  cbv; unfold Ae9 at h
  iterate 2 refine kj ?_
  obtain ⟨w1, hw1, h⟩ := bd_e h; refine km hP [] (Ain hA hw1) ?_; cbv
  refine kj ?_
  obtain ⟨w2, hw2, h⟩ := bd_e h; refine km hP [(7, 1)] (Agi (cap1 := [D.ptr [D.fun (Fn.func g1) [] [D.ptr dscap1]]]) hA (by first | exact .inl rfl | exact .inr ⟨_, rfl⟩) (fun _ _ _ hw => Ake (capc0 := [D.ptr dscap1]) hA (by first | exact .inl rfl | exact .inr ⟨_, rfl⟩) hq1 hw) hw2) ?_; cbv
  refine kj ?_
  refine kk h fun c3 h => ?_
  cases h; subst hR; exact ey
theorem Aln {A : Ar} (hA : A = std) {x0 : List Inhibit} {r : Int × List Inhibit} (h : Acn A x0 = some r) : PFunM cx 253 [.d (.sl TyS.inhibit x0)] [] (.ms 2000 1 TyS.inhibit 0 r.1) [⟨2000, 1, .arr 63 TyS.inhibit r.2⟩] := by
 refine PFunM.walkM (fz := fun k => k == 65541 || k == 65543 || k == 65538 || k == 65538 || k == 65538) hA cx_ok Tryz.func253 rfl rfl fun P R hP hR => ?_
 cbv; unfold Acn at h
 iterate 2 refine kj ?_
 obtain ⟨h1, h2⟩ := A56 h
 refine ⟨fun hc => ?_, ?_⟩
 ·have h := h1 hc
  clear h1 h2
  cbv
  refine kj ?_
  cases h
  refine hR _ _ ⟨[(2, 4)], ⟨by rfl, ez, by rfl, ez⟩⟩
 ·have h := h2
  clear h1 h2
  refine kj ?_
  refine kk h fun c1 h => ?_
  cases h
  refine hR _ _ ⟨[(7, 4)], ⟨by rfl, ez, by rfl, ez⟩⟩
theorem Aon {A : Ar} (hA : A = std) {x0 : Inhibit} {x1 : Inhibit} {c0 : Bool} {r : Int × Bool} (h : Aea A x0 x1 c0 = some r) : PFunM cx 255 [Agy x0, Agy x1, .bx 1000 0 0] [⟨1000, 0, .box 125 [.fn (.func 156) [] [.bx 1001 0 0]]⟩, ⟨1001, 0, .box 4 [bl c0]⟩] (it .i64 r.1) [⟨1000, 0, .box 125 [.fn (.func 156) [] [.bx 1001 0 0]]⟩, ⟨1001, 0, .box 4 [bl r.2]⟩] := by
 refine PFunM.walkM (fz := fun _ => false) hA cx_ok Tryz.func255 rfl rfl fun P R hP hR => ?_
 cbv; unfold Aea at h
 iterate 2 refine kj ?_
 obtain ⟨w1, hw1, h⟩ := bd_e h; refine km hP [(1001, 0)] (Aic hA hw1) ?_; cbv
 obtain ⟨w2, hw2, h⟩ := bd_e h; refine km hP [(1001, 0)] (Aic hA hw2) ?_; cbv
 obtain ⟨w3, hw3, h⟩ := bd_e h; refine kc hP (Aij hA hw3) ?_; cbv
 refine kj ?_
 cases h
 refine hR _ _ ⟨[], ⟨by rfl, ez, by rfl, ez⟩⟩
theorem Afw {A : Ar} (hA : A = std) {x0 : List Inhibit} {n0 : Int} {x1 : Int} {x2 : Int} {c0 : Bool} {r : List Inhibit × Bool} (h : Aat A x0 n0 x1 x2 c0 = some r) : PFunM cx 347 [.ms 1000 0 TyS.inhibit 0 n0, it .i64 x1, it .i64 x2, .fn (.func 255) [] [.bx 1001 0 0]] [⟨1000, 0, .arr 63 TyS.inhibit x0⟩, ⟨1001, 0, .box 125 [.fn (.func 156) [] [.bx 1002 0 0]]⟩, ⟨1002, 0, .box 4 [bl c0]⟩] (.tu []) [⟨1000, 0, .arr 63 TyS.inhibit r.1⟩, ⟨1001, 0, .box 125 [.fn (.func 156) [] [.bx 1002 0 0]]⟩, ⟨1002, 0, .box 4 [bl r.2]⟩] := by
 refine PFunM.walkM (fz := fun k => k == 196629) hA cx_ok Tryz.func347 rfl rfl fun P R hP hR => ?_
 cbv; unfold Aat at h
 refine kj ?_
 refine kl h (fun x _ => [(8, it .i64 x.1)]) (fun x gh => [⟨1001, 0, .box 125 [PV.fn (Fn.func 156) [] [PV.bx 1002 0 0]]⟩, ⟨1002, 0, .box 4 [bl x.2.1]⟩, ⟨1000, 0, .arr 63 TyS.inhibit x.2.2⟩]) [] ?_
 rintro ⟨i8, b0_1002, row1000⟩ gh1 g1 _ _ _ hK1 hQ1 h; cbv
 refine kj ?_
 refine bc h (fun hb h => ?_) fun hb h => ?_
 ·cbv
  refine kj ?_
  refine kl h (fun x _ => [(9, it .i64 x.1)]) (fun x gh => [⟨1001, 0, .box 125 [PV.fn (Fn.func 156) [] [PV.bx 1002 0 0]]⟩, ⟨1002, 0, .box 4 [bl x.2.1]⟩, ⟨1000, 0, .arr 63 TyS.inhibit x.2.2⟩]) [] ?_
  rintro ⟨j9, b0_1002', row1000'⟩ gh2 g2 _ _ _ hK2 hQ2 h; cbv
  refine kj ?_
  obtain ⟨hb, h⟩ | ⟨hb, h⟩ := br_e h
  ·refine selT hb ?_
   cbv
   refine kk h fun c1 h => ?_
   refine kk h fun c2 h => ?_
   refine kk h fun c3 h => ?_
   refine kk h fun c4 h => ?_
   obtain ⟨w5, hw5, h⟩ := bd_e h; refine km hP [(1001, 0), (1002, 0)] (Aon hA hw5) ?_; cbv
   refine kj ?_
   refine bc h (fun hb h => ?_) fun hb h => ?_
   ·cbv
    refine kj ?_
    refine ⟨c3, ?_⟩
    refine ⟨c4, ?_⟩
    refine ⟨c1, ?_⟩
    refine ⟨c2, ?_⟩
    refine ⟨c1, ?_⟩
    refine ⟨c2, ?_⟩
    refine ⟨c3, ?_⟩
    refine kk h fun c6 h => ?_
    iterate 2 refine kj ?_
    cases h; exact hK2 _ _ [] rfl hdy
   ·cbv
    refine hQ2 _ h _ _ fun h => ?_; cbv
    refine kj ?_
    cases h; exact hK1 _ _ [] rfl hdy
  ·refine selF hb ?_
   cbv
   refine kj ?_
   refine bc h (fun hb h => ?_) fun hb h => ?_
   ·cbv
    refine kj ?_
    refine kk h fun c7 h => ?_
    refine kk h fun c8 h => ?_
    refine kk h fun c9 h => ?_
    refine kk h fun c10 h => ?_
    refine ⟨c9, ?_⟩
    refine ⟨c10, ?_⟩
    refine ⟨c7, ?_⟩
    refine kk h fun c11 h => ?_
    iterate 2 refine kj ?_
    cases h; exact hK2 _ _ [] rfl hdy
   ·cbv
    refine hQ2 _ h _ _ fun h => ?_; cbv
    refine kj ?_
    cases h; exact hK1 _ _ [] rfl hdy
 ·cbv
  refine hQ1 _ h _ _ fun h => ?_; cbv
  cases h
  refine hR _ _ ⟨[], ⟨by rfl, ez, by rfl, ez⟩⟩
theorem Alo {A : Ar} (hA : A = std) {x0 : List Inhibit} {n0 : Int} {x1 : Int} {c0 : Bool} {r : List Inhibit × Bool} (h : Aco A x0 n0 x1 c0 = some r) : PFunM cx 310 [.ms 1000 0 TyS.inhibit 0 n0, it .i64 x1, .fn (.func 255) [] [.bx 1001 0 0]] [⟨1000, 0, .arr 63 TyS.inhibit x0⟩, ⟨1001, 0, .box 125 [.fn (.func 156) [] [.bx 1002 0 0]]⟩, ⟨1002, 0, .box 4 [bl c0]⟩] (.tu []) [⟨1000, 0, .arr 63 TyS.inhibit r.1⟩, ⟨1001, 0, .box 125 [.fn (.func 156) [] [.bx 1002 0 0]]⟩, ⟨1002, 0, .box 4 [bl r.2]⟩] := by
 refine PFunM.walkM (fz := fun _ => false) hA cx_ok Tryz.func310 rfl rfl fun P R hP hR => ?_
 cbv; unfold Aco at h
 iterate 2 refine kj ?_
 refine kl h (fun x _ => [(7, it .i64 x.1), (8, it .i64 x.2.1)]) (fun x gh => [⟨1001, 0, .box 125 [PV.fn (Fn.func 156) [] [PV.bx 1002 0 0]]⟩, ⟨1002, 0, .box 4 [bl x.2.2.1]⟩, ⟨1000, 0, .arr 63 TyS.inhibit x.2.2.2⟩]) [] ?_
 rintro ⟨a7, b8, b0_1002, row1000⟩ gh1 g1 _ _ _ hK1 hQ1 h; cbv
 refine kj ?_
 refine bc h (fun hb h => ?_) fun hb h => ?_
 ·cbv
  refine kj ?_
  obtain ⟨w1, hw1, h⟩ := bd_e h; refine km hP [(1000, 0), (1001, 0), (1002, 0)] (Afw hA hw1) ?_; cbv
  iterate 2 refine kj ?_
  cases h; exact hK1 _ _ [] rfl hdy
 ·cbv
  refine hQ1 _ h _ _ fun h => ?_; cbv
  refine kj ?_
  obtain ⟨w2, hw2, h⟩ := bd_e h; refine km hP [(1000, 0), (1001, 0), (1002, 0)] (Afw hA hw2) ?_; cbv
  refine kl h (fun x _ => [(6, it .i64 x)]) (fun x gh => [⟨1001, 0, .box 125 [PV.fn (Fn.func 156) [] [PV.bx 1002 0 0]]⟩, ⟨1002, 0, .box 4 [bl w2.2]⟩, ⟨1000, 0, Cell.arr 63 TyS.inhibit w2.1⟩]) [] ?_
  rintro blockSize6 gh2 g2 _ _ _ hK2 hQ2 h; cbv
  refine kj ?_
  refine bc h (fun hb h => ?_) fun hb h => ?_
  ·cbv
   refine kj ?_
   refine kl h (fun x _ => [(7, it .i64 x.1), (8, it .i64 x.2)]) (fun x gh => [⟨1001, 0, .box 125 [PV.fn (Fn.func 156) [] [PV.bx 1002 0 0]]⟩, ⟨1002, 0, .box 4 [bl w2.2]⟩, ⟨1000, 0, Cell.arr 63 TyS.inhibit w2.1⟩]) [] ?_
   rintro ⟨a7', b8'⟩ gh3 g3 _ _ _ hK3 hQ3 h; cbv
   refine kj ?_
   refine bc h (fun hb h => ?_) fun hb h => ?_
   ·cbv
    refine kj ?_
    cases h
   ·cbv
    refine hQ3 _ h _ _ fun h => ?_; cbv
    iterate 2 refine kj ?_
    refine bc h (fun hb h => ?_) fun hb h => ?_
    ·cbv
     refine kj ?_
     cases h
    ·cbv
     refine kj ?_
     cases h; exact hK2 _ _ [] rfl hdy
  ·cbv
   refine hQ2 _ h _ _ fun h => ?_; cbv
   cases h
   refine hR _ _ ⟨[], ⟨by rfl, ez, by rfl, ez⟩⟩
theorem Aik {A : Ar} (hA : A = std) {x0 : List Inhibit} {n0 : Int} {c0 : Bool} {r : List Inhibit × Bool} (h : Abt A x0 n0 c0 = some r) : PFunM cx 254 [.ms 1000 0 TyS.inhibit 0 n0, .fn (.func 255) [] [.bx 1001 0 0]] [⟨1000, 0, .arr 63 TyS.inhibit x0⟩, ⟨1001, 0, .box 125 [.fn (.func 156) [] [.bx 1002 0 0]]⟩, ⟨1002, 0, .box 4 [bl c0]⟩] (.tu []) [⟨1000, 0, .arr 63 TyS.inhibit r.1⟩, ⟨1001, 0, .box 125 [.fn (.func 156) [] [.bx 1002 0 0]]⟩, ⟨1002, 0, .box 4 [bl r.2]⟩] := by
 refine PFunM.walkM (fz := fun _ => false) hA cx_ok Tryz.func254 rfl rfl fun P R hP hR => ?_
 cbv; unfold Abt at h
 refine kj ?_
 obtain ⟨w1, hw1, h⟩ := bd_e h; refine km hP [(1000, 0), (1001, 0), (1002, 0)] (Alo hA hw1) ?_; cbv
 cases h
 refine hR _ _ ⟨[], ⟨by rfl, ez, by rfl, ez⟩⟩
theorem App {A : Ar} (hA : A = std) {x0 : List Inhibit} {c0 : Bool} {r : Int × List Inhibit × Bool} (h : Afs A x0 c0 = some r) : PFunM cx 161 [.d (.sl TyS.inhibit x0), .fn (.func 156) [] [.bx 1000 0 0]] [⟨1000, 0, .box 4 [bl c0]⟩] (.ms 2000 1 TyS.inhibit 0 r.1) [⟨1000, 0, .box 4 [bl r.2.2]⟩, ⟨2000, 1, .arr 63 TyS.inhibit r.2.1⟩] := by
 refine PFunM.walkM (fz := fun _ => false) hA cx_ok Tryz.func161 rfl rfl fun P R hP hR => ?_
 cbv; unfold Afs at h
 iterate 2 refine kj ?_
 obtain ⟨w1, hw1, h⟩ := bd_e h; refine km hP [] (Aln hA hw1) ?_; cbv
 refine kj ?_
 obtain ⟨w2, hw2, h⟩ := bd_e h; refine km hP [(7, 3), (3, 2), (1000, 0)] (Aik hA hw2) ?_; cbv
 refine kj ?_
 cases h
 refine hR _ _ ⟨[(7, 3)], ⟨by rfl, ez, by rfl, ez⟩⟩
theorem Aoy {A : Ar} (hA : A = std) {x0 : Inhibit} {x1 : Inhibit} {c0 : Bool} {r : Bool × Bool} (h : Ahe A x0 x1 c0 = some r) : PFunM cx 162 [Agy x0, Agy x1, .bx 1000 0 0] [⟨1000, 0, .box 125 [.fn (.func 156) [] [.bx 1001 0 0]]⟩, ⟨1001, 0, .box 4 [bl c0]⟩] (bl r.1) [⟨1000, 0, .box 125 [.fn (.func 156) [] [.bx 1001 0 0]]⟩, ⟨1001, 0, .box 4 [bl r.2]⟩] := by
 refine PFunM.walkM (fz := fun _ => false) hA cx_ok Tryz.func162 rfl rfl fun P R hP hR => ?_
 cbv; unfold Ahe at h
 iterate 2 refine kj ?_
 obtain ⟨w1, hw1, h⟩ := bd_e h; refine km hP [(1001, 0)] (Aic hA hw1) ?_; cbv
 obtain ⟨w2, hw2, h⟩ := bd_e h; refine km hP [(1001, 0)] (Aic hA hw2) ?_; cbv
 refine kj ?_
 cases h
 refine hR _ _ ⟨[], ⟨by rfl, ez, by rfl, ez⟩⟩
theorem Ajh {A : Ar} (hA : A = std) {x0 : List Inhibit} {n0 : Int} {c0 : Bool} {r : Int × Int × List Inhibit × Bool} (h : Abe A x0 n0 c0 = some r) : PFunM cx 160 [.ms 1000 0 TyS.inhibit 0 n0, .fn (.func 162) [] [.bx 1001 0 0]] [⟨1000, 0, .arr 63 TyS.inhibit x0⟩, ⟨1001, 0, .box 125 [.fn (.func 156) [] [.bx 1002 0 0]]⟩, ⟨1002, 0, .box 4 [bl c0]⟩] (.ms 1000 0 TyS.inhibit r.1 r.2.1) [⟨1000, 0, .arr 63 TyS.inhibit r.2.2.1⟩, ⟨1001, 0, .box 125 [.fn (.func 156) [] [.bx 1002 0 0]]⟩, ⟨1002, 0, .box 4 [bl r.2.2.2]⟩] := by
 refine PFunM.walkM (fz := fun _ => false) hA cx_ok Tryz.func160 rfl rfl fun P R hP hR => ?_
 cbv; unfold Abe at h
 iterate 2 refine kj ?_
 refine bc h (fun hb h => ?_) fun hb h => ?_
 ·cbv
  refine kj ?_
  cases h
  refine hR _ _ ⟨[], ⟨by rfl, ez, by rfl, ez⟩⟩
 ·cbv
  refine kj ?_
  refine kl h (fun x _ => [(5, it .i64 x.1)]) (fun x gh => [⟨1001, 0, .box 125 [PV.fn (Fn.func 156) [] [PV.bx 1002 0 0]]⟩, ⟨1002, 0, .box 4 [bl x.2]⟩, ⟨1000, 0, Cell.arr 63 TyS.inhibit x0⟩]) [] ?_
  rintro ⟨t5, b0_1002⟩ gh1 g1 _ _ _ hK1 hQ1 h; cbv
  refine kj ?_
  refine bc h (fun hb h => ?_) fun hb h => ?_
  ·cbv
   refine kj ?_
   refine kk h fun c1 h => ?_
   refine kk h fun c2 h => ?_
   refine kk h fun c3 h => ?_
   refine kk h fun c4 h => ?_
   obtain ⟨w5, hw5, h⟩ := bd_e h; refine km hP [(1001, 0), (1002, 0)] (Aoy hA hw5) ?_; cbv
   refine kj ?_
   refine bc h (fun hb h => ?_) fun hb h => ?_
   ·cbv
    refine kj ?_
    refine kk h fun c6 h => ?_
    refine kj ?_
    refine kl h (fun x _ => [(5, it .i64 x.1), (7, it .i64 x.2.1)]) (fun x gh => [⟨1001, 0, .box 125 [PV.fn (Fn.func 156) [] [PV.bx 1002 0 0]]⟩, ⟨1002, 0, .box 4 [bl x.2.2.1]⟩, ⟨1000, 0, .arr 63 TyS.inhibit x.2.2.2⟩]) [] ?_
    rintro ⟨t5', t7, b0_1002', row1000⟩ gh2 g2 _ _ _ hK2 hQ2 h; cbv
    refine kj ?_
    refine bc h (fun hb h => ?_) fun hb h => ?_
    ·cbv
     refine kj ?_
     refine kk h fun c7 h => ?_
     refine kk h fun c8 h => ?_
     refine kk h fun c9 h => ?_
     refine kk h fun c10 h => ?_
     obtain ⟨w11, hw11, h⟩ := bd_e h; refine km hP [(1001, 0), (1002, 0)] (Aoy hA hw11) ?_; cbv
     refine kj ?_
     refine bc h (fun hb h => ?_) fun hb h => ?_
     ·cbv
      refine kj ?_
      refine ⟨c7, ?_⟩
      refine ⟨c8, ?_⟩
      refine kk h fun c12 h => ?_
      refine kk h fun c13 h => ?_
      iterate 2 refine kj ?_
      cases h; exact hK2 _ _ [] rfl hdy
     ·cbv
      refine kj ?_
      cases h; exact hK2 _ _ [] rfl hdy
    ·cbv
     refine hQ2 _ h _ _ fun h => ?_; cbv
     refine kj ?_
     refine kk h fun c14 h => ?_
     refine kk h fun c15 h => ?_
     refine kj ?_
     refine kk h fun c16 h => ?_
     refine hQ1 _ h _ _ fun h => ?_; cbv
     cases h
     refine hR _ _ ⟨[], ⟨by rfl, ez, by rfl, ez⟩⟩
   ·cbv
    refine kj ?_
    cases h; exact hK1 _ _ [] rfl hdy
  ·cbv
   refine hQ1 _ h _ _ fun h => ?_; cbv
   refine kj ?_
   cases h
   refine hR _ _ ⟨[], ⟨by rfl, ez, by rfl, ez⟩⟩
theorem Avt {A : Ar} (hA : A = std) {x0 : Config} {r : Config × Int} (h : Ak9 A x0 = some r) : PFun cx 68 [Ag8 x0] (.tu [Ag8 r.1, it .i64 r.2]) := by
 refine wF hA cx_ok Tryz.func68 fun P R hP hR => ?_
 cbv; unfold Ak9 at h
 iterate 2 refine kj ?_
 obtain ⟨w1, hw1, h⟩ := bd_e h; refine kc hP (Anz hA hw1) ?_; cbv
 refine bc h (fun hb h => ?_) fun hb h => ?_
 ·cbv
  refine kj ?_
  cases h; subst hR; exact ey
 ·cbv
  iterate 3 refine kj ?_
  obtain ⟨w2, hw2, h⟩ := bd_e h; refine ke hP (Arh (cap1 := []) hA (by first | exact .inl rfl | exact .inr ⟨_, rfl⟩) (fun _ _ hw => Ard hA hw) hw2) ?_; cbv
  obtain ⟨w3, hw3, h⟩ := bd_e h; refine ke hP (Aqg (cap1 := []) hA (by first | exact .inl rfl | exact .inr ⟨_, rfl⟩) (fun _ _ hw => Aqz hA hw) hw3) ?_; cbv
  obtain ⟨w4, hw4, h⟩ := bd_e h; refine ke hP (Aq8 (cap1 := []) hA (by first | exact .inl rfl | exact .inr ⟨_, rfl⟩) (fun _ _ hw => Aq0 hA hw) hw4) ?_; cbv
  iterate 2 refine kj ?_
  obtain ⟨w5, hw5, h⟩ := bd_e h; refine km hP [(4, 2)] (App hA hw5) ?_; cbv
  obtain ⟨w6, hw6, h⟩ := bd_e h; refine km hP [(26, 5), (5, 3), (4, 2)] (Ajh hA hw6) ?_; cbv
  refine kj ?_
  refine kk h fun c7 h => ?_
  cases h; subst hR; exact ey
theorem Am2 {A : Ar} (hA : A = std) {q0 : Rule → Option Bool} {c0 : Config} {g0 : Nat} {cap0 : List PV} (hcap0 : bare.bares cap0 = true) (hq0 : ∀ (y0 : Rule) (r : Bool), q0 y0 = some r → PFun cx g0 ((Ahj y0) :: cap0) (bl r)) {r : Bool} (h : Aho A q0 c0 = some r) : PFun cx 90 [.fn (.func g0) [] cap0, .ip [.sl TyS.rule c0.Rules, .v (.string c0.Route.Receiver), .sl TyS.matcher c0.Route.Match, .sl TyS.str c0.Route.By, .v (.int .i64 c0.Route.Wait), .v (.int .i64 c0.Route.Every), .v (.int .i64 c0.Route.Repeat), .sl TyS.str c0.Route.Mute, .v (.bool c0.Route.On), .sl TyS.route c0.Route.Routes, .sl TyS.str c0.Receivers, .sl TyS.inhibit c0.Inhibits, .sl TyS.hours c0.Hours]] (bl r) := by
 refine wF hA cx_ok Tryz.func90 fun P R hP hR => ?_
 cbv; unfold Aho at h
 iterate 2 refine kj ?_
 obtain ⟨w1, hw1, h⟩ := bd_e h; refine kc hP (Aer hA hcap0 hq0 hw1) ?_ (by first | rfl | simp [bare, bare.bares, hcap0]); cbv
 exact le h hR
theorem Avu {A : Ar} (hA : A = std) {x0 : Rule} {r : Bool} (h : Anj A x0 = some r) : PFun cx 92 [Ahj x0] (bl r) := by
 refine wF hA cx_ok Tryz.func92 fun P R hP hR => ?_
 cbv; unfold Anj at h
 iterate 2 refine kj ?_
 exact le h hR
theorem Avv {A : Ar} (hA : A = std) {x0 : Rule} {r : Bool} (h : Ank A x0 = some r) : PFun cx 93 [Ahj x0] (bl r) := by
 refine wF hA cx_ok Tryz.func93 fun P R hP hR => ?_
 cbv; unfold Ank at h
 iterate 2 refine kj ?_
 exact le h hR
theorem Aky {A : Ar} (hA : A = std) {x0 : List Label} {q1 : Label → Option Bool} {g1 : Nat} {cap1 : List PV} (hcap1 : bare.bares cap1 = true) (hq1 : ∀ (y0 : Label) (r : Bool), q1 y0 = some r → PFun cx g1 ((Awz y0) :: cap1) (bl r)) {r : Bool} (h : Abz A x0 q1 = some r) : PFun cx 95 [.d (.sl TyS.label x0), .fn (.func g1) [] cap1] (bl r) := by
 refine wF hA cx_ok Tryz.func95 fun P R hP hR => ?_
 cbv; unfold Abz at h
 iterate 2 refine kj ?_
 obtain ⟨w1, hw1, h⟩ := bd_e h; refine kc hP (Ag9 hA hcap1 hq1 hw1) ?_ (by first | rfl | simp [bare, bare.bares, hcap1]); cbv
 exact le h hR
theorem Ayl {A : Ar} (hA : A = std) {x0 : Label} {r : Bool} (h : Akc A x0 = some r) : PFun cx 96 [Awz x0] (bl r) := by
 refine wF hA cx_ok Tryz.func96 fun P R hP hR => ?_
 cbv; unfold Akc at h
 iterate 2 refine kj ?_
 obtain ⟨w1, hw1, h⟩ := bd_e h; refine kc hP (As5 hA hw1) ?_; cbv
 iterate 3 refine cj ?_
 obtain ⟨w2, hw2, h⟩ := bd_e h; refine kg hP (fun hc => (Asb hA (gd_e hw2 hc))) ?_; cbv
 refine cj ?_
 exact le h hR
theorem Avw {A : Ar} (hA : A = std) {x0 : Rule} {r : Bool} (h : Ala A x0 = some r) : PFun cx 94 [Ahj x0] (bl r) := by
 refine wF hA cx_ok Tryz.func94 fun P R hP hR => ?_
 cbv; unfold Ala at h
 iterate 2 refine kj ?_
 obtain ⟨w1, hw1, h⟩ := bd_e h; refine ke hP (Aky hA (by rfl) (fun _ _ hw => Ayl hA hw) hw1) ?_; cbv
 exact le h hR
theorem Asg {A : Ar} (hA : A = std) {x0 : Config} {r : List ByteArray} (h : Alx A x0 = some r) : PFun cx 24 [Ag8 x0] (.d (.sl TyS.str r)) := by
 refine PFun.walkF (fz := fun k => k == 1) hA cx_ok Tryz.func24 rfl rfl rfl fun P R hP hR => ?_
 cbv; unfold Alx at h
 iterate 2 refine kj ?_
 obtain ⟨w1, hw1, h⟩ := bd_e h; refine kc hP (Anz hA hw1) ?_; cbv
 refine bc h (fun hb h => ?_) fun hb h => ?_
 ·cbv
  refine kj ?_
  cases h; subst hR; exact ey
 ·cbv
  iterate 3 refine kj ?_
  obtain ⟨w2, hw2, h⟩ := bd_e h; refine ke hP (Am2 hA (by rfl) (fun _ _ hw => Avu hA hw) hw2) ?_; cbv
  obtain ⟨w3, hw3, h⟩ := bd_e h; refine ke hP (Am2 hA (by rfl) (fun _ _ hw => Avv hA hw) hw3) ?_; cbv
  obtain ⟨w4, hw4, h⟩ := bd_e h; refine ke hP (Am2 hA (by rfl) (fun _ _ hw => Avw hA hw) hw4) ?_; cbv
  refine kj ?_
  refine kl h (fun x gh => [(4, .os 4030 gh TyS.str x.1), (39, it .i64 x.2)]) (fun x gh => [⟨4030, gh, .tok 9 TyS.str (A.nlen TyS.str x.1)⟩, ⟨37, 4, Cell.tok 106 TyS.whyw (A.nlen TyS.whyw [WhyW.mk (ByteArray.mk (Array.mk [114, 111, 117, 116, 101, 115])) (A.cmp BinOp.gtr (A.len TyS.route x0.2.9) 0), WhyW.mk (ByteArray.mk (Array.mk [103, 114, 111, 117, 112])) (A.cmp BinOp.gtr (A.len TyS.str x0.2.3) 0), WhyW.mk (ByteArray.mk (Array.mk [105, 110, 104, 105, 98, 105, 116])) (A.cmp BinOp.gtr (A.len TyS.inhibit x0.4) 0), WhyW.mk (ByteArray.mk (Array.mk [102, 111, 114])) w2, WhyW.mk (ByteArray.mk (Array.mk [107, 101, 101, 112])) w3, WhyW.mk (ByteArray.mk (Array.mk [108, 97, 98, 101, 108])) w4])⟩]) [] ?_
  rintro ⟨out4, t39⟩ gh1 g1 _ _ _ hK1 hQ1 h; cbv
  refine kj ?_
  refine bc h (fun hb h => ?_) fun hb h => ?_
  ·cbv
   refine kj ?_
   refine kk h fun c5 h => ?_
   refine kj ?_
   refine bc h (fun hb h => ?_) fun hb h => ?_
   ·cbv
    refine kj ?_
    refine kk h fun c6 h => ?_
    refine kj ?_
    cases h; exact hK1 _ _ [(4030, 49, g1.succ.succ.succ)] rfl hdy
   ·cbv
    refine kj ?_
    cases h; exact hK1 _ _ [(4030, 4030, gh1)] rfl hdy
  ·cbv
   refine hQ1 _ h _ _ fun h => ?_; cbv
   refine kj ?_
   cases h; subst hR; exact ey
theorem Aq1 {A : Ar} (hA : A = std) {x0 : Config} {r : Bool} (h : Aix A x0 = some r) : PFun cx 25 [Ag8 x0] (bl r) := by
 refine wF hA cx_ok Tryz.func25 fun P R hP hR => ?_
 cbv; unfold Aix at h
 iterate 2 refine kj ?_
 obtain ⟨w1, hw1, h⟩ := bd_e h; refine kc hP (Anz hA hw1) ?_; cbv
 iterate 2 refine cj ?_
 obtain ⟨w2, hw2, h⟩ := bd_e h; refine kg hP (fun hc => (Asg hA (gd_e hw2 hc))) ?_; cbv
 iterate 3 refine cj ?_
 exact le h hR
theorem Au2 {A : Ar} (hA : A = std) {x0 : Int} {r : ByteArray} (h : Ajp A x0 = some r) : PFun cx 290 [it .i64 x0] (st r) := by
 refine wF hA cx_ok Tryz.func290 fun P R hP hR => ?_
 cbv; unfold Ajp at h
 iterate 2 refine kj ?_
 iterate 2 (refine ⟨by subst hA; simp +contextual [vcm], ?_⟩)
 refine and_assoc.2 ?_
 refine kk h fun c1 h => ?_
 refine and_assoc.2 ?_
 refine kk h fun c2 h => ?_
 refine cj ?_
 exact le h hR
theorem Ash {A : Ar} (hA : A = std) {x0 : Int} {r : ByteArray} (h : Agm A x0 = some r) : PFun cx 218 [it .i64 x0] (st r) := by
 refine wF hA cx_ok Tryz.func218 fun P R hP hR => ?_
 cbv; unfold Agm at h
 iterate 2 refine kj ?_
 refine ⟨by subst hA; simp +contextual [vcm], ?_⟩
 obtain ⟨w1, hw1, h⟩ := bd_e h; refine kc hP (Au2 hA hw1) ?_; cbv
 refine kk h fun c2 h => ?_
 refine ⟨by subst hA; simp +contextual [vcm], ?_⟩
 obtain ⟨w3, hw3, h⟩ := bd_e h; refine kc hP (Au2 hA hw3) ?_; cbv
 refine kk h fun c4 h => ?_
 exact le h hR
theorem A0m {A : Ar} (hA : A = std) {x0 : Hours} {r : ByteArray × Int} (h : Aiy A x0 = some r) : PFun cx 129 [Agg x0] (.tu [st r.1, it .i64 r.2]) := by
 refine wF hA cx_ok Tryz.func129 fun P R hP hR => ?_
 cbv; unfold Aiy at h
 iterate 2 refine kj ?_
 obtain ⟨w1, hw1, h⟩ := bd_e h; refine kc hP (Ase hA hw1) ?_; cbv
 refine bc h (fun hb h => ?_) fun hb h => ?_
 ·cbv
  refine kj ?_
  cases h; subst hR; exact ey
 ·cbv
  iterate 2 refine kj ?_
  refine kl h (fun x gh => [(4, .os 4030 gh TyS.str x.1), (11, it .i64 x.2)]) (fun x gh => [⟨4030, gh, .tok 9 TyS.str (A.nlen TyS.str x.1)⟩, ⟨1, 0, .box 67 [st x0.1, it .i64 x0.2, it .i64 x0.3, it .i64 x0.4]⟩]) [] ?_
  rintro ⟨l4, t11⟩ gh1 g1 _ _ _ hK1 hQ1 h; cbv
  refine kj ?_
  refine bc h (fun hb h => ?_) fun hb h => ?_
  ·cbv
   refine kj ?_
   refine kk h fun c2 h => ?_
   refine kj ?_
   refine kk h fun c3 h => ?_
   refine bc h (fun hb h => ?_) fun hb h => ?_
   ·cbv
    refine kj ?_
    refine kk h fun c4 h => ?_
    refine kj ?_
    cases h; exact hK1 _ _ [(4030, 24, g1.succ.succ.succ)] rfl hdy
   ·cbv
    refine kj ?_
    cases h; exact hK1 _ _ [(4030, 4030, gh1)] rfl hdy
  ·cbv
   refine hQ1 _ h _ _ fun h => ?_; cbv
   refine kj ?_
   obtain ⟨w5, hw5, h⟩ := bd_e h; refine kc hP (Aog hA hw5) ?_; cbv
   refine kk h fun c6 h => ?_
   obtain ⟨w7, hw7, h⟩ := bd_e h; refine kc hP (Ash hA hw7) ?_; cbv
   refine kk h fun c8 h => ?_
   refine kk h fun c9 h => ?_
   obtain ⟨w10, hw10, h⟩ := bd_e h; refine kc hP (Ash hA hw10) ?_; cbv
   refine kk h fun c11 h => ?_
   refine kj ?_
   cases h; subst hR; exact ey
theorem Ari {A : Ar} (hA : A = std) {x0 : Hours} {r : Def} (h : Aih A x0 = some r) : PFun cx 170 [Agg x0] (defPV r) := by
 refine wF hA cx_ok Tryz.func170 fun P R hP hR => ?_
 cbv; unfold Aih at h
 iterate 2 refine kj ?_
 obtain ⟨w1, hw1, h⟩ := bd_e h; refine kc hP (A0m hA hw1) ?_; cbv
 refine kj ?_
 exact le h hR
theorem Asy {A : Ar} (hA : A = std) {x0 : ByteArray} {r : Def} (h : Ah1 A x0 = some r) : PFun cx 171 [st x0] (defPV r) := by
 refine wF hA cx_ok Tryz.func171 fun P R hP hR => ?_
 cbv; unfold Ah1 at h
 iterate 2 refine kj ?_
 exact le h hR
theorem Apq {A : Ar} (hA : A = std) {x0 : Def} {x1 : ByteArray} {x2 : List ByteArray} {r : Def} (h : Afe A x0 x1 x2 = some r) : PFunM cx 259 [.ag [st x0.1, .os 1000 0 TyS.str x0.2, .os 1001 0 TyS.str x0.3], st x1, .d (.sl TyS.str x2)] [⟨1000, 0, .tok 9 TyS.str (A.nlen TyS.str x0.2)⟩, ⟨1001, 0, .tok 9 TyS.str (A.nlen TyS.str x0.3)⟩] (defPV r) [] := by
 refine PFunM.walkM (fz := fun _ => false) hA cx_ok Tryz.func259 rfl rfl fun P R hP hR => ?_
 cbv; unfold Afe at h
 iterate 2 refine kj ?_
 refine kl h (fun x _ => [(11, it .i64 x.1)]) (fun x gh => [⟨4031, gh, .tok 9 TyS.str (A.nlen TyS.str x.2.1)⟩, ⟨4032, gh, .tok 9 TyS.str (A.nlen TyS.str x.2.2)⟩, ⟨6, 2, .box 118 [PV.d (D.v (Value.string (ByteArray.mk (Array.mk [])))), PV.d (D.v (Value.slice none 0 0)), PV.d (D.v (Value.slice none 0 0))]⟩, ⟨3, 2, .box 118 [st x0.1, .os 4031 gh TyS.str x.2.1, .os 4032 gh TyS.str x.2.2]⟩]) [(4031, 1000, 0), (4032, 1001, 0)] ?_
 rintro ⟨t11, b1_3, b2_3⟩ gh1 g1 _ _ _ hK1 hQ1 h; cbv
 refine kj ?_
 refine bc h (fun hb h => ?_) fun hb h => ?_
 ·cbv
  refine kj ?_
  refine kk h fun c1 h => ?_
  refine kj ?_
  obtain ⟨w2, hw2, h⟩ := bd_e h; refine kc hP (Ach hA hw2) ?_; cbv
  refine kk h fun c3 h => ?_
  refine kk h fun c4 h => ?_
  refine kk h fun c5 h => ?_
  iterate 2 refine kj ?_
  cases h; exact hK1 _ _ [(4031, 23, g1.succ.succ), (4032, 28, g1.succ.succ)] rfl hdy
 ·cbv
  refine hQ1 _ h _ _ fun h => ?_; cbv
  refine kj ?_
  cases h
  refine hR _ _ ⟨[], ⟨by rfl, ez, by rfl, ez⟩⟩
theorem Asz {A : Ar} (hA : A = std) {x0 : Route} {r : Def} (h : Af9 A x0 = some r) : PFun cx 172 [Ab3 x0] (defPV r) := by
 refine wF hA cx_ok Tryz.func172 fun P R hP hR => ?_
 cbv; unfold Af9 at h
 iterate 2 refine kj ?_
 obtain ⟨w1, hw1, h⟩ := bd_e h; refine kc hP (Ach hA hw1) ?_; cbv
 obtain ⟨w2, hw2, h⟩ := bd_e h; refine kc hP (Ach hA hw2) ?_; cbv
 obtain ⟨w3, hw3, h⟩ := bd_e h; refine kc hP (Ach hA hw3) ?_; cbv
 iterate 2 refine kj ?_
 obtain ⟨w4, hw4, h⟩ := bd_e h; refine km hP [(4, 1), (16, 1)] (Apq hA hw4) ?_; cbv
 exact le h hR
theorem Aym {A : Ar} (hA : A = std) {x0 : List Label} {r : List label_mark} (h : Aoa A x0 = some r) : PFun cx 282 [.d (.sl TyS.label x0)] (.d (.sl TyS.mark r)) := by
 refine wF hA cx_ok Tryz.func282 fun P R hP hR => ?_
 cbv; unfold Aoa at h
 iterate 3 refine kj ?_
 refine kl h (fun x gh => [(3, .os 4030 gh TyS.mark x.1), (8, it .i64 x.2)]) (fun x gh => [⟨4030, gh, .tok 254 TyS.mark (A.nlen TyS.mark x.1)⟩]) [] ?_
 rintro ⟨out3, t8⟩ gh1 g1 _ _ _ hK1 hQ1 h; cbv
 refine kj ?_
 refine bc h (fun hb h => ?_) fun hb h => ?_
 ·cbv
  refine kj ?_
  refine kk h fun c1 h => ?_
  refine kj ?_
  refine kk h fun c2 h => ?_
  refine kj ?_
  cases h; exact hK1 _ _ [(4030, 15, g1.succ.succ)] rfl hdy
 ·cbv
  refine hQ1 _ h _ _ fun h => ?_; cbv
  refine kj ?_
  cases h; subst hR; exact ey
theorem Atm {A : Ar} (hA : A = std) {x0 : label_mark} {r : ByteArray} (h : Aeb A x0 = some r) : PFun cx 283 [A2y x0] (st r) := by
 refine wF hA cx_ok Tryz.func283 fun P R hP hR => ?_
 cbv; unfold Aeb at h
 iterate 2 refine kj ?_
 refine kk h fun c1 h => ?_
 obtain ⟨w2, hw2, h⟩ := bd_e h; refine kc hP (Amu hA hw2) ?_; cbv
 obtain ⟨w3, hw3, h⟩ := bd_e h; refine kc hP (Amu hA hw3) ?_; cbv
 refine kk h fun c4 h => ?_
 refine kk h fun c5 h => ?_
 refine kj ?_
 exact le h hR
theorem A0n {A : Ar} (hA : A = std) {x0 : List Label} {r : ByteArray × Int} (h : Aly A x0 = some r) : PFun cx 215 [.d (.sl TyS.label x0)] (.tu [st r.1, it .i64 r.2]) := by
 refine wF hA cx_ok Tryz.func215 fun P R hP hR => ?_
 cbv; unfold Aly at h
 iterate 2 refine kj ?_
 obtain ⟨w1, hw1, h⟩ := bd_e h; refine kc hP (Ah5 hA hw1) ?_; cbv
 refine bc h (fun hb h => ?_) fun hb h => ?_
 ·cbv
  refine kj ?_
  cases h; subst hR; exact ey
 ·cbv
  iterate 2 refine kj ?_
  obtain ⟨w2, hw2, h⟩ := bd_e h; refine kc hP (Aym hA hw2) ?_; cbv
  refine kl h (fun x gh => [(4, .os 4030 gh TyS.str x.1), (13, it .i64 x.2)]) (fun x gh => [⟨4030, gh, .tok 9 TyS.str (A.nlen TyS.str x.1)⟩]) [] ?_
  rintro ⟨parts4, t13⟩ gh1 g1 _ _ _ hK1 hQ1 h; cbv
  refine kj ?_
  refine bc h (fun hb h => ?_) fun hb h => ?_
  ·cbv
   refine kj ?_
   refine kk h fun c3 h => ?_
   refine kj ?_
   obtain ⟨w4, hw4, h⟩ := bd_e h; refine kc hP (Atm hA hw4) ?_; cbv
   refine kk h fun c5 h => ?_
   refine kj ?_
   cases h; exact hK1 _ _ [(4030, 21, g1.succ.succ)] rfl hdy
  ·cbv
   refine hQ1 _ h _ _ fun h => ?_; cbv
   refine kj ?_
   obtain ⟨w6, hw6, h⟩ := bd_e h; refine kc hP (Aog hA hw6) ?_; cbv
   refine kk h fun c7 h => ?_
   refine kk h fun c8 h => ?_
   cases h; subst hR; exact ey
theorem A0o {A : Ar} (hA : A = std) {r : Unit} (h : Ar1 A = some r) : PFun cx 216 [] (.ag [.d (.v (.string (ByteArray.mk (Array.mk [])))), .d (.v .nilFunc), .d (.v (.string (ByteArray.mk (Array.mk [62])))), .d (.v (.func (.func 284) (Array.mk []) (Array.mk []))), .d (.v (.string (ByteArray.mk (Array.mk [62, 61])))), .d (.v (.func (.func 285) (Array.mk []) (Array.mk []))), .d (.v (.string (ByteArray.mk (Array.mk [60])))), .d (.v (.func (.func 286) (Array.mk []) (Array.mk []))), .d (.v (.string (ByteArray.mk (Array.mk [60, 61])))), .d (.v (.func (.func 287) (Array.mk []) (Array.mk []))), .d (.v (.string (ByteArray.mk (Array.mk [61, 61])))), .d (.v (.func (.func 288) (Array.mk []) (Array.mk [])))]) := by
 refine wF hA cx_ok Tryz.func216 fun P R hP hR => ?_
 cbv; unfold Ar1 at h
 iterate 2 refine kj ?_
 cases h; subst hR; exact ey
theorem Ayn {A : Ar} (hA : A = std) {x0 : Rule} {r : (List ByteArray) × Int} (h : Aob A x0 = some r) : PFun cx 128 [Ahj x0] (.tu [.d (.sl TyS.str r.1), it .i64 r.2]) := by
 refine wF hA cx_ok Tryz.func128 fun P R hP hR => ?_
 cbv; unfold Aob at h
 iterate 2 refine kj ?_
 obtain ⟨w1, hw1, h⟩ := bd_e h; refine kc hP (Asd hA hw1) ?_; cbv
 refine bc h (fun hb h => ?_) fun hb h => ?_
 ·cbv
  refine kj ?_
  cases h; subst hR; exact ey
 ·cbv
  refine kj ?_
  obtain ⟨w2, hw2, h⟩ := bd_e h; refine kc hP (A0n hA hw2) ?_; cbv
  refine kj ?_
  obtain ⟨w3, hw3, h⟩ := bd_e h; refine kc hP (A0o hA hw3) ?_; cbv
  refine kk h fun c4 h => ?_
  iterate 2 refine kj ?_
  refine kl h (fun x gh => [(6, .os 4030 gh TyS.str x.1), (38, it .i64 x.2)]) (fun x gh => [⟨4030, gh, .tok 9 TyS.str (A.nlen TyS.str x.1)⟩, ⟨1, 0, .box 36 [st x0.1, st x0.2, it .i64 x0.3, it .i64 x0.4, it .i64 x0.5, it .i64 x0.6, it .i64 x0.7, .d (.sl .label x0.8)]⟩, ⟨36, 4, Cell.tok 3 TyS.int (A.nlen TyS.int [x0.4, x0.5, x0.6, x0.7])⟩]) [(4030, 27, 3)] ?_
  rintro ⟨out6, t38⟩ gh1 g1 _ _ _ hK1 hQ1 h; cbv
  refine kj ?_
  refine bc h (fun hb h => ?_) fun hb h => ?_
  ·cbv
   refine kj ?_
   refine kk h fun c5 h => ?_
   refine kj ?_
   obtain ⟨w6, hw6, h⟩ := bd_e h; refine kc hP (Ach hA hw6) ?_; cbv
   refine kk h fun c7 h => ?_
   refine kj ?_
   cases h; exact hK1 _ _ [(4030, 46, g1.succ.succ)] rfl hdy
  ·cbv
   refine hQ1 _ h _ _ fun h => ?_; cbv
   refine kj ?_
   refine kk h fun c8 h => ?_
   cases h; subst hR; exact ey
theorem As0 {A : Ar} (hA : A = std) {x0 : Rule} {r : Def} (h : Ah2 A x0 = some r) : PFun cx 173 [Ahj x0] (defPV r) := by
 refine wF hA cx_ok Tryz.func173 fun P R hP hR => ?_
 cbv; unfold Ah2 at h
 iterate 2 refine kj ?_
 obtain ⟨w1, hw1, h⟩ := bd_e h; refine kc hP (Ayn hA hw1) ?_; cbv
 refine kj ?_
 refine bc h (fun hb h => ?_) fun hb h => ?_
 ·cbv
  refine kj ?_
  exact le h hR
 ·cbv
  refine kj ?_
  refine kk h fun c2 h => ?_
  refine kk h fun c3 h => ?_
  refine kk h fun c4 h => ?_
  refine kk h fun c5 h => ?_
  refine kk h fun c6 h => ?_
  iterate 3 refine kj ?_
  refine kl h (fun x gh => [(6, .os 4030 gh TyS.str x.1), (39, it .i64 x.2)]) (fun x gh => [⟨4030, gh, .tok 9 TyS.str (A.nlen TyS.str x.1)⟩, ⟨5, 3, .box 118 [PV.d (D.v (Value.string (ByteArray.mk (Array.mk [115, 101, 114, 118, 105, 99, 101])))), PV.os 18 3 TyS.str [ByteArray.mk (Array.mk [110, 97, 109, 101]), ByteArray.mk (Array.mk [109, 101, 116, 114, 105, 99]), ByteArray.mk (Array.mk [99, 104, 101, 99, 107]), ByteArray.mk (Array.mk [108, 105, 109, 105, 116]), ByteArray.mk (Array.mk [97, 116, 116, 101, 109, 112, 116, 115])], PV.os 34 3 TyS.str [A.get TyS.str w1.1 0, A.get TyS.str w1.1 1, A.get TyS.str w1.1 2, A.get TyS.str w1.1 3, A.get TyS.str w1.1 6]]⟩, ⟨2, 0, .box 118 [PV.d (D.v (Value.string (ByteArray.mk (Array.mk [])))), PV.d (D.v (Value.slice none 0 0)), PV.d (D.v (Value.slice none 0 0))]⟩, ⟨1, 0, .box 36 [st x0.1, st x0.2, it .i64 x0.3, it .i64 x0.4, it .i64 x0.5, it .i64 x0.6, it .i64 x0.7, .d (.sl .label x0.8)]⟩, ⟨34, 3, Cell.tok 9 TyS.str (A.nlen TyS.str [A.get TyS.str w1.1 0, A.get TyS.str w1.1 1, A.get TyS.str w1.1 2, A.get TyS.str w1.1 3, A.get TyS.str w1.1 6])⟩, ⟨18, 3, Cell.tok 9 TyS.str (A.nlen TyS.str [ByteArray.mk (Array.mk [110, 97, 109, 101]), ByteArray.mk (Array.mk [109, 101, 116, 114, 105, 99]), ByteArray.mk (Array.mk [99, 104, 101, 99, 107]), ByteArray.mk (Array.mk [108, 105, 109, 105, 116]), ByteArray.mk (Array.mk [97, 116, 116, 101, 109, 112, 116, 115])])⟩]) [] ?_
  rintro ⟨l6, t39⟩ gh1 g1 _ _ _ hK1 hQ1 h; cbv
  refine kj ?_
  refine bc h (fun hb h => ?_) fun hb h => ?_
  ·cbv
   refine kj ?_
   refine kk h fun c7 h => ?_
   refine kj ?_
   refine kk h fun c8 h => ?_
   refine kk h fun c9 h => ?_
   refine kk h fun c10 h => ?_
   refine kj ?_
   cases h; exact hK1 _ _ [(4030, 51, g1.succ.succ)] rfl hdy
  ·cbv
   refine hQ1 _ h _ _ fun h => ?_; cbv
   refine kj ?_
   obtain ⟨w11, hw11, h⟩ := bd_e h; refine km hP [(18, 3), (34, 3)] (Apq hA hw11) ?_; cbv
   exact le h hR
theorem Auk {A : Ar} (hA : A = std) {x0 : Config} {r : List Def} (h : Ag5 A x0 = some r) : PFun cx 89 [Ag8 x0] (.d (.sl TyS.dfn r)) := by
 refine wF hA cx_ok Tryz.func89 fun P R hP hR => ?_
 cbv; unfold Ag5 at h
 iterate 3 refine kj ?_
 refine kl h (fun x gh => [(3, .os 4030 gh TyS.dfn x.1), (13, it .i64 x.2)]) (fun x gh => [⟨4030, gh, .tok 118 TyS.dfn (A.nlen TyS.dfn x.1)⟩, ⟨1, 0, .box 31 [.d (.sl .rule x0.1), st x0.2.1, .d (.sl .matcher x0.2.2), .d (.sl .str x0.2.3), it .i64 x0.2.4, it .i64 x0.2.5, it .i64 x0.2.6, .d (.sl .str x0.2.7), bl x0.2.8, .d (.sl .route x0.2.9), .d (.sl .str x0.3), .d (.sl .inhibit x0.4), .d (.sl .hours x0.5)]⟩]) [] ?_
 rintro ⟨out3, t13⟩ gh1 g1 _ _ _ hK1 hQ1 h; cbv
 refine kj ?_
 refine bc h (fun hb h => ?_) fun hb h => ?_
 ·cbv
  refine kj ?_
  refine kk h fun c1 h => ?_
  refine kj ?_
  obtain ⟨w2, hw2, h⟩ := bd_e h; refine kc hP (Ari hA hw2) ?_; cbv
  refine kk h fun c3 h => ?_
  refine kj ?_
  cases h; exact hK1 _ _ [(4030, 21, g1.succ.succ)] rfl hdy
 ·cbv
  refine hQ1 _ h _ _ fun h => ?_; cbv
  refine kj ?_
  refine kl h (fun x gh => [(3, .os 4060 gh TyS.dfn x.1), (26, it .i64 x.2)]) (fun x gh => [⟨4060, gh, .tok 118 TyS.dfn (A.nlen TyS.dfn x.1)⟩, ⟨1, 0, .box 31 [.d (.sl .rule x0.1), st x0.2.1, .d (.sl .matcher x0.2.2), .d (.sl .str x0.2.3), it .i64 x0.2.4, it .i64 x0.2.5, it .i64 x0.2.6, .d (.sl .str x0.2.7), bl x0.2.8, .d (.sl .route x0.2.9), .d (.sl .str x0.3), .d (.sl .inhibit x0.4), .d (.sl .hours x0.5)]⟩]) [(4060, 4030, gh1)] ?_
  rintro ⟨out3', t26⟩ gh2 g2 _ _ _ hK2 hQ2 h; cbv
  refine kj ?_
  refine bc h (fun hb h => ?_) fun hb h => ?_
  ·cbv
   refine kj ?_
   refine kk h fun c4 h => ?_
   refine kj ?_
   obtain ⟨w5, hw5, h⟩ := bd_e h; refine kc hP (Asy hA hw5) ?_; cbv
   refine kk h fun c6 h => ?_
   refine kj ?_
   cases h; exact hK2 _ _ [(4060, 34, g2.succ.succ)] rfl hdy
  ·cbv
   refine hQ2 _ h _ _ fun h => ?_; cbv
   refine kj ?_
   obtain ⟨w7, hw7, h⟩ := bd_e h; refine kc hP (Asz hA hw7) ?_; cbv
   refine kk h fun c8 h => ?_
   refine kj ?_
   refine kl h (fun x gh => [(3, .os 4090 gh TyS.dfn x.1), (45, it .i64 x.2)]) (fun x gh => [⟨4090, gh, .tok 118 TyS.dfn (A.nlen TyS.dfn x.1)⟩, ⟨1, 0, .box 31 [.d (.sl .rule x0.1), st x0.2.1, .d (.sl .matcher x0.2.2), .d (.sl .str x0.2.3), it .i64 x0.2.4, it .i64 x0.2.5, it .i64 x0.2.6, .d (.sl .str x0.2.7), bl x0.2.8, .d (.sl .route x0.2.9), .d (.sl .str x0.3), .d (.sl .inhibit x0.4), .d (.sl .hours x0.5)]⟩, ⟨40, g2.succ, Cell.tok 118 TyS.dfn (A.nlen TyS.dfn [w7])⟩]) [(4090, 41, g2.succ)] ?_
   rintro ⟨out3'', t45⟩ gh3 g3 _ _ _ hK3 hQ3 h; cbv
   refine kj ?_
   refine bc h (fun hb h => ?_) fun hb h => ?_
   ·cbv
    refine kj ?_
    refine kk h fun c9 h => ?_
    refine kj ?_
    obtain ⟨w10, hw10, h⟩ := bd_e h; refine kc hP (As0 hA hw10) ?_; cbv
    refine kk h fun c11 h => ?_
    refine kj ?_
    cases h; exact hK3 _ _ [(4090, 53, g3.succ.succ)] rfl hdy
   ·cbv
    refine hQ3 _ h _ _ fun h => ?_; cbv
    refine kj ?_
    cases h; subst hR; exact ey
theorem Aq9 {A : Ar} (hA : A = std) {x0 : List UInt8} {r : Int} (h : Ahr A x0 = some r) : PFunM cx 169 [.bx 1000 0 0] [⟨1000, 0, .box 147 [.np 1000 0, .os 1001 0 TyS.byte x0]⟩, ⟨1001, 0, .tok 5 TyS.byte (A.nlen TyS.byte x0)⟩] (it .i64 r) [⟨1000, 0, .box 147 [.np 1000 0, .os 1001 0 TyS.byte x0]⟩, ⟨1001, 0, .tok 5 TyS.byte (A.nlen TyS.byte x0)⟩] := by
 refine PFunM.walkM (fz := fun _ => false) hA cx_ok Tryz.func169 rfl rfl fun P R hP hR => ?_
 cbv; unfold Ahr at h
 iterate 2 refine kj ?_
 cases h
 refine hR _ _ ⟨[], ⟨by rfl, ez, by rfl, ez⟩⟩
theorem Ayo {A : Ar} (hA : A = std) {x0 : List Def} {r : ByteArray × Int} (h : Aoc A x0 = some r) : PFun cx 88 [.d (.sl TyS.dfn x0)] (.tu [st r.1, it .i64 r.2]) := by
 refine PFun.walkF (fz := fun k => k == 131076) hA cx_ok Tryz.func88 rfl rfl rfl fun P R hP hR => ?_
 cbv; unfold Aoc at h
 iterate 2 refine kj ?_
 obtain ⟨w1, hw1, h⟩ := bd_e h; refine kc hP (Al7 hA hw1) ?_; cbv
 refine bc h (fun hb h => ?_) fun hb h => ?_
 ·cbv
  refine kj ?_
  cases h; subst hR; exact ey
 ·cbv
  iterate 2 refine kj ?_
  refine kl h (fun x _ => [(14, it .i64 x.1)]) (fun x gh => [⟨4031, gh, .tok 5 TyS.byte (A.nlen TyS.byte x.2)⟩, ⟨4, 2, .box 147 [PV.np 4 2, .os 4031 gh TyS.byte x.2]⟩]) [(4031, 65540, 2)] ?_
  rintro ⟨t14, b1_4⟩ gh1 g1 _ _ _ hK1 hQ1 h; cbv
  refine kj ?_
  refine bc h (fun hb h => ?_) fun hb h => ?_
  ·cbv
   refine kj ?_
   refine kk h fun c2 h => ?_
   refine kj ?_
   refine kk h fun c3 h => ?_
   refine kk h fun c4 h => ?_
   refine kk h fun c5 h => ?_
   obtain ⟨w6, hw6, h⟩ := bd_e h; refine km hP [(4, 2), (4031, gh1)] (Ab7 hA hw6) ?_; cbv
   refine kj ?_
   refine kl h (fun x _ => [(27, it .i64 x.1)]) (fun x gh => [⟨4061, gh, .tok 5 TyS.byte (A.nlen TyS.byte x.2)⟩, ⟨4, 2, .box 147 [PV.np 4 2, .os 4061 gh TyS.byte x.2]⟩, ⟨6, g1.succ, .box 118 [PV.d (D.v (Value.string (A.get TyS.dfn x0 t14).1)), PV.d (D.sl TyS.str (A.get TyS.dfn x0 t14).2), PV.d (D.sl TyS.str (A.get TyS.dfn x0 t14).3)]⟩]) [(4061, 23, g1.succ.succ)] ?_
   rintro ⟨t27, b1_4'⟩ gh2 g2 _ _ _ hK2 hQ2 h; cbv
   refine kj ?_
   refine bc h (fun hb h => ?_) fun hb h => ?_
   ·cbv
    refine kj ?_
    refine kk h fun c7 h => ?_
    refine kj ?_
    refine kk h fun c8 h => ?_
    refine kk h fun c9 h => ?_
    refine kk h fun c10 h => ?_
    refine kk h fun c11 h => ?_
    refine kk h fun c12 h => ?_
    obtain ⟨w13, hw13, h⟩ := bd_e h; refine km hP [(4, 2), (4061, gh2)] (Ab7 hA hw13) ?_; cbv
    refine kj ?_
    cases h; exact hK2 _ _ [(4061, 42, g2.succ.succ)] rfl hdy
   ·cbv
    refine hQ2 _ h _ _ fun h => ?_; cbv
    refine kj ?_
    obtain ⟨w14, hw14, h⟩ := bd_e h; refine km hP [(4, 2), (4061, gh2)] (Ab7 hA hw14) ?_; cbv
    refine kj ?_
    cases h; exact hK1 _ _ [(4031, 44, g2.succ)] rfl hdy
  ·cbv
   refine hQ1 _ h _ _ fun h => ?_; cbv
   refine kj ?_
   obtain ⟨w15, hw15, h⟩ := bd_e h; refine km hP [(4, 2), (4031, gh1)] (Aq9 hA hw15) ?_; cbv
   refine bc h (fun hb h => ?_) fun hb h => ?_
   ·cbv
    refine kj ?_
    cases h; subst hR; exact ey
   ·cbv
    refine kj ?_
    obtain ⟨w16, hw16, h⟩ := bd_e h; refine km hP [(4, 2), (4031, gh1)] (Aj1 hA hw16) ?_; cbv
    cases h; subst hR; exact ey
theorem Apr {A : Ar} (hA : A = std) {x0 : Config} {r : ByteArray × Int} (h : Aff A x0 = some r) : PFun cx 23 [Ag8 x0] (.tu [st r.1, it .i64 r.2]) := by
 refine wF hA cx_ok Tryz.func23 fun P R hP hR => ?_
 cbv; unfold Aff at h
 iterate 2 refine kj ?_
 obtain ⟨w1, hw1, h⟩ := bd_e h; refine kc hP (Avt hA hw1) ?_; cbv
 refine kj ?_
 refine bc h (fun hb h => ?_) fun hb h => ?_
 ·cbv
  refine kj ?_
  cases h; subst hR; exact ey
 ·cbv
  refine kj ?_
  obtain ⟨w2, hw2, h⟩ := bd_e h; refine kc hP (Aq1 hA hw2) ?_; cbv
  refine bc h (fun hb h => ?_) fun hb h => ?_
  ·cbv
   refine kj ?_
   cases h; subst hR; exact ey
  ·cbv
   refine kj ?_
   obtain ⟨w3, hw3, h⟩ := bd_e h; refine kc hP (Auk hA hw3) ?_; cbv
   obtain ⟨w4, hw4, h⟩ := bd_e h; refine kc hP (Ayo hA hw4) ?_; cbv
   cases h; subst hR; exact ey
theorem Ai1 {A : Ar} (hA : A = std) {r : Bool} (h : Ac4 A = some r) : PFun cx 22 [] (bl r) := by
 refine wF hA cx_ok Tryz.func22 fun P R hP hR => ?_
 cbv; unfold Ac4 at h
 iterate 2 refine kj ?_
 obtain ⟨w1, hw1, h⟩ := bd_e h; refine ke hP (Apr hA hw1) ?_; cbv
 refine kj ?_
 iterate 2 refine cj ?_
 exact le h hR
theorem Aci {A : Ar} (hA : A = std) {x0 : ByteArray} {r : Bool} (h : Aae A x0 = some r) : PFun cx 100 [st x0] (bl r) := by
 refine wF hA cx_ok Tryz.func100 fun P R hP hR => ?_
 cbv; unfold Aae at h
 iterate 2 refine kj ?_
 refine kl h (fun x _ => [(2, bl x.1), (3, it .i64 x.2)]) (fun _ _ => []) [] ?_
 rintro ⟨t2, i3⟩ gh1 g1 _ _ _ hK1 hQ1 h; cbv
 refine kj ?_
 refine bc h (fun hb h => ?_) fun hb h => ?_
 ·cbv
  refine kj ?_
  refine kk h fun c1 h => ?_
  refine kj ?_
  iterate 6 refine cj ?_
  refine ⟨by subst hA; simp +contextual [vcm], ?_⟩
  iterate 3 refine cj ?_
  refine bc h (fun hb h => ?_) fun hb h => ?_
  ·cbv
   refine kj ?_
   refine hQ1 _ h _ _ fun h => ?_; cbv
   exact le h hR
  ·cbv
   refine kj ?_
   cases h; exact hK1 _ _ [] rfl hdy
 ·cbv
  refine hQ1 _ h _ _ fun h => ?_; cbv
  refine kj ?_
  iterate 3 refine cj ?_
  exact le h hR
theorem Ak4 {A : Ar} (hA : A = std) {x0 : Int} {r : Bool} (h : Adf A x0 = some r) : PFun cx 261 [it .i64 x0] (bl r) := by
 refine wF hA cx_ok Tryz.func261 fun P R hP hR => ?_
 cbv; unfold Adf at h
 iterate 2 refine kj ?_
 iterate 2 refine cj ?_
 exact le h hR
theorem Afc {A : Ar} (hA : A = std) {x0 : ByteArray} {r : Bool} (h : Aaz A x0 = some r) : PFun cx 179 [st x0] (bl r) := by
 refine wF hA cx_ok Tryz.func179 fun P R hP hR => ?_
 cbv; unfold Aaz at h
 iterate 2 refine kj ?_
 refine kl h (fun x _ => [(2, bl x.1), (3, it .i64 x.2)]) (fun _ _ => []) [] ?_
 rintro ⟨t2, i3⟩ gh1 g1 _ _ _ hK1 hQ1 h; cbv
 refine kj ?_
 refine bc h (fun hb h => ?_) fun hb h => ?_
 ·cbv
  refine kj ?_
  refine kk h fun c1 h => ?_
  refine kj ?_
  iterate 6 refine cj ?_
  refine ⟨by subst hA; simp +contextual [vcm], ?_⟩
  iterate 3 refine cj ?_
  refine kj ?_
  iterate 4 refine cj ?_
  refine ⟨by subst hA; simp +contextual [vcm], ?_⟩
  iterate 3 refine cj ?_
  refine ⟨by subst hA; simp +contextual [vcm], ?_⟩
  refine cj ?_
  refine bc h (fun hb h => ?_) fun hb h => ?_
  ·cbv
   refine kj ?_
   refine hQ1 _ h _ _ fun h => ?_; cbv
   exact le h hR
  ·cbv
   refine kj ?_
   cases h; exact hK1 _ _ [] rfl hdy
 ·cbv
  refine hQ1 _ h _ _ fun h => ?_; cbv
  refine kj ?_
  iterate 3 refine cj ?_
  exact le h hR
theorem Aoo {A : Ar} (hA : A = std) {x0 : ByteArray} {r : Bool} (h : Aec A x0 = some r) : PFun cx 311 [st x0] (bl r) := by
 refine wF hA cx_ok Tryz.func311 fun P R hP hR => ?_
 cbv; unfold Aec at h
 iterate 2 refine kj ?_
 refine kl h (fun x _ => [(3, it .i64 x)]) (fun _ _ => []) [] ?_
 rintro i3 gh1 g1 _ _ _ hK1 hQ1 h; cbv
 refine kj ?_
 refine bc h (fun hb h => ?_) fun hb h => ?_
 ·cbv
  refine kj ?_
  refine kk h fun c1 h => ?_
  iterate 2 refine cj ?_
  refine kk h fun c2 h => ?_
  iterate 2 refine cj ?_
  refine bc h (fun hb h => ?_) fun hb h => ?_
  ·cbv
   refine kj ?_
   refine hQ1 _ h _ _ fun h => ?_; cbv
   exact le h hR
  ·cbv
   refine kj ?_
   cases h; exact hK1 _ _ [] rfl hdy
 ·cbv
  refine hQ1 _ h _ _ fun h => ?_; cbv
  refine kj ?_
  iterate 3 refine cj ?_
  exact le h hR
theorem Adk {A : Ar} (hA : A = std) {x0 : ByteArray} {x1 : ByteArray} {r : Bool} (h : Aa0 A x0 x1 = some r) : PFun cx 180 [st x0, st x1] (bl r) := by
 refine wF hA cx_ok Tryz.func180 fun P R hP hR => ?_
 cbv; unfold Aa0 at h
 iterate 2 refine kj ?_
 refine kl h (fun x _ => [(4, bl x.1), (5, it .i64 x.2)]) (fun _ _ => []) [] ?_
 rintro ⟨t4, i5⟩ gh1 g1 _ _ _ hK1 hQ1 h; cbv
 refine kj ?_
 iterate 4 refine cj ?_
 refine bc h (fun hb h => ?_) fun hb h => ?_
 ·cbv
  refine kj ?_
  refine kk h fun c1 h => ?_
  refine kk h fun c2 h => ?_
  refine kj ?_
  refine bc h (fun hb h => ?_) fun hb h => ?_
  ·cbv
   refine kj ?_
   refine ⟨c1, ?_⟩
   refine ⟨c2, ?_⟩
   refine kj ?_
   refine hQ1 _ h _ _ fun h => ?_; cbv
   exact le h hR
  ·cbv
   refine kj ?_
   cases h; exact hK1 _ _ [] rfl hdy
 ·cbv
  refine hQ1 _ h _ _ fun h => ?_; cbv
  refine kj ?_
  exact le h hR
theorem Aop {A : Ar} (hA : A = std) {x0 : List Label} {r : Bool} (h : Ac5 A x0 = some r) : PFun cx 262 [.d (.sl TyS.label x0)] (bl r) := by
 refine wF hA cx_ok Tryz.func262 fun P R hP hR => ?_
 cbv; unfold Ac5 at h
 iterate 2 refine kj ?_
 refine kl h (fun x _ => [(7, it .i64 x)]) (fun _ _ => []) [] ?_
 rintro t7 gh1 g1 _ _ _ hK1 hQ1 h; cbv
 refine kj ?_
 refine bc h (fun hb h => ?_) fun hb h => ?_
 ·cbv
  refine kj ?_
  refine kk h fun c1 h => ?_
  refine kj ?_
  obtain ⟨w2, hw2, h⟩ := bd_e h; refine kc hP (Afc hA hw2) ?_; cbv
  iterate 3 refine cj ?_
  obtain ⟨w3, hw3, h⟩ := bd_e h; refine kg hP (fun hc => (Aoo hA (gd_e hw3 hc))) ?_; cbv
  iterate 7 refine cj ?_
  refine kk h fun c4 h => ?_
  iterate 6 refine cj ?_
  obtain ⟨w5, hw5, h⟩ := bd_e h; refine kg hP (fun hc => (Adk hA (gd_e hw5 hc))) ?_; cbv
  iterate 2 refine cj ?_
  refine ⟨by subst hA; simp +contextual [vcm], ?_⟩
  refine cj ?_
  refine kj ?_
  refine bc h (fun hb h => ?_) fun hb h => ?_
  ·cbv
   refine kj ?_
   refine hQ1 _ h _ _ fun h => ?_; cbv
   exact le h hR
  ·cbv
   refine kj ?_
   cases h; exact hK1 _ _ [] rfl hdy
 ·cbv
  refine hQ1 _ h _ _ fun h => ?_; cbv
  refine kj ?_
  exact le h hR
theorem Aoq {A : Ar} (hA : A = std) {x0 : Rule} {r : Bool} (h : Aed A x0 = some r) : PFun cx 177 [Ahj x0] (bl r) := by
 refine wF hA cx_ok Tryz.func177 fun P R hP hR => ?_
 cbv; unfold Aed at h
 iterate 2 refine kj ?_
 refine kl h (fun x _ => [(8, it .i64 x)]) (fun x gh => [⟨1, 0, .box 36 [st x0.1, st x0.2, it .i64 x0.3, it .i64 x0.4, it .i64 x0.5, it .i64 x0.6, it .i64 x0.7, .d (.sl .label x0.8)]⟩]) [] ?_
 rintro t8 gh1 g1 _ _ _ hK1 hQ1 h; cbv
 refine kj ?_
 refine bc h (fun hb h => ?_) fun hb h => ?_
 ·cbv
  refine kj ?_
  refine kk h fun c1 h => ?_
  refine kj ?_
  refine bc h (fun hb h => ?_) fun hb h => ?_
  ·cbv
   refine kj ?_
   refine hQ1 _ h _ _ fun h => ?_; cbv
   exact le h hR
  ·cbv
   refine kj ?_
   cases h; exact hK1 _ _ [] rfl hdy
 ·cbv
  refine hQ1 _ h _ _ fun h => ?_; cbv
  refine kj ?_
  obtain ⟨w2, hw2, h⟩ := bd_e h; refine kc hP (Aci hA hw2) ?_; cbv
  iterate 3 refine cj ?_
  obtain ⟨w3, hw3, h⟩ := bd_e h; refine kg hP (fun hc => (Aci hA (gd_e hw3 hc))) ?_; cbv
  iterate 18 refine cj ?_
  refine bc h (fun hb h => ?_) fun hb h => ?_
  ·cbv
   refine kj ?_
   exact le h hR
  ·cbv
   refine kj ?_
   iterate 4 refine cj ?_
   refine bc h (fun hb h => ?_) fun hb h => ?_
   ·cbv
    refine kj ?_
    exact le h hR
   ·cbv
    refine kj ?_
    obtain ⟨w4, hw4, h⟩ := bd_e h; refine kc hP (Ak4 hA hw4) ?_; cbv
    iterate 3 refine cj ?_
    obtain ⟨w5, hw5, h⟩ := bd_e h; refine kg hP (fun hc => (Ak4 hA (gd_e hw5 hc))) ?_; cbv
    iterate 9 refine cj ?_
    obtain ⟨w6, hw6, h⟩ := bd_e h; refine kg hP (fun hc => (Aop hA (gd_e hw6 hc))) ?_; cbv
    refine cj ?_
    exact le h hR
theorem Afx {A : Ar} (hA : A = std) {x0 : List ByteArray} {x1 : ByteArray} {r : Bool} (h : Ab8 A x0 x1 = some r) : PFun cx 104 [.d (.sl TyS.str x0), st x1] (bl r) := by
 refine wF hA cx_ok Tryz.func104 fun P R hP hR => ?_
 cbv; unfold Ab8 at h
 iterate 2 refine kj ?_
 refine kl h (fun x _ => [(9, it .i64 x)]) (fun _ _ => []) [] ?_
 rintro t9 gh1 g1 _ _ _ hK1 hQ1 h; cbv
 refine kj ?_
 refine bc h (fun hb h => ?_) fun hb h => ?_
 ·cbv
  refine kj ?_
  refine kk h fun c1 h => ?_
  refine kj ?_
  refine bc h (fun hb h => ?_) fun hb h => ?_
  ·cbv
   refine kj ?_
   refine hQ1 _ h _ _ fun h => ?_; cbv
   exact le h hR
  ·cbv
   refine kj ?_
   cases h; exact hK1 _ _ [] rfl hdy
 ·cbv
  refine hQ1 _ h _ _ fun h => ?_; cbv
  refine kj ?_
  exact le h hR
theorem Ag2 {A : Ar} (hA : A = std) {x0 : List ByteArray} {r : Bool} (h : Acl A x0 = some r) : PFun cx 99 [.d (.sl TyS.str x0)] (bl r) := by
 refine wF hA cx_ok Tryz.func99 fun P R hP hR => ?_
 cbv; unfold Acl at h
 iterate 2 refine kj ?_
 refine kl h (fun x _ => [(7, it .i64 x)]) (fun _ _ => []) [] ?_
 rintro t7 gh1 g1 _ _ _ hK1 hQ1 h; cbv
 refine kj ?_
 refine bc h (fun hb h => ?_) fun hb h => ?_
 ·cbv
  refine kj ?_
  refine kk h fun c1 h => ?_
  refine kj ?_
  refine kk h fun c2 h => ?_
  obtain ⟨w3, hw3, h⟩ := bd_e h; refine kc hP (Afx hA hw3) ?_; cbv
  refine bc h (fun hb h => ?_) fun hb h => ?_
  ·cbv
   refine kj ?_
   refine hQ1 _ h _ _ fun h => ?_; cbv
   exact le h hR
  ·cbv
   refine kj ?_
   cases h; exact hK1 _ _ [] rfl hdy
 ·cbv
  refine hQ1 _ h _ _ fun h => ?_; cbv
  refine kj ?_
  exact le h hR
theorem Ai2 {A : Ar} (hA : A = std) {x0 : List Rule} {r : (List ByteArray) × Bool} (h : Ac6 A x0 = some r) : PFun cx 97 [.d (.sl TyS.rule x0)] (.tu [.d (.sl TyS.str r.1), bl r.2]) := by
 refine wF hA cx_ok Tryz.func97 fun P R hP hR => ?_
 cbv; unfold Ac6 at h
 iterate 3 refine kj ?_
 refine kl h (fun x gh => [(4, .os 4030 gh TyS.str x.1), (10, it .i64 x.2)]) (fun x gh => [⟨4030, gh, .tok 9 TyS.str (A.nlen TyS.str x.1)⟩]) [(4030, 7, 1)] ?_
 rintro ⟨out4, t10⟩ gh1 g1 _ _ _ hK1 hQ1 h; cbv
 refine kj ?_
 refine bc h (fun hb h => ?_) fun hb h => ?_
 ·cbv
  refine kj ?_
  refine kk h fun c1 h => ?_
  refine kj ?_
  obtain ⟨w2, hw2, h⟩ := bd_e h; refine kc hP (Aoq hA hw2) ?_; cbv
  refine bc h (fun hb h => ?_) fun hb h => ?_
  ·cbv
   refine kj ?_
   refine hQ1 _ h _ _ fun h => ?_; cbv
   cases h; subst hR; exact ey
  ·cbv
   refine kj ?_
   refine kk h fun c3 h => ?_
   refine kj ?_
   cases h; exact hK1 _ _ [(4030, 21, g1.succ.succ.succ)] rfl hdy
 ·cbv
  refine hQ1 _ h _ _ fun h => ?_; cbv
  refine kj ?_
  refine cj ?_
  obtain ⟨w4, hw4, h⟩ := bd_e h; refine kg hP (fun hc => (Ag2 hA (gd_e hw4 hc))) ?_; cbv
  refine cj ?_
  cases h; subst hR; exact ey
theorem Aor {A : Ar} (hA : A = std) {x0 : Hours} {r : Bool} (h : Aee A x0 = some r) : PFun cx 178 [Agg x0] (bl r) := by
 refine wF hA cx_ok Tryz.func178 fun P R hP hR => ?_
 cbv; unfold Aee at h
 iterate 2 refine kj ?_
 obtain ⟨w1, hw1, h⟩ := bd_e h; refine kc hP (Aci hA hw1) ?_; cbv
 iterate 27 refine cj ?_
 exact le h hR
theorem Ai3 {A : Ar} (hA : A = std) {x0 : List Hours} {r : (List ByteArray) × Bool} (h : Aa4 A x0 = some r) : PFun cx 98 [.d (.sl TyS.hours x0)] (.tu [.d (.sl TyS.str r.1), bl r.2]) := by
 refine wF hA cx_ok Tryz.func98 fun P R hP hR => ?_
 cbv; unfold Aa4 at h
 iterate 3 refine kj ?_
 refine kl h (fun x gh => [(4, .os 4030 gh TyS.str x.1), (10, it .i64 x.2)]) (fun x gh => [⟨4030, gh, .tok 9 TyS.str (A.nlen TyS.str x.1)⟩]) [(4030, 7, 1)] ?_
 rintro ⟨out4, t10⟩ gh1 g1 _ _ _ hK1 hQ1 h; cbv
 refine kj ?_
 refine bc h (fun hb h => ?_) fun hb h => ?_
 ·cbv
  refine kj ?_
  refine kk h fun c1 h => ?_
  refine kj ?_
  obtain ⟨w2, hw2, h⟩ := bd_e h; refine kc hP (Aor hA hw2) ?_; cbv
  refine bc h (fun hb h => ?_) fun hb h => ?_
  ·cbv
   refine kj ?_
   refine hQ1 _ h _ _ fun h => ?_; cbv
   cases h; subst hR; exact ey
  ·cbv
   refine kj ?_
   refine kk h fun c3 h => ?_
   refine kj ?_
   cases h; exact hK1 _ _ [(4030, 21, g1.succ.succ.succ)] rfl hdy
 ·cbv
  refine hQ1 _ h _ _ fun h => ?_; cbv
  refine kj ?_
  refine cj ?_
  obtain ⟨w4, hw4, h⟩ := bd_e h; refine kg hP (fun hc => (Ag2 hA (gd_e hw4 hc))) ?_; cbv
  refine cj ?_
  cases h; subst hR; exact ey
theorem Ao8 {A : Ar} (hA : A = std) {x0 : ByteArray} {r : Bool} (h : Ae0 A x0 = some r) : PFun cx 312 [st x0] (bl r) := by
 refine wF hA cx_ok Tryz.func312 fun P R hP hR => ?_
 cbv; unfold Ae0 at h
 iterate 2 refine kj ?_
 refine kl h (fun x _ => [(2, bl x.1), (3, it .i64 x.2)]) (fun _ _ => []) [] ?_
 rintro ⟨t2, i3⟩ gh1 g1 _ _ _ hK1 hQ1 h; cbv
 refine kj ?_
 refine bc h (fun hb h => ?_) fun hb h => ?_
 ·cbv
  refine kj ?_
  refine kk h fun c1 h => ?_
  refine kj ?_
  iterate 6 refine cj ?_
  refine ⟨by subst hA; simp +contextual [vcm], ?_⟩
  iterate 5 refine cj ?_
  refine ⟨by subst hA; simp +contextual [vcm], ?_⟩
  refine cj ?_
  refine kj ?_
  iterate 10 refine cj ?_
  refine bc h (fun hb h => ?_) fun hb h => ?_
  ·cbv
   refine kj ?_
   refine hQ1 _ h _ _ fun h => ?_; cbv
   exact le h hR
  ·cbv
   refine kj ?_
   cases h; exact hK1 _ _ [] rfl hdy
 ·cbv
  refine hQ1 _ h _ _ fun h => ?_; cbv
  refine kj ?_
  exact le h hR
theorem Ai4 {A : Ar} (hA : A = std) {x0 : Matcher} {r : Bool} (h : Abi A x0 = some r) : PFun cx 263 [Aj0 x0] (bl r) := by
 refine wF hA cx_ok Tryz.func263 fun P R hP hR => ?_
 cbv; unfold Abi at h
 iterate 2 refine kj ?_
 refine kl h (fun x _ => [(8, it .i64 x)]) (fun x gh => [⟨1, 0, .box 99 [st x0.1, it .i64 x0.2, .d (.sl .str x0.3)]⟩]) [] ?_
 rintro t8 gh1 g1 _ _ _ hK1 hQ1 h; cbv
 refine kj ?_
 refine bc h (fun hb h => ?_) fun hb h => ?_
 ·cbv
  refine kj ?_
  refine kk h fun c1 h => ?_
  refine kj ?_
  obtain ⟨w2, hw2, h⟩ := bd_e h; refine kc hP (Ao8 hA hw2) ?_; cbv
  iterate 7 refine cj ?_
  refine kk h fun c3 h => ?_
  iterate 3 refine cj ?_
  obtain ⟨w4, hw4, h⟩ := bd_e h; refine kg hP (fun hc => (Adk hA (gd_e hw4 hc))) ?_; cbv
  iterate 2 refine cj ?_
  refine ⟨by subst hA; simp +contextual [vcm], ?_⟩
  refine cj ?_
  refine bc h (fun hb h => ?_) fun hb h => ?_
  ·cbv
   refine kj ?_
   refine hQ1 _ h _ _ fun h => ?_; cbv
   exact le h hR
  ·cbv
   refine kj ?_
   cases h; exact hK1 _ _ [] rfl hdy
 ·cbv
  refine hQ1 _ h _ _ fun h => ?_; cbv
  refine kj ?_
  obtain ⟨w5, hw5, h⟩ := bd_e h; refine kc hP (Afc hA hw5) ?_; cbv
  iterate 18 refine cj ?_
  refine bc h (fun hb h => ?_) fun hb h => ?_
  ·cbv
   refine kj ?_
   exact le h hR
  ·cbv
   refine kj ?_
   iterate 5 refine cj ?_
   exact le h hR
theorem Ahx {A : Ar} (hA : A = std) {x0 : List Matcher} {r : Bool} (h : Aa1 A x0 = some r) : PFun cx 181 [.d (.sl TyS.matcher x0)] (bl r) := by
 refine wF hA cx_ok Tryz.func181 fun P R hP hR => ?_
 cbv; unfold Aa1 at h
 iterate 2 refine kj ?_
 refine kl h (fun x _ => [(7, it .i64 x)]) (fun _ _ => []) [] ?_
 rintro t7 gh1 g1 _ _ _ hK1 hQ1 h; cbv
 refine kj ?_
 refine bc h (fun hb h => ?_) fun hb h => ?_
 ·cbv
  refine kj ?_
  refine kk h fun c1 h => ?_
  refine kj ?_
  obtain ⟨w2, hw2, h⟩ := bd_e h; refine kc hP (Ai4 hA hw2) ?_; cbv
  refine bc h (fun hb h => ?_) fun hb h => ?_
  ·cbv
   refine kj ?_
   refine hQ1 _ h _ _ fun h => ?_; cbv
   exact le h hR
  ·cbv
   refine kj ?_
   cases h; exact hK1 _ _ [] rfl hdy
 ·cbv
  refine hQ1 _ h _ _ fun h => ?_; cbv
  refine kj ?_
  exact le h hR
theorem Anb {A : Ar} (hA : A = std) {x0 : Inhibit} {r : Bool} (h : Ack A x0 = some r) : PFun cx 101 [Agy x0] (bl r) := by
 refine wF hA cx_ok Tryz.func101 fun P R hP hR => ?_
 cbv; unfold Ack at h
 iterate 2 refine kj ?_
 refine kl h (fun x _ => [(8, it .i64 x)]) (fun x gh => [⟨1, 0, .box 63 [.d (.sl .matcher x0.1), .d (.sl .matcher x0.2), .d (.sl .str x0.3)]⟩]) [] ?_
 rintro t8 gh1 g1 _ _ _ hK1 hQ1 h; cbv
 refine kj ?_
 refine bc h (fun hb h => ?_) fun hb h => ?_
 ·cbv
  refine kj ?_
  refine kk h fun c1 h => ?_
  refine kj ?_
  obtain ⟨w2, hw2, h⟩ := bd_e h; refine kc hP (Afc hA hw2) ?_; cbv
  iterate 7 refine cj ?_
  refine kk h fun c3 h => ?_
  iterate 3 refine cj ?_
  obtain ⟨w4, hw4, h⟩ := bd_e h; refine kg hP (fun hc => (Adk hA (gd_e hw4 hc))) ?_; cbv
  iterate 2 refine cj ?_
  refine ⟨by subst hA; simp +contextual [vcm], ?_⟩
  refine cj ?_
  refine bc h (fun hb h => ?_) fun hb h => ?_
  ·cbv
   refine kj ?_
   refine hQ1 _ h _ _ fun h => ?_; cbv
   exact le h hR
  ·cbv
   refine kj ?_
   cases h; exact hK1 _ _ [] rfl hdy
 ·cbv
  refine hQ1 _ h _ _ fun h => ?_; cbv
  refine kj ?_
  iterate 13 refine cj ?_
  obtain ⟨w5, hw5, h⟩ := bd_e h; refine kg hP (fun hc => (Ahx hA (gd_e hw5 hc))) ?_; cbv
  iterate 4 refine cj ?_
  obtain ⟨w6, hw6, h⟩ := bd_e h; refine kg hP (fun hc => (Ahx hA (gd_e hw6 hc))) ?_; cbv
  refine cj ?_
  exact le h hR
theorem Aie {A : Ar} (hA : A = std) {x0 : List ByteArray} {r : Bool} (h : Aa5 A x0 = some r) : PFun cx 313 [.d (.sl TyS.str x0)] (bl r) := by
 refine wF hA cx_ok Tryz.func313 fun P R hP hR => ?_
 cbv; unfold Aa5 at h
 iterate 2 refine kj ?_
 refine kl h (fun x _ => [(3, it .i64 x)]) (fun _ _ => []) [] ?_
 rintro i3 gh1 g1 _ _ _ hK1 hQ1 h; cbv
 refine kj ?_
 refine bc h (fun hb h => ?_) fun hb h => ?_
 ·cbv
  refine kj ?_
  refine kk h fun c1 h => ?_
  refine kk h fun c2 h => ?_
  obtain ⟨w3, hw3, h⟩ := bd_e h; refine kc hP (Adk hA hw3) ?_; cbv
  refine kj ?_
  refine bc h (fun hb h => ?_) fun hb h => ?_
  ·cbv
   refine kj ?_
   refine hQ1 _ h _ _ fun h => ?_; cbv
   exact le h hR
  ·cbv
   refine kj ?_
   cases h; exact hK1 _ _ [] rfl hdy
 ·cbv
  refine hQ1 _ h _ _ fun h => ?_; cbv
  refine kj ?_
  exact le h hR
theorem Ahl {A : Ar} (hA : A = std) {x0 : Int} {x1 : Int} {r : Bool} (h : Abu A x0 x1 = some r) : PFun cx 314 [it .i64 x0, it .i64 x1] (bl r) := by
 refine wF hA cx_ok Tryz.func314 fun P R hP hR => ?_
 cbv; unfold Abu at h
 iterate 2 refine kj ?_
 iterate 2 refine cj ?_
 exact le h hR
theorem Aps {A : Ar} (hA : A = std) {x0 : Route} {r : Bool} (h : Agu A x0 = some r) : PFun cx 264 [Ab3 x0] (bl r) := by
 refine wF hA cx_ok Tryz.func264 fun P R hP hR => ?_
 cbv; unfold Agu at h
 iterate 2 refine kj ?_
 refine kl h (fun x _ => [(12, it .i64 x)]) (fun x gh => [⟨1, 0, .box 27 [st x0.1, .d (.sl .matcher x0.2), .d (.sl .str x0.3), it .i64 x0.4, it .i64 x0.5, it .i64 x0.6, .d (.sl .str x0.7), bl x0.8, .d (.sl .route x0.9)]⟩]) [] ?_
 rintro t12 gh1 g1 _ _ _ hK1 hQ1 h; cbv
 refine kj ?_
 refine bc h (fun hb h => ?_) fun hb h => ?_
 ·cbv
  refine kj ?_
  refine kk h fun c1 h => ?_
  refine kj ?_
  obtain ⟨w2, hw2, h⟩ := bd_e h; refine kc hP (Ai4 hA hw2) ?_; cbv
  refine bc h (fun hb h => ?_) fun hb h => ?_
  ·cbv
   refine kj ?_
   refine hQ1 _ h _ _ fun h => ?_; cbv
   exact le h hR
  ·cbv
   refine kj ?_
   cases h; exact hK1 _ _ [] rfl hdy
 ·cbv
  refine hQ1 _ h _ _ fun h => ?_; cbv
  refine kj ?_
  refine kl h (fun x _ => [(23, it .i64 x)]) (fun x gh => [⟨1, 0, .box 27 [st x0.1, .d (.sl .matcher x0.2), .d (.sl .str x0.3), it .i64 x0.4, it .i64 x0.5, it .i64 x0.6, .d (.sl .str x0.7), bl x0.8, .d (.sl .route x0.9)]⟩]) [] ?_
  rintro t23 gh2 g2 _ _ _ hK2 hQ2 h; cbv
  refine kj ?_
  refine bc h (fun hb h => ?_) fun hb h => ?_
  ·cbv
   refine kj ?_
   refine kk h fun c3 h => ?_
   refine kj ?_
   obtain ⟨w4, hw4, h⟩ := bd_e h; refine kc hP (Afc hA hw4) ?_; cbv
   refine bc h (fun hb h => ?_) fun hb h => ?_
   ·cbv
    refine kj ?_
    refine hQ2 _ h _ _ fun h => ?_; cbv
    exact le h hR
   ·cbv
    refine kj ?_
    cases h; exact hK2 _ _ [] rfl hdy
  ·cbv
   refine hQ2 _ h _ _ fun h => ?_; cbv
   refine kj ?_
   refine kl h (fun x _ => [(34, it .i64 x)]) (fun x gh => [⟨1, 0, .box 27 [st x0.1, .d (.sl .matcher x0.2), .d (.sl .str x0.3), it .i64 x0.4, it .i64 x0.5, it .i64 x0.6, .d (.sl .str x0.7), bl x0.8, .d (.sl .route x0.9)]⟩]) [] ?_
   rintro t34 gh3 g3 _ _ _ hK3 hQ3 h; cbv
   refine kj ?_
   refine bc h (fun hb h => ?_) fun hb h => ?_
   ·cbv
    refine kj ?_
    refine kk h fun c5 h => ?_
    refine kj ?_
    obtain ⟨w6, hw6, h⟩ := bd_e h; refine kc hP (Aci hA hw6) ?_; cbv
    refine bc h (fun hb h => ?_) fun hb h => ?_
    ·cbv
     refine kj ?_
     refine hQ3 _ h _ _ fun h => ?_; cbv
     exact le h hR
    ·cbv
     refine kj ?_
     cases h; exact hK3 _ _ [] rfl hdy
   ·cbv
    refine hQ3 _ h _ _ fun h => ?_; cbv
    refine kj ?_
    obtain ⟨w7, hw7, h⟩ := bd_e h; refine kc hP (Aci hA hw7) ?_; cbv
    iterate 8 refine cj ?_
    obtain ⟨w8, hw8, h⟩ := bd_e h; refine kg hP (fun hc => (Aie hA (gd_e hw8 hc))) ?_; cbv
    iterate 4 refine cj ?_
    obtain ⟨w9, hw9, h⟩ := bd_e h; refine kg hP (fun hc => (Aie hA (gd_e hw9 hc))) ?_; cbv
    iterate 4 refine cj ?_
    obtain ⟨w10, hw10, h⟩ := bd_e h; refine kg hP (fun hc => (Ahl hA (gd_e hw10 hc))) ?_; cbv
    iterate 4 refine cj ?_
    obtain ⟨w11, hw11, h⟩ := bd_e h; refine kg hP (fun hc => (Ahl hA (gd_e hw11 hc))) ?_; cbv
    iterate 4 refine cj ?_
    obtain ⟨w12, hw12, h⟩ := bd_e h; refine kg hP (fun hc => (Ahl hA (gd_e hw12 hc))) ?_; cbv
    iterate 6 refine cj ?_
    exact le h hR
theorem Aos {A : Ar} (hA : A = std) {rf : Route → Int → Option Bool} {x0 : Route} {x1 : Int} (hqr182 : ∀ (x0 : Route) (x1 : Int) (r : Bool), rf x0 x1 = some r → PFun cx 182 [Ab3 x0, it .i64 x1] (bl r)) {r : Bool} (h : Aef A rf x0 x1 = some r) : PFun cx 182 [Ab3 x0, it .i64 x1] (bl r) := by
 refine wF hA cx_ok Tryz.func182 fun P R hP hR => ?_
 cbv; unfold Aef at h
 iterate 2 refine kj ?_
 iterate 2 refine cj ?_
 obtain ⟨w1, hw1, h⟩ := bd_e h; refine kg hP (fun hc => (Aps hA (gd_e hw1 hc))) ?_; cbv
 iterate 2 refine cj ?_
 refine bc h (fun hb h => ?_) fun hb h => ?_
 ·cbv
  refine kj ?_
  exact le h hR
 ·cbv
  refine kj ?_
  refine kl h (fun x _ => [(17, it .i64 x)]) (fun x gh => [⟨2, 0, .box 27 [st x0.1, .d (.sl .matcher x0.2), .d (.sl .str x0.3), it .i64 x0.4, it .i64 x0.5, it .i64 x0.6, .d (.sl .str x0.7), bl x0.8, .d (.sl .route x0.9)]⟩]) [] ?_
  rintro t17 gh1 g1 _ _ _ hK1 hQ1 h; cbv
  refine kj ?_
  refine bc h (fun hb h => ?_) fun hb h => ?_
  ·cbv
   refine kj ?_
   refine kk h fun c2 h => ?_
   refine kj ?_
   obtain ⟨w3, hw3, h⟩ := bd_e h; refine kc hP (hqr182 _ _ _ hw3) ?_; cbv
   refine bc h (fun hb h => ?_) fun hb h => ?_
   ·cbv
    refine kj ?_
    refine hQ1 _ h _ _ fun h => ?_; cbv
    exact le h hR
   ·cbv
    refine kj ?_
    cases h; exact hK1 _ _ [] rfl hdy
  ·cbv
   refine hQ1 _ h _ _ fun h => ?_; cbv
   refine kj ?_
   exact le h hR
theorem Ai5 {A : Ar} (hA : A = std) : ∀ (n : Nat) (x0 : Route) (x1 : Int) (r : Bool), Abj A n x0 x1 = some r → PFun cx 182 [Ab3 x0, it .i64 x1] (bl r)
 | 0, _, _, _, h => by cases h
 | n + 1, x0, x1, r, h => Aos hA (fun _ _ _ hh => Ai5 hA n _ _ _ hh) h
theorem Apt {A : Ar} (hA : A = std) {x0 : Route} {x1 : Int} {r : Bool} (h : Aiq A x0 x1 = some r) : PFun cx 182 [Ab3 x0, it .i64 x1] (bl r) := Ai5 hA _ _ _ _ h
theorem Aot {A : Ar} (hA : A = std) {x0 : Route} {r : Bool} (h : Ac7 A x0 = some r) : PFun cx 102 [Ab3 x0] (bl r) := by
 refine wF hA cx_ok Tryz.func102 fun P R hP hR => ?_
 cbv; unfold Ac7 at h
 iterate 2 refine kj ?_
 obtain ⟨w1, hw1, h⟩ := bd_e h; refine kc hP (Apt hA hw1) ?_; cbv
 exact le h hR
theorem Aou {A : Ar} (hA : A = std) {rf : Route → Option (List Route)} {x0 : Route} (hqr103 : ∀ (x0 : Route) (r : List Route), rf x0 = some r → PFun cx 103 [Ab3 x0] (.d (.sl TyS.route r))) {r : List Route} (h : Aeg A rf x0 = some r) : PFun cx 103 [Ab3 x0] (.d (.sl TyS.route r)) := by
 refine wF hA cx_ok Tryz.func103 fun P R hP hR => ?_
 cbv; unfold Aeg at h
 iterate 3 refine kj ?_
 refine kl h (fun x gh => [(3, .os 4030 gh TyS.route x.1), (11, it .i64 x.2)]) (fun x gh => [⟨4030, gh, .tok 27 TyS.route (A.nlen TyS.route x.1)⟩, ⟨1, 0, .box 27 [st x0.1, .d (.sl .matcher x0.2), .d (.sl .str x0.3), it .i64 x0.4, it .i64 x0.5, it .i64 x0.6, .d (.sl .str x0.7), bl x0.8, .d (.sl .route x0.9)]⟩]) [(4030, 7, 1)] ?_
 rintro ⟨out3, t11⟩ gh1 g1 _ _ _ hK1 hQ1 h; cbv
 refine kj ?_
 refine bc h (fun hb h => ?_) fun hb h => ?_
 ·cbv
  refine kj ?_
  refine kk h fun c1 h => ?_
  refine kj ?_
  obtain ⟨w2, hw2, h⟩ := bd_e h; refine kc hP (hqr103 _ _ hw2) ?_; cbv
  refine kk h fun c3 h => ?_
  refine kj ?_
  cases h; exact hK1 _ _ [(4030, 18, g1.succ.succ)] rfl hdy
 ·cbv
  refine hQ1 _ h _ _ fun h => ?_; cbv
  refine kj ?_
  cases h; subst hR; exact ey
theorem Ai6 {A : Ar} (hA : A = std) : ∀ (n : Nat) (x0 : Route) (r : List Route), Ac8 A n x0 = some r → PFun cx 103 [Ab3 x0] (.d (.sl TyS.route r))
 | 0, _, _, h => by cases h
 | n + 1, x0, r, h => Aou hA (fun _ _ hh => Ai6 hA n _ _ hh) h
theorem Apu {A : Ar} (hA : A = std) {x0 : Route} {r : List Route} (h : Agv A x0 = some r) : PFun cx 103 [Ab3 x0] (.d (.sl TyS.route r)) := Ai6 hA _ _ _ h
theorem Ai7 {A : Ar} (hA : A = std) {x0 : Config} {r : Bool} (h : Ac9 A x0 = some r) : PFun cx 27 [Ag8 x0] (bl r) := by
 refine wF hA cx_ok Tryz.func27 fun P R hP hR => ?_
 cbv; unfold Ac9 at h
 iterate 2 refine kj ?_
 obtain ⟨w1, hw1, h⟩ := bd_e h; refine kc hP (Ai2 hA hw1) ?_; cbv
 refine kj ?_
 obtain ⟨w2, hw2, h⟩ := bd_e h; refine kc hP (Ai3 hA hw2) ?_; cbv
 refine kj ?_
 iterate 10 refine cj ?_
 obtain ⟨w3, hw3, h⟩ := bd_e h; refine kg hP (fun hc => (Ag2 hA (gd_e hw3 hc))) ?_; cbv
 iterate 7 refine cj ?_
 refine bc h (fun hb h => ?_) fun hb h => ?_
 ·cbv
  refine kj ?_
  exact le h hR
 ·cbv
  refine kj ?_
  refine kl h (fun x _ => [(55, it .i64 x)]) (fun x gh => [⟨1, 0, .box 31 [.d (.sl .rule x0.1), st x0.2.1, .d (.sl .matcher x0.2.2), .d (.sl .str x0.2.3), it .i64 x0.2.4, it .i64 x0.2.5, it .i64 x0.2.6, .d (.sl .str x0.2.7), bl x0.2.8, .d (.sl .route x0.2.9), .d (.sl .str x0.3), .d (.sl .inhibit x0.4), .d (.sl .hours x0.5)]⟩]) [] ?_
  rintro t55 gh1 g1 _ _ _ hK1 hQ1 h; cbv
  refine kj ?_
  refine bc h (fun hb h => ?_) fun hb h => ?_
  ·cbv
   refine kj ?_
   refine kk h fun c4 h => ?_
   refine kj ?_
   obtain ⟨w5, hw5, h⟩ := bd_e h; refine kc hP (Aci hA hw5) ?_; cbv
   refine bc h (fun hb h => ?_) fun hb h => ?_
   ·cbv
    refine kj ?_
    refine hQ1 _ h _ _ fun h => ?_; cbv
    exact le h hR
   ·cbv
    refine kj ?_
    cases h; exact hK1 _ _ [] rfl hdy
  ·cbv
   refine hQ1 _ h _ _ fun h => ?_; cbv
   refine kj ?_
   refine kl h (fun x _ => [(66, it .i64 x)]) (fun x gh => [⟨1, 0, .box 31 [.d (.sl .rule x0.1), st x0.2.1, .d (.sl .matcher x0.2.2), .d (.sl .str x0.2.3), it .i64 x0.2.4, it .i64 x0.2.5, it .i64 x0.2.6, .d (.sl .str x0.2.7), bl x0.2.8, .d (.sl .route x0.2.9), .d (.sl .str x0.3), .d (.sl .inhibit x0.4), .d (.sl .hours x0.5)]⟩]) [] ?_
   rintro t66 gh2 g2 _ _ _ hK2 hQ2 h; cbv
   refine kj ?_
   refine bc h (fun hb h => ?_) fun hb h => ?_
   ·cbv
    refine kj ?_
    refine kk h fun c6 h => ?_
    refine kj ?_
    obtain ⟨w7, hw7, h⟩ := bd_e h; refine kc hP (Anb hA hw7) ?_; cbv
    refine bc h (fun hb h => ?_) fun hb h => ?_
    ·cbv
     refine kj ?_
     refine hQ2 _ h _ _ fun h => ?_; cbv
     exact le h hR
    ·cbv
     refine kj ?_
     cases h; exact hK2 _ _ [] rfl hdy
   ·cbv
    refine hQ2 _ h _ _ fun h => ?_; cbv
    refine kj ?_
    obtain ⟨w8, hw8, h⟩ := bd_e h; refine kc hP (Aot hA hw8) ?_; cbv
    iterate 10 refine cj ?_
    refine bc h (fun hb h => ?_) fun hb h => ?_
    ·cbv
     refine kj ?_
     exact le h hR
    ·cbv
     refine kj ?_
     obtain ⟨w9, hw9, h⟩ := bd_e h; refine kc hP (Apu hA hw9) ?_; cbv
     refine kj ?_
     refine kl h (fun x _ => [(95, it .i64 x)]) (fun x gh => [⟨1, 0, .box 31 [.d (.sl .rule x0.1), st x0.2.1, .d (.sl .matcher x0.2.2), .d (.sl .str x0.2.3), it .i64 x0.2.4, it .i64 x0.2.5, it .i64 x0.2.6, .d (.sl .str x0.2.7), bl x0.2.8, .d (.sl .route x0.2.9), .d (.sl .str x0.3), .d (.sl .inhibit x0.4), .d (.sl .hours x0.5)]⟩]) [] ?_
     rintro t95 gh3 g3 _ _ _ hK3 hQ3 h; cbv
     refine kj ?_
     refine bc h (fun hb h => ?_) fun hb h => ?_
     ·cbv
      refine kj ?_
      refine kk h fun c10 h => ?_
      refine kj ?_
      obtain ⟨w11, hw11, h⟩ := bd_e h; refine kc hP (Afx hA hw11) ?_; cbv
      refine bc h (fun hb h => ?_) fun hb h => ?_
      ·cbv
       refine kj ?_
       refine hQ3 _ h _ _ fun h => ?_; cbv
       exact le h hR
      ·cbv
       refine kj ?_
       refine kl h (fun x _ => [(108, it .i64 x)]) (fun x gh => [⟨13, g3.succ, .box 27 [PV.d (D.v (Value.string (A.get TyS.route w9 t95).1)), PV.d (D.sl TyS.matcher (A.get TyS.route w9 t95).2), PV.d (D.sl TyS.str (A.get TyS.route w9 t95).3), PV.d (D.v (Value.int .i64 (A.get TyS.route w9 t95).4)), PV.d (D.v (Value.int .i64 (A.get TyS.route w9 t95).5)), PV.d (D.v (Value.int .i64 (A.get TyS.route w9 t95).6)), PV.d (D.sl TyS.str (A.get TyS.route w9 t95).7), PV.d (D.v (Value.bool (A.get TyS.route w9 t95).8)), PV.d (D.sl TyS.route (A.get TyS.route w9 t95).9)]⟩, ⟨1, 0, .box 31 [.d (.sl .rule x0.1), st x0.2.1, .d (.sl .matcher x0.2.2), .d (.sl .str x0.2.3), it .i64 x0.2.4, it .i64 x0.2.5, it .i64 x0.2.6, .d (.sl .str x0.2.7), bl x0.2.8, .d (.sl .route x0.2.9), .d (.sl .str x0.3), .d (.sl .inhibit x0.4), .d (.sl .hours x0.5)]⟩]) [] ?_
       rintro t108 gh4 g4 _ _ _ hK4 hQ4 h; cbv
       refine kj ?_
       refine bc h (fun hb h => ?_) fun hb h => ?_
       ·cbv
        refine kj ?_
        refine kk h fun c12 h => ?_
        refine kj ?_
        obtain ⟨w13, hw13, h⟩ := bd_e h; refine kc hP (Afx hA hw13) ?_; cbv
        refine bc h (fun hb h => ?_) fun hb h => ?_
        ·cbv
         refine kj ?_
         refine hQ4 _ h _ _ fun h => ?_; cbv
         refine hQ3 _ h _ _ fun h => ?_; cbv
         exact le h hR
        ·cbv
         refine kj ?_
         cases h; exact hK4 _ _ [] rfl hdy
       ·cbv
        refine hQ4 _ h _ _ fun h => ?_; cbv
        refine kj ?_
        cases h; exact hK3 _ _ [] rfl hdy
     ·cbv
      refine hQ3 _ h _ _ fun h => ?_; cbv
      refine kj ?_
      exact le h hR
theorem Abc {A : Ar} (hA : A = std) {x0 : ByteArray} {r : Bool} (h : Aaj A x0 = some r) : PFun cx 105 [st x0] (bl r) := by
 refine wF hA cx_ok Tryz.func105 fun P R hP hR => ?_
 cbv; unfold Aaj at h
 iterate 2 refine kj ?_
 refine kl h (fun x _ => [(3, it .i64 x)]) (fun _ _ => []) [] ?_
 rintro i3 gh1 g1 _ _ _ hK1 hQ1 h; cbv
 refine kj ?_
 refine bc h (fun hb h => ?_) fun hb h => ?_
 ·cbv
  refine kj ?_
  refine kk h fun c1 h => ?_
  refine bc h (fun hb h => ?_) fun hb h => ?_
  ·cbv
   refine kj ?_
   refine hQ1 _ h _ _ fun h => ?_; cbv
   exact le h hR
  ·cbv
   refine kj ?_
   cases h; exact hK1 _ _ [] rfl hdy
 ·cbv
  refine hQ1 _ h _ _ fun h => ?_; cbv
  refine kj ?_
  iterate 4 refine cj ?_
  refine kk h fun c2 h => ?_
  iterate 2 refine cj ?_
  exact le h hR
theorem Akf {A : Ar} (hA : A = std) {x0 : Config} {r : List ByteArray} (h : Adq A x0 = some r) : PFun cx 29 [Ag8 x0] (.d (.sl TyS.str r)) := by
 refine wF hA cx_ok Tryz.func29 fun P R hP hR => ?_
 cbv; unfold Adq at h
 iterate 3 refine kj ?_
 refine bc h (fun hb h => ?_) fun hb h => ?_
 ·cbv
  refine kj ?_
  refine ⟨by subst hA; simp +contextual [vcm], ?_⟩
  refine kj ?_
  refine bc h (fun hb h => ?_) fun hb h => ?_
  ·cbv
   refine kj ?_
   refine ⟨by subst hA; simp +contextual [vcm], ?_⟩
   refine kj ?_
   refine bc h (fun hb h => ?_) fun hb h => ?_
   ·cbv
    refine kj ?_
    refine ⟨by subst hA; simp +contextual [vcm], ?_⟩
    iterate 4 refine kj ?_
    refine kl h (fun x _ => [(4, bl x.1), (5, bl x.2.1), (6, bl x.2.2.1), (38, it .i64 x.2.2.2)]) (fun x gh => [⟨1, 0, .box 31 [.d (.sl .rule x0.1), st x0.2.1, .d (.sl .matcher x0.2.2), .d (.sl .str x0.2.3), it .i64 x0.2.4, it .i64 x0.2.5, it .i64 x0.2.6, .d (.sl .str x0.2.7), bl x0.2.8, .d (.sl .route x0.2.9), .d (.sl .str x0.3), .d (.sl .inhibit x0.4), .d (.sl .hours x0.5)]⟩, ⟨34, 7, Cell.tok 9 TyS.str (A.nlen TyS.str (A.app TyS.str (A.app TyS.str (A.app TyS.str [] [ByteArray.mk (Array.mk [114, 111, 117, 116, 101, 115])]) [ByteArray.mk (Array.mk [103, 114, 111, 117, 112])]) [ByteArray.mk (Array.mk [105, 110, 104, 105, 98, 105, 116])]))⟩, ⟨33, 7, Cell.tok 9 TyS.str (A.nlen TyS.str [ByteArray.mk (Array.mk [105, 110, 104, 105, 98, 105, 116])])⟩, ⟨26, 5, Cell.tok 9 TyS.str (A.nlen TyS.str [ByteArray.mk (Array.mk [103, 114, 111, 117, 112])])⟩, ⟨18, 3, Cell.tok 9 TyS.str (A.nlen TyS.str [ByteArray.mk (Array.mk [114, 111, 117, 116, 101, 115])])⟩]) [] ?_
    rintro ⟨t4, t5, t6, t38⟩ gh1 g1 _ _ _ hK1 hQ1 h; cbv
    refine kj ?_
    refine bc h (fun hb h => ?_) fun hb h => ?_
    ·cbv
     refine kj ?_
     refine kk h fun c1 h => ?_
     refine kj ?_
     iterate 4 refine cj ?_
     refine kj ?_
     iterate 4 refine cj ?_
     refine kj ?_
     refine kl h (fun x _ => [(6, bl x.1), (57, it .i64 x.2)]) (fun x gh => [⟨8, g1.succ, .box 36 [PV.d (D.v (Value.string (A.get TyS.rule x0.1 t38).1)), PV.d (D.v (Value.string (A.get TyS.rule x0.1 t38).2)), PV.d (D.v (Value.int .i64 (A.get TyS.rule x0.1 t38).3)), PV.d (D.v (Value.int .i64 (A.get TyS.rule x0.1 t38).4)), PV.d (D.v (Value.int .i64 (A.get TyS.rule x0.1 t38).5)), PV.d (D.v (Value.int .i64 (A.get TyS.rule x0.1 t38).6)), PV.d (D.v (Value.int .i64 (A.get TyS.rule x0.1 t38).7)), PV.d (D.sl TyS.label (A.get TyS.rule x0.1 t38).8)]⟩, ⟨1, 0, .box 31 [.d (.sl .rule x0.1), st x0.2.1, .d (.sl .matcher x0.2.2), .d (.sl .str x0.2.3), it .i64 x0.2.4, it .i64 x0.2.5, it .i64 x0.2.6, .d (.sl .str x0.2.7), bl x0.2.8, .d (.sl .route x0.2.9), .d (.sl .str x0.3), .d (.sl .inhibit x0.4), .d (.sl .hours x0.5)]⟩, ⟨34, 7, Cell.tok 9 TyS.str (A.nlen TyS.str (A.app TyS.str (A.app TyS.str (A.app TyS.str [] [ByteArray.mk (Array.mk [114, 111, 117, 116, 101, 115])]) [ByteArray.mk (Array.mk [103, 114, 111, 117, 112])]) [ByteArray.mk (Array.mk [105, 110, 104, 105, 98, 105, 116])]))⟩, ⟨33, 7, Cell.tok 9 TyS.str (A.nlen TyS.str [ByteArray.mk (Array.mk [105, 110, 104, 105, 98, 105, 116])])⟩, ⟨26, 5, Cell.tok 9 TyS.str (A.nlen TyS.str [ByteArray.mk (Array.mk [103, 114, 111, 117, 112])])⟩, ⟨18, 3, Cell.tok 9 TyS.str (A.nlen TyS.str [ByteArray.mk (Array.mk [114, 111, 117, 116, 101, 115])])⟩]) [] ?_
     rintro ⟨t6', t57⟩ gh2 g2 _ _ _ hK2 hQ2 h; cbv
     refine kj ?_
     refine bc h (fun hb h => ?_) fun hb h => ?_
     ·cbv
      refine kj ?_
      refine kk h fun c2 h => ?_
      refine kj ?_
      iterate 3 refine cj ?_
      obtain ⟨w3, hw3, h⟩ := bd_e h; refine kg hP (fun hc => (Abc hA (gd_e hw3 hc))) ?_; cbv
      refine cj ?_
      refine kj ?_
      cases h; exact hK2 _ _ [] rfl hdy
     ·cbv
      refine hQ2 _ h _ _ fun h => ?_; cbv
      refine kj ?_
      cases h; exact hK1 _ _ [] rfl hdy
    ·cbv
     refine hQ1 _ h _ _ fun h => ?_; cbv
     refine kj ?_
     refine bc h (fun hb h => ?_) fun hb h => ?_
     ·cbv
      refine kj ?_
      refine ⟨by subst hA; simp +contextual [vcm], ?_⟩
      refine kj ?_
      refine bc h (fun hb h => ?_) fun hb h => ?_
      ·cbv
       refine kj ?_
       refine ⟨by subst hA; simp +contextual [vcm], ?_⟩
       refine kj ?_
       refine bc h (fun hb h => ?_) fun hb h => ?_
       ·cbv
        refine kj ?_
        refine ⟨by subst hA; simp +contextual [vcm], ?_⟩
        refine kj ?_
        cases h; subst hR; exact ey
       ·cbv
        refine kj ?_
        cases h; subst hR; exact ey
      ·cbv
       refine kj ?_
       refine bc h (fun hb h => ?_) fun hb h => ?_
       ·cbv
        refine kj ?_
        refine ⟨by subst hA; simp +contextual [vcm], ?_⟩
        refine kj ?_
        cases h; subst hR; exact ey
       ·cbv
        refine kj ?_
        cases h; subst hR; exact ey
     ·cbv
      refine kj ?_
      refine bc h (fun hb h => ?_) fun hb h => ?_
      ·cbv
       refine kj ?_
       refine ⟨by subst hA; simp +contextual [vcm], ?_⟩
       refine kj ?_
       refine bc h (fun hb h => ?_) fun hb h => ?_
       ·cbv
        refine kj ?_
        refine ⟨by subst hA; simp +contextual [vcm], ?_⟩
        refine kj ?_
        cases h; subst hR; exact ey
       ·cbv
        refine kj ?_
        cases h; subst hR; exact ey
      ·cbv
       refine kj ?_
       refine bc h (fun hb h => ?_) fun hb h => ?_
       ·cbv
        refine kj ?_
        refine ⟨by subst hA; simp +contextual [vcm], ?_⟩
        refine kj ?_
        cases h; subst hR; exact ey
       ·cbv
        refine kj ?_
        cases h; subst hR; exact ey
   ·cbv
    iterate 4 refine kj ?_
    refine kl h (fun x _ => [(4, bl x.1), (5, bl x.2.1), (6, bl x.2.2.1), (38, it .i64 x.2.2.2)]) (fun x gh => [⟨1, 0, .box 31 [.d (.sl .rule x0.1), st x0.2.1, .d (.sl .matcher x0.2.2), .d (.sl .str x0.2.3), it .i64 x0.2.4, it .i64 x0.2.5, it .i64 x0.2.6, .d (.sl .str x0.2.7), bl x0.2.8, .d (.sl .route x0.2.9), .d (.sl .str x0.3), .d (.sl .inhibit x0.4), .d (.sl .hours x0.5)]⟩, ⟨27, 5, Cell.tok 9 TyS.str (A.nlen TyS.str (A.app TyS.str (A.app TyS.str [] [ByteArray.mk (Array.mk [114, 111, 117, 116, 101, 115])]) [ByteArray.mk (Array.mk [103, 114, 111, 117, 112])]))⟩, ⟨26, 5, Cell.tok 9 TyS.str (A.nlen TyS.str [ByteArray.mk (Array.mk [103, 114, 111, 117, 112])])⟩, ⟨18, 3, Cell.tok 9 TyS.str (A.nlen TyS.str [ByteArray.mk (Array.mk [114, 111, 117, 116, 101, 115])])⟩]) [] ?_
    rintro ⟨t4, t5, t6, t38⟩ gh3 g3 _ _ _ hK3 hQ3 h; cbv
    refine kj ?_
    refine bc h (fun hb h => ?_) fun hb h => ?_
    ·cbv
     refine kj ?_
     refine kk h fun c4 h => ?_
     refine kj ?_
     iterate 4 refine cj ?_
     refine kj ?_
     iterate 4 refine cj ?_
     refine kj ?_
     refine kl h (fun x _ => [(6, bl x.1), (57, it .i64 x.2)]) (fun x gh => [⟨8, g3.succ, .box 36 [PV.d (D.v (Value.string (A.get TyS.rule x0.1 t38).1)), PV.d (D.v (Value.string (A.get TyS.rule x0.1 t38).2)), PV.d (D.v (Value.int .i64 (A.get TyS.rule x0.1 t38).3)), PV.d (D.v (Value.int .i64 (A.get TyS.rule x0.1 t38).4)), PV.d (D.v (Value.int .i64 (A.get TyS.rule x0.1 t38).5)), PV.d (D.v (Value.int .i64 (A.get TyS.rule x0.1 t38).6)), PV.d (D.v (Value.int .i64 (A.get TyS.rule x0.1 t38).7)), PV.d (D.sl TyS.label (A.get TyS.rule x0.1 t38).8)]⟩, ⟨1, 0, .box 31 [.d (.sl .rule x0.1), st x0.2.1, .d (.sl .matcher x0.2.2), .d (.sl .str x0.2.3), it .i64 x0.2.4, it .i64 x0.2.5, it .i64 x0.2.6, .d (.sl .str x0.2.7), bl x0.2.8, .d (.sl .route x0.2.9), .d (.sl .str x0.3), .d (.sl .inhibit x0.4), .d (.sl .hours x0.5)]⟩, ⟨27, 5, Cell.tok 9 TyS.str (A.nlen TyS.str (A.app TyS.str (A.app TyS.str [] [ByteArray.mk (Array.mk [114, 111, 117, 116, 101, 115])]) [ByteArray.mk (Array.mk [103, 114, 111, 117, 112])]))⟩, ⟨26, 5, Cell.tok 9 TyS.str (A.nlen TyS.str [ByteArray.mk (Array.mk [103, 114, 111, 117, 112])])⟩, ⟨18, 3, Cell.tok 9 TyS.str (A.nlen TyS.str [ByteArray.mk (Array.mk [114, 111, 117, 116, 101, 115])])⟩]) [] ?_
     rintro ⟨t6', t57⟩ gh4 g4 _ _ _ hK4 hQ4 h; cbv
     refine kj ?_
     refine bc h (fun hb h => ?_) fun hb h => ?_
     ·cbv
      refine kj ?_
      refine kk h fun c5 h => ?_
      refine kj ?_
      iterate 3 refine cj ?_
      obtain ⟨w6, hw6, h⟩ := bd_e h; refine kg hP (fun hc => (Abc hA (gd_e hw6 hc))) ?_; cbv
      refine cj ?_
      refine kj ?_
      cases h; exact hK4 _ _ [] rfl hdy
     ·cbv
      refine hQ4 _ h _ _ fun h => ?_; cbv
      refine kj ?_
      cases h; exact hK3 _ _ [] rfl hdy
    ·cbv
     refine hQ3 _ h _ _ fun h => ?_; cbv
     refine kj ?_
     refine bc h (fun hb h => ?_) fun hb h => ?_
     ·cbv
      refine kj ?_
      refine ⟨by subst hA; simp +contextual [vcm], ?_⟩
      refine kj ?_
      refine bc h (fun hb h => ?_) fun hb h => ?_
      ·cbv
       refine kj ?_
       refine ⟨by subst hA; simp +contextual [vcm], ?_⟩
       refine kj ?_
       refine bc h (fun hb h => ?_) fun hb h => ?_
       ·cbv
        refine kj ?_
        refine ⟨by subst hA; simp +contextual [vcm], ?_⟩
        refine kj ?_
        cases h; subst hR; exact ey
       ·cbv
        refine kj ?_
        cases h; subst hR; exact ey
      ·cbv
       refine kj ?_
       refine bc h (fun hb h => ?_) fun hb h => ?_
       ·cbv
        refine kj ?_
        refine ⟨by subst hA; simp +contextual [vcm], ?_⟩
        refine kj ?_
        cases h; subst hR; exact ey
       ·cbv
        refine kj ?_
        cases h; subst hR; exact ey
     ·cbv
      refine kj ?_
      refine bc h (fun hb h => ?_) fun hb h => ?_
      ·cbv
       refine kj ?_
       refine ⟨by subst hA; simp +contextual [vcm], ?_⟩
       refine kj ?_
       refine bc h (fun hb h => ?_) fun hb h => ?_
       ·cbv
        refine kj ?_
        refine ⟨by subst hA; simp +contextual [vcm], ?_⟩
        refine kj ?_
        cases h; subst hR; exact ey
       ·cbv
        refine kj ?_
        cases h; subst hR; exact ey
      ·cbv
       refine kj ?_
       refine bc h (fun hb h => ?_) fun hb h => ?_
       ·cbv
        refine kj ?_
        refine ⟨by subst hA; simp +contextual [vcm], ?_⟩
        refine kj ?_
        cases h; subst hR; exact ey
       ·cbv
        refine kj ?_
        cases h; subst hR; exact ey
  ·cbv
   refine kj ?_
   refine bc h (fun hb h => ?_) fun hb h => ?_
   ·cbv
    refine kj ?_
    refine ⟨by subst hA; simp +contextual [vcm], ?_⟩
    iterate 4 refine kj ?_
    refine kl h (fun x _ => [(4, bl x.1), (5, bl x.2.1), (6, bl x.2.2.1), (38, it .i64 x.2.2.2)]) (fun x gh => [⟨1, 0, .box 31 [.d (.sl .rule x0.1), st x0.2.1, .d (.sl .matcher x0.2.2), .d (.sl .str x0.2.3), it .i64 x0.2.4, it .i64 x0.2.5, it .i64 x0.2.6, .d (.sl .str x0.2.7), bl x0.2.8, .d (.sl .route x0.2.9), .d (.sl .str x0.3), .d (.sl .inhibit x0.4), .d (.sl .hours x0.5)]⟩, ⟨34, 6, Cell.tok 9 TyS.str (A.nlen TyS.str (A.app TyS.str (A.app TyS.str [] [ByteArray.mk (Array.mk [114, 111, 117, 116, 101, 115])]) [ByteArray.mk (Array.mk [105, 110, 104, 105, 98, 105, 116])]))⟩, ⟨33, 6, Cell.tok 9 TyS.str (A.nlen TyS.str [ByteArray.mk (Array.mk [105, 110, 104, 105, 98, 105, 116])])⟩, ⟨18, 3, Cell.tok 9 TyS.str (A.nlen TyS.str [ByteArray.mk (Array.mk [114, 111, 117, 116, 101, 115])])⟩]) [] ?_
    rintro ⟨t4, t5, t6, t38⟩ gh5 g5 _ _ _ hK5 hQ5 h; cbv
    refine kj ?_
    refine bc h (fun hb h => ?_) fun hb h => ?_
    ·cbv
     refine kj ?_
     refine kk h fun c7 h => ?_
     refine kj ?_
     iterate 4 refine cj ?_
     refine kj ?_
     iterate 4 refine cj ?_
     refine kj ?_
     refine kl h (fun x _ => [(6, bl x.1), (57, it .i64 x.2)]) (fun x gh => [⟨8, g5.succ, .box 36 [PV.d (D.v (Value.string (A.get TyS.rule x0.1 t38).1)), PV.d (D.v (Value.string (A.get TyS.rule x0.1 t38).2)), PV.d (D.v (Value.int .i64 (A.get TyS.rule x0.1 t38).3)), PV.d (D.v (Value.int .i64 (A.get TyS.rule x0.1 t38).4)), PV.d (D.v (Value.int .i64 (A.get TyS.rule x0.1 t38).5)), PV.d (D.v (Value.int .i64 (A.get TyS.rule x0.1 t38).6)), PV.d (D.v (Value.int .i64 (A.get TyS.rule x0.1 t38).7)), PV.d (D.sl TyS.label (A.get TyS.rule x0.1 t38).8)]⟩, ⟨1, 0, .box 31 [.d (.sl .rule x0.1), st x0.2.1, .d (.sl .matcher x0.2.2), .d (.sl .str x0.2.3), it .i64 x0.2.4, it .i64 x0.2.5, it .i64 x0.2.6, .d (.sl .str x0.2.7), bl x0.2.8, .d (.sl .route x0.2.9), .d (.sl .str x0.3), .d (.sl .inhibit x0.4), .d (.sl .hours x0.5)]⟩, ⟨34, 6, Cell.tok 9 TyS.str (A.nlen TyS.str (A.app TyS.str (A.app TyS.str [] [ByteArray.mk (Array.mk [114, 111, 117, 116, 101, 115])]) [ByteArray.mk (Array.mk [105, 110, 104, 105, 98, 105, 116])]))⟩, ⟨33, 6, Cell.tok 9 TyS.str (A.nlen TyS.str [ByteArray.mk (Array.mk [105, 110, 104, 105, 98, 105, 116])])⟩, ⟨18, 3, Cell.tok 9 TyS.str (A.nlen TyS.str [ByteArray.mk (Array.mk [114, 111, 117, 116, 101, 115])])⟩]) [] ?_
     rintro ⟨t6', t57⟩ gh6 g6 _ _ _ hK6 hQ6 h; cbv
     refine kj ?_
     refine bc h (fun hb h => ?_) fun hb h => ?_
     ·cbv
      refine kj ?_
      refine kk h fun c8 h => ?_
      refine kj ?_
      iterate 3 refine cj ?_
      obtain ⟨w9, hw9, h⟩ := bd_e h; refine kg hP (fun hc => (Abc hA (gd_e hw9 hc))) ?_; cbv
      refine cj ?_
      refine kj ?_
      cases h; exact hK6 _ _ [] rfl hdy
     ·cbv
      refine hQ6 _ h _ _ fun h => ?_; cbv
      refine kj ?_
      cases h; exact hK5 _ _ [] rfl hdy
    ·cbv
     refine hQ5 _ h _ _ fun h => ?_; cbv
     refine kj ?_
     refine bc h (fun hb h => ?_) fun hb h => ?_
     ·cbv
      refine kj ?_
      refine ⟨by subst hA; simp +contextual [vcm], ?_⟩
      refine kj ?_
      refine bc h (fun hb h => ?_) fun hb h => ?_
      ·cbv
       refine kj ?_
       refine ⟨by subst hA; simp +contextual [vcm], ?_⟩
       refine kj ?_
       refine bc h (fun hb h => ?_) fun hb h => ?_
       ·cbv
        refine kj ?_
        refine ⟨by subst hA; simp +contextual [vcm], ?_⟩
        refine kj ?_
        cases h; subst hR; exact ey
       ·cbv
        refine kj ?_
        cases h; subst hR; exact ey
      ·cbv
       refine kj ?_
       refine bc h (fun hb h => ?_) fun hb h => ?_
       ·cbv
        refine kj ?_
        refine ⟨by subst hA; simp +contextual [vcm], ?_⟩
        refine kj ?_
        cases h; subst hR; exact ey
       ·cbv
        refine kj ?_
        cases h; subst hR; exact ey
     ·cbv
      refine kj ?_
      refine bc h (fun hb h => ?_) fun hb h => ?_
      ·cbv
       refine kj ?_
       refine ⟨by subst hA; simp +contextual [vcm], ?_⟩
       refine kj ?_
       refine bc h (fun hb h => ?_) fun hb h => ?_
       ·cbv
        refine kj ?_
        refine ⟨by subst hA; simp +contextual [vcm], ?_⟩
        refine kj ?_
        cases h; subst hR; exact ey
       ·cbv
        refine kj ?_
        cases h; subst hR; exact ey
      ·cbv
       refine kj ?_
       refine bc h (fun hb h => ?_) fun hb h => ?_
       ·cbv
        refine kj ?_
        refine ⟨by subst hA; simp +contextual [vcm], ?_⟩
        refine kj ?_
        cases h; subst hR; exact ey
       ·cbv
        refine kj ?_
        cases h; subst hR; exact ey
   ·cbv
    iterate 4 refine kj ?_
    refine kl h (fun x _ => [(4, bl x.1), (5, bl x.2.1), (6, bl x.2.2.1), (38, it .i64 x.2.2.2)]) (fun x gh => [⟨1, 0, .box 31 [.d (.sl .rule x0.1), st x0.2.1, .d (.sl .matcher x0.2.2), .d (.sl .str x0.2.3), it .i64 x0.2.4, it .i64 x0.2.5, it .i64 x0.2.6, .d (.sl .str x0.2.7), bl x0.2.8, .d (.sl .route x0.2.9), .d (.sl .str x0.3), .d (.sl .inhibit x0.4), .d (.sl .hours x0.5)]⟩, ⟨19, 3, Cell.tok 9 TyS.str (A.nlen TyS.str (A.app TyS.str [] [ByteArray.mk (Array.mk [114, 111, 117, 116, 101, 115])]))⟩, ⟨18, 3, Cell.tok 9 TyS.str (A.nlen TyS.str [ByteArray.mk (Array.mk [114, 111, 117, 116, 101, 115])])⟩]) [] ?_
    rintro ⟨t4, t5, t6, t38⟩ gh7 g7 _ _ _ hK7 hQ7 h; cbv
    refine kj ?_
    refine bc h (fun hb h => ?_) fun hb h => ?_
    ·cbv
     refine kj ?_
     refine kk h fun c10 h => ?_
     refine kj ?_
     iterate 4 refine cj ?_
     refine kj ?_
     iterate 4 refine cj ?_
     refine kj ?_
     refine kl h (fun x _ => [(6, bl x.1), (57, it .i64 x.2)]) (fun x gh => [⟨8, g7.succ, .box 36 [PV.d (D.v (Value.string (A.get TyS.rule x0.1 t38).1)), PV.d (D.v (Value.string (A.get TyS.rule x0.1 t38).2)), PV.d (D.v (Value.int .i64 (A.get TyS.rule x0.1 t38).3)), PV.d (D.v (Value.int .i64 (A.get TyS.rule x0.1 t38).4)), PV.d (D.v (Value.int .i64 (A.get TyS.rule x0.1 t38).5)), PV.d (D.v (Value.int .i64 (A.get TyS.rule x0.1 t38).6)), PV.d (D.v (Value.int .i64 (A.get TyS.rule x0.1 t38).7)), PV.d (D.sl TyS.label (A.get TyS.rule x0.1 t38).8)]⟩, ⟨1, 0, .box 31 [.d (.sl .rule x0.1), st x0.2.1, .d (.sl .matcher x0.2.2), .d (.sl .str x0.2.3), it .i64 x0.2.4, it .i64 x0.2.5, it .i64 x0.2.6, .d (.sl .str x0.2.7), bl x0.2.8, .d (.sl .route x0.2.9), .d (.sl .str x0.3), .d (.sl .inhibit x0.4), .d (.sl .hours x0.5)]⟩, ⟨19, 3, Cell.tok 9 TyS.str (A.nlen TyS.str (A.app TyS.str [] [ByteArray.mk (Array.mk [114, 111, 117, 116, 101, 115])]))⟩, ⟨18, 3, Cell.tok 9 TyS.str (A.nlen TyS.str [ByteArray.mk (Array.mk [114, 111, 117, 116, 101, 115])])⟩]) [] ?_
     rintro ⟨t6', t57⟩ gh8 g8 _ _ _ hK8 hQ8 h; cbv
     refine kj ?_
     refine bc h (fun hb h => ?_) fun hb h => ?_
     ·cbv
      refine kj ?_
      refine kk h fun c11 h => ?_
      refine kj ?_
      iterate 3 refine cj ?_
      obtain ⟨w12, hw12, h⟩ := bd_e h; refine kg hP (fun hc => (Abc hA (gd_e hw12 hc))) ?_; cbv
      refine cj ?_
      refine kj ?_
      cases h; exact hK8 _ _ [] rfl hdy
     ·cbv
      refine hQ8 _ h _ _ fun h => ?_; cbv
      refine kj ?_
      cases h; exact hK7 _ _ [] rfl hdy
    ·cbv
     refine hQ7 _ h _ _ fun h => ?_; cbv
     refine kj ?_
     refine bc h (fun hb h => ?_) fun hb h => ?_
     ·cbv
      refine kj ?_
      refine ⟨by subst hA; simp +contextual [vcm], ?_⟩
      refine kj ?_
      refine bc h (fun hb h => ?_) fun hb h => ?_
      ·cbv
       refine kj ?_
       refine ⟨by subst hA; simp +contextual [vcm], ?_⟩
       refine kj ?_
       refine bc h (fun hb h => ?_) fun hb h => ?_
       ·cbv
        refine kj ?_
        refine ⟨by subst hA; simp +contextual [vcm], ?_⟩
        refine kj ?_
        cases h; subst hR; exact ey
       ·cbv
        refine kj ?_
        cases h; subst hR; exact ey
      ·cbv
       refine kj ?_
       refine bc h (fun hb h => ?_) fun hb h => ?_
       ·cbv
        refine kj ?_
        refine ⟨by subst hA; simp +contextual [vcm], ?_⟩
        refine kj ?_
        cases h; subst hR; exact ey
       ·cbv
        refine kj ?_
        cases h; subst hR; exact ey
     ·cbv
      refine kj ?_
      refine bc h (fun hb h => ?_) fun hb h => ?_
      ·cbv
       refine kj ?_
       refine ⟨by subst hA; simp +contextual [vcm], ?_⟩
       refine kj ?_
       refine bc h (fun hb h => ?_) fun hb h => ?_
       ·cbv
        refine kj ?_
        refine ⟨by subst hA; simp +contextual [vcm], ?_⟩
        refine kj ?_
        cases h; subst hR; exact ey
       ·cbv
        refine kj ?_
        cases h; subst hR; exact ey
      ·cbv
       refine kj ?_
       refine bc h (fun hb h => ?_) fun hb h => ?_
       ·cbv
        refine kj ?_
        refine ⟨by subst hA; simp +contextual [vcm], ?_⟩
        refine kj ?_
        cases h; subst hR; exact ey
       ·cbv
        refine kj ?_
        cases h; subst hR; exact ey
 ·cbv
  refine kj ?_
  refine bc h (fun hb h => ?_) fun hb h => ?_
  ·cbv
   refine kj ?_
   refine ⟨by subst hA; simp +contextual [vcm], ?_⟩
   refine kj ?_
   refine bc h (fun hb h => ?_) fun hb h => ?_
   ·cbv
    refine kj ?_
    refine ⟨by subst hA; simp +contextual [vcm], ?_⟩
    iterate 4 refine kj ?_
    refine kl h (fun x _ => [(4, bl x.1), (5, bl x.2.1), (6, bl x.2.2.1), (38, it .i64 x.2.2.2)]) (fun x gh => [⟨1, 0, .box 31 [.d (.sl .rule x0.1), st x0.2.1, .d (.sl .matcher x0.2.2), .d (.sl .str x0.2.3), it .i64 x0.2.4, it .i64 x0.2.5, it .i64 x0.2.6, .d (.sl .str x0.2.7), bl x0.2.8, .d (.sl .route x0.2.9), .d (.sl .str x0.3), .d (.sl .inhibit x0.4), .d (.sl .hours x0.5)]⟩, ⟨34, 6, Cell.tok 9 TyS.str (A.nlen TyS.str (A.app TyS.str (A.app TyS.str [] [ByteArray.mk (Array.mk [103, 114, 111, 117, 112])]) [ByteArray.mk (Array.mk [105, 110, 104, 105, 98, 105, 116])]))⟩, ⟨33, 6, Cell.tok 9 TyS.str (A.nlen TyS.str [ByteArray.mk (Array.mk [105, 110, 104, 105, 98, 105, 116])])⟩, ⟨26, 4, Cell.tok 9 TyS.str (A.nlen TyS.str [ByteArray.mk (Array.mk [103, 114, 111, 117, 112])])⟩]) [] ?_
    rintro ⟨t4, t5, t6, t38⟩ gh9 g9 _ _ _ hK9 hQ9 h; cbv
    refine kj ?_
    refine bc h (fun hb h => ?_) fun hb h => ?_
    ·cbv
     refine kj ?_
     refine kk h fun c13 h => ?_
     refine kj ?_
     iterate 4 refine cj ?_
     refine kj ?_
     iterate 4 refine cj ?_
     refine kj ?_
     refine kl h (fun x _ => [(6, bl x.1), (57, it .i64 x.2)]) (fun x gh => [⟨8, g9.succ, .box 36 [PV.d (D.v (Value.string (A.get TyS.rule x0.1 t38).1)), PV.d (D.v (Value.string (A.get TyS.rule x0.1 t38).2)), PV.d (D.v (Value.int .i64 (A.get TyS.rule x0.1 t38).3)), PV.d (D.v (Value.int .i64 (A.get TyS.rule x0.1 t38).4)), PV.d (D.v (Value.int .i64 (A.get TyS.rule x0.1 t38).5)), PV.d (D.v (Value.int .i64 (A.get TyS.rule x0.1 t38).6)), PV.d (D.v (Value.int .i64 (A.get TyS.rule x0.1 t38).7)), PV.d (D.sl TyS.label (A.get TyS.rule x0.1 t38).8)]⟩, ⟨1, 0, .box 31 [.d (.sl .rule x0.1), st x0.2.1, .d (.sl .matcher x0.2.2), .d (.sl .str x0.2.3), it .i64 x0.2.4, it .i64 x0.2.5, it .i64 x0.2.6, .d (.sl .str x0.2.7), bl x0.2.8, .d (.sl .route x0.2.9), .d (.sl .str x0.3), .d (.sl .inhibit x0.4), .d (.sl .hours x0.5)]⟩, ⟨34, 6, Cell.tok 9 TyS.str (A.nlen TyS.str (A.app TyS.str (A.app TyS.str [] [ByteArray.mk (Array.mk [103, 114, 111, 117, 112])]) [ByteArray.mk (Array.mk [105, 110, 104, 105, 98, 105, 116])]))⟩, ⟨33, 6, Cell.tok 9 TyS.str (A.nlen TyS.str [ByteArray.mk (Array.mk [105, 110, 104, 105, 98, 105, 116])])⟩, ⟨26, 4, Cell.tok 9 TyS.str (A.nlen TyS.str [ByteArray.mk (Array.mk [103, 114, 111, 117, 112])])⟩]) [] ?_
     rintro ⟨t6', t57⟩ gh10 g10 _ _ _ hK10 hQ10 h; cbv
     refine kj ?_
     refine bc h (fun hb h => ?_) fun hb h => ?_
     ·cbv
      refine kj ?_
      refine kk h fun c14 h => ?_
      refine kj ?_
      iterate 3 refine cj ?_
      obtain ⟨w15, hw15, h⟩ := bd_e h; refine kg hP (fun hc => (Abc hA (gd_e hw15 hc))) ?_; cbv
      refine cj ?_
      refine kj ?_
      cases h; exact hK10 _ _ [] rfl hdy
     ·cbv
      refine hQ10 _ h _ _ fun h => ?_; cbv
      refine kj ?_
      cases h; exact hK9 _ _ [] rfl hdy
    ·cbv
     refine hQ9 _ h _ _ fun h => ?_; cbv
     refine kj ?_
     refine bc h (fun hb h => ?_) fun hb h => ?_
     ·cbv
      refine kj ?_
      refine ⟨by subst hA; simp +contextual [vcm], ?_⟩
      refine kj ?_
      refine bc h (fun hb h => ?_) fun hb h => ?_
      ·cbv
       refine kj ?_
       refine ⟨by subst hA; simp +contextual [vcm], ?_⟩
       refine kj ?_
       refine bc h (fun hb h => ?_) fun hb h => ?_
       ·cbv
        refine kj ?_
        refine ⟨by subst hA; simp +contextual [vcm], ?_⟩
        refine kj ?_
        cases h; subst hR; exact ey
       ·cbv
        refine kj ?_
        cases h; subst hR; exact ey
      ·cbv
       refine kj ?_
       refine bc h (fun hb h => ?_) fun hb h => ?_
       ·cbv
        refine kj ?_
        refine ⟨by subst hA; simp +contextual [vcm], ?_⟩
        refine kj ?_
        cases h; subst hR; exact ey
       ·cbv
        refine kj ?_
        cases h; subst hR; exact ey
     ·cbv
      refine kj ?_
      refine bc h (fun hb h => ?_) fun hb h => ?_
      ·cbv
       refine kj ?_
       refine ⟨by subst hA; simp +contextual [vcm], ?_⟩
       refine kj ?_
       refine bc h (fun hb h => ?_) fun hb h => ?_
       ·cbv
        refine kj ?_
        refine ⟨by subst hA; simp +contextual [vcm], ?_⟩
        refine kj ?_
        cases h; subst hR; exact ey
       ·cbv
        refine kj ?_
        cases h; subst hR; exact ey
      ·cbv
       refine kj ?_
       refine bc h (fun hb h => ?_) fun hb h => ?_
       ·cbv
        refine kj ?_
        refine ⟨by subst hA; simp +contextual [vcm], ?_⟩
        refine kj ?_
        cases h; subst hR; exact ey
       ·cbv
        refine kj ?_
        cases h; subst hR; exact ey
   ·cbv
    iterate 4 refine kj ?_
    refine kl h (fun x _ => [(4, bl x.1), (5, bl x.2.1), (6, bl x.2.2.1), (38, it .i64 x.2.2.2)]) (fun x gh => [⟨1, 0, .box 31 [.d (.sl .rule x0.1), st x0.2.1, .d (.sl .matcher x0.2.2), .d (.sl .str x0.2.3), it .i64 x0.2.4, it .i64 x0.2.5, it .i64 x0.2.6, .d (.sl .str x0.2.7), bl x0.2.8, .d (.sl .route x0.2.9), .d (.sl .str x0.3), .d (.sl .inhibit x0.4), .d (.sl .hours x0.5)]⟩, ⟨27, 4, Cell.tok 9 TyS.str (A.nlen TyS.str (A.app TyS.str [] [ByteArray.mk (Array.mk [103, 114, 111, 117, 112])]))⟩, ⟨26, 4, Cell.tok 9 TyS.str (A.nlen TyS.str [ByteArray.mk (Array.mk [103, 114, 111, 117, 112])])⟩]) [] ?_
    rintro ⟨t4, t5, t6, t38⟩ gh11 g11 _ _ _ hK11 hQ11 h; cbv
    refine kj ?_
    refine bc h (fun hb h => ?_) fun hb h => ?_
    ·cbv
     refine kj ?_
     refine kk h fun c16 h => ?_
     refine kj ?_
     iterate 4 refine cj ?_
     refine kj ?_
     iterate 4 refine cj ?_
     refine kj ?_
     refine kl h (fun x _ => [(6, bl x.1), (57, it .i64 x.2)]) (fun x gh => [⟨8, g11.succ, .box 36 [PV.d (D.v (Value.string (A.get TyS.rule x0.1 t38).1)), PV.d (D.v (Value.string (A.get TyS.rule x0.1 t38).2)), PV.d (D.v (Value.int .i64 (A.get TyS.rule x0.1 t38).3)), PV.d (D.v (Value.int .i64 (A.get TyS.rule x0.1 t38).4)), PV.d (D.v (Value.int .i64 (A.get TyS.rule x0.1 t38).5)), PV.d (D.v (Value.int .i64 (A.get TyS.rule x0.1 t38).6)), PV.d (D.v (Value.int .i64 (A.get TyS.rule x0.1 t38).7)), PV.d (D.sl TyS.label (A.get TyS.rule x0.1 t38).8)]⟩, ⟨1, 0, .box 31 [.d (.sl .rule x0.1), st x0.2.1, .d (.sl .matcher x0.2.2), .d (.sl .str x0.2.3), it .i64 x0.2.4, it .i64 x0.2.5, it .i64 x0.2.6, .d (.sl .str x0.2.7), bl x0.2.8, .d (.sl .route x0.2.9), .d (.sl .str x0.3), .d (.sl .inhibit x0.4), .d (.sl .hours x0.5)]⟩, ⟨27, 4, Cell.tok 9 TyS.str (A.nlen TyS.str (A.app TyS.str [] [ByteArray.mk (Array.mk [103, 114, 111, 117, 112])]))⟩, ⟨26, 4, Cell.tok 9 TyS.str (A.nlen TyS.str [ByteArray.mk (Array.mk [103, 114, 111, 117, 112])])⟩]) [] ?_
     rintro ⟨t6', t57⟩ gh12 g12 _ _ _ hK12 hQ12 h; cbv
     refine kj ?_
     refine bc h (fun hb h => ?_) fun hb h => ?_
     ·cbv
      refine kj ?_
      refine kk h fun c17 h => ?_
      refine kj ?_
      iterate 3 refine cj ?_
      obtain ⟨w18, hw18, h⟩ := bd_e h; refine kg hP (fun hc => (Abc hA (gd_e hw18 hc))) ?_; cbv
      refine cj ?_
      refine kj ?_
      cases h; exact hK12 _ _ [] rfl hdy
     ·cbv
      refine hQ12 _ h _ _ fun h => ?_; cbv
      refine kj ?_
      cases h; exact hK11 _ _ [] rfl hdy
    ·cbv
     refine hQ11 _ h _ _ fun h => ?_; cbv
     refine kj ?_
     refine bc h (fun hb h => ?_) fun hb h => ?_
     ·cbv
      refine kj ?_
      refine ⟨by subst hA; simp +contextual [vcm], ?_⟩
      refine kj ?_
      refine bc h (fun hb h => ?_) fun hb h => ?_
      ·cbv
       refine kj ?_
       refine ⟨by subst hA; simp +contextual [vcm], ?_⟩
       refine kj ?_
       refine bc h (fun hb h => ?_) fun hb h => ?_
       ·cbv
        refine kj ?_
        refine ⟨by subst hA; simp +contextual [vcm], ?_⟩
        refine kj ?_
        cases h; subst hR; exact ey
       ·cbv
        refine kj ?_
        cases h; subst hR; exact ey
      ·cbv
       refine kj ?_
       refine bc h (fun hb h => ?_) fun hb h => ?_
       ·cbv
        refine kj ?_
        refine ⟨by subst hA; simp +contextual [vcm], ?_⟩
        refine kj ?_
        cases h; subst hR; exact ey
       ·cbv
        refine kj ?_
        cases h; subst hR; exact ey
     ·cbv
      refine kj ?_
      refine bc h (fun hb h => ?_) fun hb h => ?_
      ·cbv
       refine kj ?_
       refine ⟨by subst hA; simp +contextual [vcm], ?_⟩
       refine kj ?_
       refine bc h (fun hb h => ?_) fun hb h => ?_
       ·cbv
        refine kj ?_
        refine ⟨by subst hA; simp +contextual [vcm], ?_⟩
        refine kj ?_
        cases h; subst hR; exact ey
       ·cbv
        refine kj ?_
        cases h; subst hR; exact ey
      ·cbv
       refine kj ?_
       refine bc h (fun hb h => ?_) fun hb h => ?_
       ·cbv
        refine kj ?_
        refine ⟨by subst hA; simp +contextual [vcm], ?_⟩
        refine kj ?_
        cases h; subst hR; exact ey
       ·cbv
        refine kj ?_
        cases h; subst hR; exact ey
  ·cbv
   refine kj ?_
   refine bc h (fun hb h => ?_) fun hb h => ?_
   ·cbv
    refine kj ?_
    refine ⟨by subst hA; simp +contextual [vcm], ?_⟩
    iterate 4 refine kj ?_
    refine kl h (fun x _ => [(4, bl x.1), (5, bl x.2.1), (6, bl x.2.2.1), (38, it .i64 x.2.2.2)]) (fun x gh => [⟨1, 0, .box 31 [.d (.sl .rule x0.1), st x0.2.1, .d (.sl .matcher x0.2.2), .d (.sl .str x0.2.3), it .i64 x0.2.4, it .i64 x0.2.5, it .i64 x0.2.6, .d (.sl .str x0.2.7), bl x0.2.8, .d (.sl .route x0.2.9), .d (.sl .str x0.3), .d (.sl .inhibit x0.4), .d (.sl .hours x0.5)]⟩, ⟨34, 5, Cell.tok 9 TyS.str (A.nlen TyS.str (A.app TyS.str [] [ByteArray.mk (Array.mk [105, 110, 104, 105, 98, 105, 116])]))⟩, ⟨33, 5, Cell.tok 9 TyS.str (A.nlen TyS.str [ByteArray.mk (Array.mk [105, 110, 104, 105, 98, 105, 116])])⟩]) [] ?_
    rintro ⟨t4, t5, t6, t38⟩ gh13 g13 _ _ _ hK13 hQ13 h; cbv
    refine kj ?_
    refine bc h (fun hb h => ?_) fun hb h => ?_
    ·cbv
     refine kj ?_
     refine kk h fun c19 h => ?_
     refine kj ?_
     iterate 4 refine cj ?_
     refine kj ?_
     iterate 4 refine cj ?_
     refine kj ?_
     refine kl h (fun x _ => [(6, bl x.1), (57, it .i64 x.2)]) (fun x gh => [⟨8, g13.succ, .box 36 [PV.d (D.v (Value.string (A.get TyS.rule x0.1 t38).1)), PV.d (D.v (Value.string (A.get TyS.rule x0.1 t38).2)), PV.d (D.v (Value.int .i64 (A.get TyS.rule x0.1 t38).3)), PV.d (D.v (Value.int .i64 (A.get TyS.rule x0.1 t38).4)), PV.d (D.v (Value.int .i64 (A.get TyS.rule x0.1 t38).5)), PV.d (D.v (Value.int .i64 (A.get TyS.rule x0.1 t38).6)), PV.d (D.v (Value.int .i64 (A.get TyS.rule x0.1 t38).7)), PV.d (D.sl TyS.label (A.get TyS.rule x0.1 t38).8)]⟩, ⟨1, 0, .box 31 [.d (.sl .rule x0.1), st x0.2.1, .d (.sl .matcher x0.2.2), .d (.sl .str x0.2.3), it .i64 x0.2.4, it .i64 x0.2.5, it .i64 x0.2.6, .d (.sl .str x0.2.7), bl x0.2.8, .d (.sl .route x0.2.9), .d (.sl .str x0.3), .d (.sl .inhibit x0.4), .d (.sl .hours x0.5)]⟩, ⟨34, 5, Cell.tok 9 TyS.str (A.nlen TyS.str (A.app TyS.str [] [ByteArray.mk (Array.mk [105, 110, 104, 105, 98, 105, 116])]))⟩, ⟨33, 5, Cell.tok 9 TyS.str (A.nlen TyS.str [ByteArray.mk (Array.mk [105, 110, 104, 105, 98, 105, 116])])⟩]) [] ?_
     rintro ⟨t6', t57⟩ gh14 g14 _ _ _ hK14 hQ14 h; cbv
     refine kj ?_
     refine bc h (fun hb h => ?_) fun hb h => ?_
     ·cbv
      refine kj ?_
      refine kk h fun c20 h => ?_
      refine kj ?_
      iterate 3 refine cj ?_
      obtain ⟨w21, hw21, h⟩ := bd_e h; refine kg hP (fun hc => (Abc hA (gd_e hw21 hc))) ?_; cbv
      refine cj ?_
      refine kj ?_
      cases h; exact hK14 _ _ [] rfl hdy
     ·cbv
      refine hQ14 _ h _ _ fun h => ?_; cbv
      refine kj ?_
      cases h; exact hK13 _ _ [] rfl hdy
    ·cbv
     refine hQ13 _ h _ _ fun h => ?_; cbv
     refine kj ?_
     refine bc h (fun hb h => ?_) fun hb h => ?_
     ·cbv
      refine kj ?_
      refine ⟨by subst hA; simp +contextual [vcm], ?_⟩
      refine kj ?_
      refine bc h (fun hb h => ?_) fun hb h => ?_
      ·cbv
       refine kj ?_
       refine ⟨by subst hA; simp +contextual [vcm], ?_⟩
       refine kj ?_
       refine bc h (fun hb h => ?_) fun hb h => ?_
       ·cbv
        refine kj ?_
        refine ⟨by subst hA; simp +contextual [vcm], ?_⟩
        refine kj ?_
        cases h; subst hR; exact ey
       ·cbv
        refine kj ?_
        cases h; subst hR; exact ey
      ·cbv
       refine kj ?_
       refine bc h (fun hb h => ?_) fun hb h => ?_
       ·cbv
        refine kj ?_
        refine ⟨by subst hA; simp +contextual [vcm], ?_⟩
        refine kj ?_
        cases h; subst hR; exact ey
       ·cbv
        refine kj ?_
        cases h; subst hR; exact ey
     ·cbv
      refine kj ?_
      refine bc h (fun hb h => ?_) fun hb h => ?_
      ·cbv
       refine kj ?_
       refine ⟨by subst hA; simp +contextual [vcm], ?_⟩
       refine kj ?_
       refine bc h (fun hb h => ?_) fun hb h => ?_
       ·cbv
        refine kj ?_
        refine ⟨by subst hA; simp +contextual [vcm], ?_⟩
        refine kj ?_
        cases h; subst hR; exact ey
       ·cbv
        refine kj ?_
        cases h; subst hR; exact ey
      ·cbv
       refine kj ?_
       refine bc h (fun hb h => ?_) fun hb h => ?_
       ·cbv
        refine kj ?_
        refine ⟨by subst hA; simp +contextual [vcm], ?_⟩
        refine kj ?_
        cases h; subst hR; exact ey
       ·cbv
        refine kj ?_
        cases h; subst hR; exact ey
   ·cbv
    iterate 4 refine kj ?_
    refine kl h (fun x _ => [(4, bl x.1), (5, bl x.2.1), (6, bl x.2.2.1), (38, it .i64 x.2.2.2)]) (fun x gh => [⟨1, 0, .box 31 [.d (.sl .rule x0.1), st x0.2.1, .d (.sl .matcher x0.2.2), .d (.sl .str x0.2.3), it .i64 x0.2.4, it .i64 x0.2.5, it .i64 x0.2.6, .d (.sl .str x0.2.7), bl x0.2.8, .d (.sl .route x0.2.9), .d (.sl .str x0.3), .d (.sl .inhibit x0.4), .d (.sl .hours x0.5)]⟩, ⟨11, 1, Cell.tok 9 TyS.str (A.nlen TyS.str [])⟩]) [] ?_
    rintro ⟨t4, t5, t6, t38⟩ gh15 g15 _ _ _ hK15 hQ15 h; cbv
    refine kj ?_
    refine bc h (fun hb h => ?_) fun hb h => ?_
    ·cbv
     refine kj ?_
     refine kk h fun c22 h => ?_
     refine kj ?_
     iterate 4 refine cj ?_
     refine kj ?_
     iterate 4 refine cj ?_
     refine kj ?_
     refine kl h (fun x _ => [(6, bl x.1), (57, it .i64 x.2)]) (fun x gh => [⟨8, g15.succ, .box 36 [PV.d (D.v (Value.string (A.get TyS.rule x0.1 t38).1)), PV.d (D.v (Value.string (A.get TyS.rule x0.1 t38).2)), PV.d (D.v (Value.int .i64 (A.get TyS.rule x0.1 t38).3)), PV.d (D.v (Value.int .i64 (A.get TyS.rule x0.1 t38).4)), PV.d (D.v (Value.int .i64 (A.get TyS.rule x0.1 t38).5)), PV.d (D.v (Value.int .i64 (A.get TyS.rule x0.1 t38).6)), PV.d (D.v (Value.int .i64 (A.get TyS.rule x0.1 t38).7)), PV.d (D.sl TyS.label (A.get TyS.rule x0.1 t38).8)]⟩, ⟨1, 0, .box 31 [.d (.sl .rule x0.1), st x0.2.1, .d (.sl .matcher x0.2.2), .d (.sl .str x0.2.3), it .i64 x0.2.4, it .i64 x0.2.5, it .i64 x0.2.6, .d (.sl .str x0.2.7), bl x0.2.8, .d (.sl .route x0.2.9), .d (.sl .str x0.3), .d (.sl .inhibit x0.4), .d (.sl .hours x0.5)]⟩, ⟨11, 1, Cell.tok 9 TyS.str (A.nlen TyS.str [])⟩]) [] ?_
     rintro ⟨t6', t57⟩ gh16 g16 _ _ _ hK16 hQ16 h; cbv
     refine kj ?_
     refine bc h (fun hb h => ?_) fun hb h => ?_
     ·cbv
      refine kj ?_
      refine kk h fun c23 h => ?_
      refine kj ?_
      iterate 3 refine cj ?_
      obtain ⟨w24, hw24, h⟩ := bd_e h; refine kg hP (fun hc => (Abc hA (gd_e hw24 hc))) ?_; cbv
      refine cj ?_
      refine kj ?_
      cases h; exact hK16 _ _ [] rfl hdy
     ·cbv
      refine hQ16 _ h _ _ fun h => ?_; cbv
      refine kj ?_
      cases h; exact hK15 _ _ [] rfl hdy
    ·cbv
     refine hQ15 _ h _ _ fun h => ?_; cbv
     refine kj ?_
     refine bc h (fun hb h => ?_) fun hb h => ?_
     ·cbv
      refine kj ?_
      refine ⟨by subst hA; simp +contextual [vcm], ?_⟩
      refine kj ?_
      refine bc h (fun hb h => ?_) fun hb h => ?_
      ·cbv
       refine kj ?_
       refine ⟨by subst hA; simp +contextual [vcm], ?_⟩
       refine kj ?_
       refine bc h (fun hb h => ?_) fun hb h => ?_
       ·cbv
        refine kj ?_
        refine ⟨by subst hA; simp +contextual [vcm], ?_⟩
        refine kj ?_
        cases h; subst hR; exact ey
       ·cbv
        refine kj ?_
        cases h; subst hR; exact ey
      ·cbv
       refine kj ?_
       refine bc h (fun hb h => ?_) fun hb h => ?_
       ·cbv
        refine kj ?_
        refine ⟨by subst hA; simp +contextual [vcm], ?_⟩
        refine kj ?_
        cases h; subst hR; exact ey
       ·cbv
        refine kj ?_
        cases h; subst hR; exact ey
     ·cbv
      refine kj ?_
      refine bc h (fun hb h => ?_) fun hb h => ?_
      ·cbv
       refine kj ?_
       refine ⟨by subst hA; simp +contextual [vcm], ?_⟩
       refine kj ?_
       refine bc h (fun hb h => ?_) fun hb h => ?_
       ·cbv
        refine kj ?_
        refine ⟨by subst hA; simp +contextual [vcm], ?_⟩
        refine kj ?_
        cases h; subst hR; exact ey
       ·cbv
        refine kj ?_
        cases h; subst hR; exact ey
      ·cbv
       refine kj ?_
       refine bc h (fun hb h => ?_) fun hb h => ?_
       ·cbv
        refine kj ?_
        refine ⟨by subst hA; simp +contextual [vcm], ?_⟩
        refine kj ?_
        cases h; subst hR; exact ey
       ·cbv
        refine kj ?_
        cases h; subst hR; exact ey
theorem Ai8 {A : Ar} (hA : A = std) {x0 : Config} {r : Bool} (h : Ada A x0 = some r) : PFun cx 26 [Ag8 x0] (bl r) := by
 refine wF hA cx_ok Tryz.func26 fun P R hP hR => ?_
 cbv; unfold Ada at h
 iterate 2 refine kj ?_
 obtain ⟨w1, hw1, h⟩ := bd_e h; refine kc hP (Ai7 hA hw1) ?_; cbv
 iterate 2 refine cj ?_
 obtain ⟨w2, hw2, h⟩ := bd_e h; refine kg hP (fun hc => (Akf hA (gd_e hw2 hc))) ?_; cbv
 iterate 3 refine cj ?_
 exact le h hR
theorem Ao9 {A : Ar} (hA : A = std) {x0 : List ByteArray} {x1 : List ByteArray} {r : Bool} (h : Adi A x0 x1 = some r) : PFun cx 28 [.d (.sl TyS.str x0), .d (.sl TyS.str x1)] (bl r) := by
 refine wF hA cx_ok Tryz.func28 fun P R hP hR => ?_
 cbv; unfold Adi at h
 iterate 2 refine kj ?_
 refine bc h (fun hb h => ?_) fun hb h => ?_
 ·cbv
  refine kj ?_
  exact le h hR
 ·cbv
  refine kj ?_
  refine kl h (fun x _ => [(13, it .i64 x)]) (fun _ _ => []) [] ?_
  rintro t13 gh1 g1 _ _ _ hK1 hQ1 h; cbv
  refine kj ?_
  refine bc h (fun hb h => ?_) fun hb h => ?_
  ·cbv
   iterate 2 refine kj ?_
   refine kk h fun c1 h => ?_
   refine kk h fun c2 h => ?_
   refine kj ?_
   refine bc h (fun hb h => ?_) fun hb h => ?_
   ·cbv
    refine kj ?_
    refine hQ1 _ h _ _ fun h => ?_; cbv
    exact le h hR
   ·cbv
    refine kj ?_
    cases h; exact hK1 _ _ [] rfl hdy
  ·cbv
   refine hQ1 _ h _ _ fun h => ?_; cbv
   refine kj ?_
   exact le h hR
theorem Ad3 {A : Ar} (hA : A = std) {x0 : List ByteArray} {r : List Int} (h : Aad A x0 = some r) : PFun cx 110 [.d (.sl TyS.str x0)] (.d (.sl TyS.int r)) := by
 refine wF hA cx_ok Tryz.func110 fun P R hP hR => ?_
 cbv; unfold Aad at h
 iterate 3 refine kj ?_
 refine kl h (fun x gh => [(3, .os 4030 gh TyS.int x.1), (11, it .i64 x.2)]) (fun x gh => [⟨4030, gh, .tok 3 TyS.int (A.nlen TyS.int x.1)⟩]) [(4030, 8, 1)] ?_
 rintro ⟨out3, t11⟩ gh1 g1 _ _ _ hK1 hQ1 h; cbv
 refine kj ?_
 refine bc h (fun hb h => ?_) fun hb h => ?_
 ·cbv
  refine kj ?_
  refine kk h fun c1 h => ?_
  refine kj ?_
  refine kk h fun c2 h => ?_
  obtain ⟨w3, hw3, h⟩ := bd_e h; refine kc hP (Afx hA hw3) ?_; cbv
  refine bc h (fun hb h => ?_) fun hb h => ?_
  ·cbv
   refine kj ?_
   cases h; exact hK1 _ _ [(4030, 4030, gh1)] rfl hdy
  ·cbv
   refine kj ?_
   refine kl h (fun x _ => [(6, it .i64 x)]) (fun x gh => [⟨4030, gh1, Cell.tok 3 TyS.int (A.nlen TyS.int out3)⟩]) [] ?_
   rintro k6 gh2 g2 _ _ _ hK2 hQ2 h; cbv
   refine kj ?_
   iterate 2 refine cj ?_
   refine kk h fun c4 h => ?_
   iterate 3 refine cj ?_
   refine kk h fun c5 h => ?_
   iterate 3 refine cj ?_
   obtain ⟨w6, hw6, h⟩ := bd_e h; refine kg hP (fun hc => (Adk hA (gd_e hw6 hc))) ?_; cbv
   refine cj ?_
   refine bc h (fun hb h => ?_) fun hb h => ?_
   ·cbv
    refine kj ?_
    cases h; exact hK2 _ _ [] rfl hdy
   ·cbv
    refine hQ2 _ h _ _ fun h => ?_; cbv
    iterate 2 refine kj ?_
    refine kk h fun c7 h => ?_
    refine kk h fun c8 h => ?_
    refine kj ?_
    refine kk h fun c9 h => ?_
    refine kj ?_
    refine kk h fun c10 h => ?_
    refine kk h fun c11 h => ?_
    iterate 2 refine kj ?_
    cases h; exact hK1 _ _ [(4030, 52, g2.succ.succ.succ.succ)] rfl hdy
 ·cbv
  refine hQ1 _ h _ _ fun h => ?_; cbv
  refine kj ?_
  cases h; subst hR; exact ey
theorem Apa {A : Ar} (hA : A = std) {x0 : Int} {r : ByteArray} (h : Ae1 A x0 = some r) : PFun cx 280 [it .i64 x0] (st r) := by
 refine wF hA cx_ok Tryz.func280 fun P R hP hR => ?_
 cbv; unfold Ae1 at h
 iterate 2 refine kj ?_
 refine kk h fun c1 h => ?_
 exact le h hR
theorem Apb {A : Ar} (hA : A = std) {x0 : Matcher} {r : ByteArray} (h : Ae2 A x0 = some r) : PFun cx 209 [Aj0 x0] (st r) := by
 refine wF hA cx_ok Tryz.func209 fun P R hP hR => ?_
 cbv; unfold Ae2 at h
 iterate 2 refine kj ?_
 obtain ⟨w1, hw1, h⟩ := bd_e h; refine kc hP (Apa hA hw1) ?_; cbv
 refine kk h fun c2 h => ?_
 refine kk h fun c3 h => ?_
 iterate 2 refine kj ?_
 refine kl h (fun x _ => [(3, st x.1), (16, it .i64 x.2)]) (fun x gh => [⟨1, 0, .box 99 [st x0.1, it .i64 x0.2, .d (.sl .str x0.3)]⟩]) [] ?_
 rintro ⟨out3, t16⟩ gh1 g1 _ _ _ hK1 hQ1 h; cbv
 refine kj ?_
 refine bc h (fun hb h => ?_) fun hb h => ?_
 ·cbv
  refine kj ?_
  refine kk h fun c4 h => ?_
  refine kj ?_
  refine bc h (fun hb h => ?_) fun hb h => ?_
  ·cbv
   refine kj ?_
   refine kk h fun c5 h => ?_
   refine kj ?_
   refine kk h fun c6 h => ?_
   refine kj ?_
   cases h; exact hK1 _ _ [] rfl hdy
  ·cbv
   refine kj ?_
   refine kk h fun c7 h => ?_
   refine kj ?_
   cases h; exact hK1 _ _ [] rfl hdy
 ·cbv
  refine hQ1 _ h _ _ fun h => ?_; cbv
  refine kj ?_
  refine kk h fun c8 h => ?_
  exact le h hR
theorem An0 {A : Ar} (hA : A = std) {x0 : Int} {r : ByteArray} (h : Adr A x0 = some r) : PFun cx 268 [it .i64 x0] (st r) := by
 refine wF hA cx_ok Tryz.func268 fun P R hP hR => ?_
 cbv; unfold Adr at h
 iterate 2 refine kj ?_
 refine kl h (fun x gh => [(0, it .i64 x.1), (3, .os 4031 gh TyS.byte x.2)]) (fun x gh => [⟨4031, gh, .tok 5 TyS.byte (A.nlen TyS.byte x.2)⟩]) [(4031, 4, 1)] ?_
 rintro ⟨n0, b3⟩ gh1 g1 _ _ _ hK1 hQ1 h; cbv
 refine kj ?_
 refine bc h (fun hb h => ?_) fun hb h => ?_
 ·cbv
  refine kj ?_
  refine ⟨by subst hA; simp +contextual [vcm], ?_⟩
  refine and_assoc.2 ?_
  refine kk h fun c1 h => ?_
  refine cj ?_
  refine kk h fun c2 h => ?_
  refine kj ?_
  refine ⟨by subst hA; simp +contextual [vcm], ?_⟩
  cases h; exact hK1 _ _ [(4031, 13, g1.succ)] rfl hdy
 ·cbv
  refine hQ1 _ h _ _ fun h => ?_; cbv
  refine kj ?_
  refine and_assoc.2 ?_
  refine kk h fun c3 h => ?_
  refine cj ?_
  refine kk h fun c4 h => ?_
  refine kj ?_
  exact le h hR
theorem Ag3 {A : Ar} (hA : A = std) {x0 : List ByteArray} {r : ByteArray} (h : Acm A x0 = some r) : PFun cx 186 [.d (.sl TyS.str x0)] (st r) := by
 refine wF hA cx_ok Tryz.func186 fun P R hP hR => ?_
 cbv; unfold Acm at h
 iterate 3 refine kj ?_
 refine kl h (fun x _ => [(3, st x.1), (8, it .i64 x.2)]) (fun _ _ => []) [] ?_
 rintro ⟨out3, t8⟩ gh1 g1 _ _ _ hK1 hQ1 h; cbv
 refine kj ?_
 refine bc h (fun hb h => ?_) fun hb h => ?_
 ·cbv
  refine kj ?_
  refine kk h fun c1 h => ?_
  refine kj ?_
  obtain ⟨w2, hw2, h⟩ := bd_e h; refine kc hP (An0 hA hw2) ?_; cbv
  refine kk h fun c3 h => ?_
  refine kk h fun c4 h => ?_
  refine kj ?_
  cases h; exact hK1 _ _ [] rfl hdy
 ·cbv
  refine hQ1 _ h _ _ fun h => ?_; cbv
  refine kj ?_
  exact le h hR
theorem Ahy {A : Ar} (hA : A = std) {x0 : List Matcher} {r : ByteArray} (h : Aca A x0 = some r) : PFun cx 187 [.d (.sl TyS.matcher x0)] (st r) := by
 refine wF hA cx_ok Tryz.func187 fun P R hP hR => ?_
 cbv; unfold Aca at h
 iterate 3 refine kj ?_
 refine kl h (fun x gh => [(3, .os 4030 gh TyS.str x.1), (9, it .i64 x.2)]) (fun x gh => [⟨4030, gh, .tok 9 TyS.str (A.nlen TyS.str x.1)⟩]) [(4030, 6, 1)] ?_
 rintro ⟨out3, t9⟩ gh1 g1 _ _ _ hK1 hQ1 h; cbv
 refine kj ?_
 refine bc h (fun hb h => ?_) fun hb h => ?_
 ·cbv
  refine kj ?_
  refine kk h fun c1 h => ?_
  refine kj ?_
  obtain ⟨w2, hw2, h⟩ := bd_e h; refine kc hP (Apb hA hw2) ?_; cbv
  refine kk h fun c3 h => ?_
  refine kj ?_
  cases h; exact hK1 _ _ [(4030, 17, g1.succ.succ)] rfl hdy
 ·cbv
  refine hQ1 _ h _ _ fun h => ?_; cbv
  refine kj ?_
  obtain ⟨w4, hw4, h⟩ := bd_e h; refine kc hP (Ag3 hA hw4) ?_; cbv
  exact le h hR
theorem Aov {A : Ar} (hA : A = std) {x0 : Inhibit} {r : ByteArray} (h : Aei A x0 = some r) : PFun cx 111 [Agy x0] (st r) := by
 refine wF hA cx_ok Tryz.func111 fun P R hP hR => ?_
 cbv; unfold Aei at h
 iterate 2 refine kj ?_
 obtain ⟨w1, hw1, h⟩ := bd_e h; refine kc hP (Ahy hA hw1) ?_; cbv
 obtain ⟨w2, hw2, h⟩ := bd_e h; refine kc hP (Ahy hA hw2) ?_; cbv
 obtain ⟨w3, hw3, h⟩ := bd_e h; refine kc hP (Ag3 hA hw3) ?_; cbv
 obtain ⟨w4, hw4, h⟩ := bd_e h; refine kc hP (Ag3 hA hw4) ?_; cbv
 refine kj ?_
 exact le h hR
theorem An1 {A : Ar} (hA : A = std) {x0 : Config} {r : Config} (h : Ads A x0 = some r) : PFun cx 32 [Ag8 x0] (Ag8 r) := by
 refine wF hA cx_ok Tryz.func32 fun P R hP hR => ?_
 cbv; unfold Ads at h
 iterate 3 refine kj ?_
 obtain ⟨w1, hw1, h⟩ := bd_e h; refine kc hP (Ai2 hA hw1) ?_; cbv
 refine kj ?_
 obtain ⟨w2, hw2, h⟩ := bd_e h; refine kc hP (Ad3 hA hw2) ?_; cbv
 refine kl h (fun x _ => [(29, it .i64 x.1)]) (fun x gh => [⟨4031, gh, .tok 36 TyS.rule (A.nlen TyS.rule x.2)⟩, ⟨3, 1, .box 31 [.os 4031 gh TyS.rule x.2, st x0.2.1, .d (.sl .matcher x0.2.2), .d (.sl .str x0.2.3), it .i64 x0.2.4, it .i64 x0.2.5, it .i64 x0.2.6, .d (.sl .str x0.2.7), bl x0.2.8, .d (.sl .route x0.2.9), PV.d (D.v (Value.slice none 0 0)), PV.d (D.v (Value.slice none 0 0)), PV.d (D.v (Value.slice none 0 0))]⟩, ⟨2, 0, .box 31 [PV.d (D.v (Value.slice none 0 0)), PV.d (D.v (Value.string (ByteArray.mk (Array.mk [])))), PV.d (D.v (Value.slice none 0 0)), PV.d (D.v (Value.slice none 0 0)), it .i64 0, it .i64 0, it .i64 0, PV.d (D.v (Value.slice none 0 0)), bl false, PV.d (D.v (Value.slice none 0 0)), PV.d (D.v (Value.slice none 0 0)), PV.d (D.v (Value.slice none 0 0)), PV.d (D.v (Value.slice none 0 0))]⟩, ⟨1, 0, .box 31 [.d (.sl .rule x0.1), st x0.2.1, .d (.sl .matcher x0.2.2), .d (.sl .str x0.2.3), it .i64 x0.2.4, it .i64 x0.2.5, it .i64 x0.2.6, .d (.sl .str x0.2.7), bl x0.2.8, .d (.sl .route x0.2.9), .d (.sl .str x0.3), .d (.sl .inhibit x0.4), .d (.sl .hours x0.5)]⟩]) [] ?_
 rintro ⟨t29, b0_3⟩ gh1 g1 _ _ _ hK1 hQ1 h; cbv
 refine kj ?_
 refine bc h (fun hb h => ?_) fun hb h => ?_
 ·cbv
  refine kj ?_
  refine kk h fun c3 h => ?_
  refine kj ?_
  refine kk h fun c4 h => ?_
  refine kk h fun c5 h => ?_
  iterate 2 refine kj ?_
  cases h; exact hK1 _ _ [(4031, 41, g1.succ.succ)] rfl hdy
 ·cbv
  refine hQ1 _ h _ _ fun h => ?_; cbv
  refine kj ?_
  obtain ⟨w6, hw6, h⟩ := bd_e h; refine kc hP (Ad3 hA hw6) ?_; cbv
  refine kl h (fun x _ => [(48, it .i64 x.1)]) (fun x gh => [⟨4061, gh, .tok 9 TyS.str (A.nlen TyS.str x.2)⟩, ⟨3, 1, .box 31 [PV.os 4031 gh1 TyS.rule b0_3, st x0.2.1, .d (.sl .matcher x0.2.2), .d (.sl .str x0.2.3), it .i64 x0.2.4, it .i64 x0.2.5, it .i64 x0.2.6, .d (.sl .str x0.2.7), bl x0.2.8, .d (.sl .route x0.2.9), .os 4061 gh TyS.str x.2, PV.d (D.v (Value.slice none 0 0)), PV.d (D.v (Value.slice none 0 0))]⟩, ⟨2, 0, .box 31 [PV.d (D.v (Value.slice none 0 0)), PV.d (D.v (Value.string (ByteArray.mk (Array.mk [])))), PV.d (D.v (Value.slice none 0 0)), PV.d (D.v (Value.slice none 0 0)), it .i64 0, it .i64 0, it .i64 0, PV.d (D.v (Value.slice none 0 0)), bl false, PV.d (D.v (Value.slice none 0 0)), PV.d (D.v (Value.slice none 0 0)), PV.d (D.v (Value.slice none 0 0)), PV.d (D.v (Value.slice none 0 0))]⟩, ⟨1, 0, .box 31 [.d (.sl .rule x0.1), st x0.2.1, .d (.sl .matcher x0.2.2), .d (.sl .str x0.2.3), it .i64 x0.2.4, it .i64 x0.2.5, it .i64 x0.2.6, .d (.sl .str x0.2.7), bl x0.2.8, .d (.sl .route x0.2.9), .d (.sl .str x0.3), .d (.sl .inhibit x0.4), .d (.sl .hours x0.5)]⟩, ⟨4031, gh1, Cell.tok 36 TyS.rule (A.nlen TyS.rule b0_3)⟩]) [] ?_
  rintro ⟨t48, b10_3⟩ gh2 g2 _ _ _ hK2 hQ2 h; cbv
  refine kj ?_
  refine bc h (fun hb h => ?_) fun hb h => ?_
  ·cbv
   refine kj ?_
   refine kk h fun c7 h => ?_
   refine kj ?_
   refine kk h fun c8 h => ?_
   refine kk h fun c9 h => ?_
   iterate 2 refine kj ?_
   cases h; exact hK2 _ _ [(4061, 60, g2.succ.succ)] rfl hdy
  ·cbv
   refine hQ2 _ h _ _ fun h => ?_; cbv
   refine kj ?_
   obtain ⟨w10, hw10, h⟩ := bd_e h; refine kc hP (Ai3 hA hw10) ?_; cbv
   refine kj ?_
   obtain ⟨w11, hw11, h⟩ := bd_e h; refine kc hP (Ad3 hA hw11) ?_; cbv
   refine kl h (fun x _ => [(72, it .i64 x.1)]) (fun x gh => [⟨4091, gh, .tok 67 TyS.hours (A.nlen TyS.hours x.2)⟩, ⟨3, 1, .box 31 [PV.os 4031 gh1 TyS.rule b0_3, st x0.2.1, .d (.sl .matcher x0.2.2), .d (.sl .str x0.2.3), it .i64 x0.2.4, it .i64 x0.2.5, it .i64 x0.2.6, .d (.sl .str x0.2.7), bl x0.2.8, .d (.sl .route x0.2.9), PV.os 4061 gh2 TyS.str b10_3, PV.d (D.v (Value.slice none 0 0)), .os 4091 gh TyS.hours x.2]⟩, ⟨2, 0, .box 31 [PV.d (D.v (Value.slice none 0 0)), PV.d (D.v (Value.string (ByteArray.mk (Array.mk [])))), PV.d (D.v (Value.slice none 0 0)), PV.d (D.v (Value.slice none 0 0)), it .i64 0, it .i64 0, it .i64 0, PV.d (D.v (Value.slice none 0 0)), bl false, PV.d (D.v (Value.slice none 0 0)), PV.d (D.v (Value.slice none 0 0)), PV.d (D.v (Value.slice none 0 0)), PV.d (D.v (Value.slice none 0 0))]⟩, ⟨1, 0, .box 31 [.d (.sl .rule x0.1), st x0.2.1, .d (.sl .matcher x0.2.2), .d (.sl .str x0.2.3), it .i64 x0.2.4, it .i64 x0.2.5, it .i64 x0.2.6, .d (.sl .str x0.2.7), bl x0.2.8, .d (.sl .route x0.2.9), .d (.sl .str x0.3), .d (.sl .inhibit x0.4), .d (.sl .hours x0.5)]⟩, ⟨4061, gh2, Cell.tok 9 TyS.str (A.nlen TyS.str b10_3)⟩, ⟨4031, gh1, Cell.tok 36 TyS.rule (A.nlen TyS.rule b0_3)⟩]) [] ?_
   rintro ⟨t72, b12_3⟩ gh3 g3 _ _ _ hK3 hQ3 h; cbv
   refine kj ?_
   refine bc h (fun hb h => ?_) fun hb h => ?_
   ·cbv
    refine kj ?_
    refine kk h fun c12 h => ?_
    refine kj ?_
    refine kk h fun c13 h => ?_
    refine kk h fun c14 h => ?_
    iterate 2 refine kj ?_
    cases h; exact hK3 _ _ [(4091, 84, g3.succ.succ)] rfl hdy
   ·cbv
    refine hQ3 _ h _ _ fun h => ?_; cbv
    iterate 2 refine kj ?_
    refine kl h (fun x gh => [(12, .os 4120 gh TyS.str x.1), (91, it .i64 x.2)]) (fun x gh => [⟨4120, gh, .tok 9 TyS.str (A.nlen TyS.str x.1)⟩, ⟨3, 1, .box 31 [PV.os 4031 gh1 TyS.rule b0_3, st x0.2.1, .d (.sl .matcher x0.2.2), .d (.sl .str x0.2.3), it .i64 x0.2.4, it .i64 x0.2.5, it .i64 x0.2.6, .d (.sl .str x0.2.7), bl x0.2.8, .d (.sl .route x0.2.9), PV.os 4061 gh2 TyS.str b10_3, PV.d (D.v (Value.slice none 0 0)), PV.os 4091 gh3 TyS.hours b12_3]⟩, ⟨2, 0, .box 31 [PV.d (D.v (Value.slice none 0 0)), PV.d (D.v (Value.string (ByteArray.mk (Array.mk [])))), PV.d (D.v (Value.slice none 0 0)), PV.d (D.v (Value.slice none 0 0)), it .i64 0, it .i64 0, it .i64 0, PV.d (D.v (Value.slice none 0 0)), bl false, PV.d (D.v (Value.slice none 0 0)), PV.d (D.v (Value.slice none 0 0)), PV.d (D.v (Value.slice none 0 0)), PV.d (D.v (Value.slice none 0 0))]⟩, ⟨1, 0, .box 31 [.d (.sl .rule x0.1), st x0.2.1, .d (.sl .matcher x0.2.2), .d (.sl .str x0.2.3), it .i64 x0.2.4, it .i64 x0.2.5, it .i64 x0.2.6, .d (.sl .str x0.2.7), bl x0.2.8, .d (.sl .route x0.2.9), .d (.sl .str x0.3), .d (.sl .inhibit x0.4), .d (.sl .hours x0.5)]⟩, ⟨4091, gh3, Cell.tok 67 TyS.hours (A.nlen TyS.hours b12_3)⟩, ⟨4061, gh2, Cell.tok 9 TyS.str (A.nlen TyS.str b10_3)⟩, ⟨4031, gh1, Cell.tok 36 TyS.rule (A.nlen TyS.rule b0_3)⟩]) [(4120, 87, g3.succ)] ?_
    rintro ⟨t12, t91⟩ gh4 g4 _ _ _ hK4 hQ4 h; cbv
    refine kj ?_
    refine bc h (fun hb h => ?_) fun hb h => ?_
    ·cbv
     refine kj ?_
     refine kk h fun c15 h => ?_
     refine kj ?_
     obtain ⟨w16, hw16, h⟩ := bd_e h; refine kc hP (Aov hA hw16) ?_; cbv
     refine kk h fun c17 h => ?_
     refine kj ?_
     cases h; exact hK4 _ _ [(4120, 99, g4.succ.succ)] rfl hdy
    ·cbv
     refine hQ4 _ h _ _ fun h => ?_; cbv
     refine kj ?_
     obtain ⟨w18, hw18, h⟩ := bd_e h; refine kc hP (Ad3 hA hw18) ?_; cbv
     refine kl h (fun x _ => [(104, it .i64 x.1)]) (fun x gh => [⟨4151, gh, .tok 63 TyS.inhibit (A.nlen TyS.inhibit x.2)⟩, ⟨3, 1, .box 31 [PV.os 4031 gh1 TyS.rule b0_3, st x0.2.1, .d (.sl .matcher x0.2.2), .d (.sl .str x0.2.3), it .i64 x0.2.4, it .i64 x0.2.5, it .i64 x0.2.6, .d (.sl .str x0.2.7), bl x0.2.8, .d (.sl .route x0.2.9), PV.os 4061 gh2 TyS.str b10_3, .os 4151 gh TyS.inhibit x.2, PV.os 4091 gh3 TyS.hours b12_3]⟩, ⟨2, 0, .box 31 [PV.d (D.v (Value.slice none 0 0)), PV.d (D.v (Value.string (ByteArray.mk (Array.mk [])))), PV.d (D.v (Value.slice none 0 0)), PV.d (D.v (Value.slice none 0 0)), it .i64 0, it .i64 0, it .i64 0, PV.d (D.v (Value.slice none 0 0)), bl false, PV.d (D.v (Value.slice none 0 0)), PV.d (D.v (Value.slice none 0 0)), PV.d (D.v (Value.slice none 0 0)), PV.d (D.v (Value.slice none 0 0))]⟩, ⟨1, 0, .box 31 [.d (.sl .rule x0.1), st x0.2.1, .d (.sl .matcher x0.2.2), .d (.sl .str x0.2.3), it .i64 x0.2.4, it .i64 x0.2.5, it .i64 x0.2.6, .d (.sl .str x0.2.7), bl x0.2.8, .d (.sl .route x0.2.9), .d (.sl .str x0.3), .d (.sl .inhibit x0.4), .d (.sl .hours x0.5)]⟩, ⟨4120, gh4, Cell.tok 9 TyS.str (A.nlen TyS.str t12)⟩, ⟨4091, gh3, Cell.tok 67 TyS.hours (A.nlen TyS.hours b12_3)⟩, ⟨4061, gh2, Cell.tok 9 TyS.str (A.nlen TyS.str b10_3)⟩, ⟨4031, gh1, Cell.tok 36 TyS.rule (A.nlen TyS.rule b0_3)⟩]) [] ?_
     rintro ⟨t104, b11_3⟩ gh5 g5 _ _ _ hK5 hQ5 h; cbv
     refine kj ?_
     refine bc h (fun hb h => ?_) fun hb h => ?_
     ·cbv
      refine kj ?_
      refine kk h fun c19 h => ?_
      refine kj ?_
      refine kk h fun c20 h => ?_
      refine kk h fun c21 h => ?_
      iterate 2 refine kj ?_
      cases h; exact hK5 _ _ [(4151, 116, g5.succ.succ)] rfl hdy
     ·cbv
      refine hQ5 _ h _ _ fun h => ?_; cbv
      refine kj ?_
      exact le h hR
theorem Aha {A : Ar} (hA : A = std) {x0 : Int} {x1 : Int} {r : Bool} (h : Abk A x0 x1 = some r) : PFun cx 265 [it .i64 x0, it .i64 x1] (bl r) := by
 refine wF hA cx_ok Tryz.func265 fun P R hP hR => ?_
 cbv; unfold Abk at h
 iterate 2 refine kj ?_
 refine kl h (fun x _ => [(0, it .i64 x.1), (5, it .i64 x.2)]) (fun _ _ => []) [] ?_
 rintro ⟨days0, i5⟩ gh1 g1 _ _ _ hK1 hQ1 h; cbv
 refine kj ?_
 refine bc h (fun hb h => ?_) fun hb h => ?_
 ·cbv
  refine kj ?_
  refine ⟨by subst hA; simp +contextual [vcm], ?_⟩
  refine kj ?_
  cases h; exact hK1 _ _ [] rfl hdy
 ·cbv
  refine hQ1 _ h _ _ fun h => ?_; cbv
  refine kj ?_
  refine ⟨by subst hA; simp +contextual [vcm], ?_⟩
  exact le h hR
theorem Akg {A : Ar} (hA : A = std) {x0 : Int} {r : ByteArray} (h : Agw A x0 = some r) : PFun cx 315 [it .i64 x0] (st r) := by
 refine wF hA cx_ok Tryz.func315 fun P R hP hR => ?_
 cbv; unfold Agw at h
 iterate 2 refine kj ?_
 iterate 2 (refine ⟨by subst hA; simp +contextual [vcm], ?_⟩)
 refine and_assoc.2 ?_
 refine kk h fun c1 h => ?_
 refine and_assoc.2 ?_
 refine kk h fun c2 h => ?_
 refine cj ?_
 exact le h hR
theorem Ai9 {A : Ar} (hA : A = std) {x0 : Int} {r : ByteArray} (h : Aek A x0 = some r) : PFun cx 266 [it .i64 x0] (st r) := by
 refine wF hA cx_ok Tryz.func266 fun P R hP hR => ?_
 cbv; unfold Aek at h
 iterate 2 refine kj ?_
 refine ⟨by subst hA; simp +contextual [vcm], ?_⟩
 obtain ⟨w1, hw1, h⟩ := bd_e h; refine kc hP (Akg hA hw1) ?_; cbv
 refine kk h fun c2 h => ?_
 refine ⟨by subst hA; simp +contextual [vcm], ?_⟩
 obtain ⟨w3, hw3, h⟩ := bd_e h; refine kc hP (Akg hA hw3) ?_; cbv
 refine kk h fun c4 h => ?_
 exact le h hR
theorem Apc {A : Ar} (hA : A = std) {x0 : Hours} {r : ByteArray} (h : Ae3 A x0 = some r) : PFun cx 183 [Agg x0] (st r) := by
 refine wF hA cx_ok Tryz.func183 fun P R hP hR => ?_
 cbv; unfold Ae3 at h
 iterate 4 refine kj ?_
 refine kl h (fun x _ => [(3, st x.1), (5, it .i64 x.2)]) (fun x gh => [⟨1, 0, .box 67 [st x0.1, it .i64 x0.2, it .i64 x0.3, it .i64 x0.4]⟩, ⟨6, 2, Cell.tok 9 TyS.str (A.nlen TyS.str [ByteArray.mk (Array.mk [109, 111, 110]), ByteArray.mk (Array.mk [116, 117, 101]), ByteArray.mk (Array.mk [119, 101, 100]), ByteArray.mk (Array.mk [116, 104, 117]), ByteArray.mk (Array.mk [102, 114, 105]), ByteArray.mk (Array.mk [115, 97, 116]), ByteArray.mk (Array.mk [115, 117, 110])])⟩]) [] ?_
 rintro ⟨out3, i5⟩ gh1 g1 _ _ _ hK1 hQ1 h; cbv
 refine kj ?_
 refine bc h (fun hb h => ?_) fun hb h => ?_
 ·cbv
  refine kj ?_
  obtain ⟨w1, hw1, h⟩ := bd_e h; refine kc hP (Aha hA hw1) ?_; cbv
  iterate 2 refine cj ?_
  refine bc h (fun hb h => ?_) fun hb h => ?_
  ·cbv
   refine kj ?_
   refine kk h fun c2 h => ?_
   refine kj ?_
   obtain ⟨w3, hw3, h⟩ := bd_e h; refine kc hP (Aha hA hw3) ?_; cbv
   refine bc h (fun hb h => ?_) fun hb h => ?_
   ·cbv
    refine kj ?_
    refine kk h fun c4 h => ?_
    refine kk h fun c5 h => ?_
    refine kj ?_
    cases h; exact hK1 _ _ [] rfl hdy
   ·cbv
    refine kj ?_
    cases h; exact hK1 _ _ [] rfl hdy
  ·cbv
   refine kj ?_
   obtain ⟨w6, hw6, h⟩ := bd_e h; refine kc hP (Aha hA hw6) ?_; cbv
   refine bc h (fun hb h => ?_) fun hb h => ?_
   ·cbv
    refine kj ?_
    refine kk h fun c7 h => ?_
    refine kk h fun c8 h => ?_
    refine kj ?_
    cases h; exact hK1 _ _ [] rfl hdy
   ·cbv
    refine kj ?_
    cases h; exact hK1 _ _ [] rfl hdy
 ·cbv
  refine hQ1 _ h _ _ fun h => ?_; cbv
  refine kj ?_
  refine kk h fun c9 h => ?_
  obtain ⟨w10, hw10, h⟩ := bd_e h; refine kc hP (Ai9 hA hw10) ?_; cbv
  refine kk h fun c11 h => ?_
  refine kk h fun c12 h => ?_
  obtain ⟨w13, hw13, h⟩ := bd_e h; refine kc hP (Ai9 hA hw13) ?_; cbv
  refine kk h fun c14 h => ?_
  refine kj ?_
  exact le h hR
theorem Aow {A : Ar} (hA : A = std) {x0 : Hours} {r : Def} (h : Age A x0 = some r) : PFun cx 106 [Agg x0] (defPV r) := by
 refine wF hA cx_ok Tryz.func106 fun P R hP hR => ?_
 cbv; unfold Age at h
 iterate 2 refine kj ?_
 obtain ⟨w1, hw1, h⟩ := bd_e h; refine kc hP (Apc hA hw1) ?_; cbv
 refine kj ?_
 exact le h hR
theorem Anc {A : Ar} (hA : A = std) {x0 : ByteArray} {r : Def} (h : Afk A x0 = some r) : PFun cx 107 [st x0] (defPV r) := by
 refine wF hA cx_ok Tryz.func107 fun P R hP hR => ?_
 cbv; unfold Afk at h
 iterate 2 refine kj ?_
 exact le h hR
theorem An2 {A : Ar} (hA : A = std) {x0 : Route} {r : Def} (h : Adt A x0 = some r) : PFun cx 108 [Ab3 x0] (defPV r) := by
 refine wF hA cx_ok Tryz.func108 fun P R hP hR => ?_
 cbv; unfold Adt at h
 iterate 3 refine kj ?_
 obtain ⟨w1, hw1, h⟩ := bd_e h; refine kc hP (Ach hA hw1) ?_; cbv
 obtain ⟨w2, hw2, h⟩ := bd_e h; refine kc hP (Ach hA hw2) ?_; cbv
 obtain ⟨w3, hw3, h⟩ := bd_e h; refine kc hP (Ach hA hw3) ?_; cbv
 iterate 2 refine kj ?_
 refine kl h (fun x _ => [(24, it .i64 x.1)]) (fun x gh => [⟨4031, gh, .tok 9 TyS.str (A.nlen TyS.str x.2.1)⟩, ⟨4032, gh, .tok 9 TyS.str (A.nlen TyS.str x.2.2)⟩, ⟨3, 1, .box 118 [PV.d (D.v (Value.string (ByteArray.mk (Array.mk [110, 111, 116, 105, 102, 121])))), .os 4031 gh TyS.str x.2.1, .os 4032 gh TyS.str x.2.2]⟩, ⟨2, 0, .box 118 [PV.d (D.v (Value.string (ByteArray.mk (Array.mk [])))), PV.d (D.v (Value.slice none 0 0)), PV.d (D.v (Value.slice none 0 0))]⟩, ⟨1, 0, .box 27 [st x0.1, .d (.sl .matcher x0.2), .d (.sl .str x0.3), it .i64 x0.4, it .i64 x0.5, it .i64 x0.6, .d (.sl .str x0.7), bl x0.8, .d (.sl .route x0.9)]⟩]) [(4031, 6, 1), (4032, 19, 2)] ?_
 rintro ⟨t24, b1_3, b2_3⟩ gh1 g1 _ _ _ hK1 hQ1 h; cbv
 refine kj ?_
 refine bc h (fun hb h => ?_) fun hb h => ?_
 ·cbv
  refine kj ?_
  refine kk h fun c4 h => ?_
  refine kj ?_
  obtain ⟨w5, hw5, h⟩ := bd_e h; refine kc hP (Ach hA hw5) ?_; cbv
  refine kk h fun c6 h => ?_
  refine kk h fun c7 h => ?_
  iterate 2 refine kj ?_
  refine kk h fun c8 h => ?_
  refine kj ?_
  cases h; exact hK1 _ _ [(4031, 35, g1.succ.succ), (4032, 41, g1.succ.succ.succ)] rfl hdy
 ·cbv
  refine hQ1 _ h _ _ fun h => ?_; cbv
  refine kj ?_
  exact le h hR
theorem Apd {A : Ar} (hA : A = std) {x0 : Int} {r : ByteArray} (h : Ae4 A x0 = some r) : PFun cx 185 [it .i64 x0] (st r) := by
 refine wF hA cx_ok Tryz.func185 fun P R hP hR => ?_
 cbv; unfold Ae4 at h
 iterate 2 refine kj ?_
 refine kk h fun c1 h => ?_
 exact le h hR
theorem Ane {A : Ar} (hA : A = std) {x0 : Rule} {r : Def} (h : Adm A x0 = some r) : PFun cx 109 [Ahj x0] (defPV r) := by
 refine wF hA cx_ok Tryz.func109 fun P R hP hR => ?_
 cbv; unfold Adm at h
 iterate 3 refine kj ?_
 obtain ⟨w1, hw1, h⟩ := bd_e h; refine kc hP (Apd hA hw1) ?_; cbv
 obtain ⟨w2, hw2, h⟩ := bd_e h; refine kc hP (Ach hA hw2) ?_; cbv
 obtain ⟨w3, hw3, h⟩ := bd_e h; refine kc hP (Ach hA hw3) ?_; cbv
 iterate 2 refine kj ?_
 refine kl h (fun x _ => [(26, it .i64 x.1)]) (fun x gh => [⟨4031, gh, .tok 9 TyS.str (A.nlen TyS.str x.2.1)⟩, ⟨4032, gh, .tok 9 TyS.str (A.nlen TyS.str x.2.2)⟩, ⟨3, 1, .box 118 [PV.d (D.v (Value.string (ByteArray.mk (Array.mk [115, 101, 114, 118, 105, 99, 101])))), .os 4031 gh TyS.str x.2.1, .os 4032 gh TyS.str x.2.2]⟩, ⟨2, 0, .box 118 [PV.d (D.v (Value.string (ByteArray.mk (Array.mk [])))), PV.d (D.v (Value.slice none 0 0)), PV.d (D.v (Value.slice none 0 0))]⟩, ⟨1, 0, .box 36 [st x0.1, st x0.2, it .i64 x0.3, it .i64 x0.4, it .i64 x0.5, it .i64 x0.6, it .i64 x0.7, .d (.sl .label x0.8)]⟩]) [(4031, 6, 1), (4032, 21, 2)] ?_
 rintro ⟨t26, b1_3, b2_3⟩ gh1 g1 _ _ _ hK1 hQ1 h; cbv
 refine kj ?_
 refine bc h (fun hb h => ?_) fun hb h => ?_
 ·cbv
  refine kj ?_
  refine kk h fun c4 h => ?_
  refine kj ?_
  obtain ⟨w5, hw5, h⟩ := bd_e h; refine kc hP (Ach hA hw5) ?_; cbv
  refine kk h fun c6 h => ?_
  refine kk h fun c7 h => ?_
  iterate 2 refine kj ?_
  refine kk h fun c8 h => ?_
  refine kk h fun c9 h => ?_
  refine kk h fun c10 h => ?_
  refine kj ?_
  cases h; exact hK1 _ _ [(4031, 37, g1.succ.succ), (4032, 48, g1.succ.succ.succ)] rfl hdy
 ·cbv
  refine hQ1 _ h _ _ fun h => ?_; cbv
  refine kj ?_
  exact le h hR
theorem An3 {A : Ar} (hA : A = std) {x0 : Config} {r : List Def} (h : Adu A x0 = some r) : PFun cx 31 [Ag8 x0] (.d (.sl TyS.dfn r)) := by
 refine wF hA cx_ok Tryz.func31 fun P R hP hR => ?_
 cbv; unfold Adu at h
 iterate 3 refine kj ?_
 refine kl h (fun x gh => [(3, .os 4030 gh TyS.dfn x.1), (14, it .i64 x.2)]) (fun x gh => [⟨4030, gh, .tok 118 TyS.dfn (A.nlen TyS.dfn x.1)⟩, ⟨1, 0, .box 31 [.d (.sl .rule x0.1), st x0.2.1, .d (.sl .matcher x0.2.2), .d (.sl .str x0.2.3), it .i64 x0.2.4, it .i64 x0.2.5, it .i64 x0.2.6, .d (.sl .str x0.2.7), bl x0.2.8, .d (.sl .route x0.2.9), .d (.sl .str x0.3), .d (.sl .inhibit x0.4), .d (.sl .hours x0.5)]⟩]) [(4030, 10, 1)] ?_
 rintro ⟨out3, t14⟩ gh1 g1 _ _ _ hK1 hQ1 h; cbv
 refine kj ?_
 refine bc h (fun hb h => ?_) fun hb h => ?_
 ·cbv
  refine kj ?_
  refine kk h fun c1 h => ?_
  refine kj ?_
  obtain ⟨w2, hw2, h⟩ := bd_e h; refine kc hP (Aow hA hw2) ?_; cbv
  refine kk h fun c3 h => ?_
  refine kj ?_
  cases h; exact hK1 _ _ [(4030, 22, g1.succ.succ)] rfl hdy
 ·cbv
  refine hQ1 _ h _ _ fun h => ?_; cbv
  refine kj ?_
  refine kl h (fun x gh => [(3, .os 4060 gh TyS.dfn x.1), (27, it .i64 x.2)]) (fun x gh => [⟨4060, gh, .tok 118 TyS.dfn (A.nlen TyS.dfn x.1)⟩, ⟨1, 0, .box 31 [.d (.sl .rule x0.1), st x0.2.1, .d (.sl .matcher x0.2.2), .d (.sl .str x0.2.3), it .i64 x0.2.4, it .i64 x0.2.5, it .i64 x0.2.6, .d (.sl .str x0.2.7), bl x0.2.8, .d (.sl .route x0.2.9), .d (.sl .str x0.3), .d (.sl .inhibit x0.4), .d (.sl .hours x0.5)]⟩]) [(4060, 4030, gh1)] ?_
  rintro ⟨out3', t27⟩ gh2 g2 _ _ _ hK2 hQ2 h; cbv
  refine kj ?_
  refine bc h (fun hb h => ?_) fun hb h => ?_
  ·cbv
   refine kj ?_
   refine kk h fun c4 h => ?_
   refine kj ?_
   obtain ⟨w5, hw5, h⟩ := bd_e h; refine kc hP (Anc hA hw5) ?_; cbv
   refine kk h fun c6 h => ?_
   refine kj ?_
   cases h; exact hK2 _ _ [(4060, 35, g2.succ.succ)] rfl hdy
  ·cbv
   refine hQ2 _ h _ _ fun h => ?_; cbv
   refine kj ?_
   obtain ⟨w7, hw7, h⟩ := bd_e h; refine kc hP (An2 hA hw7) ?_; cbv
   refine kk h fun c8 h => ?_
   refine kj ?_
   refine kl h (fun x gh => [(3, .os 4090 gh TyS.dfn x.1), (46, it .i64 x.2)]) (fun x gh => [⟨4090, gh, .tok 118 TyS.dfn (A.nlen TyS.dfn x.1)⟩, ⟨1, 0, .box 31 [.d (.sl .rule x0.1), st x0.2.1, .d (.sl .matcher x0.2.2), .d (.sl .str x0.2.3), it .i64 x0.2.4, it .i64 x0.2.5, it .i64 x0.2.6, .d (.sl .str x0.2.7), bl x0.2.8, .d (.sl .route x0.2.9), .d (.sl .str x0.3), .d (.sl .inhibit x0.4), .d (.sl .hours x0.5)]⟩, ⟨41, g2.succ, Cell.tok 118 TyS.dfn (A.nlen TyS.dfn [w7])⟩]) [(4090, 42, g2.succ)] ?_
   rintro ⟨out3'', t46⟩ gh3 g3 _ _ _ hK3 hQ3 h; cbv
   refine kj ?_
   refine bc h (fun hb h => ?_) fun hb h => ?_
   ·cbv
    refine kj ?_
    refine kk h fun c9 h => ?_
    refine kj ?_
    obtain ⟨w10, hw10, h⟩ := bd_e h; refine kc hP (Ane hA hw10) ?_; cbv
    refine kk h fun c11 h => ?_
    refine kj ?_
    cases h; exact hK3 _ _ [(4090, 54, g3.succ.succ)] rfl hdy
   ·cbv
    refine hQ3 _ h _ _ fun h => ?_; cbv
    refine kj ?_
    cases h; subst hR; exact ey
theorem Ape {A : Ar} (hA : A = std) {x0 : List Def} {r : ByteArray} (h : Ae5 A x0 = some r) : PFun cx 30 [.d (.sl TyS.dfn x0)] (st r) := by
 refine wF hA cx_ok Tryz.func30 fun P R hP hR => ?_
 cbv; unfold Ae5 at h
 iterate 3 refine kj ?_
 refine kl h (fun x _ => [(3, st x.1), (10, it .i64 x.2)]) (fun _ _ => []) [] ?_
 rintro ⟨out3, t10⟩ gh1 g1 _ _ _ hK1 hQ1 h; cbv
 refine kj ?_
 refine bc h (fun hb h => ?_) fun hb h => ?_
 ·cbv
  refine kj ?_
  refine kk h fun c1 h => ?_
  refine kj ?_
  refine kk h fun c2 h => ?_
  refine kk h fun c3 h => ?_
  refine kk h fun c4 h => ?_
  refine kj ?_
  refine kl h (fun x _ => [(3, st x.1), (23, it .i64 x.2)]) (fun x gh => [⟨5, g1.succ, .box 118 [PV.d (D.v (Value.string (A.get TyS.dfn x0 t10).1)), PV.d (D.sl TyS.str (A.get TyS.dfn x0 t10).2), PV.d (D.sl TyS.str (A.get TyS.dfn x0 t10).3)]⟩]) [] ?_
  rintro ⟨out3', t23⟩ gh2 g2 _ _ _ hK2 hQ2 h; cbv
  refine kj ?_
  refine bc h (fun hb h => ?_) fun hb h => ?_
  ·cbv
   refine kj ?_
   refine kk h fun c5 h => ?_
   refine kj ?_
   refine kk h fun c6 h => ?_
   refine kk h fun c7 h => ?_
   refine kk h fun c8 h => ?_
   refine kk h fun c9 h => ?_
   refine kk h fun c10 h => ?_
   refine kk h fun c11 h => ?_
   refine kj ?_
   cases h; exact hK2 _ _ [] rfl hdy
  ·cbv
   refine hQ2 _ h _ _ fun h => ?_; cbv
   refine kj ?_
   refine kk h fun c12 h => ?_
   refine kj ?_
   cases h; exact hK1 _ _ [] rfl hdy
 ·cbv
  refine hQ1 _ h _ _ fun h => ?_; cbv
  refine kj ?_
  exact le h hR
theorem Alp {A : Ar} (hA : A = std) {x0 : Config} {r : Bool} (h : Adz A x0 = some r) : PFun cx 5 [Ag8 x0] (bl r) := by
 refine wF hA cx_ok Tryz.func5 fun P R hP hR => ?_
 cbv; unfold Adz at h
 iterate 2 refine kj ?_
 obtain ⟨w1, hw1, h⟩ := bd_e h; refine kc hP (Apm hA hw1) ?_; cbv
 refine bc h (fun hb h => ?_) fun hb h => ?_
 ·cbv
  refine kj ?_
  obtain ⟨w2, hw2, h⟩ := bd_e h; refine kc hP (Ai1 hA hw2) ?_; cbv
  exact le h hR
 ·cbv
  refine kj ?_
  obtain ⟨w3, hw3, h⟩ := bd_e h; refine kc hP (Apr hA hw3) ?_; cbv
  refine kj ?_
  obtain ⟨w4, hw4, h⟩ := bd_e h; refine kc hP (Asg hA hw4) ?_; cbv
  refine kj ?_
  obtain ⟨w5, hw5, h⟩ := bd_e h; refine kc hP (Aq1 hA hw5) ?_; cbv
  obtain ⟨w6, hw6, h⟩ := bd_e h; refine kc hP (Ai8 hA hw6) ?_; cbv
  obtain ⟨w7, hw7, h⟩ := bd_e h; refine kg hP (fun hc => (Ai1 hA (gd_e hw7 hc))) ?_; cbv
  iterate 2 refine cj ?_
  refine kj ?_
  refine bc h (fun hb h => ?_) fun hb h => ?_
  ·cbv
   refine kj ?_
   exact le h hR
  ·cbv
   refine kj ?_
   obtain ⟨w8, hw8, h⟩ := bd_e h; refine kc hP (Ai7 hA hw8) ?_; cbv
   refine bc h (fun hb h => ?_) fun hb h => ?_
   ·cbv
    refine kj ?_
    iterate 5 refine cj ?_
    exact le h hR
   ·cbv
    refine kj ?_
    obtain ⟨w9, hw9, h⟩ := bd_e h; refine kc hP (Akf hA hw9) ?_; cbv
    obtain ⟨w10, hw10, h⟩ := bd_e h; refine kc hP (Ao9 hA hw10) ?_; cbv
    refine bc h (fun hb h => ?_) fun hb h => ?_
    ·cbv
     refine kj ?_
     exact le h hR
    ·cbv
     refine kj ?_
     obtain ⟨w11, hw11, h⟩ := bd_e h; refine kc hP (Ai8 hA hw11) ?_; cbv
     refine bc h (fun hb h => ?_) fun hb h => ?_
     ·cbv
      refine kj ?_
      iterate 2 refine cj ?_
      exact le h hR
     ·cbv
      refine kj ?_
      obtain ⟨w12, hw12, h⟩ := bd_e h; refine kc hP (An1 hA hw12) ?_; cbv
      obtain ⟨w13, hw13, h⟩ := bd_e h; refine kc hP (An3 hA hw13) ?_; cbv
      obtain ⟨w14, hw14, h⟩ := bd_e h; refine kc hP (Ape hA hw14) ?_; cbv
      refine kj ?_
      refine bc h (fun hb h => ?_) fun hb h => ?_
      ·cbv
       refine kj ?_
       iterate 2 refine cj ?_
       exact le h hR
      ·cbv
       refine kj ?_
       iterate 3 refine cj ?_
       exact le h hR
end Go.PL
