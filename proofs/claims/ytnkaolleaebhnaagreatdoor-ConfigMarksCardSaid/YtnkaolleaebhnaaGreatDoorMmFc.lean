/- Texts of this claim: plain laws of what the program's functions compute. No condition of their own. -/
import Derived.Test.YtnkaolleaebhnaaGreatDoorMmFu
import Derived.Test.YtnkaolleaebhnaaGreatDoorMmLc
namespace Go.PL
set_option linter.unusedSimpArgs false
set_option linter.unusedVariables false
set_option linter.unusedSectionVars false
open Tys (Ty U)
open Enc (sz enc dflt tb ofB toB)
open Dec (dec dok)
set_option maxRecDepth 100000
open Go.Proofs
variable [GM]
theorem Ai2 {A : Ar} (hA : A = std) {rf : Route → Int → Option Int} {x0 : Route} {x1 : Int} (hqr100 : ∀ (x0 : Route) (x1 : Int) (r : Int), rf x0 x1 = some r → PFun cx 100 [Ab6 x0, it .i64 x1] (it .i64 r)) {r : Int} (h : Adk A rf x0 x1 = some r) : PFun cx 100 [Ab6 x0, it .i64 x1] (it .i64 r) := by
 refine wF hA cx_ok Tryz.func100 fun P R hP hR => ?_
 cbv; unfold Adk at h
 iterate 3 refine kj ?_
 refine kl h (fun x _ => [(5, it .i64 x.1), (11, it .i64 x.2)]) (fun x gh => [⟨2, 0, .box 27 [st x0.1, .d (.sl .matcher x0.2), .d (.sl .str x0.3), it .i64 x0.4, it .i64 x0.5, it .i64 x0.6, .d (.sl .str x0.7), bl x0.8, .d (.sl .route x0.9)]⟩]) [] ?_
 rintro ⟨n5, t11⟩ gh1 g1 _ _ _ hK1 hQ1 h; cbv
 refine kj ?_
 refine bc h (fun hb h => ?_) fun hb h => ?_
 ·cbv
  refine kj ?_
  refine kk h fun c1 h => ?_
  refine kj ?_
  refine bc h (fun hb h => ?_) fun hb h => ?_
  ·cbv
   refine hQ1 _ h _ _ fun h => ?_; cbv
   refine kj ?_
   exact le h hR
  ·cbv
   refine kj ?_
   obtain ⟨w2, hw2, h⟩ := bd_e h; refine kc hP (hqr100 _ _ _ hw2) ?_; cbv
   refine kj ?_
   cases h; exact hK1 _ _ [] rfl hdy
 ·cbv
  refine hQ1 _ h _ _ fun h => ?_; cbv
  refine kj ?_
  exact le h hR
theorem Afk {A : Ar} (hA : A = std) : ∀ (n : Nat) (x0 : Route) (x1 : Int) (r : Int), Aa8 A n x0 x1 = some r → PFun cx 100 [Ab6 x0, it .i64 x1] (it .i64 r)
 | 0, _, _, _, h => by cases h
 | n + 1, x0, x1, r, h => Ai2 hA (fun _ _ _ hh => Afk hA n _ _ _ hh) h
theorem Aju {A : Ar} (hA : A = std) {x0 : Route} {x1 : Int} {r : Int} (h : Ae8 A x0 x1 = some r) : PFun cx 100 [Ab6 x0, it .i64 x1] (it .i64 r) := Afk hA _ _ _ _ h
theorem Aj0 {A : Ar} (hA : A = std) {x0 : Config} {r : Bool} (h : Adc A x0 = some r) : PFun cx 24 [Ajq x0] (bl r) := by
 refine wF hA cx_ok Tryz.func24 fun P R hP hR => ?_
 cbv; unfold Adc at h
 iterate 2 refine kj ?_
 obtain ⟨w1, hw1, h⟩ := bd_e h; refine kc hP (Aju hA hw1) ?_; cbv
 iterate 20 refine cj ?_
 exact le h hR
theorem Air {A : Ar} (hA : A = std) {x0 : Rule} {qc0 : Rule → Option Bool} {gc0 : Nat} {capc0 : List D} (hcapc0 : capOK capc0) (hqc0 : ∀ (y0 : Rule) (r : Bool), qc0 y0 = some r → PFun cx gc0 ((Agv y0) :: un.uns capc0) (bl r)) {r : Bool} (h : Afr A x0 qc0 = some r) : PFun cx 117 [Agv x0, .ip [.fun (.func gc0) [] capc0]] (bl r) := by
 rcases hcapc0 with rfl | ⟨dscapc0, rfl⟩
 all_goals
  refine wF hA cx_ok Tryz.func117 fun P R hP hR => ?_
  cbv; unfold Afr at h
  iterate 2 refine kj ?_
  obtain ⟨w1, hw1, h⟩ := bd_e h; refine kc hP (hqc0 _ _ hw1) ?_; cbv
  exact le h hR
theorem Aih {A : Ar} (hA : A = std) {x0 : List Rule} {q1 : Rule → Option Bool} {g1 : Nat} {cap1 : List PV} (hcap1 : bare.bares cap1 = true) (hq1 : ∀ (y0 : Rule) (r : Bool), q1 y0 = some r → PFun cx g1 ((Agv y0) :: cap1) (bl r)) {r : Int} (h : Acz A x0 q1 = some r) : PFun cx 161 [.d (.sl TyS.rule x0), .fn (.func g1) [] cap1] (it .i64 r) := by
 refine wF hA cx_ok Tryz.func161 fun P R hP hR => ?_
 cbv; unfold Acz at h
 iterate 2 refine kj ?_
 refine kl h (fun x _ => [(8, it .i64 x)]) (fun _ _ => []) [] ?_
 rintro t8 gh1 g1 _ _ _ hK1 hQ1 h; cbv
 refine kj ?_
 refine bc h (fun hb h => ?_) fun hb h => ?_
 ·cbv
  iterate 2 refine kj ?_
  refine kk h fun c1 h => ?_
  obtain ⟨w2, hw2, h⟩ := bd_e h; refine kc hP (hq1 _ _ hw2) ?_ (by first | rfl | simp [bare, bare.bares, hcap1]); cbv
  refine bc h (fun hb h => ?_) fun hb h => ?_
  ·cbv
   refine kj ?_
   refine hQ1 _ h _ _ fun h => ?_; cbv
   exact le h hR
  ·cbv
   refine kj ?_
   cases h; exact hK1 _ _ [] rfl hdy
 ·cbv
  refine hQ1 _ h _ _ fun h => ?_; cbv
  refine kj ?_
  exact le h hR
theorem Aed {A : Ar} (hA : A = std) {x0 : List Rule} {q1 : Rule → Option Bool} {g1 : Nat} {cap1 : List PV} (hcap1 : bare.bares cap1 = true) (hq1 : ∀ (y0 : Rule) (r : Bool), q1 y0 = some r → PFun cx g1 ((Agv y0) :: cap1) (bl r)) {r : Bool} (h : Abm A x0 q1 = some r) : PFun cx 82 [.d (.sl TyS.rule x0), .fn (.func g1) [] cap1] (bl r) := by
 refine wF hA cx_ok Tryz.func82 fun P R hP hR => ?_
 cbv; unfold Abm at h
 iterate 2 refine kj ?_
 obtain ⟨w1, hw1, h⟩ := bd_e h; refine kc hP (Aih hA hcap1 hq1 hw1) ?_ (by first | rfl | simp [bare, bare.bares, hcap1]); cbv
 exact le h hR
theorem Am3 {A : Ar} (hA : A = std) {x0 : List Rule} {x1 : Int} {q2 : Rule → Option Bool} {g2 : Nat} {cap2 : List D} (hcap2 : capOK cap2) (hq2 : ∀ (y0 : Rule) (r : Bool), q2 y0 = some r → PFun cx g2 ((Agv y0) :: un.uns cap2) (bl r)) {r : Bool} (h : Ad1 A x0 x1 q2 = some r) : PFun cx 35 [.d (.sl TyS.rule x0), it .i64 x1, .fn (.func g2) [] (un.uns cap2)] (bl r) := by
 rcases hcap2 with rfl | ⟨dscap2, rfl⟩
 ·refine PFun.walkF (fz := fun k => k == 5) hA cx_ok Tryz.func35 rfl rfl rfl fun P R hP hR => ?_
  cbv; unfold Ad1 at h
  iterate 2 refine kj ?_
  iterate 2 refine cj ?_
  obtain ⟨w1, hw1, h⟩ := bd_e h; refine kg hP (fun hc => (Aed hA (by rfl) (fun _ _ hw => Air (capc0 := []) hA (by first | exact .inl rfl | exact .inr ⟨_, rfl⟩) hq2 hw) (gd_e hw1 hc))) ?_; cbv
  iterate 2 refine cj ?_
  exact le h hR
 ·refine PFun.walkF (fz := fun k => k == 5) hA cx_ok Tryz.func35 rfl rfl rfl fun P R hP hR => ?_
  cbv; unfold Ad1 at h
  iterate 2 refine kj ?_
  iterate 2 refine cj ?_
  obtain ⟨w1, hw1, h⟩ := bd_e h; refine kg hP (fun hc => (Aed hA (by rfl) (fun _ _ hw => Air (capc0 := [D.ptr dscap2]) hA (by first | exact .inl rfl | exact .inr ⟨_, rfl⟩) hq2 hw) (gd_e hw1 hc))) ?_; cbv
  iterate 2 refine cj ?_
  exact le h hR
theorem Ai3 {A : Ar} (hA : A = std) {x0 : List Def} {q1 : Def → Option Bool} {g1 : Nat} {cap1 : List PV} (hcap1 : bare.bares cap1 = true) (hq1 : ∀ (y0 : Def) (r : Bool), q1 y0 = some r → PFun cx g1 ((defPV y0) :: cap1) (bl r)) {r : Int} (h : Adl A x0 q1 = some r) : PFun cx 260 [.d (.sl TyS.dfn x0), .fn (.func g1) [] cap1] (it .i64 r) := by
 refine wF hA cx_ok Tryz.func260 fun P R hP hR => ?_
 cbv; unfold Adl at h
 iterate 2 refine kj ?_
 refine kl h (fun x _ => [(8, it .i64 x)]) (fun _ _ => []) [] ?_
 rintro t8 gh1 g1 _ _ _ hK1 hQ1 h; cbv
 refine kj ?_
 refine bc h (fun hb h => ?_) fun hb h => ?_
 ·cbv
  iterate 2 refine kj ?_
  refine kk h fun c1 h => ?_
  obtain ⟨w2, hw2, h⟩ := bd_e h; refine kc hP (hq1 _ _ hw2) ?_ (by first | rfl | simp [bare, bare.bares, hcap1]); cbv
  refine bc h (fun hb h => ?_) fun hb h => ?_
  ·cbv
   refine kj ?_
   refine hQ1 _ h _ _ fun h => ?_; cbv
   exact le h hR
  ·cbv
   refine kj ?_
   cases h; exact hK1 _ _ [] rfl hdy
 ·cbv
  refine hQ1 _ h _ _ fun h => ?_; cbv
  refine kj ?_
  exact le h hR
theorem Ahz {A : Ar} (hA : A = std) {x0 : List Def} {q1 : Def → Option Bool} {g1 : Nat} {cap1 : List PV} (hcap1 : bare.bares cap1 = true) (hq1 : ∀ (y0 : Def) (r : Bool), q1 y0 = some r → PFun cx g1 ((defPV y0) :: cap1) (bl r)) {r : Bool} (h : Abx A x0 q1 = some r) : PFun cx 198 [.d (.sl TyS.dfn x0), .fn (.func g1) [] cap1] (bl r) := by
 refine wF hA cx_ok Tryz.func198 fun P R hP hR => ?_
 cbv; unfold Abx at h
 iterate 2 refine kj ?_
 obtain ⟨w1, hw1, h⟩ := bd_e h; refine kc hP (Ai3 hA hcap1 hq1 hw1) ?_ (by first | rfl | simp [bare, bare.bares, hcap1]); cbv
 exact le h hR
theorem Ap2 {A : Ar} (hA : A = std) {x0 : Int} {r : Bool} (h : Agg A x0 = some r) : PFun cx 289 [it .u8 x0] (bl r) := by
 refine wF hA cx_ok Tryz.func289 fun P R hP hR => ?_
 cbv; unfold Agg at h
 iterate 2 refine kj ?_
 iterate 6 refine cj ?_
 refine ⟨by subst hA; simp +contextual [vcm], ?_⟩
 iterate 3 refine cj ?_
 exact le h hR
theorem Aii {A : Ar} (hA : A = std) {x0 : List UInt8} {q1 : Int → Option Bool} {g1 : Nat} {cap1 : List PV} (hcap1 : bare.bares cap1 = true) (hq1 : ∀ (y0 : Int) (r : Bool), q1 y0 = some r → PFun cx g1 ((it .u8 y0) :: cap1) (bl r)) {r : Int} (h : Ac0 A x0 q1 = some r) : PFun cx 204 [.d (.sl TyS.byte x0), .fn (.func g1) [] cap1] (it .i64 r) := by
 refine wF hA cx_ok Tryz.func204 fun P R hP hR => ?_
 cbv; unfold Ac0 at h
 iterate 2 refine kj ?_
 refine kl h (fun x _ => [(8, it .i64 x)]) (fun _ _ => []) [] ?_
 rintro t8 gh1 g1 _ _ _ hK1 hQ1 h; cbv
 refine kj ?_
 refine bc h (fun hb h => ?_) fun hb h => ?_
 ·cbv
  iterate 2 refine kj ?_
  refine kk h fun c1 h => ?_
  obtain ⟨w2, hw2, h⟩ := bd_e h; refine kc hP (hq1 _ _ hw2) ?_ (by first | rfl | simp [bare, bare.bares, hcap1]); cbv
  refine bc h (fun hb h => ?_) fun hb h => ?_
  ·cbv
   refine kj ?_
   refine hQ1 _ h _ _ fun h => ?_; cbv
   exact le h hR
  ·cbv
   refine kj ?_
   cases h; exact hK1 _ _ [] rfl hdy
 ·cbv
  refine hQ1 _ h _ _ fun h => ?_; cbv
  refine kj ?_
  exact le h hR
theorem Aa4 {A : Ar} (hA : A = std) {x0 : List UInt8} {q1 : Int → Option Bool} {g1 : Nat} {cap1 : List PV} (hcap1 : bare.bares cap1 = true) (hq1 : ∀ (y0 : Int) (r : Bool), q1 y0 = some r → PFun cx g1 ((it .u8 y0) :: cap1) (bl r)) {r : Bool} (h : Aaa A x0 q1 = some r) : PFun cx 130 [.d (.sl TyS.byte x0), .fn (.func g1) [] cap1] (bl r) := by
 refine wF hA cx_ok Tryz.func130 fun P R hP hR => ?_
 cbv; unfold Aaa at h
 iterate 2 refine kj ?_
 obtain ⟨w1, hw1, h⟩ := bd_e h; refine kc hP (Aii hA hcap1 hq1 hw1) ?_ (by first | rfl | simp [bare, bare.bares, hcap1]); cbv
 exact le h hR
theorem Am4 {A : Ar} (hA : A = std) {x0 : ByteArray} {r : Bool} (h : Agh A x0 = some r) : PFun cx 261 [st x0] (bl r) := by
 refine wF hA cx_ok Tryz.func261 fun P R hP hR => ?_
 cbv; unfold Agh at h
 iterate 3 refine kj ?_
 iterate 6 refine cj ?_
 obtain ⟨w1, hw1, h⟩ := bd_e h; refine kf hP (fun hc => (Aa4 hA (by rfl) (fun _ _ hw => Ap2 hA hw) (gd_e hw1 hc))) ?_; cbv
 iterate 2 refine cj ?_
 exact le h hR
theorem Aij {A : Ar} (hA : A = std) {x0 : List ByteArray} {x1 : ByteArray} {r : Int} (h : Ab4 A x0 x1 = some r) : PFun cx 136 [.d (.sl TyS.str x0), st x1] (it .i64 r) := by
 refine wF hA cx_ok Tryz.func136 fun P R hP hR => ?_
 cbv; unfold Ab4 at h
 iterate 2 refine kj ?_
 refine kl h (fun x _ => [(8, it .i64 x)]) (fun _ _ => []) [] ?_
 rintro t8 gh1 g1 _ _ _ hK1 hQ1 h; cbv
 refine kj ?_
 refine bc h (fun hb h => ?_) fun hb h => ?_
 ·cbv
  iterate 2 refine kj ?_
  refine kk h fun c1 h => ?_
  refine bc h (fun hb h => ?_) fun hb h => ?_
  ·cbv
   refine kj ?_
   refine hQ1 _ h _ _ fun h => ?_; cbv
   exact le h hR
  ·cbv
   refine kj ?_
   cases h; exact hK1 _ _ [] rfl hdy
 ·cbv
  refine hQ1 _ h _ _ fun h => ?_; cbv
  refine kj ?_
  exact le h hR
theorem Abu {A : Ar} (hA : A = std) {x0 : List ByteArray} {x1 : ByteArray} {r : Bool} (h : Aaq A x0 x1 = some r) : PFun cx 56 [.d (.sl TyS.str x0), st x1] (bl r) := by
 refine wF hA cx_ok Tryz.func56 fun P R hP hR => ?_
 cbv; unfold Aaq at h
 iterate 2 refine kj ?_
 obtain ⟨w1, hw1, h⟩ := bd_e h; refine kc hP (Aij hA hw1) ?_; cbv
 exact le h hR
theorem Agn {A : Ar} (hA : A = std) {x0 : List ByteArray} {q1 : ByteArray → Option Bool} {g1 : Nat} {cap1 : List PV} (hcap1 : bare.bares cap1 = true) (hq1 : ∀ (y0 : ByteArray) (r : Bool), q1 y0 = some r → PFun cx g1 ((st y0) :: cap1) (bl r)) {r : Int} (h : Ab7 A x0 q1 = some r) : PFun cx 197 [.d (.sl TyS.str x0), .fn (.func g1) [] cap1] (it .i64 r) := by
 refine wF hA cx_ok Tryz.func197 fun P R hP hR => ?_
 cbv; unfold Ab7 at h
 iterate 2 refine kj ?_
 refine kl h (fun x _ => [(8, it .i64 x)]) (fun _ _ => []) [] ?_
 rintro t8 gh1 g1 _ _ _ hK1 hQ1 h; cbv
 refine kj ?_
 refine bc h (fun hb h => ?_) fun hb h => ?_
 ·cbv
  iterate 2 refine kj ?_
  refine kk h fun c1 h => ?_
  obtain ⟨w2, hw2, h⟩ := bd_e h; refine kc hP (hq1 _ _ hw2) ?_ (by first | rfl | simp [bare, bare.bares, hcap1]); cbv
  refine bc h (fun hb h => ?_) fun hb h => ?_
  ·cbv
   refine kj ?_
   refine hQ1 _ h _ _ fun h => ?_; cbv
   exact le h hR
  ·cbv
   refine kj ?_
   cases h; exact hK1 _ _ [] rfl hdy
 ·cbv
  refine hQ1 _ h _ _ fun h => ?_; cbv
  refine kj ?_
  exact le h hR
theorem Ab8 {A : Ar} (hA : A = std) {x0 : List ByteArray} {q1 : ByteArray → Option Bool} {g1 : Nat} {cap1 : List PV} (hcap1 : bare.bares cap1 = true) (hq1 : ∀ (y0 : ByteArray) (r : Bool), q1 y0 = some r → PFun cx g1 ((st y0) :: cap1) (bl r)) {r : Bool} (h : Aan A x0 q1 = some r) : PFun cx 122 [.d (.sl TyS.str x0), .fn (.func g1) [] cap1] (bl r) := by
 refine wF hA cx_ok Tryz.func122 fun P R hP hR => ?_
 cbv; unfold Aan at h
 iterate 2 refine kj ?_
 obtain ⟨w1, hw1, h⟩ := bd_e h; refine kc hP (Agn hA hcap1 hq1 hw1) ?_ (by first | rfl | simp [bare, bare.bares, hcap1]); cbv
 exact le h hR
theorem Ao1 {A : Ar} (hA : A = std) {x0 : Int} {r : Bool} (h : Akr A x0 = some r) : PFun cx 290 [it .u8 x0] (bl r) := by
 refine wF hA cx_ok Tryz.func290 fun P R hP hR => ?_
 cbv; unfold Akr at h
 iterate 2 refine kj ?_
 iterate 4 refine cj ?_
 exact le h hR
theorem Ar0 {A : Ar} (hA : A = std) {x0 : ByteArray} {r : Bool} (h : Ams A x0 = some r) : PFun cx 263 [st x0] (bl r) := by
 refine wF hA cx_ok Tryz.func263 fun P R hP hR => ?_
 cbv; unfold Ams at h
 iterate 3 refine kj ?_
 iterate 4 refine cj ?_
 obtain ⟨w1, hw1, h⟩ := bd_e h; refine kg hP (fun hc => (Aqr hA (gd_e hw1 hc))) ?_; cbv
 iterate 6 refine cj ?_
 obtain ⟨w2, hw2, h⟩ := bd_e h; refine kf hP (fun hc => (Aa4 hA (by rfl) (fun _ _ hw => Ao1 hA hw) (gd_e hw2 hc))) ?_; cbv
 iterate 2 refine cj ?_
 exact le h hR
theorem Ar1 {A : Ar} (hA : A = std) {x0 : ByteArray} {r : Bool} (h : Amt A x0 = some r) : PFun cx 262 [st x0] (bl r) := by
 refine wF hA cx_ok Tryz.func262 fun P R hP hR => ?_
 cbv; unfold Amt at h
 iterate 2 refine kj ?_
 obtain ⟨w1, hw1, h⟩ := bd_e h; refine kc hP (Ar0 hA hw1) ?_; cbv
 exact le h hR
theorem Auv {A : Ar} (hA : A = std) {x0 : Def} {r : Bool} (h : Am9 A x0 = some r) : PFun cx 200 [defPV x0] (bl r) := by
 refine wF hA cx_ok Tryz.func200 fun P R hP hR => ?_
 cbv; unfold Am9 at h
 iterate 2 refine kj ?_
 refine kl h (fun x _ => [(8, it .i64 x)]) (fun x gh => [⟨1, 0, .box 141 [st x0.1, .d (.sl .str x0.2), .d (.sl .str x0.3)]⟩]) [] ?_
 rintro t8 gh1 g1 _ _ _ hK1 hQ1 h; cbv
 refine kj ?_
 refine bc h (fun hb h => ?_) fun hb h => ?_
 ·cbv
  refine kj ?_
  refine kk h fun c1 h => ?_
  refine kj ?_
  obtain ⟨w2, hw2, h⟩ := bd_e h; refine kc hP (Am4 hA hw2) ?_; cbv
  iterate 4 refine cj ?_
  refine kk h fun c3 h => ?_
  iterate 2 refine cj ?_
  obtain ⟨w4, hw4, h⟩ := bd_e h; refine kg hP (fun hc => (Abu hA (gd_e hw4 hc))) ?_; cbv
  refine cj ?_
  refine bc h (fun hb h => ?_) fun hb h => ?_
  ·cbv
   refine kj ?_
   refine hQ1 _ h _ _ fun h => ?_; cbv
   exact le h hR
  ·cbv
   refine kj ?_
   cases h; exact hK1 _ _ [] rfl hdy
 ·cbv
  refine hQ1 _ h _ _ fun h => ?_; cbv
  refine kj ?_
  obtain ⟨w5, hw5, h⟩ := bd_e h; refine kc hP (Am4 hA hw5) ?_; cbv
  iterate 17 refine cj ?_
  obtain ⟨w6, hw6, h⟩ := bd_e h; refine kf hP (fun hc => (Ab8 hA (by rfl) (fun _ _ hw => Ar1 hA hw) (gd_e hw6 hc))) ?_; cbv
  iterate 2 refine cj ?_
  exact le h hR
theorem Ao2 {A : Ar} (hA : A = std) {x0 : Def} {r : Bool} (h : Ais A x0 = some r) : PFun cx 199 [defPV x0] (bl r) := by
 refine wF hA cx_ok Tryz.func199 fun P R hP hR => ?_
 cbv; unfold Ais at h
 iterate 2 refine kj ?_
 obtain ⟨w1, hw1, h⟩ := bd_e h; refine kc hP (Auv hA hw1) ?_; cbv
 exact le h hR
theorem Ajv {A : Ar} (hA : A = std) {x0 : List Def} {r : Bool} (h : Aga A x0 = some r) : PFun cx 124 [.d (.sl TyS.dfn x0)] (bl r) := by
 refine wF hA cx_ok Tryz.func124 fun P R hP hR => ?_
 cbv; unfold Aga at h
 iterate 2 refine kj ?_
 refine cj ?_
 obtain ⟨w1, hw1, h⟩ := bd_e h; refine kf hP (fun hc => (Ahz hA (by rfl) (fun _ _ hw => Ao2 hA hw) (gd_e hw1 hc))) ?_; cbv
 iterate 2 refine cj ?_
 exact le h hR
theorem Am5 {A : Ar} (hA : A = std) {x0 : ByteArray} {r : Bool} (h : Aiz A x0 = some r) : PFun cx 118 [st x0] (bl r) := by
 refine wF hA cx_ok Tryz.func118 fun P R hP hR => ?_
 cbv; unfold Aiz at h
 iterate 2 refine kj ?_
 obtain ⟨w1, hw1, h⟩ := bd_e h; refine kc hP (Ajv hA hw1) ?_; cbv
 exact le h hR
theorem Am6 {A : Ar} (hA : A = std) {x0 : Int} {r : Bool} (h : Aj6 A x0 = some r) : PFun cx 119 [it .i64 x0] (bl r) := by
 refine wF hA cx_ok Tryz.func119 fun P R hP hR => ?_
 cbv; unfold Aj6 at h
 iterate 2 refine kj ?_
 iterate 2 refine cj ?_
 exact le h hR
theorem Ap3 {A : Ar} (hA : A = std) {x0 : Int} {r : Bool} (h : Ah5 A x0 = some r) : PFun cx 287 [it .u8 x0] (bl r) := by
 refine wF hA cx_ok Tryz.func287 fun P R hP hR => ?_
 cbv; unfold Ah5 at h
 iterate 2 refine kj ?_
 iterate 6 refine cj ?_
 refine ⟨by subst hA; simp +contextual [vcm], ?_⟩
 iterate 3 refine cj ?_
 exact le h hR
theorem Ate {A : Ar} (hA : A = std) {x0 : ByteArray} {r : Bool} (h : Aj7 A x0 = some r) : PFun cx 258 [st x0] (bl r) := by
 refine wF hA cx_ok Tryz.func258 fun P R hP hR => ?_
 cbv; unfold Aj7 at h
 iterate 2 refine kj ?_
 refine kl h (fun x _ => [(2, bl x.1), (7, it .i64 x.2)]) (fun _ _ => []) [] ?_
 rintro ⟨t2, t7⟩ gh1 g1 _ _ _ hK1 hQ1 h; cbv
 refine kj ?_
 refine bc h (fun hb h => ?_) fun hb h => ?_
 ·cbv
  iterate 2 refine kj ?_
  refine kk h fun c1 h => ?_
  refine kj ?_
  obtain ⟨w2, hw2, h⟩ := bd_e h; refine kc hP (Ap3 hA hw2) ?_; cbv
  iterate 4 refine cj ?_
  refine ⟨by subst hA; simp +contextual [vcm], ?_⟩
  iterate 3 refine cj ?_
  refine ⟨by subst hA; simp +contextual [vcm], ?_⟩
  refine cj ?_
  refine bc h (fun hb h => ?_) fun hb h => ?_
  ·cbv
   refine kj ?_
   refine hQ1 _ h _ _ fun h => ?_; cbv
   exact le h hR
  ·cbv
   refine kj ?_
   cases h; exact hK1 _ _ [] rfl hdy
 ·cbv
  refine hQ1 _ h _ _ fun h => ?_; cbv
  refine kj ?_
  iterate 3 refine cj ?_
  exact le h hR
theorem Ao3 {A : Ar} (hA : A = std) {x0 : Int} {r : Bool} (h : Aiu A x0 = some r) : PFun cx 288 [it .u8 x0] (bl r) := by
 refine wF hA cx_ok Tryz.func288 fun P R hP hR => ?_
 cbv; unfold Aiu at h
 iterate 2 refine kj ?_
 iterate 2 refine cj ?_
 exact le h hR
theorem Ar2 {A : Ar} (hA : A = std) {x0 : ByteArray} {r : Bool} (h : Ai7 A x0 = some r) : PFun cx 259 [st x0] (bl r) := by
 refine wF hA cx_ok Tryz.func259 fun P R hP hR => ?_
 cbv; unfold Ai7 at h
 iterate 2 refine kj ?_
 iterate 5 refine cj ?_
 obtain ⟨w1, hw1, h⟩ := bd_e h; refine kf hP (fun hc => (Aa4 hA (by rfl) (fun _ _ hw => Ao3 hA hw) (gd_e hw1 hc))) ?_; cbv
 iterate 2 refine cj ?_
 exact le h hR
theorem Auw {A : Ar} (hA : A = std) {x0 : Label} {r : Bool} (h : Aj8 A x0 = some r) : PFun cx 194 [Aw7 x0] (bl r) := by
 refine wF hA cx_ok Tryz.func194 fun P R hP hR => ?_
 cbv; unfold Aj8 at h
 iterate 2 refine kj ?_
 obtain ⟨w1, hw1, h⟩ := bd_e h; refine kc hP (Ate hA hw1) ?_; cbv
 iterate 3 refine cj ?_
 obtain ⟨w2, hw2, h⟩ := bd_e h; refine kg hP (fun hc => (Ar2 hA (gd_e hw2 hc))) ?_; cbv
 refine cj ?_
 exact le h hR
theorem Ae2 {A : Ar} (hA : A = std) {x0 : List Label} {r : Bool} (h : Ac4 A x0 = some r) : PFun cx 120 [.d (.sl TyS.label x0)] (bl r) := by
 refine wF hA cx_ok Tryz.func120 fun P R hP hR => ?_
 cbv; unfold Ac4 at h
 iterate 2 refine kj ?_
 refine kl h (fun x _ => [(7, it .i64 x)]) (fun _ _ => []) [] ?_
 rintro t7 gh1 g1 _ _ _ hK1 hQ1 h; cbv
 refine kj ?_
 refine bc h (fun hb h => ?_) fun hb h => ?_
 ·cbv
  refine kj ?_
  refine kk h fun c1 h => ?_
  refine kj ?_
  obtain ⟨w2, hw2, h⟩ := bd_e h; refine kc hP (Auw hA hw2) ?_; cbv
  iterate 5 refine cj ?_
  refine kk h fun c3 h => ?_
  iterate 7 refine cj ?_
  refine ⟨by subst hA; simp +contextual [vcm], ?_⟩
  refine cj ?_
  refine kj ?_
  refine bc h (fun hb h => ?_) fun hb h => ?_
  ·cbv
   refine kj ?_
   refine hQ1 _ h _ _ fun h => ?_; cbv
   exact le h hR
  ·cbv
   refine kj ?_
   cases h; exact hK1 _ _ [] rfl hdy
 ·cbv
  refine hQ1 _ h _ _ fun h => ?_; cbv
  refine kj ?_
  exact le h hR
theorem Ar3 {A : Ar} (hA : A = std) {x0 : Label} {c0 : ByteArray} {r : Bool} (h : Ai8 A x0 c0 = some r) : PFun cx 196 [Aw7 x0, .ip [.v (.string c0)]] (bl r) := by
 refine wF hA cx_ok Tryz.func196 fun P R hP hR => ?_
 cbv; unfold Ai8 at h
 iterate 2 refine kj ?_
 exact le h hR
theorem Ag2 {A : Ar} (hA : A = std) {x0 : List Label} {q1 : Label → Option Bool} {g1 : Nat} {cap1 : List PV} (hcap1 : bare.bares cap1 = true) (hq1 : ∀ (y0 : Label) (r : Bool), q1 y0 = some r → PFun cx g1 ((Aw7 y0) :: cap1) (bl r)) {r : Int} (h : Acf A x0 q1 = some r) : PFun cx 195 [.d (.sl TyS.label x0), .fn (.func g1) [] cap1] (it .i64 r) := by
 refine wF hA cx_ok Tryz.func195 fun P R hP hR => ?_
 cbv; unfold Acf at h
 iterate 2 refine kj ?_
 refine kl h (fun x _ => [(8, it .i64 x)]) (fun _ _ => []) [] ?_
 rintro t8 gh1 g1 _ _ _ hK1 hQ1 h; cbv
 refine kj ?_
 refine bc h (fun hb h => ?_) fun hb h => ?_
 ·cbv
  iterate 2 refine kj ?_
  refine kk h fun c1 h => ?_
  obtain ⟨w2, hw2, h⟩ := bd_e h; refine kc hP (hq1 _ _ hw2) ?_ (by first | rfl | simp [bare, bare.bares, hcap1]); cbv
  refine bc h (fun hb h => ?_) fun hb h => ?_
  ·cbv
   refine kj ?_
   refine hQ1 _ h _ _ fun h => ?_; cbv
   exact le h hR
  ·cbv
   refine kj ?_
   cases h; exact hK1 _ _ [] rfl hdy
 ·cbv
  refine hQ1 _ h _ _ fun h => ?_; cbv
  refine kj ?_
  exact le h hR
theorem Aux {A : Ar} (hA : A = std) {x0 : List Label} {x1 : ByteArray} {r : ByteArray} (h : Alq A x0 x1 = some r) : PFun cx 121 [.d (.sl TyS.label x0), st x1] (st r) := by
 refine PFun.walkF (fz := fun k => k == 3) hA cx_ok Tryz.func121 rfl rfl rfl fun P R hP hR => ?_
 cbv; unfold Alq at h
 iterate 2 refine kj ?_
 obtain ⟨w1, hw1, h⟩ := bd_e h; refine kc hP (Ag2 hA (by rfl) (fun _ _ hw => Ar3 hA hw) hw1) ?_; cbv
 refine kj ?_
 refine bc h (fun hb h => ?_) fun hb h => ?_
 ·cbv
  refine kj ?_
  exact le h hR
 ·cbv
  refine kj ?_
  refine kk h fun c2 h => ?_
  exact le h hR
theorem Amd {A : Ar} (hA : A = std) {x0 : Rule} {r : Bool} (h : Agb A x0 = some r) : PFun cx 36 [Agv x0] (bl r) := by
 refine wF hA cx_ok Tryz.func36 fun P R hP hR => ?_
 cbv; unfold Agb at h
 iterate 2 refine kj ?_
 obtain ⟨w1, hw1, h⟩ := bd_e h; refine kc hP (Am5 hA hw1) ?_; cbv
 iterate 3 refine cj ?_
 obtain ⟨w2, hw2, h⟩ := bd_e h; refine kg hP (fun hc => (Am5 hA (gd_e hw2 hc))) ?_; cbv
 iterate 9 refine cj ?_
 refine kj ?_
 obtain ⟨w3, hw3, h⟩ := bd_e h; refine kc hP (Am6 hA hw3) ?_; cbv
 iterate 3 refine cj ?_
 obtain ⟨w4, hw4, h⟩ := bd_e h; refine kg hP (fun hc => (Am6 hA (gd_e hw4 hc))) ?_; cbv
 iterate 9 refine cj ?_
 refine kj ?_
 iterate 17 refine cj ?_
 obtain ⟨w5, hw5, h⟩ := bd_e h; refine kg hP (fun hc => (Ae2 hA (gd_e hw5 hc))) ?_; cbv
 iterate 4 refine cj ?_
 obtain ⟨w6, hw6, h⟩ := bd_e h; refine kg hP (fun hc => (Aux hA (gd_e hw6 hc))) ?_; cbv
 iterate 2 refine cj ?_
 exact le h hR
theorem Ag1 {A : Ar} (hA : A = std) {x0 : ByteArray} {qc0 : ByteArray → Option Bool} {gc0 : Nat} {capc0 : List D} (hcapc0 : capOK capc0) (hqc0 : ∀ (y0 : ByteArray) (r : Bool), qc0 y0 = some r → PFun cx gc0 ((st y0) :: un.uns capc0) (bl r)) {r : Bool} (h : Aer A x0 qc0 = some r) : PFun cx 123 [st x0, .ip [.fun (.func gc0) [] capc0]] (bl r) := by
 rcases hcapc0 with rfl | ⟨dscapc0, rfl⟩
 all_goals
  refine wF hA cx_ok Tryz.func123 fun P R hP hR => ?_
  cbv; unfold Aer at h
  iterate 2 refine kj ?_
  obtain ⟨w1, hw1, h⟩ := bd_e h; refine kc hP (hqc0 _ _ hw1) ?_; cbv
  exact le h hR
theorem Afx {A : Ar} (hA : A = std) {x0 : List ByteArray} {x1 : Int} {q2 : ByteArray → Option Bool} {g2 : Nat} {cap2 : List D} (hcap2 : capOK cap2) (hq2 : ∀ (y0 : ByteArray) (r : Bool), q2 y0 = some r → PFun cx g2 ((st y0) :: un.uns cap2) (bl r)) {r : Bool} (h : Ab3 A x0 x1 q2 = some r) : PFun cx 37 [.d (.sl TyS.str x0), it .i64 x1, .fn (.func g2) [] (un.uns cap2)] (bl r) := by
 rcases hcap2 with rfl | ⟨dscap2, rfl⟩
 ·refine PFun.walkF (fz := fun k => k == 5) hA cx_ok Tryz.func37 rfl rfl rfl fun P R hP hR => ?_
  cbv; unfold Ab3 at h
  iterate 2 refine kj ?_
  iterate 2 refine cj ?_
  obtain ⟨w1, hw1, h⟩ := bd_e h; refine kg hP (fun hc => (Ab8 hA (by rfl) (fun _ _ hw => Ag1 (capc0 := []) hA (by first | exact .inl rfl | exact .inr ⟨_, rfl⟩) hq2 hw) (gd_e hw1 hc))) ?_; cbv
  iterate 2 refine cj ?_
  exact le h hR
 ·refine PFun.walkF (fz := fun k => k == 5) hA cx_ok Tryz.func37 rfl rfl rfl fun P R hP hR => ?_
  cbv; unfold Ab3 at h
  iterate 2 refine kj ?_
  iterate 2 refine cj ?_
  obtain ⟨w1, hw1, h⟩ := bd_e h; refine kg hP (fun hc => (Ab8 hA (by rfl) (fun _ _ hw => Ag1 (capc0 := [D.ptr dscap2]) hA (by first | exact .inl rfl | exact .inr ⟨_, rfl⟩) hq2 hw) (gd_e hw1 hc))) ?_; cbv
  iterate 2 refine cj ?_
  exact le h hR
theorem Ar4 {A : Ar} (hA : A = std) {x0 : ByteArray} {r : Bool} (h : Ag8 A x0 = some r) : PFun cx 38 [st x0] (bl r) := by
 refine wF hA cx_ok Tryz.func38 fun P R hP hR => ?_
 cbv; unfold Ag8 at h
 iterate 2 refine kj ?_
 obtain ⟨w1, hw1, h⟩ := bd_e h; refine kc hP (Ajv hA hw1) ?_; cbv
 exact le h hR
theorem Ago {A : Ar} (hA : A = std) {x0 : Inhibit} {qc0 : Inhibit → Option Bool} {gc0 : Nat} {capc0 : List D} (hcapc0 : capOK capc0) (hqc0 : ∀ (y0 : Inhibit) (r : Bool), qc0 y0 = some r → PFun cx gc0 ((Ae1 y0) :: un.uns capc0) (bl r)) {r : Bool} (h : Aee A x0 qc0 = some r) : PFun cx 125 [Ae1 x0, .ip [.fun (.func gc0) [] capc0]] (bl r) := by
 rcases hcapc0 with rfl | ⟨dscapc0, rfl⟩
 all_goals
  refine wF hA cx_ok Tryz.func125 fun P R hP hR => ?_
  cbv; unfold Aee at h
  iterate 2 refine kj ?_
  obtain ⟨w1, hw1, h⟩ := bd_e h; refine kc hP (hqc0 _ _ hw1) ?_; cbv
  exact le h hR
theorem Af8 {A : Ar} (hA : A = std) {x0 : List Inhibit} {q1 : Inhibit → Option Bool} {g1 : Nat} {cap1 : List PV} (hcap1 : bare.bares cap1 = true) (hq1 : ∀ (y0 : Inhibit) (r : Bool), q1 y0 = some r → PFun cx g1 ((Ae1 y0) :: cap1) (bl r)) {r : Int} (h : Abv A x0 q1 = some r) : PFun cx 160 [.d (.sl TyS.inhibit x0), .fn (.func g1) [] cap1] (it .i64 r) := by
 refine wF hA cx_ok Tryz.func160 fun P R hP hR => ?_
 cbv; unfold Abv at h
 iterate 2 refine kj ?_
 refine kl h (fun x _ => [(8, it .i64 x)]) (fun _ _ => []) [] ?_
 rintro t8 gh1 g1 _ _ _ hK1 hQ1 h; cbv
 refine kj ?_
 refine bc h (fun hb h => ?_) fun hb h => ?_
 ·cbv
  iterate 2 refine kj ?_
  refine kk h fun c1 h => ?_
  obtain ⟨w2, hw2, h⟩ := bd_e h; refine kc hP (hq1 _ _ hw2) ?_ (by first | rfl | simp [bare, bare.bares, hcap1]); cbv
  refine bc h (fun hb h => ?_) fun hb h => ?_
  ·cbv
   refine kj ?_
   refine hQ1 _ h _ _ fun h => ?_; cbv
   exact le h hR
  ·cbv
   refine kj ?_
   cases h; exact hK1 _ _ [] rfl hdy
 ·cbv
  refine hQ1 _ h _ _ fun h => ?_; cbv
  refine kj ?_
  exact le h hR
theorem Adh {A : Ar} (hA : A = std) {x0 : List Inhibit} {q1 : Inhibit → Option Bool} {g1 : Nat} {cap1 : List PV} (hcap1 : bare.bares cap1 = true) (hq1 : ∀ (y0 : Inhibit) (r : Bool), q1 y0 = some r → PFun cx g1 ((Ae1 y0) :: cap1) (bl r)) {r : Bool} (h : Aav A x0 q1 = some r) : PFun cx 81 [.d (.sl TyS.inhibit x0), .fn (.func g1) [] cap1] (bl r) := by
 refine wF hA cx_ok Tryz.func81 fun P R hP hR => ?_
 cbv; unfold Aav at h
 iterate 2 refine kj ?_
 obtain ⟨w1, hw1, h⟩ := bd_e h; refine kc hP (Af8 hA hcap1 hq1 hw1) ?_ (by first | rfl | simp [bare, bare.bares, hcap1]); cbv
 exact le h hR
theorem Alg {A : Ar} (hA : A = std) {x0 : List Inhibit} {x1 : Int} {q2 : Inhibit → Option Bool} {g2 : Nat} {cap2 : List D} (hcap2 : capOK cap2) (hq2 : ∀ (y0 : Inhibit) (r : Bool), q2 y0 = some r → PFun cx g2 ((Ae1 y0) :: un.uns cap2) (bl r)) {r : Bool} (h : Acl A x0 x1 q2 = some r) : PFun cx 39 [.d (.sl TyS.inhibit x0), it .i64 x1, .fn (.func g2) [] (un.uns cap2)] (bl r) := by
 rcases hcap2 with rfl | ⟨dscap2, rfl⟩
 ·refine PFun.walkF (fz := fun k => k == 5) hA cx_ok Tryz.func39 rfl rfl rfl fun P R hP hR => ?_
  cbv; unfold Acl at h
  iterate 2 refine kj ?_
  iterate 2 refine cj ?_
  obtain ⟨w1, hw1, h⟩ := bd_e h; refine kg hP (fun hc => (Adh hA (by rfl) (fun _ _ hw => Ago (capc0 := []) hA (by first | exact .inl rfl | exact .inr ⟨_, rfl⟩) hq2 hw) (gd_e hw1 hc))) ?_; cbv
  iterate 2 refine cj ?_
  exact le h hR
 ·refine PFun.walkF (fz := fun k => k == 5) hA cx_ok Tryz.func39 rfl rfl rfl fun P R hP hR => ?_
  cbv; unfold Acl at h
  iterate 2 refine kj ?_
  iterate 2 refine cj ?_
  obtain ⟨w1, hw1, h⟩ := bd_e h; refine kg hP (fun hc => (Adh hA (by rfl) (fun _ _ hw => Ago (capc0 := [D.ptr dscap2]) hA (by first | exact .inl rfl | exact .inr ⟨_, rfl⟩) hq2 hw) (gd_e hw1 hc))) ?_; cbv
  iterate 2 refine cj ?_
  exact le h hR
theorem Agp {A : Ar} (hA : A = std) {x0 : Matcher} {qc0 : Matcher → Option Bool} {gc0 : Nat} {capc0 : List D} (hcapc0 : capOK capc0) (hqc0 : ∀ (y0 : Matcher) (r : Bool), qc0 y0 = some r → PFun cx gc0 ((Aie y0) :: un.uns capc0) (bl r)) {r : Bool} (h : Aef A x0 qc0 = some r) : PFun cx 201 [Aie x0, .ip [.fun (.func gc0) [] capc0]] (bl r) := by
 rcases hcapc0 with rfl | ⟨dscapc0, rfl⟩
 all_goals
  refine wF hA cx_ok Tryz.func201 fun P R hP hR => ?_
  cbv; unfold Aef at h
  iterate 2 refine kj ?_
  obtain ⟨w1, hw1, h⟩ := bd_e h; refine kc hP (hqc0 _ _ hw1) ?_; cbv
  exact le h hR
theorem Af9 {A : Ar} (hA : A = std) {x0 : List Matcher} {q1 : Matcher → Option Bool} {g1 : Nat} {cap1 : List PV} (hcap1 : bare.bares cap1 = true) (hq1 : ∀ (y0 : Matcher) (r : Bool), q1 y0 = some r → PFun cx g1 ((Aie y0) :: cap1) (bl r)) {r : Int} (h : Abw A x0 q1 = some r) : PFun cx 230 [.d (.sl TyS.matcher x0), .fn (.func g1) [] cap1] (it .i64 r) := by
 refine wF hA cx_ok Tryz.func230 fun P R hP hR => ?_
 cbv; unfold Abw at h
 iterate 2 refine kj ?_
 refine kl h (fun x _ => [(8, it .i64 x)]) (fun _ _ => []) [] ?_
 rintro t8 gh1 g1 _ _ _ hK1 hQ1 h; cbv
 refine kj ?_
 refine bc h (fun hb h => ?_) fun hb h => ?_
 ·cbv
  iterate 2 refine kj ?_
  refine kk h fun c1 h => ?_
  obtain ⟨w2, hw2, h⟩ := bd_e h; refine kc hP (hq1 _ _ hw2) ?_ (by first | rfl | simp [bare, bare.bares, hcap1]); cbv
  refine bc h (fun hb h => ?_) fun hb h => ?_
  ·cbv
   refine kj ?_
   refine hQ1 _ h _ _ fun h => ?_; cbv
   exact le h hR
  ·cbv
   refine kj ?_
   cases h; exact hK1 _ _ [] rfl hdy
 ·cbv
  refine hQ1 _ h _ _ fun h => ?_; cbv
  refine kj ?_
  exact le h hR
theorem Ab2 {A : Ar} (hA : A = std) {x0 : List Matcher} {q1 : Matcher → Option Bool} {g1 : Nat} {cap1 : List PV} (hcap1 : bare.bares cap1 = true) (hq1 : ∀ (y0 : Matcher) (r : Bool), q1 y0 = some r → PFun cx g1 ((Aie y0) :: cap1) (bl r)) {r : Bool} (h : Aaj A x0 q1 = some r) : PFun cx 155 [.d (.sl TyS.matcher x0), .fn (.func g1) [] cap1] (bl r) := by
 refine wF hA cx_ok Tryz.func155 fun P R hP hR => ?_
 cbv; unfold Aaj at h
 iterate 2 refine kj ?_
 obtain ⟨w1, hw1, h⟩ := bd_e h; refine kc hP (Af9 hA hcap1 hq1 hw1) ?_ (by first | rfl | simp [bare, bare.bares, hcap1]); cbv
 exact le h hR
theorem Ah0 {A : Ar} (hA : A = std) {x0 : List Matcher} {x1 : Int} {q2 : Matcher → Option Bool} {g2 : Nat} {cap2 : List D} (hcap2 : capOK cap2) (hq2 : ∀ (y0 : Matcher) (r : Bool), q2 y0 = some r → PFun cx g2 ((Aie y0) :: un.uns cap2) (bl r)) {r : Bool} (h : Abf A x0 x1 q2 = some r) : PFun cx 126 [.d (.sl TyS.matcher x0), it .i64 x1, .fn (.func g2) [] (un.uns cap2)] (bl r) := by
 rcases hcap2 with rfl | ⟨dscap2, rfl⟩
 ·refine PFun.walkF (fz := fun k => k == 5) hA cx_ok Tryz.func126 rfl rfl rfl fun P R hP hR => ?_
  cbv; unfold Abf at h
  iterate 2 refine kj ?_
  iterate 2 refine cj ?_
  obtain ⟨w1, hw1, h⟩ := bd_e h; refine kg hP (fun hc => (Ab2 hA (by rfl) (fun _ _ hw => Agp (capc0 := []) hA (by first | exact .inl rfl | exact .inr ⟨_, rfl⟩) hq2 hw) (gd_e hw1 hc))) ?_; cbv
  iterate 2 refine cj ?_
  exact le h hR
 ·refine PFun.walkF (fz := fun k => k == 5) hA cx_ok Tryz.func126 rfl rfl rfl fun P R hP hR => ?_
  cbv; unfold Abf at h
  iterate 2 refine kj ?_
  iterate 2 refine cj ?_
  obtain ⟨w1, hw1, h⟩ := bd_e h; refine kg hP (fun hc => (Ab2 hA (by rfl) (fun _ _ hw => Agp (capc0 := [D.ptr dscap2]) hA (by first | exact .inl rfl | exact .inr ⟨_, rfl⟩) hq2 hw) (gd_e hw1 hc))) ?_; cbv
  iterate 2 refine cj ?_
  exact le h hR
theorem Ao4 {A : Ar} (hA : A = std) {x0 : Int} {r : Bool} (h : Agu A x0 = some r) : PFun cx 265 [it .u8 x0] (bl r) := by
 refine wF hA cx_ok Tryz.func265 fun P R hP hR => ?_
 cbv; unfold Agu at h
 iterate 2 refine kj ?_
 iterate 6 refine cj ?_
 refine ⟨by subst hA; simp +contextual [vcm], ?_⟩
 iterate 5 refine cj ?_
 refine ⟨by subst hA; simp +contextual [vcm], ?_⟩
 iterate 2 refine cj ?_
 obtain ⟨w1, hw1, h⟩ := bd_e h; refine kg hP (fun hc => (Amc hA (gd_e hw1 hc))) ?_; cbv
 iterate 2 refine cj ?_
 exact le h hR
theorem Anw {A : Ar} (hA : A = std) {x0 : Int} {r : Bool} (h : Aho A x0 = some r) : PFun cx 264 [it .u8 x0] (bl r) := by
 refine wF hA cx_ok Tryz.func264 fun P R hP hR => ?_
 cbv; unfold Aho at h
 iterate 2 refine kj ?_
 obtain ⟨w1, hw1, h⟩ := bd_e h; refine kc hP (Ao4 hA hw1) ?_; cbv
 exact le h hR
theorem Alh {A : Ar} (hA : A = std) {x0 : ByteArray} {r : Bool} (h : Aeq A x0 = some r) : PFun cx 202 [st x0] (bl r) := by
 refine wF hA cx_ok Tryz.func202 fun P R hP hR => ?_
 cbv; unfold Aeq at h
 iterate 2 refine kj ?_
 iterate 2 refine cj ?_
 obtain ⟨w1, hw1, h⟩ := bd_e h; refine kf hP (fun hc => (Aa4 hA (by rfl) (fun _ _ hw => Anw hA hw) (gd_e hw1 hc))) ?_; cbv
 iterate 2 refine cj ?_
 exact le h hR
theorem Aik {A : Ar} (hA : A = std) {r : Unit} (h : Ac9 A = some r) : PFunM cx 203 [] [] (.mp 2000 1) [⟨2000, 1, .map [(.int .i64 1, .d (.v (.string (ByteArray.mk (Array.mk [61]))))), (.int .i64 2, .d (.v (.string (ByteArray.mk (Array.mk [33, 61]))))), (.int .i64 3, .d (.v (.string (ByteArray.mk (Array.mk [61, 126]))))), (.int .i64 4, .d (.v (.string (ByteArray.mk (Array.mk [33, 126])))))]⟩] := by
 refine PFunM.walkM (fz := fun _ => false) hA cx_ok Tryz.func203 rfl rfl fun P R hP hR => ?_
 cbv; unfold Ac9 at h
 iterate 2 refine kj ?_
 refine and_assoc.2 ?_
 refine ⟨by subst hA; simp +contextual [vcm], ?_⟩
 refine cj ?_
 refine and_assoc.2 ?_
 refine ⟨by subst hA; simp +contextual [vcm], ?_⟩
 refine and_assoc.2 ?_
 refine ⟨by subst hA; simp +contextual [vcm], ?_⟩
 refine cj ?_
 refine and_assoc.2 ?_
 refine ⟨by subst hA; simp +contextual [vcm], ?_⟩
 refine and_assoc.2 ?_
 refine ⟨by subst hA; simp +contextual [vcm], ?_⟩
 refine and_assoc.2 ?_
 refine ⟨by subst hA; simp +contextual [vcm], ?_⟩
 refine cj ?_
 cases h
 refine hR _ _ ⟨[(1, 3)], ⟨by rfl, ez, by rfl, ez⟩⟩
theorem Af6 {A : Ar} (hA : A = std) {x0 : Matcher} {r : Bool} (h : Acm A x0 = some r) : PFun cx 127 [Aie x0] (bl r) := by
 refine wF hA cx_ok Tryz.func127 fun P R hP hR => ?_
 cbv; unfold Acm at h
 iterate 3 refine kj ?_
 refine bc h (fun hb h => ?_) fun hb h => ?_
 ·cbv
  iterate 2 refine kj ?_
  refine kl h (fun x _ => [(14, it .i64 x)]) (fun x gh => [⟨1, 0, .box 97 [st x0.1, it .i64 x0.2, .d (.sl .str x0.3)]⟩]) [] ?_
  rintro t14 gh1 g1 _ _ _ hK1 hQ1 h; cbv
  refine kj ?_
  refine bc h (fun hb h => ?_) fun hb h => ?_
  ·cbv
   refine kj ?_
   refine kk h fun c1 h => ?_
   refine kj ?_
   obtain ⟨w2, hw2, h⟩ := bd_e h; refine kc hP (Alh hA hw2) ?_; cbv
   iterate 7 refine cj ?_
   refine kk h fun c3 h => ?_
   iterate 4 refine cj ?_
   refine ⟨by subst hA; simp +contextual [vcm], ?_⟩
   refine cj ?_
   refine bc h (fun hb h => ?_) fun hb h => ?_
   ·cbv
    refine kj ?_
    refine hQ1 _ h _ _ fun h => ?_; cbv
    exact le h hR
   ·cbv
    refine kj ?_
    cases h; exact hK1 _ _ [] rfl hdy
  ·cbv
   refine hQ1 _ h _ _ fun h => ?_; cbv
   refine kj ?_
   obtain ⟨w4, hw4, h⟩ := bd_e h; refine km hP [] (Aik hA hw4) ?_; cbv
   refine ⟨by first | exact Aev hA _ | exact ⟨rfl⟩, ?_⟩
   obtain ⟨w5, hw5, h⟩ := bd_e h
   have hw5' := Apc A x0.2 (fun x => st x) (ByteArray.mk (Array.mk [])) [(1, ByteArray.mk (Array.mk [61])), (2, ByteArray.mk (Array.mk [33, 61])), (3, ByteArray.mk (Array.mk [61, 126])), (4, ByteArray.mk (Array.mk [33, 126]))]
   rw [Option.some.inj hw5] at hw5'
   refine LookK.one _ _ hw5' ?_
   cbv
   iterate 2 refine kj ?_
   iterate 6 refine cj ?_
   obtain ⟨w6, hw6, h⟩ := bd_e h; refine kg hP (fun hc => (Ae2 hA (gd_e hw6 hc))) ?_; cbv
   iterate 12 refine cj ?_
   exact le h hR
 ·cbv
  refine kj ?_
  refine kl h (fun x _ => [(14, it .i64 x)]) (fun x gh => [⟨1, 0, .box 97 [st x0.1, it .i64 x0.2, .d (.sl .str x0.3)]⟩]) [] ?_
  rintro t14 gh2 g2 _ _ _ hK2 hQ2 h; cbv
  refine kj ?_
  refine bc h (fun hb h => ?_) fun hb h => ?_
  ·cbv
   refine kj ?_
   refine kk h fun c7 h => ?_
   refine kj ?_
   obtain ⟨w8, hw8, h⟩ := bd_e h; refine kc hP (Alh hA hw8) ?_; cbv
   iterate 7 refine cj ?_
   refine kk h fun c9 h => ?_
   iterate 4 refine cj ?_
   refine ⟨by subst hA; simp +contextual [vcm], ?_⟩
   refine cj ?_
   refine bc h (fun hb h => ?_) fun hb h => ?_
   ·cbv
    refine kj ?_
    refine hQ2 _ h _ _ fun h => ?_; cbv
    exact le h hR
   ·cbv
    refine kj ?_
    cases h; exact hK2 _ _ [] rfl hdy
  ·cbv
   refine hQ2 _ h _ _ fun h => ?_; cbv
   refine kj ?_
   obtain ⟨w10, hw10, h⟩ := bd_e h; refine km hP [] (Aik hA hw10) ?_; cbv
   refine ⟨by first | exact Aev hA _ | exact ⟨rfl⟩, ?_⟩
   obtain ⟨w11, hw11, h⟩ := bd_e h
   have hw11' := Apc A x0.2 (fun x => st x) (ByteArray.mk (Array.mk [])) [(1, ByteArray.mk (Array.mk [61])), (2, ByteArray.mk (Array.mk [33, 61])), (3, ByteArray.mk (Array.mk [61, 126])), (4, ByteArray.mk (Array.mk [33, 126]))]
   rw [Option.some.inj hw11] at hw11'
   refine LookK.one _ _ hw11' ?_
   cbv
   iterate 2 refine kj ?_
   iterate 6 refine cj ?_
   obtain ⟨w12, hw12, h⟩ := bd_e h; refine kg hP (fun hc => (Ae2 hA (gd_e hw12 hc))) ?_; cbv
   iterate 12 refine cj ?_
   exact le h hR
theorem Am7 {A : Ar} (hA : A = std) {x0 : Inhibit} {r : Bool} (h : Aeh A x0 = some r) : PFun cx 40 [Ae1 x0] (bl r) := by
 refine wF hA cx_ok Tryz.func40 fun P R hP hR => ?_
 cbv; unfold Aeh at h
 iterate 2 refine kj ?_
 refine kl h (fun x _ => [(9, it .i64 x)]) (fun x gh => [⟨1, 0, .box 61 [.d (.sl .matcher x0.1), .d (.sl .matcher x0.2), .d (.sl .str x0.3)]⟩]) [] ?_
 rintro t9 gh1 g1 _ _ _ hK1 hQ1 h; cbv
 refine kj ?_
 refine bc h (fun hb h => ?_) fun hb h => ?_
 ·cbv
  refine kj ?_
  refine kk h fun c1 h => ?_
  refine kj ?_
  obtain ⟨w2, hw2, h⟩ := bd_e h; refine kc hP (Ae2 hA hw2) ?_; cbv
  iterate 7 refine cj ?_
  refine kk h fun c3 h => ?_
  iterate 4 refine cj ?_
  refine ⟨by subst hA; simp +contextual [vcm], ?_⟩
  refine cj ?_
  refine bc h (fun hb h => ?_) fun hb h => ?_
  ·cbv
   refine kj ?_
   refine hQ1 _ h _ _ fun h => ?_; cbv
   exact le h hR
  ·cbv
   refine kj ?_
   cases h; exact hK1 _ _ [] rfl hdy
 ·cbv
  refine hQ1 _ h _ _ fun h => ?_; cbv
  refine kj ?_
  iterate 10 refine cj ?_
  refine kj ?_
  iterate 3 refine cj ?_
  obtain ⟨w4, hw4, h⟩ := bd_e h; refine kf hP (fun hc => (Ah0 (cap2 := []) hA (by first | exact .inl rfl | exact .inr ⟨_, rfl⟩) (fun _ _ hw => Af6 hA hw) (gd_e hw4 hc))) ?_; cbv
  iterate 4 refine cj ?_
  obtain ⟨w5, hw5, h⟩ := bd_e h; refine kf hP (fun hc => (Ah0 (cap2 := []) hA (by first | exact .inl rfl | exact .inr ⟨_, rfl⟩) (fun _ _ hw => Af6 hA hw) (gd_e hw5 hc))) ?_; cbv
  refine cj ?_
  exact le h hR
theorem Ah1 {A : Ar} (hA : A = std) {x0 : Hours} {qc0 : Hours → Option Bool} {gc0 : Nat} {capc0 : List D} (hcapc0 : capOK capc0) (hqc0 : ∀ (y0 : Hours) (r : Bool), qc0 y0 = some r → PFun cx gc0 ((Aek y0) :: un.uns capc0) (bl r)) {r : Bool} (h : Aff A x0 qc0 = some r) : PFun cx 128 [Aek x0, .ip [.fun (.func gc0) [] capc0]] (bl r) := by
 rcases hcapc0 with rfl | ⟨dscapc0, rfl⟩
 all_goals
  refine wF hA cx_ok Tryz.func128 fun P R hP hR => ?_
  cbv; unfold Aff at h
  iterate 2 refine kj ?_
  obtain ⟨w1, hw1, h⟩ := bd_e h; refine kc hP (hqc0 _ _ hw1) ?_; cbv
  exact le h hR
theorem Ag3 {A : Ar} (hA : A = std) {x0 : List Hours} {q1 : Hours → Option Bool} {g1 : Nat} {cap1 : List PV} (hcap1 : bare.bares cap1 = true) (hq1 : ∀ (y0 : Hours) (r : Bool), q1 y0 = some r → PFun cx g1 ((Aek y0) :: cap1) (bl r)) {r : Int} (h : Acg A x0 q1 = some r) : PFun cx 135 [.d (.sl TyS.hours x0), .fn (.func g1) [] cap1] (it .i64 r) := by
 refine wF hA cx_ok Tryz.func135 fun P R hP hR => ?_
 cbv; unfold Acg at h
 iterate 2 refine kj ?_
 refine kl h (fun x _ => [(8, it .i64 x)]) (fun _ _ => []) [] ?_
 rintro t8 gh1 g1 _ _ _ hK1 hQ1 h; cbv
 refine kj ?_
 refine bc h (fun hb h => ?_) fun hb h => ?_
 ·cbv
  iterate 2 refine kj ?_
  refine kk h fun c1 h => ?_
  obtain ⟨w2, hw2, h⟩ := bd_e h; refine kc hP (hq1 _ _ hw2) ?_ (by first | rfl | simp [bare, bare.bares, hcap1]); cbv
  refine bc h (fun hb h => ?_) fun hb h => ?_
  ·cbv
   refine kj ?_
   refine hQ1 _ h _ _ fun h => ?_; cbv
   exact le h hR
  ·cbv
   refine kj ?_
   cases h; exact hK1 _ _ [] rfl hdy
 ·cbv
  refine hQ1 _ h _ _ fun h => ?_; cbv
  refine kj ?_
  exact le h hR
theorem Aci {A : Ar} (hA : A = std) {x0 : List Hours} {q1 : Hours → Option Bool} {g1 : Nat} {cap1 : List PV} (hcap1 : bare.bares cap1 = true) (hq1 : ∀ (y0 : Hours) (r : Bool), q1 y0 = some r → PFun cx g1 ((Aek y0) :: cap1) (bl r)) {r : Bool} (h : Aat A x0 q1 = some r) : PFun cx 53 [.d (.sl TyS.hours x0), .fn (.func g1) [] cap1] (bl r) := by
 refine wF hA cx_ok Tryz.func53 fun P R hP hR => ?_
 cbv; unfold Aat at h
 iterate 2 refine kj ?_
 obtain ⟨w1, hw1, h⟩ := bd_e h; refine kc hP (Ag3 hA hcap1 hq1 hw1) ?_ (by first | rfl | simp [bare, bare.bares, hcap1]); cbv
 exact le h hR
theorem Amq {A : Ar} (hA : A = std) {x0 : List Hours} {x1 : Int} {q2 : Hours → Option Bool} {g2 : Nat} {cap2 : List D} (hcap2 : capOK cap2) (hq2 : ∀ (y0 : Hours) (r : Bool), q2 y0 = some r → PFun cx g2 ((Aek y0) :: un.uns cap2) (bl r)) {r : Bool} (h : Adp A x0 x1 q2 = some r) : PFun cx 41 [.d (.sl TyS.hours x0), it .i64 x1, .fn (.func g2) [] (un.uns cap2)] (bl r) := by
 rcases hcap2 with rfl | ⟨dscap2, rfl⟩
 ·refine PFun.walkF (fz := fun k => k == 5) hA cx_ok Tryz.func41 rfl rfl rfl fun P R hP hR => ?_
  cbv; unfold Adp at h
  iterate 2 refine kj ?_
  iterate 2 refine cj ?_
  obtain ⟨w1, hw1, h⟩ := bd_e h; refine kg hP (fun hc => (Aci hA (by rfl) (fun _ _ hw => Ah1 (capc0 := []) hA (by first | exact .inl rfl | exact .inr ⟨_, rfl⟩) hq2 hw) (gd_e hw1 hc))) ?_; cbv
  iterate 2 refine cj ?_
  exact le h hR
 ·refine PFun.walkF (fz := fun k => k == 5) hA cx_ok Tryz.func41 rfl rfl rfl fun P R hP hR => ?_
  cbv; unfold Adp at h
  iterate 2 refine kj ?_
  iterate 2 refine cj ?_
  obtain ⟨w1, hw1, h⟩ := bd_e h; refine kg hP (fun hc => (Aci hA (by rfl) (fun _ _ hw => Ah1 (capc0 := [D.ptr dscap2]) hA (by first | exact .inl rfl | exact .inr ⟨_, rfl⟩) hq2 hw) (gd_e hw1 hc))) ?_; cbv
  iterate 2 refine cj ?_
  exact le h hR
theorem Ao5 {A : Ar} (hA : A = std) {x0 : Int} {r : Bool} (h : Aks A x0 = some r) : PFun cx 129 [it .u8 x0] (bl r) := by
 refine wF hA cx_ok Tryz.func129 fun P R hP hR => ?_
 cbv; unfold Aks at h
 iterate 2 refine kj ?_
 iterate 6 refine cj ?_
 refine ⟨by subst hA; simp +contextual [vcm], ?_⟩
 iterate 3 refine cj ?_
 exact le h hR
theorem Ame {A : Ar} (hA : A = std) {x0 : Hours} {r : Bool} (h : Afn A x0 = some r) : PFun cx 42 [Aek x0] (bl r) := by
 refine wF hA cx_ok Tryz.func42 fun P R hP hR => ?_
 cbv; unfold Afn at h
 iterate 3 refine kj ?_
 iterate 10 refine cj ?_
 obtain ⟨w1, hw1, h⟩ := bd_e h; refine kf hP (fun hc => (Aa4 hA (by rfl) (fun _ _ hw => Ao5 hA hw) (gd_e hw1 hc))) ?_; cbv
 iterate 29 refine cj ?_
 exact le h hR
theorem Ali {A : Ar} (hA : A = std) {x0 : List Rule} {q1 : Rule → Option ByteArray} {g1 : Nat} {cap1 : List PV} (hcap1 : bare.bares cap1 = true) (hq1 : ∀ (y0 : Rule) (r : ByteArray), q1 y0 = some r → PFun cx g1 ((Agv y0) :: cap1) (st r)) {r : Bool} (h : Adm A x0 q1 = some r) : PFun cx 43 [.d (.sl TyS.rule x0), .fn (.func g1) [] cap1] (bl r) := by
 refine wF hA cx_ok Tryz.func43 fun P R hP hR => ?_
 cbv; unfold Adm at h
 iterate 3 refine kj ?_
 refine kl h (fun x _ => [(11, it .i64 x.1)]) (fun x gh => [⟨8, 1, .map (A.mesB x.2)⟩]) [] ?_
 rintro ⟨t11, map8⟩ gh1 g1 _ _ _ hK1 hQ1 h; cbv
 refine kj ?_
 refine bc h (fun hb h => ?_) fun hb h => ?_
 ·cbv
  refine kj ?_
  refine kk h fun c1 h => ?_
  refine kj ?_
  obtain ⟨w2, hw2, h⟩ := bd_e h; refine kc hP (hq1 _ _ hw2) ?_ (by first | rfl | simp [bare, bare.bares, hcap1]); cbv
  refine ⟨by first | exact Aev hA _ | exact ⟨rfl⟩, ?_⟩
  obtain ⟨w3, hw3, h⟩ := bd_e h
  have hw3' := At3 hA w2 false map8
  rw [Option.some.inj hw3] at hw3'
  refine LookK.one _ _ hw3' ?_
  cbv
  refine bc h (fun hb h => ?_) fun hb h => ?_
  ·cbv
   refine kj ?_
   refine hQ1 _ h _ _ fun h => ?_; cbv
   exact le h hR
  ·cbv
   refine kj ?_
   obtain ⟨w4, hw4, h⟩ := bd_e h; refine kc hP (hq1 _ _ hw4) ?_ (by first | rfl | simp [bare, bare.bares, hcap1]); cbv
   refine ⟨by first | exact Aev hA _ | exact ⟨rfl⟩, ?_⟩
   refine kk h fun c5 h => ?_
   refine kj ?_
   cases h; exact hK1 _ _ [] rfl hdy
 ·cbv
  refine hQ1 _ h _ _ fun h => ?_; cbv
  refine kj ?_
  exact le h hR
theorem Alj {A : Ar} (hA : A = std) {x0 : Rule} {r : ByteArray} (h : Agi A x0 = some r) : PFun cx 44 [Agv x0] (st r) := by
 refine wF hA cx_ok Tryz.func44 fun P R hP hR => ?_
 cbv; unfold Agi at h
 iterate 2 refine kj ?_
 exact le h hR
theorem Akp {A : Ar} (hA : A = std) {x0 : List ByteArray} {q1 : ByteArray → Option ByteArray} {g1 : Nat} {cap1 : List PV} (hcap1 : bare.bares cap1 = true) (hq1 : ∀ (y0 : ByteArray) (r : ByteArray), q1 y0 = some r → PFun cx g1 ((st y0) :: cap1) (st r)) {r : Bool} (h : Acw A x0 q1 = some r) : PFun cx 45 [.d (.sl TyS.str x0), .fn (.func g1) [] cap1] (bl r) := by
 refine wF hA cx_ok Tryz.func45 fun P R hP hR => ?_
 cbv; unfold Acw at h
 iterate 3 refine kj ?_
 refine kl h (fun x _ => [(11, it .i64 x.1)]) (fun x gh => [⟨8, 1, .map (A.mesB x.2)⟩]) [] ?_
 rintro ⟨t11, map8⟩ gh1 g1 _ _ _ hK1 hQ1 h; cbv
 refine kj ?_
 refine bc h (fun hb h => ?_) fun hb h => ?_
 ·cbv
  refine kj ?_
  refine kk h fun c1 h => ?_
  refine kj ?_
  obtain ⟨w2, hw2, h⟩ := bd_e h; refine kc hP (hq1 _ _ hw2) ?_ (by first | rfl | simp [bare, bare.bares, hcap1]); cbv
  refine ⟨by first | exact Aev hA _ | exact ⟨rfl⟩, ?_⟩
  obtain ⟨w3, hw3, h⟩ := bd_e h
  have hw3' := At3 hA w2 false map8
  rw [Option.some.inj hw3] at hw3'
  refine LookK.one _ _ hw3' ?_
  cbv
  refine bc h (fun hb h => ?_) fun hb h => ?_
  ·cbv
   refine kj ?_
   refine hQ1 _ h _ _ fun h => ?_; cbv
   exact le h hR
  ·cbv
   refine kj ?_
   obtain ⟨w4, hw4, h⟩ := bd_e h; refine kc hP (hq1 _ _ hw4) ?_ (by first | rfl | simp [bare, bare.bares, hcap1]); cbv
   refine ⟨by first | exact Aev hA _ | exact ⟨rfl⟩, ?_⟩
   refine kk h fun c5 h => ?_
   refine kj ?_
   cases h; exact hK1 _ _ [] rfl hdy
 ·cbv
  refine hQ1 _ h _ _ fun h => ?_; cbv
  refine kj ?_
  exact le h hR
theorem Ak7 {A : Ar} (hA : A = std) {x0 : ByteArray} {r : ByteArray} (h : Aes A x0 = some r) : PFun cx 46 [st x0] (st r) := by
 refine wF hA cx_ok Tryz.func46 fun P R hP hR => ?_
 cbv; unfold Aes at h
 iterate 2 refine kj ?_
 exact le h hR
theorem Ale {A : Ar} (hA : A = std) {x0 : List Hours} {q1 : Hours → Option ByteArray} {g1 : Nat} {cap1 : List PV} (hcap1 : bare.bares cap1 = true) (hq1 : ∀ (y0 : Hours) (r : ByteArray), q1 y0 = some r → PFun cx g1 ((Aek y0) :: cap1) (st r)) {r : Bool} (h : Ac5 A x0 q1 = some r) : PFun cx 47 [.d (.sl TyS.hours x0), .fn (.func g1) [] cap1] (bl r) := by
 refine wF hA cx_ok Tryz.func47 fun P R hP hR => ?_
 cbv; unfold Ac5 at h
 iterate 3 refine kj ?_
 refine kl h (fun x _ => [(11, it .i64 x.1)]) (fun x gh => [⟨8, 1, .map (A.mesB x.2)⟩]) [] ?_
 rintro ⟨t11, map8⟩ gh1 g1 _ _ _ hK1 hQ1 h; cbv
 refine kj ?_
 refine bc h (fun hb h => ?_) fun hb h => ?_
 ·cbv
  refine kj ?_
  refine kk h fun c1 h => ?_
  refine kj ?_
  obtain ⟨w2, hw2, h⟩ := bd_e h; refine kc hP (hq1 _ _ hw2) ?_ (by first | rfl | simp [bare, bare.bares, hcap1]); cbv
  refine ⟨by first | exact Aev hA _ | exact ⟨rfl⟩, ?_⟩
  obtain ⟨w3, hw3, h⟩ := bd_e h
  have hw3' := At3 hA w2 false map8
  rw [Option.some.inj hw3] at hw3'
  refine LookK.one _ _ hw3' ?_
  cbv
  refine bc h (fun hb h => ?_) fun hb h => ?_
  ·cbv
   refine kj ?_
   refine hQ1 _ h _ _ fun h => ?_; cbv
   exact le h hR
  ·cbv
   refine kj ?_
   obtain ⟨w4, hw4, h⟩ := bd_e h; refine kc hP (hq1 _ _ hw4) ?_ (by first | rfl | simp [bare, bare.bares, hcap1]); cbv
   refine ⟨by first | exact Aev hA _ | exact ⟨rfl⟩, ?_⟩
   refine kk h fun c5 h => ?_
   refine kj ?_
   cases h; exact hK1 _ _ [] rfl hdy
 ·cbv
  refine hQ1 _ h _ _ fun h => ?_; cbv
  refine kj ?_
  exact le h hR
theorem Ak8 {A : Ar} (hA : A = std) {x0 : Hours} {r : ByteArray} (h : Afs A x0 = some r) : PFun cx 48 [Aek x0] (st r) := by
 refine wF hA cx_ok Tryz.func48 fun P R hP hR => ?_
 cbv; unfold Afs at h
 iterate 2 refine kj ?_
 exact le h hR
theorem Ap4 {A : Ar} (hA : A = std) {x0 : Matcher} {r : Bool} (h : Ah6 A x0 = some r) : PFun cx 205 [Aie x0] (bl r) := by
 refine wF hA cx_ok Tryz.func205 fun P R hP hR => ?_
 cbv; unfold Ah6 at h
 iterate 2 refine kj ?_
 obtain ⟨w1, hw1, h⟩ := bd_e h; refine kc hP (Af6 hA hw1) ?_; cbv
 exact le h hR
theorem Amf {A : Ar} (hA : A = std) {x0 : ByteArray} {r : Bool} (h : Aha A x0 = some r) : PFun cx 206 [st x0] (bl r) := by
 refine wF hA cx_ok Tryz.func206 fun P R hP hR => ?_
 cbv; unfold Aha at h
 iterate 2 refine kj ?_
 obtain ⟨w1, hw1, h⟩ := bd_e h; refine kc hP (Ajv hA hw1) ?_; cbv
 exact le h hR
theorem Aj1 {A : Ar} (hA : A = std) {x0 : List ByteArray} {q1 : ByteArray → Option Bool} {g1 : Nat} {cap1 : List PV} (hcap1 : bare.bares cap1 = true) (hq1 : ∀ (y0 : ByteArray) (r : Bool), q1 y0 = some r → PFun cx g1 ((st y0) :: cap1) (bl r)) {r : Bool} (h : Ae3 A x0 q1 = some r) : PFun cx 207 [.d (.sl TyS.str x0), .fn (.func g1) [] cap1] (bl r) := by
 refine wF hA cx_ok Tryz.func207 fun P R hP hR => ?_
 cbv; unfold Ae3 at h
 iterate 2 refine kj ?_
 refine kl h (fun x _ => [(4, bl x.1), (9, it .i64 x.2)]) (fun _ _ => []) [] ?_
 rintro ⟨t4, t9⟩ gh1 g1 _ _ _ hK1 hQ1 h; cbv
 refine kj ?_
 refine bc h (fun hb h => ?_) fun hb h => ?_
 ·cbv
  refine kj ?_
  refine kk h fun c1 h => ?_
  refine kj ?_
  obtain ⟨w2, hw2, h⟩ := bd_e h; refine kc hP (hq1 _ _ hw2) ?_ (by first | rfl | simp [bare, bare.bares, hcap1]); cbv
  iterate 5 refine cj ?_
  refine kk h fun c3 h => ?_
  iterate 4 refine cj ?_
  refine ⟨by subst hA; simp +contextual [vcm], ?_⟩
  refine cj ?_
  refine bc h (fun hb h => ?_) fun hb h => ?_
  ·cbv
   refine kj ?_
   refine hQ1 _ h _ _ fun h => ?_; cbv
   exact le h hR
  ·cbv
   refine kj ?_
   cases h; exact hK1 _ _ [] rfl hdy
 ·cbv
  refine hQ1 _ h _ _ fun h => ?_; cbv
  refine kj ?_
  exact le h hR
theorem Ar5 {A : Ar} (hA : A = std) {x0 : ByteArray} {r : Bool} (h : Ai9 A x0 = some r) : PFun cx 208 [st x0] (bl r) := by
 refine wF hA cx_ok Tryz.func208 fun P R hP hR => ?_
 cbv; unfold Ai9 at h
 iterate 2 refine kj ?_
 obtain ⟨w1, hw1, h⟩ := bd_e h; refine kc hP (Ae2 hA hw1) ?_; cbv
 exact le h hR
theorem Anx {A : Ar} (hA : A = std) {x0 : Int} {c0 : Int} {r : Bool} (h : Af2 A x0 c0 = some r) : PFun cx 267 [it .i64 x0, .ip [.v (.int .i64 c0)]] (bl r) := by
 refine wF hA cx_ok Tryz.func267 fun P R hP hR => ?_
 cbv; unfold Af2 at h
 iterate 2 refine kj ?_
 iterate 2 refine cj ?_
 exact le h hR
theorem Ai4 {A : Ar} (hA : A = std) {x0 : List Int} {q1 : Int → Option Bool} {g1 : Nat} {cap1 : List PV} (hcap1 : bare.bares cap1 = true) (hq1 : ∀ (y0 : Int) (r : Bool), q1 y0 = some r → PFun cx g1 ((it .i64 y0) :: cap1) (bl r)) {r : Int} (h : Adn A x0 q1 = some r) : PFun cx 293 [.d (.sl TyS.int x0), .fn (.func g1) [] cap1] (it .i64 r) := by
 refine wF hA cx_ok Tryz.func293 fun P R hP hR => ?_
 cbv; unfold Adn at h
 iterate 2 refine kj ?_
 refine kl h (fun x _ => [(8, it .i64 x)]) (fun _ _ => []) [] ?_
 rintro t8 gh1 g1 _ _ _ hK1 hQ1 h; cbv
 refine kj ?_
 refine bc h (fun hb h => ?_) fun hb h => ?_
 ·cbv
  iterate 2 refine kj ?_
  refine kk h fun c1 h => ?_
  obtain ⟨w2, hw2, h⟩ := bd_e h; refine kc hP (hq1 _ _ hw2) ?_ (by first | rfl | simp [bare, bare.bares, hcap1]); cbv
  refine bc h (fun hb h => ?_) fun hb h => ?_
  ·cbv
   refine kj ?_
   refine hQ1 _ h _ _ fun h => ?_; cbv
   exact le h hR
  ·cbv
   refine kj ?_
   cases h; exact hK1 _ _ [] rfl hdy
 ·cbv
  refine hQ1 _ h _ _ fun h => ?_; cbv
  refine kj ?_
  exact le h hR
theorem Ah2 {A : Ar} (hA : A = std) {x0 : List Int} {q1 : Int → Option Bool} {g1 : Nat} {cap1 : List PV} (hcap1 : bare.bares cap1 = true) (hq1 : ∀ (y0 : Int) (r : Bool), q1 y0 = some r → PFun cx g1 ((it .i64 y0) :: cap1) (bl r)) {r : Bool} (h : Aby A x0 q1 = some r) : PFun cx 266 [.d (.sl TyS.int x0), .fn (.func g1) [] cap1] (bl r) := by
 refine wF hA cx_ok Tryz.func266 fun P R hP hR => ?_
 cbv; unfold Aby at h
 iterate 2 refine kj ?_
 obtain ⟨w1, hw1, h⟩ := bd_e h; refine kc hP (Ai4 hA hcap1 hq1 hw1) ?_ (by first | rfl | simp [bare, bare.bares, hcap1]); cbv
 exact le h hR
theorem Alk {A : Ar} (hA : A = std) {x0 : Int} {x1 : List Int} {r : Bool} (h : Agj A x0 x1 = some r) : PFun cx 209 [it .i64 x0, .d (.sl TyS.int x1)] (bl r) := by
 refine PFun.walkF (fz := fun k => k == 2) hA cx_ok Tryz.func209 rfl rfl rfl fun P R hP hR => ?_
 cbv; unfold Agj at h
 iterate 2 refine kj ?_
 obtain ⟨w1, hw1, h⟩ := bd_e h; refine kc hP (Ah2 hA (by rfl) (fun _ _ hw => Anx hA hw) hw1) ?_; cbv
 exact le h hR
theorem Ag4 {A : Ar} (hA : A = std) {x0 : List Route} {q1 : Route → Option Bool} {g1 : Nat} {cap1 : List PV} (hcap1 : bare.bares cap1 = true) (hq1 : ∀ (y0 : Route) (r : Bool), q1 y0 = some r → PFun cx g1 ((Ab6 y0) :: cap1) (bl r)) {r : Int} (h : Ach A x0 q1 = some r) : PFun cx 231 [.d (.sl TyS.route x0), .fn (.func g1) [] cap1] (it .i64 r) := by
 refine wF hA cx_ok Tryz.func231 fun P R hP hR => ?_
 cbv; unfold Ach at h
 iterate 2 refine kj ?_
 refine kl h (fun x _ => [(8, it .i64 x)]) (fun _ _ => []) [] ?_
 rintro t8 gh1 g1 _ _ _ hK1 hQ1 h; cbv
 refine kj ?_
 refine bc h (fun hb h => ?_) fun hb h => ?_
 ·cbv
  iterate 2 refine kj ?_
  refine kk h fun c1 h => ?_
  obtain ⟨w2, hw2, h⟩ := bd_e h; refine kc hP (hq1 _ _ hw2) ?_ (by first | rfl | simp [bare, bare.bares, hcap1]); cbv
  refine bc h (fun hb h => ?_) fun hb h => ?_
  ·cbv
   refine kj ?_
   refine hQ1 _ h _ _ fun h => ?_; cbv
   exact le h hR
  ·cbv
   refine kj ?_
   cases h; exact hK1 _ _ [] rfl hdy
 ·cbv
  refine hQ1 _ h _ _ fun h => ?_; cbv
  refine kj ?_
  exact le h hR
theorem Agm {A : Ar} (hA : A = std) {x0 : List Route} {q1 : Route → Option Bool} {g1 : Nat} {cap1 : List PV} (hcap1 : bare.bares cap1 = true) (hq1 : ∀ (y0 : Route) (r : Bool), q1 y0 = some r → PFun cx g1 ((Ab6 y0) :: cap1) (bl r)) {r : Bool} (h : Aa9 A x0 q1 = some r) : PFun cx 158 [.d (.sl TyS.route x0), .fn (.func g1) [] cap1] (bl r) := by
 refine wF hA cx_ok Tryz.func158 fun P R hP hR => ?_
 cbv; unfold Aa9 at h
 iterate 2 refine kj ?_
 obtain ⟨w1, hw1, h⟩ := bd_e h; refine kc hP (Ag4 hA hcap1 hq1 hw1) ?_ (by first | rfl | simp [bare, bare.bares, hcap1]); cbv
 exact le h hR
theorem Ap5 {A : Ar} (hA : A = std) {rf : Route → Int → Option Bool} {x0 : Route} {c0 : Int} (hqr131 : ∀ (x0 : Route) (x1 : Int) (r : Bool), rf x0 x1 = some r → PFun cx 131 [Ab6 x0, it .i64 x1] (bl r)) {r : Bool} (h : Ah7 A rf x0 c0 = some r) : PFun cx 210 [Ab6 x0, .ip [.v (.int .i64 c0)]] (bl r) := by
 refine wF hA cx_ok Tryz.func210 fun P R hP hR => ?_
 cbv; unfold Ah7 at h
 iterate 2 refine kj ?_
 obtain ⟨w1, hw1, h⟩ := bd_e h; refine kc hP (hqr131 _ _ _ hw1) ?_; cbv
 exact le h hR
theorem Ap6 {A : Ar} (hA : A = std) {rf : Route → Int → Option Bool} {x0 : Route} {x1 : Int} (hqr131 : ∀ (x0 : Route) (x1 : Int) (r : Bool), rf x0 x1 = some r → PFun cx 131 [Ab6 x0, it .i64 x1] (bl r)) {r : Bool} (h : Ah8 A rf x0 x1 = some r) : PFun cx 131 [Ab6 x0, it .i64 x1] (bl r) := by
 refine PFun.walkF (fz := fun k => k == 3) hA cx_ok Tryz.func131 rfl rfl rfl fun P R hP hR => ?_
 cbv; unfold Ah8 at h
 iterate 3 refine kj ?_
 iterate 3 refine cj ?_
 obtain ⟨w1, hw1, h⟩ := bd_e h; refine kg hP (fun hc => (Amf hA (gd_e hw1 hc))) ?_; cbv
 iterate 11 refine cj ?_
 obtain ⟨w2, hw2, h⟩ := bd_e h; refine kf hP (fun hc => (Ab2 hA (by rfl) (fun _ _ hw => Ap4 hA hw) (gd_e hw2 hc))) ?_; cbv
 iterate 6 refine cj ?_
 refine bc h (fun hb h => ?_) fun hb h => ?_
 ·cbv
  refine kj ?_
  exact le h hR
 ·cbv
  refine kj ?_
  obtain ⟨w3, hw3, h⟩ := bd_e h; refine ke hP (Aj1 hA (by rfl) (fun _ _ hw => Ar5 hA hw) hw3) ?_; cbv
  iterate 3 refine cj ?_
  obtain ⟨w4, hw4, h⟩ := bd_e h; refine kf hP (fun hc => (Aj1 hA (by rfl) (fun _ _ hw => Amf hA hw) (gd_e hw4 hc))) ?_; cbv
  iterate 7 refine cj ?_
  obtain ⟨w5, hw5, h⟩ := bd_e h; refine kg hP (fun hc => (Alk hA (gd_e hw5 hc))) ?_; cbv
  iterate 10 refine cj ?_
  obtain ⟨w6, hw6, h⟩ := bd_e h; refine kg hP (fun hc => (Alk hA (gd_e hw6 hc))) ?_; cbv
  iterate 2 refine cj ?_
  refine bc h (fun hb h => ?_) fun hb h => ?_
  ·cbv
   refine kj ?_
   exact le h hR
  ·cbv
   refine kj ?_
   obtain ⟨w7, hw7, h⟩ := bd_e h; refine kc hP (Agm hA (by rfl) (fun _ _ hw => Ap5 hA hqr131 hw) hw7) ?_; cbv
   exact le h hR
theorem All {A : Ar} (hA : A = std) : ∀ (n : Nat) (x0 : Route) (x1 : Int) (r : Bool), Agk A n x0 x1 = some r → PFun cx 131 [Ab6 x0, it .i64 x1] (bl r)
 | 0, _, _, _, h => by cases h
 | n + 1, x0, x1, r, h => Ap6 hA (fun _ _ _ hh => All hA n _ _ _ hh) h
theorem Atf {A : Ar} (hA : A = std) {x0 : Route} {x1 : Int} {r : Bool} (h : An5 A x0 x1 = some r) : PFun cx 131 [Ab6 x0, it .i64 x1] (bl r) := All hA _ _ _ _ h
theorem Ap7 {A : Ar} (hA : A = std) {x0 : Route} {r : Bool} (h : Ah9 A x0 = some r) : PFun cx 49 [Ab6 x0] (bl r) := by
 refine wF hA cx_ok Tryz.func49 fun P R hP hR => ?_
 cbv; unfold Ah9 at h
 iterate 2 refine kj ?_
 obtain ⟨w1, hw1, h⟩ := bd_e h; refine kc hP (Atf hA hw1) ?_; cbv
 exact le h hR
theorem Anz {A : Ar} (hA : A = std) {rf : Route → Option Int} {x0 : Route} (hqr50 : ∀ (x0 : Route) (r : Int), rf x0 = some r → PFun cx 50 [Ab6 x0] (it .i64 r)) {r : Int} (h : Af3 A rf x0 = some r) : PFun cx 50 [Ab6 x0] (it .i64 r) := by
 refine wF hA cx_ok Tryz.func50 fun P R hP hR => ?_
 cbv; unfold Af3 at h
 iterate 3 refine kj ?_
 refine kl h (fun x _ => [(3, it .i64 x.1), (9, it .i64 x.2)]) (fun x gh => [⟨1, 0, .box 27 [st x0.1, .d (.sl .matcher x0.2), .d (.sl .str x0.3), it .i64 x0.4, it .i64 x0.5, it .i64 x0.6, .d (.sl .str x0.7), bl x0.8, .d (.sl .route x0.9)]⟩]) [] ?_
 rintro ⟨n3, t9⟩ gh1 g1 _ _ _ hK1 hQ1 h; cbv
 refine kj ?_
 refine bc h (fun hb h => ?_) fun hb h => ?_
 ·cbv
  refine kj ?_
  refine kk h fun c1 h => ?_
  refine kj ?_
  obtain ⟨w2, hw2, h⟩ := bd_e h; refine kc hP (hqr50 _ _ hw2) ?_; cbv
  refine kj ?_
  cases h; exact hK1 _ _ [] rfl hdy
 ·cbv
  refine hQ1 _ h _ _ fun h => ?_; cbv
  refine kj ?_
  exact le h hR
theorem Aj2 {A : Ar} (hA : A = std) : ∀ (n : Nat) (x0 : Route) (r : Int), Ae4 A n x0 = some r → PFun cx 50 [Ab6 x0] (it .i64 r)
 | 0, _, _, h => by cases h
 | n + 1, x0, r, h => Anz hA (fun _ _ hh => Aj2 hA n _ _ hh) h
theorem Ap8 {A : Ar} (hA : A = std) {x0 : Route} {r : Int} (h : Alr A x0 = some r) : PFun cx 50 [Ab6 x0] (it .i64 r) := Aj2 hA _ _ _ h
theorem Ai5 {A : Ar} (hA : A = std) {rf : Route → (List ByteArray) → Option (List ByteArray)} {x0 : Route} {qc0 : Route → Option (List ByteArray)} {c1 : List ByteArray} {gc0 : Nat} {capc0 : List D} (hcapc0 : capOK capc0) (hqc0 : ∀ (y0 : Route) (r : List ByteArray), qc0 y0 = some r → PFun cx gc0 ((Ab6 y0) :: un.uns capc0) (.d (.sl TyS.str r))) (hqr211 : ∀ (x0 : Route) (c1 : List ByteArray) (r : List ByteArray), rf x0 c1 = some r → PFunM cx 211 [Ab6 x0, .ip [.fun (.func gc0) [] capc0], .bx 1000 0 0, .bx 1001 0 0] [⟨1000, 0, .box 24 [.os 1002 0 TyS.str c1]⟩, ⟨1001, 0, .box 208 [.fn (.func 211) [] [.ip [.fun (.func gc0) [] capc0], .bx 1000 0 0, .bx 1001 0 0]]⟩, ⟨1002, 0, .tok 9 TyS.str (A.nlen TyS.str c1)⟩] (.tu []) [⟨1000, 0, .box 24 [.os 2000 1 TyS.str r]⟩, ⟨1001, 0, .box 208 [.fn (.func 211) [] [.ip [.fun (.func gc0) [] capc0], .bx 1000 0 0, .bx 1001 0 0]]⟩, ⟨2000, 1, .tok 9 TyS.str (A.nlen TyS.str r)⟩]) {r : List ByteArray} (h : Abt A rf x0 qc0 c1 = some r) : PFunM cx 211 [Ab6 x0, .ip [.fun (.func gc0) [] capc0], .bx 1000 0 0, .bx 1001 0 0] [⟨1000, 0, .box 24 [.os 1002 0 TyS.str c1]⟩, ⟨1001, 0, .box 208 [.fn (.func 211) [] [.ip [.fun (.func gc0) [] capc0], .bx 1000 0 0, .bx 1001 0 0]]⟩, ⟨1002, 0, .tok 9 TyS.str (A.nlen TyS.str c1)⟩] (.tu []) [⟨1000, 0, .box 24 [.os 2000 1 TyS.str r]⟩, ⟨1001, 0, .box 208 [.fn (.func 211) [] [.ip [.fun (.func gc0) [] capc0], .bx 1000 0 0, .bx 1001 0 0]]⟩, ⟨2000, 1, .tok 9 TyS.str (A.nlen TyS.str r)⟩] := by
 rcases hcapc0 with rfl | ⟨dscapc0, rfl⟩
 ·refine PFunM.walkM (fz := fun _ => false) hA cx_ok Tryz.func211 rfl rfl fun P R hP hR => ?_
  cbv; unfold Abt at h
  iterate 2 refine kj ?_
  obtain ⟨w1, hw1, h⟩ := bd_e h; refine kc hP (hqc0 _ _ hw1) ?_; cbv
  refine kl h (fun x _ => [(13, it .i64 x.1)]) (fun x gh => [⟨4031, gh, .tok 9 TyS.str (A.nlen TyS.str x.2)⟩, ⟨4, 2, .box 27 [st x0.1, .d (.sl .matcher x0.2), .d (.sl .str x0.3), it .i64 x0.4, it .i64 x0.5, it .i64 x0.6, .d (.sl .str x0.7), bl x0.8, .d (.sl .route x0.9)]⟩, ⟨1000, 0, .box 24 [.os 4031 gh TyS.str x.2]⟩, ⟨1001, 0, .box 208 [PV.fn (Fn.func 211) [] [PV.ip [D.fun (Fn.func gc0) [] []], PV.bx 1000 0 0, PV.bx 1001 0 0]]⟩]) [(4031, 1002, 0)] ?_
  rintro ⟨t13, b0_1000⟩ gh1 g1 _ _ _ hK1 hQ1 h; cbv
  refine kj ?_
  refine bc h (fun hb h => ?_) fun hb h => ?_
  ·cbv
   refine kj ?_
   refine kk h fun c2 h => ?_
   refine kj ?_
   obtain ⟨w3, hw3, h⟩ := bd_e h; refine kc hP (Abu hA hw3) ?_; cbv
   refine bc h (fun hb h => ?_) fun hb h => ?_
   ·cbv
    refine kj ?_
    refine kk h fun c4 h => ?_
    refine kj ?_
    cases h; exact hK1 _ _ [(4031, 24, g1.succ.succ.succ)] rfl hdy
   ·cbv
    refine kj ?_
    cases h; exact hK1 _ _ [(4031, 4031, gh1)] rfl hdy
  ·cbv
   refine hQ1 _ h _ _ fun h => ?_; cbv
   refine kj ?_
   refine kl h (fun x _ => [(29, it .i64 x.1)]) (fun x gh => [⟨4061, gh, .tok 9 TyS.str (A.nlen TyS.str x.2)⟩, ⟨4, 2, .box 27 [st x0.1, .d (.sl .matcher x0.2), .d (.sl .str x0.3), it .i64 x0.4, it .i64 x0.5, it .i64 x0.6, .d (.sl .str x0.7), bl x0.8, .d (.sl .route x0.9)]⟩, ⟨1000, 0, .box 24 [.os 4061 gh TyS.str x.2]⟩, ⟨1001, 0, .box 208 [PV.fn (Fn.func 211) [] [PV.ip [D.fun (Fn.func gc0) [] []], PV.bx 1000 0 0, PV.bx 1001 0 0]]⟩]) [(4061, 4031, gh1)] ?_
   rintro ⟨t29, b0_1000'⟩ gh2 g2 _ _ _ hK2 hQ2 h; cbv
   refine kj ?_
   refine bc h (fun hb h => ?_) fun hb h => ?_
   ·cbv
    refine kj ?_
    refine kk h fun c5 h => ?_
    refine kj ?_
    obtain ⟨w6, hw6, h⟩ := bd_e h; refine km hP [(1000, 0), (1001, 0), (4061, gh2)] (hqr211 _ _ _ hw6) ?_; cbv
    refine kj ?_
    cases h; exact hK2 _ _ [(4061, 35, g2.succ.succ)] rfl hdy
   ·cbv
    refine hQ2 _ h _ _ fun h => ?_; cbv
    cases h
    refine hR _ _ ⟨[(4061, gh2)], ⟨by rfl, ez, by rfl, ez⟩⟩
 ·refine PFunM.walkM (fz := fun _ => false) hA cx_ok Tryz.func211 rfl rfl fun P R hP hR => ?_
  cbv; unfold Abt at h
  iterate 2 refine kj ?_
  obtain ⟨w1, hw1, h⟩ := bd_e h; refine kc hP (hqc0 _ _ hw1) ?_; cbv
  refine kl h (fun x _ => [(13, it .i64 x.1)]) (fun x gh => [⟨4031, gh, .tok 9 TyS.str (A.nlen TyS.str x.2)⟩, ⟨4, 2, .box 27 [st x0.1, .d (.sl .matcher x0.2), .d (.sl .str x0.3), it .i64 x0.4, it .i64 x0.5, it .i64 x0.6, .d (.sl .str x0.7), bl x0.8, .d (.sl .route x0.9)]⟩, ⟨1000, 0, .box 24 [.os 4031 gh TyS.str x.2]⟩, ⟨1001, 0, .box 208 [PV.fn (Fn.func 211) [] [PV.ip [D.fun (Fn.func gc0) [] [D.ptr dscapc0]], PV.bx 1000 0 0, PV.bx 1001 0 0]]⟩]) [(4031, 1002, 0)] ?_
  rintro ⟨t13, b0_1000⟩ gh1 g1 _ _ _ hK1 hQ1 h; cbv
  refine kj ?_
  refine bc h (fun hb h => ?_) fun hb h => ?_
  ·cbv
   refine kj ?_
   refine kk h fun c2 h => ?_
   refine kj ?_
   obtain ⟨w3, hw3, h⟩ := bd_e h; refine kc hP (Abu hA hw3) ?_; cbv
   refine bc h (fun hb h => ?_) fun hb h => ?_
   ·cbv
    refine kj ?_
    refine kk h fun c4 h => ?_
    refine kj ?_
    cases h; exact hK1 _ _ [(4031, 24, g1.succ.succ.succ)] rfl hdy
   ·cbv
    refine kj ?_
    cases h; exact hK1 _ _ [(4031, 4031, gh1)] rfl hdy
  ·cbv
   refine hQ1 _ h _ _ fun h => ?_; cbv
   refine kj ?_
   refine kl h (fun x _ => [(29, it .i64 x.1)]) (fun x gh => [⟨4061, gh, .tok 9 TyS.str (A.nlen TyS.str x.2)⟩, ⟨4, 2, .box 27 [st x0.1, .d (.sl .matcher x0.2), .d (.sl .str x0.3), it .i64 x0.4, it .i64 x0.5, it .i64 x0.6, .d (.sl .str x0.7), bl x0.8, .d (.sl .route x0.9)]⟩, ⟨1000, 0, .box 24 [.os 4061 gh TyS.str x.2]⟩, ⟨1001, 0, .box 208 [PV.fn (Fn.func 211) [] [PV.ip [D.fun (Fn.func gc0) [] [D.ptr dscapc0]], PV.bx 1000 0 0, PV.bx 1001 0 0]]⟩]) [(4061, 4031, gh1)] ?_
   rintro ⟨t29, b0_1000'⟩ gh2 g2 _ _ _ hK2 hQ2 h; cbv
   refine kj ?_
   refine bc h (fun hb h => ?_) fun hb h => ?_
   ·cbv
    refine kj ?_
    refine kk h fun c5 h => ?_
    refine kj ?_
    obtain ⟨w6, hw6, h⟩ := bd_e h; refine km hP [(1000, 0), (1001, 0), (4061, gh2)] (hqr211 _ _ _ hw6) ?_; cbv
    refine kj ?_
    cases h; exact hK2 _ _ [(4061, 35, g2.succ.succ)] rfl hdy
   ·cbv
    refine hQ2 _ h _ _ fun h => ?_; cbv
    cases h
    refine hR _ _ ⟨[(4061, gh2)], ⟨by rfl, ez, by rfl, ez⟩⟩
theorem Afl {A : Ar} (hA : A = std) {qc0 : Route → Option (List ByteArray)} {gc0 : Nat} {capc0 : List D} (hcapc0 : capOK capc0) (hqc0 : ∀ (y0 : Route) (r : List ByteArray), qc0 y0 = some r → PFun cx gc0 ((Ab6 y0) :: un.uns capc0) (.d (.sl TyS.str r))) : ∀ (n : Nat) (x0 : Route) (c1 : List ByteArray) (r : List ByteArray), Aax A qc0 n x0 c1 = some r → PFunM cx 211 [Ab6 x0, .ip [.fun (.func gc0) [] capc0], .bx 1000 0 0, .bx 1001 0 0] [⟨1000, 0, .box 24 [.os 1002 0 TyS.str c1]⟩, ⟨1001, 0, .box 208 [.fn (.func 211) [] [.ip [.fun (.func gc0) [] capc0], .bx 1000 0 0, .bx 1001 0 0]]⟩, ⟨1002, 0, .tok 9 TyS.str (A.nlen TyS.str c1)⟩] (.tu []) [⟨1000, 0, .box 24 [.os 2000 1 TyS.str r]⟩, ⟨1001, 0, .box 208 [.fn (.func 211) [] [.ip [.fun (.func gc0) [] capc0], .bx 1000 0 0, .bx 1001 0 0]]⟩, ⟨2000, 1, .tok 9 TyS.str (A.nlen TyS.str r)⟩]
 | 0, _, _, _, h => by cases h
 | n + 1, x0, c1, r, h => Ai5 hA hcapc0 hqc0 (fun _ _ _ hh => Afl hA hcapc0 hqc0 n _ _ _ hh) h
theorem Afz {A : Ar} (hA : A = std) {x0 : Route} {qc0 : Route → Option (List ByteArray)} {c1 : List ByteArray} {gc0 : Nat} {capc0 : List D} (hcapc0 : capOK capc0) (hqc0 : ∀ (y0 : Route) (r : List ByteArray), qc0 y0 = some r → PFun cx gc0 ((Ab6 y0) :: un.uns capc0) (.d (.sl TyS.str r))) {r : List ByteArray} (h : Ae9 A x0 qc0 c1 = some r) : PFunM cx 211 [Ab6 x0, .ip [.fun (.func gc0) [] capc0], .bx 1000 0 0, .bx 1001 0 0] [⟨1000, 0, .box 24 [.os 1002 0 TyS.str c1]⟩, ⟨1001, 0, .box 208 [.fn (.func 211) [] [.ip [.fun (.func gc0) [] capc0], .bx 1000 0 0, .bx 1001 0 0]]⟩, ⟨1002, 0, .tok 9 TyS.str (A.nlen TyS.str c1)⟩] (.tu []) [⟨1000, 0, .box 24 [.os 2000 1 TyS.str r]⟩, ⟨1001, 0, .box 208 [.fn (.func 211) [] [.ip [.fun (.func gc0) [] capc0], .bx 1000 0 0, .bx 1001 0 0]]⟩, ⟨2000, 1, .tok 9 TyS.str (A.nlen TyS.str r)⟩] := Afl hA hcapc0 hqc0 _ _ _ _ h
theorem Agq {A : Ar} (hA : A = std) {x0 : Route} {q1 : Route → Option (List ByteArray)} {g1 : Nat} {cap1 : List D} (hcap1 : capOK cap1) (hq1 : ∀ (y0 : Route) (r : List ByteArray), q1 y0 = some r → PFun cx g1 ((Ab6 y0) :: un.uns cap1) (.d (.sl TyS.str r))) {r : List ByteArray} (h : Acx A x0 q1 = some r) : PFun cx 132 [Ab6 x0, .fn (.func g1) [] (un.uns cap1)] (.d (.sl TyS.str r)) := by
 rcases hcap1 with rfl | ⟨dscap1, rfl⟩
 ·refine PFun.walkF (fz := fun k => k == 3 || k == 131077) hA cx_ok Tryz.func132 rfl rfl rfl fun P R hP hR => ?_
  cbv; unfold Acx at h
  iterate 5 refine kj ?_
  obtain ⟨w1, hw1, h⟩ := bd_e h; refine km hP [(5, 1), (6, 2), (65541, 1)] (Afz (capc0 := []) hA (by first | exact .inl rfl | exact .inr ⟨_, rfl⟩) hq1 hw1) ?_; cbv
  refine kj ?_
  cases h; subst hR; exact ey
 ·refine PFun.walkF (fz := fun k => k == 3 || k == 131077) hA cx_ok Tryz.func132 rfl rfl rfl fun P R hP hR => ?_
  cbv; unfold Acx at h
  iterate 5 refine kj ?_
  obtain ⟨w1, hw1, h⟩ := bd_e h; refine km hP [(5, 1), (6, 2), (65541, 1)] (Afz (capc0 := [D.ptr dscap1]) hA (by first | exact .inl rfl | exact .inr ⟨_, rfl⟩) hq1 hw1) ?_; cbv
  refine kj ?_
  cases h; subst hR; exact ey
theorem An0 {A : Ar} (hA : A = std) {x0 : Route} {r : List ByteArray} (h : Ahp A x0 = some r) : PFun cx 133 [Ab6 x0] (.d (.sl TyS.str r)) := by
 refine wF hA cx_ok Tryz.func133 fun P R hP hR => ?_
 cbv; unfold Ahp at h
 iterate 2 refine kj ?_
 cases h; subst hR; exact ey
theorem An1 {A : Ar} (hA : A = std) {x0 : Route} {r : List ByteArray} (h : Ahq A x0 = some r) : PFun cx 134 [Ab6 x0] (.d (.sl TyS.str r)) := by
 refine wF hA cx_ok Tryz.func134 fun P R hP hR => ?_
 cbv; unfold Ahq at h
 iterate 2 refine kj ?_
 cases h; subst hR; exact ey
theorem Ap9 {A : Ar} (hA : A = std) {x0 : Route} {r : (List ByteArray) × (List ByteArray)} (h : Aia A x0 = some r) : PFun cx 51 [Ab6 x0] (.tu [.d (.sl TyS.str r.1), .d (.sl TyS.str r.2)]) := by
 refine wF hA cx_ok Tryz.func51 fun P R hP hR => ?_
 cbv; unfold Aia at h
 iterate 2 refine kj ?_
 obtain ⟨w1, hw1, h⟩ := bd_e h; refine ke hP (Agq (cap1 := []) hA (by first | exact .inl rfl | exact .inr ⟨_, rfl⟩) (fun _ _ hw => An0 hA hw) hw1) ?_; cbv
 refine kj ?_
 obtain ⟨w2, hw2, h⟩ := bd_e h; refine ke hP (Agq (cap1 := []) hA (by first | exact .inl rfl | exact .inr ⟨_, rfl⟩) (fun _ _ hw => An1 hA hw) hw2) ?_; cbv
 cases h; subst hR; exact ey
theorem Amr {A : Ar} (hA : A = std) {x0 : Hours} {c0 : ByteArray} {r : Bool} (h : Ae0 A x0 c0 = some r) : PFun cx 54 [Aek x0, .ip [.v (.string c0)]] (bl r) := by
 refine wF hA cx_ok Tryz.func54 fun P R hP hR => ?_
 cbv; unfold Ae0 at h
 iterate 2 refine kj ?_
 exact le h hR
theorem An2 {A : Ar} (hA : A = std) {x0 : ByteArray} {c0 : Config} {r : Bool} (h : Ae5 A x0 c0 = some r) : PFun cx 52 [st x0, .ip [.sl TyS.rule c0.Rules, .v (.string c0.Route.Receiver), .sl TyS.matcher c0.Route.Match, .sl TyS.str c0.Route.By, .v (.int .i64 c0.Route.Wait), .v (.int .i64 c0.Route.Every), .v (.int .i64 c0.Route.Repeat), .sl TyS.str c0.Route.Mute, .v (.bool c0.Route.On), .sl TyS.route c0.Route.Routes, .sl TyS.str c0.Receivers, .sl TyS.inhibit c0.Inhibits, .sl TyS.hours c0.Hours]] (bl r) := by
 refine PFun.walkF (fz := fun k => k == 2) hA cx_ok Tryz.func52 rfl rfl rfl fun P R hP hR => ?_
 cbv; unfold Ae5 at h
 iterate 2 refine kj ?_
 obtain ⟨w1, hw1, h⟩ := bd_e h; refine kc hP (Aci hA (by rfl) (fun _ _ hw => Amr hA hw) hw1) ?_; cbv
 exact le h hR
theorem An3 {A : Ar} (hA : A = std) {x0 : ByteArray} {c0 : Config} {r : Bool} (h : Ae6 A x0 c0 = some r) : PFun cx 55 [st x0, .ip [.sl TyS.rule c0.Rules, .v (.string c0.Route.Receiver), .sl TyS.matcher c0.Route.Match, .sl TyS.str c0.Route.By, .v (.int .i64 c0.Route.Wait), .v (.int .i64 c0.Route.Every), .v (.int .i64 c0.Route.Repeat), .sl TyS.str c0.Route.Mute, .v (.bool c0.Route.On), .sl TyS.route c0.Route.Routes, .sl TyS.str c0.Receivers, .sl TyS.inhibit c0.Inhibits, .sl TyS.hours c0.Hours]] (bl r) := by
 refine wF hA cx_ok Tryz.func55 fun P R hP hR => ?_
 cbv; unfold Ae6 at h
 iterate 2 refine kj ?_
 obtain ⟨w1, hw1, h⟩ := bd_e h; refine kc hP (Abu hA hw1) ?_; cbv
 exact le h hR
theorem Alm {A : Ar} (hA : A = std) {x0 : Config} {r : Bool} (h : Agl A x0 = some r) : PFun cx 11 [Ajq x0] (bl r) := by
 refine PFun.walkF (fz := fun k => k == 1) hA cx_ok Tryz.func11 rfl rfl rfl fun P R hP hR => ?_
 cbv; unfold Agl at h
 iterate 2 refine kj ?_
 obtain ⟨w1, hw1, h⟩ := bd_e h; refine ke hP (Am3 (cap2 := []) hA (by first | exact .inl rfl | exact .inr ⟨_, rfl⟩) (fun _ _ hw => Amd hA hw) hw1) ?_; cbv
 iterate 2 refine cj ?_
 obtain ⟨w2, hw2, h⟩ := bd_e h; refine kf hP (fun hc => (Afx (cap2 := []) hA (by first | exact .inl rfl | exact .inr ⟨_, rfl⟩) (fun _ _ hw => Ar4 hA hw) (gd_e hw2 hc))) ?_; cbv
 iterate 3 refine cj ?_
 obtain ⟨w3, hw3, h⟩ := bd_e h; refine kf hP (fun hc => (Alg (cap2 := []) hA (by first | exact .inl rfl | exact .inr ⟨_, rfl⟩) (fun _ _ hw => Am7 hA hw) (gd_e hw3 hc))) ?_; cbv
 iterate 3 refine cj ?_
 obtain ⟨w4, hw4, h⟩ := bd_e h; refine kf hP (fun hc => (Amq (cap2 := []) hA (by first | exact .inl rfl | exact .inr ⟨_, rfl⟩) (fun _ _ hw => Ame hA hw) (gd_e hw4 hc))) ?_; cbv
 refine cj ?_
 refine kj ?_
 iterate 2 refine cj ?_
 obtain ⟨w5, hw5, h⟩ := bd_e h; refine kf hP (fun hc => (Ali hA (by rfl) (fun _ _ hw => Alj hA hw) (gd_e hw5 hc))) ?_; cbv
 iterate 4 refine cj ?_
 obtain ⟨w6, hw6, h⟩ := bd_e h; refine kf hP (fun hc => (Akp hA (by rfl) (fun _ _ hw => Ak7 hA hw) (gd_e hw6 hc))) ?_; cbv
 iterate 4 refine cj ?_
 obtain ⟨w7, hw7, h⟩ := bd_e h; refine kf hP (fun hc => (Ale hA (by rfl) (fun _ _ hw => Ak8 hA hw) (gd_e hw7 hc))) ?_; cbv
 iterate 2 refine cj ?_
 refine bc h (fun hb h => ?_) fun hb h => ?_
 ·cbv
  refine kj ?_
  exact le h hR
 ·cbv
  refine kj ?_
  obtain ⟨w8, hw8, h⟩ := bd_e h; refine kc hP (Ap7 hA hw8) ?_; cbv
  iterate 10 refine cj ?_
  obtain ⟨w9, hw9, h⟩ := bd_e h; refine kg hP (fun hc => (Ap8 hA (gd_e hw9 hc))) ?_; cbv
  iterate 2 refine cj ?_
  refine bc h (fun hb h => ?_) fun hb h => ?_
  ·cbv
   refine kj ?_
   exact le h hR
  ·cbv
   refine kj ?_
   obtain ⟨w10, hw10, h⟩ := bd_e h; refine kc hP (Ap9 hA hw10) ?_; cbv
   iterate 2 refine kj ?_
   obtain ⟨w11, hw11, h⟩ := bd_e h; refine kc hP (Afx (cap2 := [D.ptr [D.sl TyS.rule x0.1, D.v (Value.string x0.2.1), D.sl TyS.matcher x0.2.2, D.sl TyS.str x0.2.3, D.v (Value.int .i64 x0.2.4), D.v (Value.int .i64 x0.2.5), D.v (Value.int .i64 x0.2.6), D.sl TyS.str x0.2.7, D.v (Value.bool x0.2.8), D.sl TyS.route x0.2.9, D.sl TyS.str x0.3, D.sl TyS.inhibit x0.4, D.sl TyS.hours x0.5]]) hA (by first | exact .inl rfl | exact .inr ⟨_, rfl⟩) (fun _ _ hw => An3 hA hw) hw11) ?_; cbv
   iterate 2 refine cj ?_
   obtain ⟨w12, hw12, h⟩ := bd_e h; refine kg hP (fun hc => (Afx (cap2 := [D.ptr [D.sl TyS.rule x0.1, D.v (Value.string x0.2.1), D.sl TyS.matcher x0.2.2, D.sl TyS.str x0.2.3, D.v (Value.int .i64 x0.2.4), D.v (Value.int .i64 x0.2.5), D.v (Value.int .i64 x0.2.6), D.sl TyS.str x0.2.7, D.v (Value.bool x0.2.8), D.sl TyS.route x0.2.9, D.sl TyS.str x0.3, D.sl TyS.inhibit x0.4, D.sl TyS.hours x0.5]]) hA (by first | exact .inl rfl | exact .inr ⟨_, rfl⟩) (fun _ _ hw => An2 hA hw) (gd_e hw12 hc))) ?_; cbv
   refine cj ?_
   exact le h hR
theorem Aqa {A : Ar} (hA : A = std) {x0 : Matcher} {r : ByteArray × Int} (h : Aib A x0 = some r) : PFun cx 157 [Aie x0] (.tu [st r.1, it .i64 r.2]) := by
 refine wF hA cx_ok Tryz.func157 fun P R hP hR => ?_
 cbv; unfold Aib at h
 iterate 2 refine kj ?_
 obtain ⟨w1, hw1, h⟩ := bd_e h; refine kc hP (Af6 hA hw1) ?_; cbv
 refine bc h (fun hb h => ?_) fun hb h => ?_
 ·cbv
  refine kj ?_
  cases h; subst hR; exact ey
 ·cbv
  refine kj ?_
  obtain ⟨w2, hw2, h⟩ := bd_e h; refine km hP [] (Aik hA hw2) ?_; cbv
  refine ⟨by first | exact Aev hA _ | exact ⟨rfl⟩, ?_⟩
  obtain ⟨w3, hw3, h⟩ := bd_e h
  have hw3' := Apc A x0.2 (fun x => st x) (ByteArray.mk (Array.mk [])) [(1, ByteArray.mk (Array.mk [61])), (2, ByteArray.mk (Array.mk [33, 61])), (3, ByteArray.mk (Array.mk [61, 126])), (4, ByteArray.mk (Array.mk [33, 126]))]
  rw [Option.some.inj hw3] at hw3'
  refine LookK.one _ _ hw3' ?_
  cbv
  refine kk h fun c4 h => ?_
  refine kk h fun c5 h => ?_
  obtain ⟨w6, hw6, h⟩ := bd_e h; refine kc hP (Ajg hA hw6) ?_; cbv
  refine kk h fun c7 h => ?_
  refine kk h fun c8 h => ?_
  refine kj ?_
  cases h; subst hR; exact ey
theorem Aln {A : Ar} (hA : A = std) {x0 : Int} {r : ByteArray × Int} (h : Afo A x0 = some r) : PFun cx 182 [it .i64 x0] (.tu [st r.1, it .i64 r.2]) := by
 refine wF hA cx_ok Tryz.func182 fun P R hP hR => ?_
 cbv; unfold Afo at h
 iterate 2 refine kj ?_
 iterate 2 refine cj ?_
 refine bc h (fun hb h => ?_) fun hb h => ?_
 ·cbv
  refine kj ?_
  cases h; subst hR; exact ey
 ·cbv
  refine kj ?_
  refine kl h (fun x gh => [(0, it .i64 x.1), (4, .os 4031 gh TyS.byte x.2)]) (fun x gh => [⟨4031, gh, .tok 5 TyS.byte (A.nlen TyS.byte x.2)⟩]) [] ?_
  rintro ⟨n0, out4⟩ gh1 g1 _ _ _ hK1 hQ1 h; cbv
  refine kj ?_
  refine bc h (fun hb h => ?_) fun hb h => ?_
  ·cbv
   refine kj ?_
   refine ⟨by subst hA; simp +contextual [vcm], ?_⟩
   refine and_assoc.2 ?_
   refine kk h fun c1 h => ?_
   refine cj ?_
   refine kk h fun c2 h => ?_
   refine kj ?_
   refine ⟨by subst hA; simp +contextual [vcm], ?_⟩
   cases h; exact hK1 _ _ [(4031, 21, g1.succ)] rfl hdy
  ·cbv
   refine hQ1 _ h _ _ fun h => ?_; cbv
   refine kj ?_
   refine and_assoc.2 ?_
   refine kk h fun c3 h => ?_
   refine cj ?_
   refine kk h fun c4 h => ?_
   cases h; subst hR; exact ey
theorem Ah3 {A : Ar} (hA : A = std) {x0 : List UInt8} {r : List UInt8} (h : Aco A x0 = some r) : PFunM cx 193 [.bx 1000 0 0] [⟨1000, 0, .box 129 [.d (.v (.pointer none)), .os 1001 0 TyS.byte x0]⟩, ⟨1001, 0, .tok 5 TyS.byte (A.nlen TyS.byte x0)⟩] (.tu []) [⟨1000, 0, .box 129 [.np 1000 0, .os 2000 1 TyS.byte r]⟩, ⟨2000, 1, .tok 5 TyS.byte (A.nlen TyS.byte r)⟩] := by
 refine PFunM.walkM (fz := fun _ => false) hA cx_ok Tryz.func193 rfl rfl fun P R hP hR => ?_
 cbv; unfold Aco at h
 iterate 2 refine kj ?_
 obtain ⟨w1, hw1, h⟩ := bd_e h; refine km hP [(1000, 0), (1001, 0)] (Aqs hA hw1) ?_; cbv
 cases h
 refine hR _ _ ⟨[(1001, 0)], ⟨by rfl, ez, by rfl, ez⟩⟩
theorem Ah4 {A : Ar} (hA : A = std) {x0 : List UInt8} {r : List UInt8} (h : Acp A x0 = some r) : PFunM cx 193 [.bx 1000 0 0] [⟨1000, 0, .box 129 [.bx 1000 0 0, .os 1001 0 TyS.byte x0]⟩, ⟨1001, 0, .tok 5 TyS.byte (A.nlen TyS.byte x0)⟩] (.tu []) [⟨1000, 0, .box 129 [.np 1000 0, .os 2000 1 TyS.byte r]⟩, ⟨2000, 1, .tok 5 TyS.byte (A.nlen TyS.byte r)⟩] := by
 refine PFunM.walkM (fz := fun _ => false) hA cx_ok Tryz.func193 rfl rfl fun P R hP hR => ?_
 cbv; unfold Acp at h
 iterate 2 refine kj ?_
 cases h
 refine hR _ _ ⟨[(1001, 0)], ⟨by rfl, ez, by rfl, ez⟩⟩
theorem Afc {A : Ar} (hA : A = std) {x0 : List UInt8} {r : List UInt8} (h : Abp A x0 = some r) : PFunM cx 193 [.bx 1000 0 0] [⟨1000, 0, .box 129 [.np 1000 0, .os 1001 0 TyS.byte x0]⟩, ⟨1001, 0, .tok 5 TyS.byte (A.nlen TyS.byte x0)⟩] (.tu []) [⟨1000, 0, .box 129 [.np 1000 0, .os 2000 1 TyS.byte r]⟩, ⟨2000, 1, .tok 5 TyS.byte (A.nlen TyS.byte r)⟩] := by
 unfold Abp at h
 obtain ⟨a, h1, h⟩ := bd_e h
 obtain ⟨b, h2, h⟩ := bd_e h
 obtain ⟨e, h⟩ := ck_e h
 cases h; subst e
 exact PFunM.np (Ah3 hA h1) (Ah4 hA h2)
theorem Aeo {A : Ar} (hA : A = std) {x0 : List UInt8} {x1 : ByteArray} {r : List UInt8} (h : Aba A x0 x1 = some r) : PFunM cx 246 [.bx 1000 0 0, st x1] [⟨1000, 0, .box 129 [.np 1000 0, .os 1001 0 TyS.byte x0]⟩, ⟨1001, 0, .tok 5 TyS.byte (A.nlen TyS.byte x0)⟩] (.tu [it .i64 (A.slen x1), .d (.v .nilIface)]) [⟨1000, 0, .box 129 [.np 1000 0, .os 2000 1 TyS.byte r]⟩, ⟨2000, 1, .tok 5 TyS.byte (A.nlen TyS.byte r)⟩] := by
 refine PFunM.walkM (fz := fun _ => false) hA cx_ok Tryz.func246 rfl rfl fun P R hP hR => ?_
 cbv; unfold Aba at h
 iterate 2 refine kj ?_
 obtain ⟨w1, hw1, h⟩ := bd_e h; refine km hP [(1000, 0), (1001, 0)] (Afc hA hw1) ?_; cbv
 refine kj ?_
 refine kk h fun c2 h => ?_
 refine kj ?_
 cases h
 refine hR _ _ ⟨[(14, 4)], ⟨by rfl, ez, by rfl, ez⟩⟩
theorem Atg {A : Ar} (hA : A = std) {x0 : List ByteArray} {r : ByteArray × Int} (h : Ahc A x0 = some r) : PFun cx 181 [.d (.sl TyS.str x0)] (.tu [st r.1, it .i64 r.2]) := by
 refine PFun.walkF (fz := fun k => k == 131076) hA cx_ok Tryz.func181 rfl rfl rfl fun P R hP hR => ?_
 cbv; unfold Ahc at h
 iterate 2 refine kj ?_
 refine bc h (fun hb h => ?_) fun hb h => ?_
 ·cbv
  refine kj ?_
  cases h; subst hR; exact ey
 ·cbv
  iterate 2 refine kj ?_
  refine kl h (fun x _ => [(14, it .i64 x.1)]) (fun x gh => [⟨4031, gh, .tok 5 TyS.byte (A.nlen TyS.byte x.2)⟩, ⟨4, 2, .box 129 [PV.np 4 2, .os 4031 gh TyS.byte x.2]⟩]) [(4031, 65540, 2)] ?_
  rintro ⟨t14, b1_4⟩ gh1 g1 _ _ _ hK1 hQ1 h; cbv
  refine kj ?_
  refine bc h (fun hb h => ?_) fun hb h => ?_
  ·cbv
   refine kj ?_
   refine kk h fun c1 h => ?_
   refine kj ?_
   refine bc h (fun hb h => ?_) fun hb h => ?_
   ·cbv
    refine kj ?_
    refine hQ1 _ h _ _ fun h => ?_; cbv
    cases h; subst hR; exact ey
   ·cbv
    refine kj ?_
    obtain ⟨w2, hw2, h⟩ := bd_e h; refine kc hP (Aln hA hw2) ?_; cbv
    refine kj ?_
    obtain ⟨w3, hw3, h⟩ := bd_e h; refine km hP [(4, 2), (4031, gh1)] (Aeo hA hw3) ?_; cbv
    refine kj ?_
    obtain ⟨w4, hw4, h⟩ := bd_e h; refine km hP [(4, 2), (28, g1.succ.succ.succ.succ)] (Aeo hA hw4) ?_; cbv
    refine kj ?_
    cases h; exact hK1 _ _ [(4031, 30, g1.succ.succ.succ.succ.succ)] rfl hdy
  ·cbv
   refine hQ1 _ h _ _ fun h => ?_; cbv
   refine kj ?_
   obtain ⟨w5, hw5, h⟩ := bd_e h; refine km hP [(4, 2), (4031, gh1)] (Aeb hA hw5) ?_; cbv
   cases h; subst hR; exact ey
theorem Abd {A : Ar} (hA : A = std) {x0 : Bool} {x1 : List ByteArray} {r : ByteArray × Bool} (h : Aaz A x0 x1 = some r) : PFunM cx 104 [.bx 1000 0 0, .d (.sl TyS.str x1)] [⟨1000, 0, .box 4 [bl x0]⟩] (st r.1) [⟨1000, 0, .box 4 [bl r.2]⟩] := by
 refine PFunM.walkM (fz := fun _ => false) hA cx_ok Tryz.func104 rfl rfl fun P R hP hR => ?_
 cbv; unfold Aaz at h
 iterate 2 refine kj ?_
 obtain ⟨w1, hw1, h⟩ := bd_e h; refine kc hP (Atg hA hw1) ?_; cbv
 refine kj ?_
 iterate 2 refine cj ?_
 refine kj ?_
 cases h
 refine hR _ _ ⟨[], ⟨by rfl, ez, by rfl, ez⟩⟩
theorem Agr {A : Ar} (hA : A = std) {x0 : Bool} {x1 : List Matcher} {r : ByteArray × Bool} (h : Ad2 A x0 x1 = some r) : PFunM cx 180 [.bx 1000 0 0, .d (.sl TyS.matcher x1)] [⟨1000, 0, .box 4 [bl x0]⟩] (st r.1) [⟨1000, 0, .box 4 [bl r.2]⟩] := by
 refine PFunM.walkM (fz := fun _ => false) hA cx_ok Tryz.func180 rfl rfl fun P R hP hR => ?_
 cbv; unfold Ad2 at h
 iterate 3 refine kj ?_
 refine kl h (fun x gh => [(5, .os 4030 gh TyS.str x.1), (12, it .i64 x.2)]) (fun x gh => [⟨4030, gh, .tok 9 TyS.str (A.nlen TyS.str x.1)⟩, ⟨1000, 0, .box 4 [bl x0]⟩]) [] ?_
 rintro ⟨out5, t12⟩ gh1 g1 _ _ _ hK1 hQ1 h; cbv
 refine kj ?_
 refine bc h (fun hb h => ?_) fun hb h => ?_
 ·cbv
  refine kj ?_
  refine kk h fun c1 h => ?_
  refine kj ?_
  obtain ⟨w2, hw2, h⟩ := bd_e h; refine kc hP (Aqa hA hw2) ?_; cbv
  refine kj ?_
  refine kk h fun c3 h => ?_
  refine kj ?_
  cases h; exact hK1 _ _ [(4030, 24, g1.succ.succ.succ)] rfl hdy
 ·cbv
  refine hQ1 _ h _ _ fun h => ?_; cbv
  refine kj ?_
  obtain ⟨w4, hw4, h⟩ := bd_e h; refine km hP [(1000, 0)] (Abd hA hw4) ?_; cbv
  cases h
  refine hR _ _ ⟨[], ⟨by rfl, ez, by rfl, ez⟩⟩
theorem Aj3 {A : Ar} (hA : A = std) {x0 : Bool} {x1 : Inhibit} {r : ByteArray × Bool} (h : Aea A x0 x1 = some r) : PFunM cx 103 [.bx 1000 0 0, Ae1 x1] [⟨1000, 0, .box 4 [bl x0]⟩] (st r.1) [⟨1000, 0, .box 4 [bl r.2]⟩] := by
 refine PFunM.walkM (fz := fun _ => false) hA cx_ok Tryz.func103 rfl rfl fun P R hP hR => ?_
 cbv; unfold Aea at h
 iterate 2 refine kj ?_
 obtain ⟨w1, hw1, h⟩ := bd_e h; refine km hP [(1000, 0)] (Agr hA hw1) ?_; cbv
 obtain ⟨w2, hw2, h⟩ := bd_e h; refine km hP [(1000, 0)] (Agr hA hw2) ?_; cbv
 obtain ⟨w3, hw3, h⟩ := bd_e h; refine km hP [(1000, 0)] (Abd hA hw3) ?_; cbv
 obtain ⟨w4, hw4, h⟩ := bd_e h; refine km hP [(1000, 0)] (Abd hA hw4) ?_; cbv
 refine kj ?_
 cases h
 refine hR _ _ ⟨[], ⟨by rfl, ez, by rfl, ez⟩⟩
theorem Afd {A : Ar} (hA : A = std) {x0 : Inhibit} {c0 : Bool} {r : ByteArray × Bool} (h : Acr A x0 c0 = some r) : PFunM cx 137 [Ae1 x0, .bx 1000 0 0] [⟨1000, 0, .box 4 [bl c0]⟩] (st r.1) [⟨1000, 0, .box 4 [bl r.2]⟩] := by
 refine PFunM.walkM (fz := fun _ => false) hA cx_ok Tryz.func137 rfl rfl fun P R hP hR => ?_
 cbv; unfold Acr at h
 iterate 2 refine kj ?_
 obtain ⟨w1, hw1, h⟩ := bd_e h; refine km hP [(1000, 0)] (Aj3 hA hw1) ?_; cbv
 cases h
 refine hR _ _ ⟨[], ⟨by rfl, ez, by rfl, ez⟩⟩
theorem Af0 {A : Ar} (hA : A = std) {x0 : List Rule} {r : Int × List Rule} (h : Ac1 A x0 = some r) : PFunM cx 212 [.d (.sl TyS.rule x0)] [] (.ms 2000 1 TyS.rule 0 r.1) [⟨2000, 1, .arr 36 TyS.rule r.2⟩] := by
 refine PFunM.walkM (fz := fun k => k == 65541 || k == 65543 || k == 65538 || k == 65538 || k == 65538) hA cx_ok Tryz.func212 rfl rfl fun P R hP hR => ?_
 cbv; unfold Ac1 at h
 iterate 2 refine kj ?_
 obtain ⟨h1, h2⟩ := Ax8 h
 refine ⟨fun hc => ?_, ?_⟩
 ·have h := h1 hc
  clear h1 h2
  cbv
  refine kj ?_
  cases h
  refine hR _ _ ⟨[(2, 4)], ⟨by rfl, ez, by rfl, ez⟩⟩
 ·have h := h2
  clear h1 h2
  refine kj ?_
  refine kk h fun c1 h => ?_
  cases h
  refine hR _ _ ⟨[(7, 4)], ⟨by rfl, ez, by rfl, ez⟩⟩
theorem Ags {A : Ar} (hA : A = std) {x0 : Rule} {x1 : Rule} {qc0 : Rule → Option ByteArray} {gc0 : Nat} {capc0 : List D} (hcapc0 : capOK capc0) (hqc0 : ∀ (y0 : Rule) (r : ByteArray), qc0 y0 = some r → PFun cx gc0 ((Agv y0) :: un.uns capc0) (st r)) {r : Int} (h : Ads A x0 x1 qc0 = some r) : PFun cx 214 [Agv x0, Agv x1, .ip [.fun (.func gc0) [] capc0]] (it .i64 r) := by
 rcases hcapc0 with rfl | ⟨dscapc0, rfl⟩
 all_goals
  refine wF hA cx_ok Tryz.func214 fun P R hP hR => ?_
  cbv; unfold Ads at h
  iterate 2 refine kj ?_
  obtain ⟨w1, hw1, h⟩ := bd_e h; refine kc hP (hqc0 _ _ hw1) ?_; cbv
  obtain ⟨w2, hw2, h⟩ := bd_e h; refine kc hP (hqc0 _ _ hw2) ?_; cbv
  obtain ⟨w3, hw3, h⟩ := bd_e h; refine kc hP (Afh hA hw3) ?_; cbv
  refine kj ?_
  exact le h hR
theorem Abi {A : Ar} (hA : A = std) {x0 : List Rule} {n0 : Int} {x1 : Int} {x2 : Int} {q3 : Rule → Rule → Option Int} {g3 : Nat} {cap3 : List D} (hcap3 : capOK cap3) (hq3 : ∀ (y0 : Rule) (y1 : Rule) (r : Int), q3 y0 y1 = some r → PFun cx g3 ((Agv y0) :: (Agv y1) :: un.uns cap3) (it .i64 r)) {r : List Rule} (h : Aas A x0 n0 x1 x2 q3 = some r) : PFunM cx 294 [.ms 1000 0 TyS.rule 0 n0, it .i64 x1, it .i64 x2, .fn (.func g3) [] (un.uns cap3)] [⟨1000, 0, .arr 36 TyS.rule x0⟩] (.tu []) [⟨1000, 0, .arr 36 TyS.rule r⟩] := by
 rcases hcap3 with rfl | ⟨dscap3, rfl⟩
 all_goals
  refine PFunM.walkM (fz := fun _ => false) hA cx_ok Tryz.func294 rfl rfl fun P R hP hR => ?_
  cbv; unfold Aas at h
  refine kj ?_
  refine kl h (fun x _ => [(8, it .i64 x.1)]) (fun x gh => [⟨1000, 0, .arr 36 TyS.rule x.2⟩]) [] ?_
  rintro ⟨i8, row1000⟩ gh1 g1 _ _ _ hK1 hQ1 h; cbv
  refine kj ?_
  refine bc h (fun hb h => ?_) fun hb h => ?_
  ·cbv
   refine kj ?_
   refine kl h (fun x _ => [(9, it .i64 x.1)]) (fun x gh => [⟨1000, 0, .arr 36 TyS.rule x.2⟩]) [] ?_
   rintro ⟨j9, row1000'⟩ gh2 g2 _ _ _ hK2 hQ2 h; cbv
   refine kj ?_
   iterate 2 refine cj ?_
   refine kk h fun c1 h => ?_
   iterate 2 refine cj ?_
   refine kk h fun c2 h => ?_
   iterate 3 refine cj ?_
   refine kk h fun c3 h => ?_
   iterate 2 refine cj ?_
   refine kk h fun c4 h => ?_
   iterate 3 refine cj ?_
   obtain ⟨w5, hw5, h⟩ := bd_e h; refine kg hP (fun hc => (hq3 _ _ _ (gd_e hw5 hc))) ?_; cbv
   iterate 2 refine cj ?_
   refine kj ?_
   refine bc h (fun hb h => ?_) fun hb h => ?_
   ·cbv
    refine kj ?_
    refine kk h fun c6 h => ?_
    refine kk h fun c7 h => ?_
    refine kk h fun c8 h => ?_
    refine kk h fun c9 h => ?_
    refine ⟨c8, ?_⟩
    refine ⟨c9, ?_⟩
    refine ⟨c6, ?_⟩
    refine kk h fun c10 h => ?_
    iterate 2 refine kj ?_
    cases h; exact hK2 _ _ [] rfl hdy
   ·cbv
    refine hQ2 _ h _ _ fun h => ?_; cbv
    refine kj ?_
    cases h; exact hK1 _ _ [] rfl hdy
  ·cbv
   refine hQ1 _ h _ _ fun h => ?_; cbv
   cases h
   refine hR _ _ ⟨[], ⟨by rfl, ez, by rfl, ez⟩⟩
theorem Afe {A : Ar} (hA : A = std) {x0 : List Rule} {n0 : Int} {x1 : Int} {q2 : Rule → Rule → Option Int} {g2 : Nat} {cap2 : List D} (hcap2 : capOK cap2) (hq2 : ∀ (y0 : Rule) (y1 : Rule) (r : Int), q2 y0 y1 = some r → PFun cx g2 ((Agv y0) :: (Agv y1) :: un.uns cap2) (it .i64 r)) {r : List Rule} (h : Abq A x0 n0 x1 q2 = some r) : PFunM cx 268 [.ms 1000 0 TyS.rule 0 n0, it .i64 x1, .fn (.func g2) [] (un.uns cap2)] [⟨1000, 0, .arr 36 TyS.rule x0⟩] (.tu []) [⟨1000, 0, .arr 36 TyS.rule r⟩] := by
 rcases hcap2 with rfl | ⟨dscap2, rfl⟩
 ·refine PFunM.walkM (fz := fun _ => false) hA cx_ok Tryz.func268 rfl rfl fun P R hP hR => ?_
  cbv; unfold Abq at h
  iterate 2 refine kj ?_
  refine kl h (fun x _ => [(7, it .i64 x.1), (8, it .i64 x.2.1)]) (fun x gh => [⟨1000, 0, .arr 36 TyS.rule x.2.2⟩]) [] ?_
  rintro ⟨a7, b8, row1000⟩ gh1 g1 _ _ _ hK1 hQ1 h; cbv
  refine kj ?_
  refine bc h (fun hb h => ?_) fun hb h => ?_
  ·cbv
   refine kj ?_
   obtain ⟨w1, hw1, h⟩ := bd_e h; refine km hP [(1000, 0)] (Abi (cap3 := []) hA (by first | exact .inl rfl | exact .inr ⟨_, rfl⟩) hq2 hw1) ?_; cbv
   iterate 2 refine kj ?_
   cases h; exact hK1 _ _ [] rfl hdy
  ·cbv
   refine hQ1 _ h _ _ fun h => ?_; cbv
   refine kj ?_
   obtain ⟨w2, hw2, h⟩ := bd_e h; refine km hP [(1000, 0)] (Abi (cap3 := []) hA (by first | exact .inl rfl | exact .inr ⟨_, rfl⟩) hq2 hw2) ?_; cbv
   refine kl h (fun x _ => [(6, it .i64 x)]) (fun _ _ => [⟨1000, 0, Cell.arr 36 TyS.rule w2⟩]) [] ?_
   rintro blockSize6 gh2 g2 _ _ _ hK2 hQ2 h; cbv
   refine kj ?_
   refine bc h (fun hb h => ?_) fun hb h => ?_
   ·cbv
    refine kj ?_
    refine kl h (fun x _ => [(7, it .i64 x.1), (8, it .i64 x.2)]) (fun _ _ => [⟨1000, 0, Cell.arr 36 TyS.rule w2⟩]) [] ?_
    rintro ⟨a7', b8'⟩ gh3 g3 _ _ _ hK3 hQ3 h; cbv
    refine kj ?_
    refine bc h (fun hb h => ?_) fun hb h => ?_
    ·cbv
     refine kj ?_
     cases h
    ·cbv
     refine hQ3 _ h _ _ fun h => ?_; cbv
     iterate 2 refine kj ?_
     refine bc h (fun hb h => ?_) fun hb h => ?_
     ·cbv
      refine kj ?_
      cases h
     ·cbv
      refine kj ?_
      cases h; exact hK2 _ _ [] rfl hdy
   ·cbv
    refine hQ2 _ h _ _ fun h => ?_; cbv
    cases h
    refine hR _ _ ⟨[], ⟨by rfl, ez, by rfl, ez⟩⟩
 ·refine PFunM.walkM (fz := fun _ => false) hA cx_ok Tryz.func268 rfl rfl fun P R hP hR => ?_
  cbv; unfold Abq at h
  iterate 2 refine kj ?_
  refine kl h (fun x _ => [(7, it .i64 x.1), (8, it .i64 x.2.1)]) (fun x gh => [⟨1000, 0, .arr 36 TyS.rule x.2.2⟩]) [] ?_
  rintro ⟨a7, b8, row1000⟩ gh1 g1 _ _ _ hK1 hQ1 h; cbv
  refine kj ?_
  refine bc h (fun hb h => ?_) fun hb h => ?_
  ·cbv
   refine kj ?_
   obtain ⟨w1, hw1, h⟩ := bd_e h; refine km hP [(1000, 0)] (Abi (cap3 := [D.ptr dscap2]) hA (by first | exact .inl rfl | exact .inr ⟨_, rfl⟩) hq2 hw1) ?_; cbv
   iterate 2 refine kj ?_
   cases h; exact hK1 _ _ [] rfl hdy
  ·cbv
   refine hQ1 _ h _ _ fun h => ?_; cbv
   refine kj ?_
   obtain ⟨w2, hw2, h⟩ := bd_e h; refine km hP [(1000, 0)] (Abi (cap3 := [D.ptr dscap2]) hA (by first | exact .inl rfl | exact .inr ⟨_, rfl⟩) hq2 hw2) ?_; cbv
   refine kl h (fun x _ => [(6, it .i64 x)]) (fun _ _ => [⟨1000, 0, Cell.arr 36 TyS.rule w2⟩]) [] ?_
   rintro blockSize6 gh2 g2 _ _ _ hK2 hQ2 h; cbv
   refine kj ?_
   refine bc h (fun hb h => ?_) fun hb h => ?_
   ·cbv
    refine kj ?_
    refine kl h (fun x _ => [(7, it .i64 x.1), (8, it .i64 x.2)]) (fun _ _ => [⟨1000, 0, Cell.arr 36 TyS.rule w2⟩]) [] ?_
    rintro ⟨a7', b8'⟩ gh3 g3 _ _ _ hK3 hQ3 h; cbv
    refine kj ?_
    refine bc h (fun hb h => ?_) fun hb h => ?_
    ·cbv
     refine kj ?_
     cases h
    ·cbv
     refine hQ3 _ h _ _ fun h => ?_; cbv
     iterate 2 refine kj ?_
     refine bc h (fun hb h => ?_) fun hb h => ?_
     ·cbv
      refine kj ?_
      cases h
     ·cbv
      refine kj ?_
      cases h; exact hK2 _ _ [] rfl hdy
   ·cbv
    refine hQ2 _ h _ _ fun h => ?_; cbv
    cases h
    refine hR _ _ ⟨[], ⟨by rfl, ez, by rfl, ez⟩⟩
theorem Ad6 {A : Ar} (hA : A = std) {x0 : List Rule} {n0 : Int} {q1 : Rule → Rule → Option Int} {g1 : Nat} {cap1 : List D} (hcap1 : capOK cap1) (hq1 : ∀ (y0 : Rule) (y1 : Rule) (r : Int), q1 y0 y1 = some r → PFun cx g1 ((Agv y0) :: (Agv y1) :: un.uns cap1) (it .i64 r)) {r : List Rule} (h : Abb A x0 n0 q1 = some r) : PFunM cx 213 [.ms 1000 0 TyS.rule 0 n0, .fn (.func g1) [] (un.uns cap1)] [⟨1000, 0, .arr 36 TyS.rule x0⟩] (.tu []) [⟨1000, 0, .arr 36 TyS.rule r⟩] := by
 rcases hcap1 with rfl | ⟨dscap1, rfl⟩
 ·refine PFunM.walkM (fz := fun _ => false) hA cx_ok Tryz.func213 rfl rfl fun P R hP hR => ?_
  cbv; unfold Abb at h
  refine kj ?_
  obtain ⟨w1, hw1, h⟩ := bd_e h; refine km hP [(1000, 0)] (Afe (cap2 := []) hA (by first | exact .inl rfl | exact .inr ⟨_, rfl⟩) hq1 hw1) ?_; cbv
  cases h
  refine hR _ _ ⟨[], ⟨by rfl, ez, by rfl, ez⟩⟩
 ·refine PFunM.walkM (fz := fun _ => false) hA cx_ok Tryz.func213 rfl rfl fun P R hP hR => ?_
  cbv; unfold Abb at h
  refine kj ?_
  obtain ⟨w1, hw1, h⟩ := bd_e h; refine km hP [(1000, 0)] (Afe (cap2 := [D.ptr dscap1]) hA (by first | exact .inl rfl | exact .inr ⟨_, rfl⟩) hq1 hw1) ?_; cbv
  cases h
  refine hR _ _ ⟨[], ⟨by rfl, ez, by rfl, ez⟩⟩
theorem Alo {A : Ar} (hA : A = std) {x0 : List Rule} {q1 : Rule → Option ByteArray} {g1 : Nat} {cap1 : List D} (hcap1 : capOK cap1) (hq1 : ∀ (y0 : Rule) (r : ByteArray), q1 y0 = some r → PFun cx g1 ((Agv y0) :: un.uns cap1) (st r)) {r : List Rule} (h : Ado A x0 q1 = some r) : PFun cx 138 [.d (.sl TyS.rule x0), .fn (.func g1) [] (un.uns cap1)] (.d (.sl TyS.rule r)) := by
 rcases hcap1 with rfl | ⟨dscap1, rfl⟩
 ·refine PFun.walkF (fz := fun k => k == 3) hA cx_ok Tryz.func138 rfl rfl rfl fun P R hP hR => ?_
  cbv; unfold Ado at h
  iterate 2 refine kj ?_
  obtain ⟨w1, hw1, h⟩ := bd_e h; refine km hP [] (Af0 hA hw1) ?_; cbv
  refine kj ?_
  obtain ⟨w2, hw2, h⟩ := bd_e h; refine km hP [(7, 1)] (Ad6 (cap1 := [D.ptr [D.fun (Fn.func g1) [] []]]) hA (by first | exact .inl rfl | exact .inr ⟨_, rfl⟩) (fun _ _ _ hw => Ags (capc0 := []) hA (by first | exact .inl rfl | exact .inr ⟨_, rfl⟩) hq1 hw) hw2) ?_; cbv
  refine kj ?_
  refine kk h fun c3 h => ?_
  cases h; subst hR; exact ey
 ·refine PFun.walkF (fz := fun k => k == 3) hA cx_ok Tryz.func138 rfl rfl rfl fun P R hP hR => ?_
  cbv; unfold Ado at h
  iterate 2 refine kj ?_
  obtain ⟨w1, hw1, h⟩ := bd_e h; refine km hP [] (Af0 hA hw1) ?_; cbv
  refine kj ?_
  obtain ⟨w2, hw2, h⟩ := bd_e h; refine km hP [(7, 1)] (Ad6 (cap1 := [D.ptr [D.fun (Fn.func g1) [] [D.ptr dscap1]]]) hA (by first | exact .inl rfl | exact .inr ⟨_, rfl⟩) (fun _ _ _ hw => Ags (capc0 := [D.ptr dscap1]) hA (by first | exact .inl rfl | exact .inr ⟨_, rfl⟩) hq1 hw) hw2) ?_; cbv
  refine kj ?_
  refine kk h fun c3 h => ?_
  cases h; subst hR; exact ey
theorem Aex {A : Ar} (hA : A = std) {x0 : List ByteArray} {r : Int × List ByteArray} (h : Ab5 A x0 = some r) : PFunM cx 216 [.d (.sl TyS.str x0)] [] (.ms 2000 1 TyS.str 0 r.1) [⟨2000, 1, .arr 9 TyS.str r.2⟩] := by
 refine PFunM.walkM (fz := fun k => k == 65541 || k == 65543 || k == 65538 || k == 65538 || k == 65538) hA cx_ok Tryz.func216 rfl rfl fun P R hP hR => ?_
 cbv; unfold Ab5 at h
 iterate 2 refine kj ?_
 obtain ⟨h1, h2⟩ := Ax8 h
 refine ⟨fun hc => ?_, ?_⟩
 ·have h := h1 hc
  clear h1 h2
  cbv
  refine kj ?_
  cases h
  refine hR _ _ ⟨[(2, 4)], ⟨by rfl, ez, by rfl, ez⟩⟩
 ·have h := h2
  clear h1 h2
  refine kj ?_
  refine kk h fun c1 h => ?_
  cases h
  refine hR _ _ ⟨[(7, 4)], ⟨by rfl, ez, by rfl, ez⟩⟩
theorem Af1 {A : Ar} (hA : A = std) {x0 : ByteArray} {x1 : ByteArray} {qc0 : ByteArray → Option ByteArray} {gc0 : Nat} {capc0 : List D} (hcapc0 : capOK capc0) (hqc0 : ∀ (y0 : ByteArray) (r : ByteArray), qc0 y0 = some r → PFun cx gc0 ((st y0) :: un.uns capc0) (st r)) {r : Int} (h : Ac2 A x0 x1 qc0 = some r) : PFun cx 218 [st x0, st x1, .ip [.fun (.func gc0) [] capc0]] (it .i64 r) := by
 rcases hcapc0 with rfl | ⟨dscapc0, rfl⟩
 all_goals
  refine wF hA cx_ok Tryz.func218 fun P R hP hR => ?_
  cbv; unfold Ac2 at h
  iterate 2 refine kj ?_
  obtain ⟨w1, hw1, h⟩ := bd_e h; refine kc hP (hqc0 _ _ hw1) ?_; cbv
  obtain ⟨w2, hw2, h⟩ := bd_e h; refine kc hP (hqc0 _ _ hw2) ?_; cbv
  obtain ⟨w3, hw3, h⟩ := bd_e h; refine kc hP (Afh hA hw3) ?_; cbv
  refine kj ?_
  exact le h hR
theorem Aa5 {A : Ar} (hA : A = std) {x0 : List ByteArray} {n0 : Int} {x1 : Int} {x2 : Int} {q3 : ByteArray → ByteArray → Option Int} {g3 : Nat} {cap3 : List D} (hcap3 : capOK cap3) (hq3 : ∀ (y0 : ByteArray) (y1 : ByteArray) (r : Int), q3 y0 y1 = some r → PFun cx g3 ((st y0) :: (st y1) :: un.uns cap3) (it .i64 r)) {r : List ByteArray} (h : Aam A x0 n0 x1 x2 q3 = some r) : PFunM cx 297 [.ms 1000 0 TyS.str 0 n0, it .i64 x1, it .i64 x2, .fn (.func g3) [] (un.uns cap3)] [⟨1000, 0, .arr 9 TyS.str x0⟩] (.tu []) [⟨1000, 0, .arr 9 TyS.str r⟩] := by
 rcases hcap3 with rfl | ⟨dscap3, rfl⟩
 all_goals
  refine PFunM.walkM (fz := fun _ => false) hA cx_ok Tryz.func297 rfl rfl fun P R hP hR => ?_
  cbv; unfold Aam at h
  refine kj ?_
  refine kl h (fun x _ => [(8, it .i64 x.1)]) (fun x gh => [⟨1000, 0, .arr 9 TyS.str x.2⟩]) [] ?_
  rintro ⟨i8, row1000⟩ gh1 g1 _ _ _ hK1 hQ1 h; cbv
  refine kj ?_
  refine bc h (fun hb h => ?_) fun hb h => ?_
  ·cbv
   refine kj ?_
   refine kl h (fun x _ => [(9, it .i64 x.1)]) (fun x gh => [⟨1000, 0, .arr 9 TyS.str x.2⟩]) [] ?_
   rintro ⟨j9, row1000'⟩ gh2 g2 _ _ _ hK2 hQ2 h; cbv
   refine kj ?_
   iterate 2 refine cj ?_
   refine kk h fun c1 h => ?_
   iterate 2 refine cj ?_
   refine kk h fun c2 h => ?_
   iterate 3 refine cj ?_
   refine kk h fun c3 h => ?_
   iterate 2 refine cj ?_
   refine kk h fun c4 h => ?_
   iterate 3 refine cj ?_
   obtain ⟨w5, hw5, h⟩ := bd_e h; refine kg hP (fun hc => (hq3 _ _ _ (gd_e hw5 hc))) ?_; cbv
   iterate 2 refine cj ?_
   refine kj ?_
   refine bc h (fun hb h => ?_) fun hb h => ?_
   ·cbv
    refine kj ?_
    refine kk h fun c6 h => ?_
    refine kk h fun c7 h => ?_
    refine kk h fun c8 h => ?_
    refine kk h fun c9 h => ?_
    refine ⟨c8, ?_⟩
    refine ⟨c9, ?_⟩
    refine ⟨c6, ?_⟩
    refine kk h fun c10 h => ?_
    iterate 2 refine kj ?_
    cases h; exact hK2 _ _ [] rfl hdy
   ·cbv
    refine hQ2 _ h _ _ fun h => ?_; cbv
    refine kj ?_
    cases h; exact hK1 _ _ [] rfl hdy
  ·cbv
   refine hQ1 _ h _ _ fun h => ?_; cbv
   cases h
   refine hR _ _ ⟨[], ⟨by rfl, ez, by rfl, ez⟩⟩
theorem Aep {A : Ar} (hA : A = std) {x0 : List ByteArray} {n0 : Int} {x1 : Int} {q2 : ByteArray → ByteArray → Option Int} {g2 : Nat} {cap2 : List D} (hcap2 : capOK cap2) (hq2 : ∀ (y0 : ByteArray) (y1 : ByteArray) (r : Int), q2 y0 y1 = some r → PFun cx g2 ((st y0) :: (st y1) :: un.uns cap2) (it .i64 r)) {r : List ByteArray} (h : Abc A x0 n0 x1 q2 = some r) : PFunM cx 270 [.ms 1000 0 TyS.str 0 n0, it .i64 x1, .fn (.func g2) [] (un.uns cap2)] [⟨1000, 0, .arr 9 TyS.str x0⟩] (.tu []) [⟨1000, 0, .arr 9 TyS.str r⟩] := by
 rcases hcap2 with rfl | ⟨dscap2, rfl⟩
 ·refine PFunM.walkM (fz := fun _ => false) hA cx_ok Tryz.func270 rfl rfl fun P R hP hR => ?_
  cbv; unfold Abc at h
  iterate 2 refine kj ?_
  refine kl h (fun x _ => [(7, it .i64 x.1), (8, it .i64 x.2.1)]) (fun x gh => [⟨1000, 0, .arr 9 TyS.str x.2.2⟩]) [] ?_
  rintro ⟨a7, b8, row1000⟩ gh1 g1 _ _ _ hK1 hQ1 h; cbv
  refine kj ?_
  refine bc h (fun hb h => ?_) fun hb h => ?_
  ·cbv
   refine kj ?_
   obtain ⟨w1, hw1, h⟩ := bd_e h; refine km hP [(1000, 0)] (Aa5 (cap3 := []) hA (by first | exact .inl rfl | exact .inr ⟨_, rfl⟩) hq2 hw1) ?_; cbv
   iterate 2 refine kj ?_
   cases h; exact hK1 _ _ [] rfl hdy
  ·cbv
   refine hQ1 _ h _ _ fun h => ?_; cbv
   refine kj ?_
   obtain ⟨w2, hw2, h⟩ := bd_e h; refine km hP [(1000, 0)] (Aa5 (cap3 := []) hA (by first | exact .inl rfl | exact .inr ⟨_, rfl⟩) hq2 hw2) ?_; cbv
   refine kl h (fun x _ => [(6, it .i64 x)]) (fun _ _ => [⟨1000, 0, Cell.arr 9 TyS.str w2⟩]) [] ?_
   rintro blockSize6 gh2 g2 _ _ _ hK2 hQ2 h; cbv
   refine kj ?_
   refine bc h (fun hb h => ?_) fun hb h => ?_
   ·cbv
    refine kj ?_
    refine kl h (fun x _ => [(7, it .i64 x.1), (8, it .i64 x.2)]) (fun _ _ => [⟨1000, 0, Cell.arr 9 TyS.str w2⟩]) [] ?_
    rintro ⟨a7', b8'⟩ gh3 g3 _ _ _ hK3 hQ3 h; cbv
    refine kj ?_
    refine bc h (fun hb h => ?_) fun hb h => ?_
    ·cbv
     refine kj ?_
     cases h
    ·cbv
     refine hQ3 _ h _ _ fun h => ?_; cbv
     iterate 2 refine kj ?_
     refine bc h (fun hb h => ?_) fun hb h => ?_
     ·cbv
      refine kj ?_
      cases h
     ·cbv
      refine kj ?_
      cases h; exact hK2 _ _ [] rfl hdy
   ·cbv
    refine hQ2 _ h _ _ fun h => ?_; cbv
    cases h
    refine hR _ _ ⟨[], ⟨by rfl, ez, by rfl, ez⟩⟩
 ·refine PFunM.walkM (fz := fun _ => false) hA cx_ok Tryz.func270 rfl rfl fun P R hP hR => ?_
  cbv; unfold Abc at h
  iterate 2 refine kj ?_
  refine kl h (fun x _ => [(7, it .i64 x.1), (8, it .i64 x.2.1)]) (fun x gh => [⟨1000, 0, .arr 9 TyS.str x.2.2⟩]) [] ?_
  rintro ⟨a7, b8, row1000⟩ gh1 g1 _ _ _ hK1 hQ1 h; cbv
  refine kj ?_
  refine bc h (fun hb h => ?_) fun hb h => ?_
  ·cbv
   refine kj ?_
   obtain ⟨w1, hw1, h⟩ := bd_e h; refine km hP [(1000, 0)] (Aa5 (cap3 := [D.ptr dscap2]) hA (by first | exact .inl rfl | exact .inr ⟨_, rfl⟩) hq2 hw1) ?_; cbv
   iterate 2 refine kj ?_
   cases h; exact hK1 _ _ [] rfl hdy
  ·cbv
   refine hQ1 _ h _ _ fun h => ?_; cbv
   refine kj ?_
   obtain ⟨w2, hw2, h⟩ := bd_e h; refine km hP [(1000, 0)] (Aa5 (cap3 := [D.ptr dscap2]) hA (by first | exact .inl rfl | exact .inr ⟨_, rfl⟩) hq2 hw2) ?_; cbv
   refine kl h (fun x _ => [(6, it .i64 x)]) (fun _ _ => [⟨1000, 0, Cell.arr 9 TyS.str w2⟩]) [] ?_
   rintro blockSize6 gh2 g2 _ _ _ hK2 hQ2 h; cbv
   refine kj ?_
   refine bc h (fun hb h => ?_) fun hb h => ?_
   ·cbv
    refine kj ?_
    refine kl h (fun x _ => [(7, it .i64 x.1), (8, it .i64 x.2)]) (fun _ _ => [⟨1000, 0, Cell.arr 9 TyS.str w2⟩]) [] ?_
    rintro ⟨a7', b8'⟩ gh3 g3 _ _ _ hK3 hQ3 h; cbv
    refine kj ?_
    refine bc h (fun hb h => ?_) fun hb h => ?_
    ·cbv
     refine kj ?_
     cases h
    ·cbv
     refine hQ3 _ h _ _ fun h => ?_; cbv
     iterate 2 refine kj ?_
     refine bc h (fun hb h => ?_) fun hb h => ?_
     ·cbv
      refine kj ?_
      cases h
     ·cbv
      refine kj ?_
      cases h; exact hK2 _ _ [] rfl hdy
   ·cbv
    refine hQ2 _ h _ _ fun h => ?_; cbv
    cases h
    refine hR _ _ ⟨[], ⟨by rfl, ez, by rfl, ez⟩⟩
theorem Adi {A : Ar} (hA : A = std) {x0 : List ByteArray} {n0 : Int} {q1 : ByteArray → ByteArray → Option Int} {g1 : Nat} {cap1 : List D} (hcap1 : capOK cap1) (hq1 : ∀ (y0 : ByteArray) (y1 : ByteArray) (r : Int), q1 y0 y1 = some r → PFun cx g1 ((st y0) :: (st y1) :: un.uns cap1) (it .i64 r)) {r : List ByteArray} (h : Aaw A x0 n0 q1 = some r) : PFunM cx 217 [.ms 1000 0 TyS.str 0 n0, .fn (.func g1) [] (un.uns cap1)] [⟨1000, 0, .arr 9 TyS.str x0⟩] (.tu []) [⟨1000, 0, .arr 9 TyS.str r⟩] := by
 rcases hcap1 with rfl | ⟨dscap1, rfl⟩
 ·refine PFunM.walkM (fz := fun _ => false) hA cx_ok Tryz.func217 rfl rfl fun P R hP hR => ?_
  cbv; unfold Aaw at h
  refine kj ?_
  obtain ⟨w1, hw1, h⟩ := bd_e h; refine km hP [(1000, 0)] (Aep (cap2 := []) hA (by first | exact .inl rfl | exact .inr ⟨_, rfl⟩) hq1 hw1) ?_; cbv
  cases h
  refine hR _ _ ⟨[], ⟨by rfl, ez, by rfl, ez⟩⟩
 ·refine PFunM.walkM (fz := fun _ => false) hA cx_ok Tryz.func217 rfl rfl fun P R hP hR => ?_
  cbv; unfold Aaw at h
  refine kj ?_
  obtain ⟨w1, hw1, h⟩ := bd_e h; refine km hP [(1000, 0)] (Aep (cap2 := [D.ptr dscap1]) hA (by first | exact .inl rfl | exact .inr ⟨_, rfl⟩) hq1 hw1) ?_; cbv
  cases h
  refine hR _ _ ⟨[], ⟨by rfl, ez, by rfl, ez⟩⟩
theorem Akq {A : Ar} (hA : A = std) {x0 : List ByteArray} {q1 : ByteArray → Option ByteArray} {g1 : Nat} {cap1 : List D} (hcap1 : capOK cap1) (hq1 : ∀ (y0 : ByteArray) (r : ByteArray), q1 y0 = some r → PFun cx g1 ((st y0) :: un.uns cap1) (st r)) {r : List ByteArray} (h : Acy A x0 q1 = some r) : PFun cx 139 [.d (.sl TyS.str x0), .fn (.func g1) [] (un.uns cap1)] (.d (.sl TyS.str r)) := by
 rcases hcap1 with rfl | ⟨dscap1, rfl⟩
 ·refine PFun.walkF (fz := fun k => k == 3) hA cx_ok Tryz.func139 rfl rfl rfl fun P R hP hR => ?_
  cbv; unfold Acy at h
  iterate 2 refine kj ?_
  obtain ⟨w1, hw1, h⟩ := bd_e h; refine km hP [] (Aex hA hw1) ?_; cbv
  refine kj ?_
  obtain ⟨w2, hw2, h⟩ := bd_e h; refine km hP [(7, 1)] (Adi (cap1 := [D.ptr [D.fun (Fn.func g1) [] []]]) hA (by first | exact .inl rfl | exact .inr ⟨_, rfl⟩) (fun _ _ _ hw => Af1 (capc0 := []) hA (by first | exact .inl rfl | exact .inr ⟨_, rfl⟩) hq1 hw) hw2) ?_; cbv
  refine kj ?_
  refine kk h fun c3 h => ?_
  cases h; subst hR; exact ey
 ·refine PFun.walkF (fz := fun k => k == 3) hA cx_ok Tryz.func139 rfl rfl rfl fun P R hP hR => ?_
  cbv; unfold Acy at h
  iterate 2 refine kj ?_
  obtain ⟨w1, hw1, h⟩ := bd_e h; refine km hP [] (Aex hA hw1) ?_; cbv
  refine kj ?_
  obtain ⟨w2, hw2, h⟩ := bd_e h; refine km hP [(7, 1)] (Adi (cap1 := [D.ptr [D.fun (Fn.func g1) [] [D.ptr dscap1]]]) hA (by first | exact .inl rfl | exact .inr ⟨_, rfl⟩) (fun _ _ _ hw => Af1 (capc0 := [D.ptr dscap1]) hA (by first | exact .inl rfl | exact .inr ⟨_, rfl⟩) hq1 hw) hw2) ?_; cbv
  refine kj ?_
  refine kk h fun c3 h => ?_
  cases h; subst hR; exact ey
theorem Afm {A : Ar} (hA : A = std) {x0 : List Hours} {r : Int × List Hours} (h : Ace A x0 = some r) : PFunM cx 219 [.d (.sl TyS.hours x0)] [] (.ms 2000 1 TyS.hours 0 r.1) [⟨2000, 1, .arr 65 TyS.hours r.2⟩] := by
 refine PFunM.walkM (fz := fun k => k == 65541 || k == 65543 || k == 65538 || k == 65538 || k == 65538) hA cx_ok Tryz.func219 rfl rfl fun P R hP hR => ?_
 cbv; unfold Ace at h
 iterate 2 refine kj ?_
 obtain ⟨h1, h2⟩ := Ax8 h
 refine ⟨fun hc => ?_, ?_⟩
 ·have h := h1 hc
  clear h1 h2
  cbv
  refine kj ?_
  cases h
  refine hR _ _ ⟨[(2, 4)], ⟨by rfl, ez, by rfl, ez⟩⟩
 ·have h := h2
  clear h1 h2
  refine kj ?_
  refine kk h fun c1 h => ?_
  cases h
  refine hR _ _ ⟨[(7, 4)], ⟨by rfl, ez, by rfl, ez⟩⟩
theorem Agf {A : Ar} (hA : A = std) {x0 : Hours} {x1 : Hours} {qc0 : Hours → Option ByteArray} {gc0 : Nat} {capc0 : List D} (hcapc0 : capOK capc0) (hqc0 : ∀ (y0 : Hours) (r : ByteArray), qc0 y0 = some r → PFun cx gc0 ((Aek y0) :: un.uns capc0) (st r)) {r : Int} (h : Adf A x0 x1 qc0 = some r) : PFun cx 221 [Aek x0, Aek x1, .ip [.fun (.func gc0) [] capc0]] (it .i64 r) := by
 rcases hcapc0 with rfl | ⟨dscapc0, rfl⟩
 all_goals
  refine wF hA cx_ok Tryz.func221 fun P R hP hR => ?_
  cbv; unfold Adf at h
  iterate 2 refine kj ?_
  obtain ⟨w1, hw1, h⟩ := bd_e h; refine kc hP (hqc0 _ _ hw1) ?_; cbv
  obtain ⟨w2, hw2, h⟩ := bd_e h; refine kc hP (hqc0 _ _ hw2) ?_; cbv
  obtain ⟨w3, hw3, h⟩ := bd_e h; refine kc hP (Afh hA hw3) ?_; cbv
  refine kj ?_
  exact le h hR
theorem Abe {A : Ar} (hA : A = std) {x0 : List Hours} {n0 : Int} {x1 : Int} {x2 : Int} {q3 : Hours → Hours → Option Int} {g3 : Nat} {cap3 : List D} (hcap3 : capOK cap3) (hq3 : ∀ (y0 : Hours) (y1 : Hours) (r : Int), q3 y0 y1 = some r → PFun cx g3 ((Aek y0) :: (Aek y1) :: un.uns cap3) (it .i64 r)) {r : List Hours} (h : Aao A x0 n0 x1 x2 q3 = some r) : PFunM cx 299 [.ms 1000 0 TyS.hours 0 n0, it .i64 x1, it .i64 x2, .fn (.func g3) [] (un.uns cap3)] [⟨1000, 0, .arr 65 TyS.hours x0⟩] (.tu []) [⟨1000, 0, .arr 65 TyS.hours r⟩] := by
 rcases hcap3 with rfl | ⟨dscap3, rfl⟩
 all_goals
  refine PFunM.walkM (fz := fun _ => false) hA cx_ok Tryz.func299 rfl rfl fun P R hP hR => ?_
  cbv; unfold Aao at h
  refine kj ?_
  refine kl h (fun x _ => [(8, it .i64 x.1)]) (fun x gh => [⟨1000, 0, .arr 65 TyS.hours x.2⟩]) [] ?_
  rintro ⟨i8, row1000⟩ gh1 g1 _ _ _ hK1 hQ1 h; cbv
  refine kj ?_
  refine bc h (fun hb h => ?_) fun hb h => ?_
  ·cbv
   refine kj ?_
   refine kl h (fun x _ => [(9, it .i64 x.1)]) (fun x gh => [⟨1000, 0, .arr 65 TyS.hours x.2⟩]) [] ?_
   rintro ⟨j9, row1000'⟩ gh2 g2 _ _ _ hK2 hQ2 h; cbv
   refine kj ?_
   iterate 2 refine cj ?_
   refine kk h fun c1 h => ?_
   iterate 2 refine cj ?_
   refine kk h fun c2 h => ?_
   iterate 3 refine cj ?_
   refine kk h fun c3 h => ?_
   iterate 2 refine cj ?_
   refine kk h fun c4 h => ?_
   iterate 3 refine cj ?_
   obtain ⟨w5, hw5, h⟩ := bd_e h; refine kg hP (fun hc => (hq3 _ _ _ (gd_e hw5 hc))) ?_; cbv
   iterate 2 refine cj ?_
   refine kj ?_
   refine bc h (fun hb h => ?_) fun hb h => ?_
   ·cbv
    refine kj ?_
    refine kk h fun c6 h => ?_
    refine kk h fun c7 h => ?_
    refine kk h fun c8 h => ?_
    refine kk h fun c9 h => ?_
    refine ⟨c8, ?_⟩
    refine ⟨c9, ?_⟩
    refine ⟨c6, ?_⟩
    refine kk h fun c10 h => ?_
    iterate 2 refine kj ?_
    cases h; exact hK2 _ _ [] rfl hdy
   ·cbv
    refine hQ2 _ h _ _ fun h => ?_; cbv
    refine kj ?_
    cases h; exact hK1 _ _ [] rfl hdy
  ·cbv
   refine hQ1 _ h _ _ fun h => ?_; cbv
   cases h
   refine hR _ _ ⟨[], ⟨by rfl, ez, by rfl, ez⟩⟩
theorem Aey {A : Ar} (hA : A = std) {x0 : List Hours} {n0 : Int} {x1 : Int} {q2 : Hours → Hours → Option Int} {g2 : Nat} {cap2 : List D} (hcap2 : capOK cap2) (hq2 : ∀ (y0 : Hours) (y1 : Hours) (r : Int), q2 y0 y1 = some r → PFun cx g2 ((Aek y0) :: (Aek y1) :: un.uns cap2) (it .i64 r)) {r : List Hours} (h : Abh A x0 n0 x1 q2 = some r) : PFunM cx 271 [.ms 1000 0 TyS.hours 0 n0, it .i64 x1, .fn (.func g2) [] (un.uns cap2)] [⟨1000, 0, .arr 65 TyS.hours x0⟩] (.tu []) [⟨1000, 0, .arr 65 TyS.hours r⟩] := by
 rcases hcap2 with rfl | ⟨dscap2, rfl⟩
 ·refine PFunM.walkM (fz := fun _ => false) hA cx_ok Tryz.func271 rfl rfl fun P R hP hR => ?_
  cbv; unfold Abh at h
  iterate 2 refine kj ?_
  refine kl h (fun x _ => [(7, it .i64 x.1), (8, it .i64 x.2.1)]) (fun x gh => [⟨1000, 0, .arr 65 TyS.hours x.2.2⟩]) [] ?_
  rintro ⟨a7, b8, row1000⟩ gh1 g1 _ _ _ hK1 hQ1 h; cbv
  refine kj ?_
  refine bc h (fun hb h => ?_) fun hb h => ?_
  ·cbv
   refine kj ?_
   obtain ⟨w1, hw1, h⟩ := bd_e h; refine km hP [(1000, 0)] (Abe (cap3 := []) hA (by first | exact .inl rfl | exact .inr ⟨_, rfl⟩) hq2 hw1) ?_; cbv
   iterate 2 refine kj ?_
   cases h; exact hK1 _ _ [] rfl hdy
  ·cbv
   refine hQ1 _ h _ _ fun h => ?_; cbv
   refine kj ?_
   obtain ⟨w2, hw2, h⟩ := bd_e h; refine km hP [(1000, 0)] (Abe (cap3 := []) hA (by first | exact .inl rfl | exact .inr ⟨_, rfl⟩) hq2 hw2) ?_; cbv
   refine kl h (fun x _ => [(6, it .i64 x)]) (fun _ _ => [⟨1000, 0, Cell.arr 65 TyS.hours w2⟩]) [] ?_
   rintro blockSize6 gh2 g2 _ _ _ hK2 hQ2 h; cbv
   refine kj ?_
   refine bc h (fun hb h => ?_) fun hb h => ?_
   ·cbv
    refine kj ?_
    refine kl h (fun x _ => [(7, it .i64 x.1), (8, it .i64 x.2)]) (fun _ _ => [⟨1000, 0, Cell.arr 65 TyS.hours w2⟩]) [] ?_
    rintro ⟨a7', b8'⟩ gh3 g3 _ _ _ hK3 hQ3 h; cbv
    refine kj ?_
    refine bc h (fun hb h => ?_) fun hb h => ?_
    ·cbv
     refine kj ?_
     cases h
    ·cbv
     refine hQ3 _ h _ _ fun h => ?_; cbv
     iterate 2 refine kj ?_
     refine bc h (fun hb h => ?_) fun hb h => ?_
     ·cbv
      refine kj ?_
      cases h
     ·cbv
      refine kj ?_
      cases h; exact hK2 _ _ [] rfl hdy
   ·cbv
    refine hQ2 _ h _ _ fun h => ?_; cbv
    cases h
    refine hR _ _ ⟨[], ⟨by rfl, ez, by rfl, ez⟩⟩
 ·refine PFunM.walkM (fz := fun _ => false) hA cx_ok Tryz.func271 rfl rfl fun P R hP hR => ?_
  cbv; unfold Abh at h
  iterate 2 refine kj ?_
  refine kl h (fun x _ => [(7, it .i64 x.1), (8, it .i64 x.2.1)]) (fun x gh => [⟨1000, 0, .arr 65 TyS.hours x.2.2⟩]) [] ?_
  rintro ⟨a7, b8, row1000⟩ gh1 g1 _ _ _ hK1 hQ1 h; cbv
  refine kj ?_
  refine bc h (fun hb h => ?_) fun hb h => ?_
  ·cbv
   refine kj ?_
   obtain ⟨w1, hw1, h⟩ := bd_e h; refine km hP [(1000, 0)] (Abe (cap3 := [D.ptr dscap2]) hA (by first | exact .inl rfl | exact .inr ⟨_, rfl⟩) hq2 hw1) ?_; cbv
   iterate 2 refine kj ?_
   cases h; exact hK1 _ _ [] rfl hdy
  ·cbv
   refine hQ1 _ h _ _ fun h => ?_; cbv
   refine kj ?_
   obtain ⟨w2, hw2, h⟩ := bd_e h; refine km hP [(1000, 0)] (Abe (cap3 := [D.ptr dscap2]) hA (by first | exact .inl rfl | exact .inr ⟨_, rfl⟩) hq2 hw2) ?_; cbv
   refine kl h (fun x _ => [(6, it .i64 x)]) (fun _ _ => [⟨1000, 0, Cell.arr 65 TyS.hours w2⟩]) [] ?_
   rintro blockSize6 gh2 g2 _ _ _ hK2 hQ2 h; cbv
   refine kj ?_
   refine bc h (fun hb h => ?_) fun hb h => ?_
   ·cbv
    refine kj ?_
    refine kl h (fun x _ => [(7, it .i64 x.1), (8, it .i64 x.2)]) (fun _ _ => [⟨1000, 0, Cell.arr 65 TyS.hours w2⟩]) [] ?_
    rintro ⟨a7', b8'⟩ gh3 g3 _ _ _ hK3 hQ3 h; cbv
    refine kj ?_
    refine bc h (fun hb h => ?_) fun hb h => ?_
    ·cbv
     refine kj ?_
     cases h
    ·cbv
     refine hQ3 _ h _ _ fun h => ?_; cbv
     iterate 2 refine kj ?_
     refine bc h (fun hb h => ?_) fun hb h => ?_
     ·cbv
      refine kj ?_
      cases h
     ·cbv
      refine kj ?_
      cases h; exact hK2 _ _ [] rfl hdy
   ·cbv
    refine hQ2 _ h _ _ fun h => ?_; cbv
    cases h
    refine hR _ _ ⟨[], ⟨by rfl, ez, by rfl, ez⟩⟩
theorem Adz {A : Ar} (hA : A = std) {x0 : List Hours} {n0 : Int} {q1 : Hours → Hours → Option Int} {g1 : Nat} {cap1 : List D} (hcap1 : capOK cap1) (hq1 : ∀ (y0 : Hours) (y1 : Hours) (r : Int), q1 y0 y1 = some r → PFun cx g1 ((Aek y0) :: (Aek y1) :: un.uns cap1) (it .i64 r)) {r : List Hours} (h : Aa0 A x0 n0 q1 = some r) : PFunM cx 220 [.ms 1000 0 TyS.hours 0 n0, .fn (.func g1) [] (un.uns cap1)] [⟨1000, 0, .arr 65 TyS.hours x0⟩] (.tu []) [⟨1000, 0, .arr 65 TyS.hours r⟩] := by
 rcases hcap1 with rfl | ⟨dscap1, rfl⟩
 ·refine PFunM.walkM (fz := fun _ => false) hA cx_ok Tryz.func220 rfl rfl fun P R hP hR => ?_
  cbv; unfold Aa0 at h
  refine kj ?_
  obtain ⟨w1, hw1, h⟩ := bd_e h; refine km hP [(1000, 0)] (Aey (cap2 := []) hA (by first | exact .inl rfl | exact .inr ⟨_, rfl⟩) hq1 hw1) ?_; cbv
  cases h
  refine hR _ _ ⟨[], ⟨by rfl, ez, by rfl, ez⟩⟩
 ·refine PFunM.walkM (fz := fun _ => false) hA cx_ok Tryz.func220 rfl rfl fun P R hP hR => ?_
  cbv; unfold Aa0 at h
  refine kj ?_
  obtain ⟨w1, hw1, h⟩ := bd_e h; refine km hP [(1000, 0)] (Aey (cap2 := [D.ptr dscap1]) hA (by first | exact .inl rfl | exact .inr ⟨_, rfl⟩) hq1 hw1) ?_; cbv
  cases h
  refine hR _ _ ⟨[], ⟨by rfl, ez, by rfl, ez⟩⟩
theorem Alf {A : Ar} (hA : A = std) {x0 : List Hours} {q1 : Hours → Option ByteArray} {g1 : Nat} {cap1 : List D} (hcap1 : capOK cap1) (hq1 : ∀ (y0 : Hours) (r : ByteArray), q1 y0 = some r → PFun cx g1 ((Aek y0) :: un.uns cap1) (st r)) {r : List Hours} (h : Ac6 A x0 q1 = some r) : PFun cx 140 [.d (.sl TyS.hours x0), .fn (.func g1) [] (un.uns cap1)] (.d (.sl TyS.hours r)) := by
 rcases hcap1 with rfl | ⟨dscap1, rfl⟩
 ·refine PFun.walkF (fz := fun k => k == 3) hA cx_ok Tryz.func140 rfl rfl rfl fun P R hP hR => ?_
  cbv; unfold Ac6 at h
  iterate 2 refine kj ?_
  obtain ⟨w1, hw1, h⟩ := bd_e h; refine km hP [] (Afm hA hw1) ?_; cbv
  refine kj ?_
  obtain ⟨w2, hw2, h⟩ := bd_e h; refine km hP [(7, 1)] (Adz (cap1 := [D.ptr [D.fun (Fn.func g1) [] []]]) hA (by first | exact .inl rfl | exact .inr ⟨_, rfl⟩) (fun _ _ _ hw => Agf (capc0 := []) hA (by first | exact .inl rfl | exact .inr ⟨_, rfl⟩) hq1 hw) hw2) ?_; cbv
  refine kj ?_
  refine kk h fun c3 h => ?_
  cases h; subst hR; exact ey
 ·refine PFun.walkF (fz := fun k => k == 3) hA cx_ok Tryz.func140 rfl rfl rfl fun P R hP hR => ?_
  cbv; unfold Ac6 at h
  iterate 2 refine kj ?_
  obtain ⟨w1, hw1, h⟩ := bd_e h; refine km hP [] (Afm hA hw1) ?_; cbv
  refine kj ?_
  obtain ⟨w2, hw2, h⟩ := bd_e h; refine km hP [(7, 1)] (Adz (cap1 := [D.ptr [D.fun (Fn.func g1) [] [D.ptr dscap1]]]) hA (by first | exact .inl rfl | exact .inr ⟨_, rfl⟩) (fun _ _ _ hw => Agf (capc0 := [D.ptr dscap1]) hA (by first | exact .inl rfl | exact .inr ⟨_, rfl⟩) hq1 hw) hw2) ?_; cbv
  refine kj ?_
  refine kk h fun c3 h => ?_
  cases h; subst hR; exact ey
theorem Ag5 {A : Ar} (hA : A = std) {x0 : List Inhibit} {r : Int × List Inhibit} (h : Abr A x0 = some r) : PFunM cx 222 [.d (.sl TyS.inhibit x0)] [] (.ms 2000 1 TyS.inhibit 0 r.1) [⟨2000, 1, .arr 61 TyS.inhibit r.2⟩] := by
 refine PFunM.walkM (fz := fun k => k == 65541 || k == 65543 || k == 65538 || k == 65538 || k == 65538) hA cx_ok Tryz.func222 rfl rfl fun P R hP hR => ?_
 cbv; unfold Abr at h
 iterate 2 refine kj ?_
 obtain ⟨h1, h2⟩ := Ax8 h
 refine ⟨fun hc => ?_, ?_⟩
 ·have h := h1 hc
  clear h1 h2
  cbv
  refine kj ?_
  cases h
  refine hR _ _ ⟨[(2, 4)], ⟨by rfl, ez, by rfl, ez⟩⟩
 ·have h := h2
  clear h1 h2
  refine kj ?_
  refine kk h fun c1 h => ?_
  cases h
  refine hR _ _ ⟨[(7, 4)], ⟨by rfl, ez, by rfl, ez⟩⟩
theorem Ajm {A : Ar} (hA : A = std) {x0 : Inhibit} {x1 : Inhibit} {c0 : Bool} {r : Int × Bool} (h : Acs A x0 x1 c0 = some r) : PFunM cx 224 [Ae1 x0, Ae1 x1, .bx 1000 0 0] [⟨1000, 0, .box 122 [.fn (.func 137) [] [.bx 1001 0 0]]⟩, ⟨1001, 0, .box 4 [bl c0]⟩] (it .i64 r.1) [⟨1000, 0, .box 122 [.fn (.func 137) [] [.bx 1001 0 0]]⟩, ⟨1001, 0, .box 4 [bl r.2]⟩] := by
 refine PFunM.walkM (fz := fun _ => false) hA cx_ok Tryz.func224 rfl rfl fun P R hP hR => ?_
 cbv; unfold Acs at h
 iterate 2 refine kj ?_
 obtain ⟨w1, hw1, h⟩ := bd_e h; refine km hP [(1001, 0)] (Afd hA hw1) ?_; cbv
 obtain ⟨w2, hw2, h⟩ := bd_e h; refine km hP [(1001, 0)] (Afd hA hw2) ?_; cbv
 obtain ⟨w3, hw3, h⟩ := bd_e h; refine kc hP (Afh hA hw3) ?_; cbv
 refine kj ?_
 cases h
 refine hR _ _ ⟨[], ⟨by rfl, ez, by rfl, ez⟩⟩
theorem Adj {A : Ar} (hA : A = std) {x0 : List Inhibit} {n0 : Int} {x1 : Int} {x2 : Int} {c0 : Bool} {r : List Inhibit × Bool} (h : Aal A x0 n0 x1 x2 c0 = some r) : PFunM cx 301 [.ms 1000 0 TyS.inhibit 0 n0, it .i64 x1, it .i64 x2, .fn (.func 224) [] [.bx 1001 0 0]] [⟨1000, 0, .arr 61 TyS.inhibit x0⟩, ⟨1001, 0, .box 122 [.fn (.func 137) [] [.bx 1002 0 0]]⟩, ⟨1002, 0, .box 4 [bl c0]⟩] (.tu []) [⟨1000, 0, .arr 61 TyS.inhibit r.1⟩, ⟨1001, 0, .box 122 [.fn (.func 137) [] [.bx 1002 0 0]]⟩, ⟨1002, 0, .box 4 [bl r.2]⟩] := by
 refine PFunM.walkM (fz := fun k => k == 196629) hA cx_ok Tryz.func301 rfl rfl fun P R hP hR => ?_
 cbv; unfold Aal at h
 refine kj ?_
 refine kl h (fun x _ => [(8, it .i64 x.1)]) (fun x gh => [⟨1001, 0, .box 122 [PV.fn (Fn.func 137) [] [PV.bx 1002 0 0]]⟩, ⟨1002, 0, .box 4 [bl x.2.1]⟩, ⟨1000, 0, .arr 61 TyS.inhibit x.2.2⟩]) [] ?_
 rintro ⟨i8, b0_1002, row1000⟩ gh1 g1 _ _ _ hK1 hQ1 h; cbv
 refine kj ?_
 refine bc h (fun hb h => ?_) fun hb h => ?_
 ·cbv
  refine kj ?_
  refine kl h (fun x _ => [(9, it .i64 x.1)]) (fun x gh => [⟨1001, 0, .box 122 [PV.fn (Fn.func 137) [] [PV.bx 1002 0 0]]⟩, ⟨1002, 0, .box 4 [bl x.2.1]⟩, ⟨1000, 0, .arr 61 TyS.inhibit x.2.2⟩]) [] ?_
  rintro ⟨j9, b0_1002', row1000'⟩ gh2 g2 _ _ _ hK2 hQ2 h; cbv
  refine kj ?_
  obtain ⟨hb, h⟩ | ⟨hb, h⟩ := br_e h
  ·refine selT hb ?_
   cbv
   refine kk h fun c1 h => ?_
   refine kk h fun c2 h => ?_
   refine kk h fun c3 h => ?_
   refine kk h fun c4 h => ?_
   obtain ⟨w5, hw5, h⟩ := bd_e h; refine km hP [(1001, 0), (1002, 0)] (Ajm hA hw5) ?_; cbv
   refine kj ?_
   refine bc h (fun hb h => ?_) fun hb h => ?_
   ·cbv
    refine kj ?_
    refine ⟨c3, ?_⟩
    refine ⟨c4, ?_⟩
    refine ⟨c1, ?_⟩
    refine ⟨c2, ?_⟩
    refine ⟨c1, ?_⟩
    refine ⟨c2, ?_⟩
    refine ⟨c3, ?_⟩
    refine kk h fun c6 h => ?_
    iterate 2 refine kj ?_
    cases h; exact hK2 _ _ [] rfl hdy
   ·cbv
    refine hQ2 _ h _ _ fun h => ?_; cbv
    refine kj ?_
    cases h; exact hK1 _ _ [] rfl hdy
  ·refine selF hb ?_
   cbv
   refine kj ?_
   refine bc h (fun hb h => ?_) fun hb h => ?_
   ·cbv
    refine kj ?_
    refine kk h fun c7 h => ?_
    refine kk h fun c8 h => ?_
    refine kk h fun c9 h => ?_
    refine kk h fun c10 h => ?_
    refine ⟨c9, ?_⟩
    refine ⟨c10, ?_⟩
    refine ⟨c7, ?_⟩
    refine kk h fun c11 h => ?_
    iterate 2 refine kj ?_
    cases h; exact hK2 _ _ [] rfl hdy
   ·cbv
    refine hQ2 _ h _ _ fun h => ?_; cbv
    refine kj ?_
    cases h; exact hK1 _ _ [] rfl hdy
 ·cbv
  refine hQ1 _ h _ _ fun h => ?_; cbv
  cases h
  refine hR _ _ ⟨[], ⟨by rfl, ez, by rfl, ez⟩⟩
theorem Ag6 {A : Ar} (hA : A = std) {x0 : List Inhibit} {n0 : Int} {x1 : Int} {c0 : Bool} {r : List Inhibit × Bool} (h : Abs A x0 n0 x1 c0 = some r) : PFunM cx 272 [.ms 1000 0 TyS.inhibit 0 n0, it .i64 x1, .fn (.func 224) [] [.bx 1001 0 0]] [⟨1000, 0, .arr 61 TyS.inhibit x0⟩, ⟨1001, 0, .box 122 [.fn (.func 137) [] [.bx 1002 0 0]]⟩, ⟨1002, 0, .box 4 [bl c0]⟩] (.tu []) [⟨1000, 0, .arr 61 TyS.inhibit r.1⟩, ⟨1001, 0, .box 122 [.fn (.func 137) [] [.bx 1002 0 0]]⟩, ⟨1002, 0, .box 4 [bl r.2]⟩] := by
 refine PFunM.walkM (fz := fun _ => false) hA cx_ok Tryz.func272 rfl rfl fun P R hP hR => ?_
 cbv; unfold Abs at h
 iterate 2 refine kj ?_
 refine kl h (fun x _ => [(7, it .i64 x.1), (8, it .i64 x.2.1)]) (fun x gh => [⟨1001, 0, .box 122 [PV.fn (Fn.func 137) [] [PV.bx 1002 0 0]]⟩, ⟨1002, 0, .box 4 [bl x.2.2.1]⟩, ⟨1000, 0, .arr 61 TyS.inhibit x.2.2.2⟩]) [] ?_
 rintro ⟨a7, b8, b0_1002, row1000⟩ gh1 g1 _ _ _ hK1 hQ1 h; cbv
 refine kj ?_
 refine bc h (fun hb h => ?_) fun hb h => ?_
 ·cbv
  refine kj ?_
  obtain ⟨w1, hw1, h⟩ := bd_e h; refine km hP [(1000, 0), (1001, 0), (1002, 0)] (Adj hA hw1) ?_; cbv
  iterate 2 refine kj ?_
  cases h; exact hK1 _ _ [] rfl hdy
 ·cbv
  refine hQ1 _ h _ _ fun h => ?_; cbv
  refine kj ?_
  obtain ⟨w2, hw2, h⟩ := bd_e h; refine km hP [(1000, 0), (1001, 0), (1002, 0)] (Adj hA hw2) ?_; cbv
  refine kl h (fun x _ => [(6, it .i64 x)]) (fun x gh => [⟨1001, 0, .box 122 [PV.fn (Fn.func 137) [] [PV.bx 1002 0 0]]⟩, ⟨1002, 0, .box 4 [bl w2.2]⟩, ⟨1000, 0, Cell.arr 61 TyS.inhibit w2.1⟩]) [] ?_
  rintro blockSize6 gh2 g2 _ _ _ hK2 hQ2 h; cbv
  refine kj ?_
  refine bc h (fun hb h => ?_) fun hb h => ?_
  ·cbv
   refine kj ?_
   refine kl h (fun x _ => [(7, it .i64 x.1), (8, it .i64 x.2)]) (fun x gh => [⟨1001, 0, .box 122 [PV.fn (Fn.func 137) [] [PV.bx 1002 0 0]]⟩, ⟨1002, 0, .box 4 [bl w2.2]⟩, ⟨1000, 0, Cell.arr 61 TyS.inhibit w2.1⟩]) [] ?_
   rintro ⟨a7', b8'⟩ gh3 g3 _ _ _ hK3 hQ3 h; cbv
   refine kj ?_
   refine bc h (fun hb h => ?_) fun hb h => ?_
   ·cbv
    refine kj ?_
    cases h
   ·cbv
    refine hQ3 _ h _ _ fun h => ?_; cbv
    iterate 2 refine kj ?_
    refine bc h (fun hb h => ?_) fun hb h => ?_
    ·cbv
     refine kj ?_
     cases h
    ·cbv
     refine kj ?_
     cases h; exact hK2 _ _ [] rfl hdy
  ·cbv
   refine hQ2 _ h _ _ fun h => ?_; cbv
   cases h
   refine hR _ _ ⟨[], ⟨by rfl, ez, by rfl, ez⟩⟩
theorem Afj {A : Ar} (hA : A = std) {x0 : List Inhibit} {n0 : Int} {c0 : Bool} {r : List Inhibit × Bool} (h : Aa7 A x0 n0 c0 = some r) : PFunM cx 223 [.ms 1000 0 TyS.inhibit 0 n0, .fn (.func 224) [] [.bx 1001 0 0]] [⟨1000, 0, .arr 61 TyS.inhibit x0⟩, ⟨1001, 0, .box 122 [.fn (.func 137) [] [.bx 1002 0 0]]⟩, ⟨1002, 0, .box 4 [bl c0]⟩] (.tu []) [⟨1000, 0, .arr 61 TyS.inhibit r.1⟩, ⟨1001, 0, .box 122 [.fn (.func 137) [] [.bx 1002 0 0]]⟩, ⟨1002, 0, .box 4 [bl r.2]⟩] := by
 refine PFunM.walkM (fz := fun _ => false) hA cx_ok Tryz.func223 rfl rfl fun P R hP hR => ?_
 cbv; unfold Aa7 at h
 refine kj ?_
 obtain ⟨w1, hw1, h⟩ := bd_e h; refine km hP [(1000, 0), (1001, 0), (1002, 0)] (Ag6 hA hw1) ?_; cbv
 cases h
 refine hR _ _ ⟨[], ⟨by rfl, ez, by rfl, ez⟩⟩
theorem Aj4 {A : Ar} (hA : A = std) {x0 : List Inhibit} {c0 : Bool} {r : Int × List Inhibit × Bool} (h : Adg A x0 c0 = some r) : PFunM cx 142 [.d (.sl TyS.inhibit x0), .fn (.func 137) [] [.bx 1000 0 0]] [⟨1000, 0, .box 4 [bl c0]⟩] (.ms 2000 1 TyS.inhibit 0 r.1) [⟨1000, 0, .box 4 [bl r.2.2]⟩, ⟨2000, 1, .arr 61 TyS.inhibit r.2.1⟩] := by
 refine PFunM.walkM (fz := fun _ => false) hA cx_ok Tryz.func142 rfl rfl fun P R hP hR => ?_
 cbv; unfold Adg at h
 iterate 2 refine kj ?_
 obtain ⟨w1, hw1, h⟩ := bd_e h; refine km hP [] (Ag5 hA hw1) ?_; cbv
 refine kj ?_
 obtain ⟨w2, hw2, h⟩ := bd_e h; refine km hP [(7, 3), (3, 2), (1000, 0)] (Afj hA hw2) ?_; cbv
 refine kj ?_
 cases h
 refine hR _ _ ⟨[(7, 3)], ⟨by rfl, ez, by rfl, ez⟩⟩
theorem Ajn {A : Ar} (hA : A = std) {x0 : Inhibit} {x1 : Inhibit} {c0 : Bool} {r : Bool × Bool} (h : Aej A x0 x1 c0 = some r) : PFunM cx 143 [Ae1 x0, Ae1 x1, .bx 1000 0 0] [⟨1000, 0, .box 122 [.fn (.func 137) [] [.bx 1001 0 0]]⟩, ⟨1001, 0, .box 4 [bl c0]⟩] (bl r.1) [⟨1000, 0, .box 122 [.fn (.func 137) [] [.bx 1001 0 0]]⟩, ⟨1001, 0, .box 4 [bl r.2]⟩] := by
 refine PFunM.walkM (fz := fun _ => false) hA cx_ok Tryz.func143 rfl rfl fun P R hP hR => ?_
 cbv; unfold Aej at h
 iterate 2 refine kj ?_
 obtain ⟨w1, hw1, h⟩ := bd_e h; refine km hP [(1001, 0)] (Afd hA hw1) ?_; cbv
 obtain ⟨w2, hw2, h⟩ := bd_e h; refine km hP [(1001, 0)] (Afd hA hw2) ?_; cbv
 refine kj ?_
 cases h
 refine hR _ _ ⟨[], ⟨by rfl, ez, by rfl, ez⟩⟩
theorem Afy {A : Ar} (hA : A = std) {x0 : List Inhibit} {n0 : Int} {c0 : Bool} {r : Int × Int × List Inhibit × Bool} (h : Aay A x0 n0 c0 = some r) : PFunM cx 141 [.ms 1000 0 TyS.inhibit 0 n0, .fn (.func 143) [] [.bx 1001 0 0]] [⟨1000, 0, .arr 61 TyS.inhibit x0⟩, ⟨1001, 0, .box 122 [.fn (.func 137) [] [.bx 1002 0 0]]⟩, ⟨1002, 0, .box 4 [bl c0]⟩] (.ms 1000 0 TyS.inhibit r.1 r.2.1) [⟨1000, 0, .arr 61 TyS.inhibit r.2.2.1⟩, ⟨1001, 0, .box 122 [.fn (.func 137) [] [.bx 1002 0 0]]⟩, ⟨1002, 0, .box 4 [bl r.2.2.2]⟩] := by
 refine PFunM.walkM (fz := fun _ => false) hA cx_ok Tryz.func141 rfl rfl fun P R hP hR => ?_
 cbv; unfold Aay at h
 iterate 2 refine kj ?_
 refine bc h (fun hb h => ?_) fun hb h => ?_
 ·cbv
  refine kj ?_
  cases h
  refine hR _ _ ⟨[], ⟨by rfl, ez, by rfl, ez⟩⟩
 ·cbv
  refine kj ?_
  refine kl h (fun x _ => [(5, it .i64 x.1)]) (fun x gh => [⟨1001, 0, .box 122 [PV.fn (Fn.func 137) [] [PV.bx 1002 0 0]]⟩, ⟨1002, 0, .box 4 [bl x.2]⟩, ⟨1000, 0, Cell.arr 61 TyS.inhibit x0⟩]) [] ?_
  rintro ⟨t5, b0_1002⟩ gh1 g1 _ _ _ hK1 hQ1 h; cbv
  refine kj ?_
  refine bc h (fun hb h => ?_) fun hb h => ?_
  ·cbv
   refine kj ?_
   refine kk h fun c1 h => ?_
   refine kk h fun c2 h => ?_
   refine kk h fun c3 h => ?_
   refine kk h fun c4 h => ?_
   obtain ⟨w5, hw5, h⟩ := bd_e h; refine km hP [(1001, 0), (1002, 0)] (Ajn hA hw5) ?_; cbv
   refine kj ?_
   refine bc h (fun hb h => ?_) fun hb h => ?_
   ·cbv
    refine kj ?_
    refine kk h fun c6 h => ?_
    refine kj ?_
    refine kl h (fun x _ => [(5, it .i64 x.1), (7, it .i64 x.2.1)]) (fun x gh => [⟨1001, 0, .box 122 [PV.fn (Fn.func 137) [] [PV.bx 1002 0 0]]⟩, ⟨1002, 0, .box 4 [bl x.2.2.1]⟩, ⟨1000, 0, .arr 61 TyS.inhibit x.2.2.2⟩]) [] ?_
    rintro ⟨t5', t7, b0_1002', row1000⟩ gh2 g2 _ _ _ hK2 hQ2 h; cbv
    refine kj ?_
    refine bc h (fun hb h => ?_) fun hb h => ?_
    ·cbv
     refine kj ?_
     refine kk h fun c7 h => ?_
     refine kk h fun c8 h => ?_
     refine kk h fun c9 h => ?_
     refine kk h fun c10 h => ?_
     obtain ⟨w11, hw11, h⟩ := bd_e h; refine km hP [(1001, 0), (1002, 0)] (Ajn hA hw11) ?_; cbv
     refine kj ?_
     refine bc h (fun hb h => ?_) fun hb h => ?_
     ·cbv
      refine kj ?_
      refine ⟨c7, ?_⟩
      refine ⟨c8, ?_⟩
      refine kk h fun c12 h => ?_
      refine kk h fun c13 h => ?_
      iterate 2 refine kj ?_
      cases h; exact hK2 _ _ [] rfl hdy
     ·cbv
      refine kj ?_
      cases h; exact hK2 _ _ [] rfl hdy
    ·cbv
     refine hQ2 _ h _ _ fun h => ?_; cbv
     refine kj ?_
     refine kk h fun c14 h => ?_
     refine kk h fun c15 h => ?_
     refine kj ?_
     refine kk h fun c16 h => ?_
     refine hQ1 _ h _ _ fun h => ?_; cbv
     cases h
     refine hR _ _ ⟨[], ⟨by rfl, ez, by rfl, ez⟩⟩
   ·cbv
    refine kj ?_
    cases h; exact hK1 _ _ [] rfl hdy
  ·cbv
   refine hQ1 _ h _ _ fun h => ?_; cbv
   refine kj ?_
   cases h
   refine hR _ _ ⟨[], ⟨by rfl, ez, by rfl, ez⟩⟩
theorem Ak9 {A : Ar} (hA : A = std) {x0 : Config} {r : Config × Int} (h : Aeu A x0 = some r) : PFun cx 57 [Ajq x0] (.tu [Ajq r.1, it .i64 r.2]) := by
 refine wF hA cx_ok Tryz.func57 fun P R hP hR => ?_
 cbv; unfold Aeu at h
 iterate 2 refine kj ?_
 obtain ⟨w1, hw1, h⟩ := bd_e h; refine kc hP (Alm hA hw1) ?_; cbv
 refine bc h (fun hb h => ?_) fun hb h => ?_
 ·cbv
  refine kj ?_
  cases h; subst hR; exact ey
 ·cbv
  iterate 3 refine kj ?_
  obtain ⟨w2, hw2, h⟩ := bd_e h; refine ke hP (Alo (cap1 := []) hA (by first | exact .inl rfl | exact .inr ⟨_, rfl⟩) (fun _ _ hw => Alj hA hw) hw2) ?_; cbv
  obtain ⟨w3, hw3, h⟩ := bd_e h; refine ke hP (Akq (cap1 := []) hA (by first | exact .inl rfl | exact .inr ⟨_, rfl⟩) (fun _ _ hw => Ak7 hA hw) hw3) ?_; cbv
  obtain ⟨w4, hw4, h⟩ := bd_e h; refine ke hP (Alf (cap1 := []) hA (by first | exact .inl rfl | exact .inr ⟨_, rfl⟩) (fun _ _ hw => Ak8 hA hw) hw4) ?_; cbv
  iterate 2 refine kj ?_
  obtain ⟨w5, hw5, h⟩ := bd_e h; refine km hP [(4, 2)] (Aj4 hA hw5) ?_; cbv
  obtain ⟨w6, hw6, h⟩ := bd_e h; refine km hP [(26, 5), (5, 3), (4, 2)] (Afy hA hw6) ?_; cbv
  refine kj ?_
  refine kk h fun c7 h => ?_
  cases h; subst hR; exact ey
theorem Ad7 {A : Ar} (hA : A = std) {r : Bool} (h : Abk A = some r) : PFun cx 25 [] (bl r) := by
 refine wF hA cx_ok Tryz.func25 fun P R hP hR => ?_
 cbv; unfold Abk at h
 iterate 2 refine kj ?_
 obtain ⟨w1, hw1, h⟩ := bd_e h; refine ke hP (Ak9 hA hw1) ?_; cbv
 refine kj ?_
 iterate 8 refine cj ?_
 refine kk h fun c2 h => ?_
 iterate 5 refine cj ?_
 obtain ⟨w3, hw3, h⟩ := bd_e h; refine kg hP (fun hc => (Alm hA (gd_e hw3 hc))) ?_; cbv
 refine cj ?_
 exact le h hR
theorem Ar6 {A : Ar} (hA : A = std) {x0 : List Label} {r : List label_mark} (h : Ajb A x0 = some r) : PFun cx 237 [.d (.sl TyS.label x0)] (.d (.sl TyS.mark r)) := by
 refine wF hA cx_ok Tryz.func237 fun P R hP hR => ?_
 cbv; unfold Ajb at h
 iterate 3 refine kj ?_
 refine kl h (fun x gh => [(3, .os 4030 gh TyS.mark x.1), (8, it .i64 x.2)]) (fun x gh => [⟨4030, gh, .tok 226 TyS.mark (A.nlen TyS.mark x.1)⟩]) [] ?_
 rintro ⟨out3, t8⟩ gh1 g1 _ _ _ hK1 hQ1 h; cbv
 refine kj ?_
 refine bc h (fun hb h => ?_) fun hb h => ?_
 ·cbv
  refine kj ?_
  refine kk h fun c1 h => ?_
  refine kj ?_
  refine kk h fun c2 h => ?_
  refine kj ?_
  cases h; exact hK1 _ _ [(4030, 15, g1.succ.succ)] rfl hdy
 ·cbv
  refine hQ1 _ h _ _ fun h => ?_; cbv
  refine kj ?_
  cases h; subst hR; exact ey
theorem Am8 {A : Ar} (hA : A = std) {x0 : label_mark} {r : ByteArray} (h : Ab9 A x0 = some r) : PFun cx 238 [Avl x0] (st r) := by
 refine wF hA cx_ok Tryz.func238 fun P R hP hR => ?_
 cbv; unfold Ab9 at h
 iterate 2 refine kj ?_
 refine kk h fun c1 h => ?_
 obtain ⟨w2, hw2, h⟩ := bd_e h; refine kc hP (Aif hA hw2) ?_; cbv
 obtain ⟨w3, hw3, h⟩ := bd_e h; refine kc hP (Aif hA hw3) ?_; cbv
 refine kk h fun c4 h => ?_
 refine kk h fun c5 h => ?_
 refine kj ?_
 exact le h hR
theorem Ath {A : Ar} (hA : A = std) {x0 : List Label} {r : ByteArray × Int} (h : Ai0 A x0 = some r) : PFun cx 175 [.d (.sl TyS.label x0)] (.tu [st r.1, it .i64 r.2]) := by
 refine wF hA cx_ok Tryz.func175 fun P R hP hR => ?_
 cbv; unfold Ai0 at h
 iterate 2 refine kj ?_
 obtain ⟨w1, hw1, h⟩ := bd_e h; refine kc hP (Ae2 hA hw1) ?_; cbv
 refine bc h (fun hb h => ?_) fun hb h => ?_
 ·cbv
  refine kj ?_
  cases h; subst hR; exact ey
 ·cbv
  iterate 2 refine kj ?_
  obtain ⟨w2, hw2, h⟩ := bd_e h; refine kc hP (Ar6 hA hw2) ?_; cbv
  refine kl h (fun x gh => [(4, .os 4030 gh TyS.str x.1), (13, it .i64 x.2)]) (fun x gh => [⟨4030, gh, .tok 9 TyS.str (A.nlen TyS.str x.1)⟩]) [] ?_
  rintro ⟨parts4, t13⟩ gh1 g1 _ _ _ hK1 hQ1 h; cbv
  refine kj ?_
  refine bc h (fun hb h => ?_) fun hb h => ?_
  ·cbv
   refine kj ?_
   refine kk h fun c3 h => ?_
   refine kj ?_
   obtain ⟨w4, hw4, h⟩ := bd_e h; refine kc hP (Am8 hA hw4) ?_; cbv
   refine kk h fun c5 h => ?_
   refine kj ?_
   cases h; exact hK1 _ _ [(4030, 21, g1.succ.succ)] rfl hdy
  ·cbv
   refine hQ1 _ h _ _ fun h => ?_; cbv
   refine kj ?_
   obtain ⟨w6, hw6, h⟩ := bd_e h; refine kc hP (Ajg hA hw6) ?_; cbv
   refine kk h fun c7 h => ?_
   refine kk h fun c8 h => ?_
   cases h; subst hR; exact ey
theorem Ati {A : Ar} (hA : A = std) {r : Unit} (h : Al7 A = some r) : PFun cx 176 [] (.ag [.d (.v (.string (ByteArray.mk (Array.mk [])))), .d (.v .nilFunc), .d (.v (.string (ByteArray.mk (Array.mk [62])))), .d (.v (.func (.func 239) (Array.mk []) (Array.mk []))), .d (.v (.string (ByteArray.mk (Array.mk [62, 61])))), .d (.v (.func (.func 240) (Array.mk []) (Array.mk []))), .d (.v (.string (ByteArray.mk (Array.mk [60])))), .d (.v (.func (.func 241) (Array.mk []) (Array.mk []))), .d (.v (.string (ByteArray.mk (Array.mk [60, 61])))), .d (.v (.func (.func 242) (Array.mk []) (Array.mk []))), .d (.v (.string (ByteArray.mk (Array.mk [61, 61])))), .d (.v (.func (.func 243) (Array.mk []) (Array.mk [])))]) := by
 refine wF hA cx_ok Tryz.func176 fun P R hP hR => ?_
 cbv; unfold Al7 at h
 iterate 2 refine kj ?_
 cases h; subst hR; exact ey
theorem Ar7 {A : Ar} (hA : A = std) {x0 : Rule} {r : (List ByteArray) × Int} (h : Ahe A x0 = some r) : PFun cx 101 [Agv x0] (.tu [.d (.sl TyS.str r.1), it .i64 r.2]) := by
 refine wF hA cx_ok Tryz.func101 fun P R hP hR => ?_
 cbv; unfold Ahe at h
 iterate 2 refine kj ?_
 obtain ⟨w1, hw1, h⟩ := bd_e h; refine kc hP (Amd hA hw1) ?_; cbv
 refine bc h (fun hb h => ?_) fun hb h => ?_
 ·cbv
  refine kj ?_
  cases h; subst hR; exact ey
 ·cbv
  refine kj ?_
  obtain ⟨w2, hw2, h⟩ := bd_e h; refine kc hP (Ath hA hw2) ?_; cbv
  refine kj ?_
  obtain ⟨w3, hw3, h⟩ := bd_e h; refine kc hP (Ati hA hw3) ?_; cbv
  refine kk h fun c4 h => ?_
  iterate 2 refine kj ?_
  refine kl h (fun x gh => [(6, .os 4030 gh TyS.str x.1), (38, it .i64 x.2)]) (fun x gh => [⟨4030, gh, .tok 9 TyS.str (A.nlen TyS.str x.1)⟩, ⟨1, 0, .box 36 [st x0.1, st x0.2, it .i64 x0.3, it .i64 x0.4, it .i64 x0.5, it .i64 x0.6, it .i64 x0.7, .d (.sl .label x0.8)]⟩, ⟨36, 4, Cell.tok 3 TyS.int (A.nlen TyS.int [x0.4, x0.5, x0.6, x0.7])⟩]) [(4030, 27, 3)] ?_
  rintro ⟨out6, t38⟩ gh1 g1 _ _ _ hK1 hQ1 h; cbv
  refine kj ?_
  refine bc h (fun hb h => ?_) fun hb h => ?_
  ·cbv
   refine kj ?_
   refine kk h fun c5 h => ?_
   refine kj ?_
   obtain ⟨w6, hw6, h⟩ := bd_e h; refine kc hP (Aqt hA hw6) ?_; cbv
   refine kk h fun c7 h => ?_
   refine kj ?_
   cases h; exact hK1 _ _ [(4030, 46, g1.succ.succ)] rfl hdy
  ·cbv
   refine hQ1 _ h _ _ fun h => ?_; cbv
   refine kj ?_
   refine kk h fun c8 h => ?_
   cases h; subst hR; exact ey
theorem Aoj {A : Ar} (hA : A = std) {x0 : Int} {r : ByteArray} (h : Aka A x0 = some r) : PFun cx 247 [it .i64 x0] (st r) := by
 refine wF hA cx_ok Tryz.func247 fun P R hP hR => ?_
 cbv; unfold Aka at h
 iterate 2 refine kj ?_
 iterate 2 (refine ⟨by subst hA; simp +contextual [vcm], ?_⟩)
 refine and_assoc.2 ?_
 refine kk h fun c1 h => ?_
 refine and_assoc.2 ?_
 refine kk h fun c2 h => ?_
 refine cj ?_
 exact le h hR
theorem Amg {A : Ar} (hA : A = std) {x0 : Int} {r : ByteArray} (h : Ahf A x0 = some r) : PFun cx 179 [it .i64 x0] (st r) := by
 refine wF hA cx_ok Tryz.func179 fun P R hP hR => ?_
 cbv; unfold Ahf at h
 iterate 2 refine kj ?_
 refine ⟨by subst hA; simp +contextual [vcm], ?_⟩
 obtain ⟨w1, hw1, h⟩ := bd_e h; refine kc hP (Aoj hA hw1) ?_; cbv
 refine kk h fun c2 h => ?_
 refine ⟨by subst hA; simp +contextual [vcm], ?_⟩
 obtain ⟨w3, hw3, h⟩ := bd_e h; refine kc hP (Aoj hA hw3) ?_; cbv
 refine kk h fun c4 h => ?_
 exact le h hR
theorem Atj {A : Ar} (hA : A = std) {x0 : Hours} {r : ByteArray × Int} (h : Ai1 A x0 = some r) : PFun cx 102 [Aek x0] (.tu [st r.1, it .i64 r.2]) := by
 refine wF hA cx_ok Tryz.func102 fun P R hP hR => ?_
 cbv; unfold Ai1 at h
 iterate 2 refine kj ?_
 obtain ⟨w1, hw1, h⟩ := bd_e h; refine kc hP (Ame hA hw1) ?_; cbv
 refine bc h (fun hb h => ?_) fun hb h => ?_
 ·cbv
  refine kj ?_
  cases h; subst hR; exact ey
 ·cbv
  iterate 2 refine kj ?_
  refine kl h (fun x gh => [(4, .os 4030 gh TyS.str x.1), (11, it .i64 x.2)]) (fun x gh => [⟨4030, gh, .tok 9 TyS.str (A.nlen TyS.str x.1)⟩, ⟨1, 0, .box 65 [st x0.1, it .i64 x0.2, it .i64 x0.3, it .i64 x0.4]⟩]) [] ?_
  rintro ⟨l4, t11⟩ gh1 g1 _ _ _ hK1 hQ1 h; cbv
  refine kj ?_
  refine bc h (fun hb h => ?_) fun hb h => ?_
  ·cbv
   refine kj ?_
   refine kk h fun c2 h => ?_
   refine kj ?_
   refine kk h fun c3 h => ?_
   refine bc h (fun hb h => ?_) fun hb h => ?_
   ·cbv
    refine kj ?_
    refine kk h fun c4 h => ?_
    refine kj ?_
    cases h; exact hK1 _ _ [(4030, 24, g1.succ.succ.succ)] rfl hdy
   ·cbv
    refine kj ?_
    cases h; exact hK1 _ _ [(4030, 4030, gh1)] rfl hdy
  ·cbv
   refine hQ1 _ h _ _ fun h => ?_; cbv
   refine kj ?_
   obtain ⟨w5, hw5, h⟩ := bd_e h; refine kc hP (Ajg hA hw5) ?_; cbv
   refine kk h fun c6 h => ?_
   obtain ⟨w7, hw7, h⟩ := bd_e h; refine kc hP (Amg hA hw7) ?_; cbv
   refine kk h fun c8 h => ?_
   refine kk h fun c9 h => ?_
   obtain ⟨w10, hw10, h⟩ := bd_e h; refine kc hP (Amg hA hw10) ?_; cbv
   refine kk h fun c11 h => ?_
   refine kj ?_
   cases h; subst hR; exact ey
theorem An4 {A : Ar} (hA : A = std) {rf : Bool → Route → Option (ByteArray × Bool)} {x0 : Bool} {x1 : Route} (hqr105 : ∀ (x0 : Bool) (x1 : Route) (r : ByteArray × Bool), rf x0 x1 = some r → PFunM cx 105 [.bx 1000 0 0, Ab6 x1] [⟨1000, 0, .box 4 [bl x0]⟩] (st r.1) [⟨1000, 0, .box 4 [bl r.2]⟩]) {r : ByteArray × Bool} (h : Aht A rf x0 x1 = some r) : PFunM cx 105 [.bx 1000 0 0, Ab6 x1] [⟨1000, 0, .box 4 [bl x0]⟩] (st r.1) [⟨1000, 0, .box 4 [bl r.2]⟩] := by
 refine PFunM.walkM (fz := fun _ => false) hA cx_ok Tryz.func105 rfl rfl fun P R hP hR => ?_
 cbv; unfold Aht at h
 iterate 2 refine kj ?_
 obtain ⟨w1, hw1, h⟩ := bd_e h; refine km hP [(1000, 0)] (Agr hA hw1) ?_; cbv
 obtain ⟨w2, hw2, h⟩ := bd_e h; refine km hP [(1000, 0)] (Abd hA hw2) ?_; cbv
 obtain ⟨w3, hw3, h⟩ := bd_e h; refine km hP [(1000, 0)] (Abd hA hw3) ?_; cbv
 iterate 2 refine kj ?_
 refine kl h (fun x gh => [(5, .os 4030 gh TyS.str x.1), (37, it .i64 x.2)]) (fun x gh => [⟨4030, gh, .tok 9 TyS.str (A.nlen TyS.str x.1)⟩, ⟨1000, 0, .box 4 [bl w3.2]⟩, ⟨3, 2, .box 27 [st x1.1, .d (.sl .matcher x1.2), .d (.sl .str x1.3), it .i64 x1.4, it .i64 x1.5, it .i64 x1.6, .d (.sl .str x1.7), bl x1.8, .d (.sl .route x1.9)]⟩, ⟨35, 4, Cell.tok 3 TyS.int (A.nlen TyS.int [x1.4, x1.5, x1.6])⟩]) [(4030, 28, 3)] ?_
 rintro ⟨t5, t37⟩ gh1 g1 _ _ _ hK1 hQ1 h; cbv
 refine kj ?_
 refine bc h (fun hb h => ?_) fun hb h => ?_
 ·cbv
  refine kj ?_
  refine kk h fun c4 h => ?_
  refine kj ?_
  obtain ⟨w5, hw5, h⟩ := bd_e h; refine kc hP (Aln hA hw5) ?_; cbv
  refine kj ?_
  refine kk h fun c6 h => ?_
  refine kj ?_
  cases h; exact hK1 _ _ [(4030, 49, g1.succ.succ.succ)] rfl hdy
 ·cbv
  refine hQ1 _ h _ _ fun h => ?_; cbv
  iterate 2 refine kj ?_
  refine bc h (fun hb h => ?_) fun hb h => ?_
  ·cbv
   iterate 3 refine kj ?_
   refine kl h (fun x gh => [(11, .os 4060 gh TyS.str x.1), (56, it .i64 x.2.1)]) (fun x gh => [⟨4060, gh, .tok 9 TyS.str (A.nlen TyS.str x.1)⟩, ⟨1000, 0, .box 4 [bl x.2.2]⟩, ⟨3, 2, .box 27 [st x1.1, .d (.sl .matcher x1.2), .d (.sl .str x1.3), it .i64 x1.4, it .i64 x1.5, it .i64 x1.6, .d (.sl .str x1.7), bl x1.8, .d (.sl .route x1.9)]⟩, ⟨4030, gh1, Cell.tok 9 TyS.str (A.nlen TyS.str t5)⟩, ⟨35, 4, Cell.tok 3 TyS.int (A.nlen TyS.int [x1.4, x1.5, x1.6])⟩]) [] ?_
   rintro ⟨t11, t56, b0_1000⟩ gh2 g2 _ _ _ hK2 hQ2 h; cbv
   refine kj ?_
   refine bc h (fun hb h => ?_) fun hb h => ?_
   ·cbv
    refine kj ?_
    refine kk h fun c7 h => ?_
    refine kj ?_
    obtain ⟨w8, hw8, h⟩ := bd_e h; refine km hP [(1000, 0)] (hqr105 _ _ _ hw8) ?_; cbv
    refine kk h fun c9 h => ?_
    refine kj ?_
    cases h; exact hK2 _ _ [(4060, 65, g2.succ.succ)] rfl hdy
   ·cbv
    refine hQ2 _ h _ _ fun h => ?_; cbv
    refine kj ?_
    obtain ⟨w10, hw10, h⟩ := bd_e h; refine km hP [(1000, 0)] (Abd hA hw10) ?_; cbv
    refine kk h fun c11 h => ?_
    obtain ⟨w12, hw12, h⟩ := bd_e h; refine km hP [(1000, 0)] (Abd hA hw12) ?_; cbv
    cases h
    refine hR _ _ ⟨[], ⟨by rfl, ez, by rfl, ez⟩⟩
  ·cbv
   iterate 2 refine kj ?_
   refine kl h (fun x gh => [(11, .os 4090 gh TyS.str x.1), (56, it .i64 x.2.1)]) (fun x gh => [⟨4090, gh, .tok 9 TyS.str (A.nlen TyS.str x.1)⟩, ⟨1000, 0, .box 4 [bl x.2.2]⟩, ⟨3, 2, .box 27 [st x1.1, .d (.sl .matcher x1.2), .d (.sl .str x1.3), it .i64 x1.4, it .i64 x1.5, it .i64 x1.6, .d (.sl .str x1.7), bl x1.8, .d (.sl .route x1.9)]⟩, ⟨4030, gh1, Cell.tok 9 TyS.str (A.nlen TyS.str t5)⟩, ⟨35, 4, Cell.tok 3 TyS.int (A.nlen TyS.int [x1.4, x1.5, x1.6])⟩]) [] ?_
   rintro ⟨t11, t56, b0_1000⟩ gh3 g3 _ _ _ hK3 hQ3 h; cbv
   refine kj ?_
   refine bc h (fun hb h => ?_) fun hb h => ?_
   ·cbv
    refine kj ?_
    refine kk h fun c13 h => ?_
    refine kj ?_
    obtain ⟨w14, hw14, h⟩ := bd_e h; refine km hP [(1000, 0)] (hqr105 _ _ _ hw14) ?_; cbv
    refine kk h fun c15 h => ?_
    refine kj ?_
    cases h; exact hK3 _ _ [(4090, 65, g3.succ.succ)] rfl hdy
   ·cbv
    refine hQ3 _ h _ _ fun h => ?_; cbv
    refine kj ?_
    obtain ⟨w16, hw16, h⟩ := bd_e h; refine km hP [(1000, 0)] (Abd hA hw16) ?_; cbv
    refine kk h fun c17 h => ?_
    obtain ⟨w18, hw18, h⟩ := bd_e h; refine km hP [(1000, 0)] (Abd hA hw18) ?_; cbv
    cases h
    refine hR _ _ ⟨[], ⟨by rfl, ez, by rfl, ez⟩⟩
theorem Aj5 {A : Ar} (hA : A = std) : ∀ (n : Nat) (x0 : Bool) (x1 : Route) (r : ByteArray × Bool), Aca A n x0 x1 = some r → PFunM cx 105 [.bx 1000 0 0, Ab6 x1] [⟨1000, 0, .box 4 [bl x0]⟩] (st r.1) [⟨1000, 0, .box 4 [bl r.2]⟩]
 | 0, _, _, _, h => by cases h
 | n + 1, x0, x1, r, h => An4 hA (fun _ _ _ hh => Aj5 hA n _ _ _ hh) h
theorem Aqb {A : Ar} (hA : A = std) {x0 : Bool} {x1 : Route} {r : ByteArray × Bool} (h : Als A x0 x1 = some r) : PFunM cx 105 [.bx 1000 0 0, Ab6 x1] [⟨1000, 0, .box 4 [bl x0]⟩] (st r.1) [⟨1000, 0, .box 4 [bl r.2]⟩] := Aj5 hA _ _ _ _ h
theorem Amh {A : Ar} (hA : A = std) {x0 : Config} {r : ByteArray × Int} (h : Ad3 A x0 = some r) : PFun cx 26 [Ajq x0] (.tu [st r.1, it .i64 r.2]) := by
 refine wF hA cx_ok Tryz.func26 fun P R hP hR => ?_
 cbv; unfold Ad3 at h
 iterate 2 refine kj ?_
 obtain ⟨w1, hw1, h⟩ := bd_e h; refine kc hP (Ak9 hA hw1) ?_; cbv
 refine kj ?_
 refine bc h (fun hb h => ?_) fun hb h => ?_
 ·cbv
  refine kj ?_
  cases h; subst hR; exact ey
 ·cbv
  iterate 3 refine kj ?_
  refine kl h (fun x gh => [(7, .os 4030 gh TyS.str x.1), (32, it .i64 x.2)]) (fun x gh => [⟨4030, gh, .tok 9 TyS.str (A.nlen TyS.str x.1)⟩, ⟨6, 3, .box 4 [bl false]⟩, ⟨4, 1, .box 31 [.d (.sl .rule w1.1.1), st w1.1.2.1, .d (.sl .matcher w1.1.2.2), .d (.sl .str w1.1.2.3), it .i64 w1.1.2.4, it .i64 w1.1.2.5, it .i64 w1.1.2.6, .d (.sl .str w1.1.2.7), bl w1.1.2.8, .d (.sl .route w1.1.2.9), .d (.sl .str w1.1.3), .d (.sl .inhibit w1.1.4), .d (.sl .hours w1.1.5)]⟩, ⟨1, 0, .box 31 [.d (.sl .rule x0.1), st x0.2.1, .d (.sl .matcher x0.2.2), .d (.sl .str x0.2.3), it .i64 x0.2.4, it .i64 x0.2.5, it .i64 x0.2.6, .d (.sl .str x0.2.7), bl x0.2.8, .d (.sl .route x0.2.9), .d (.sl .str x0.3), .d (.sl .inhibit x0.4), .d (.sl .hours x0.5)]⟩]) [] ?_
  rintro ⟨t7, t32⟩ gh1 g1 _ _ _ hK1 hQ1 h; cbv
  refine kj ?_
  refine bc h (fun hb h => ?_) fun hb h => ?_
  ·cbv
   refine kj ?_
   refine kk h fun c2 h => ?_
   refine kj ?_
   obtain ⟨w3, hw3, h⟩ := bd_e h; refine kc hP (Ar7 hA hw3) ?_; cbv
   refine kj ?_
   refine kk h fun c4 h => ?_
   refine kj ?_
   cases h; exact hK1 _ _ [(4030, 43, g1.succ.succ.succ)] rfl hdy
  ·cbv
   refine hQ1 _ h _ _ fun h => ?_; cbv
   refine kj ?_
   refine kl h (fun x gh => [(8, .os 4060 gh TyS.str x.1), (48, it .i64 x.2)]) (fun x gh => [⟨4060, gh, .tok 9 TyS.str (A.nlen TyS.str x.1)⟩, ⟨6, 3, .box 4 [bl false]⟩, ⟨4, 1, .box 31 [.d (.sl .rule w1.1.1), st w1.1.2.1, .d (.sl .matcher w1.1.2.2), .d (.sl .str w1.1.2.3), it .i64 w1.1.2.4, it .i64 w1.1.2.5, it .i64 w1.1.2.6, .d (.sl .str w1.1.2.7), bl w1.1.2.8, .d (.sl .route w1.1.2.9), .d (.sl .str w1.1.3), .d (.sl .inhibit w1.1.4), .d (.sl .hours w1.1.5)]⟩, ⟨1, 0, .box 31 [.d (.sl .rule x0.1), st x0.2.1, .d (.sl .matcher x0.2.2), .d (.sl .str x0.2.3), it .i64 x0.2.4, it .i64 x0.2.5, it .i64 x0.2.6, .d (.sl .str x0.2.7), bl x0.2.8, .d (.sl .route x0.2.9), .d (.sl .str x0.3), .d (.sl .inhibit x0.4), .d (.sl .hours x0.5)]⟩, ⟨4030, gh1, Cell.tok 9 TyS.str (A.nlen TyS.str t7)⟩]) [] ?_
   rintro ⟨t8, t48⟩ gh2 g2 _ _ _ hK2 hQ2 h; cbv
   refine kj ?_
   refine bc h (fun hb h => ?_) fun hb h => ?_
   ·cbv
    refine kj ?_
    refine kk h fun c5 h => ?_
    refine kj ?_
    obtain ⟨w6, hw6, h⟩ := bd_e h; refine kc hP (Atj hA hw6) ?_; cbv
    refine kj ?_
    refine kk h fun c7 h => ?_
    refine kj ?_
    cases h; exact hK2 _ _ [(4060, 62, g2.succ.succ.succ)] rfl hdy
   ·cbv
    refine hQ2 _ h _ _ fun h => ?_; cbv
    refine kj ?_
    refine kl h (fun x gh => [(9, .os 4090 gh TyS.str x.1), (67, it .i64 x.2.1)]) (fun x gh => [⟨4090, gh, .tok 9 TyS.str (A.nlen TyS.str x.1)⟩, ⟨6, 3, .box 4 [bl x.2.2]⟩, ⟨4, 1, .box 31 [.d (.sl .rule w1.1.1), st w1.1.2.1, .d (.sl .matcher w1.1.2.2), .d (.sl .str w1.1.2.3), it .i64 w1.1.2.4, it .i64 w1.1.2.5, it .i64 w1.1.2.6, .d (.sl .str w1.1.2.7), bl w1.1.2.8, .d (.sl .route w1.1.2.9), .d (.sl .str w1.1.3), .d (.sl .inhibit w1.1.4), .d (.sl .hours w1.1.5)]⟩, ⟨1, 0, .box 31 [.d (.sl .rule x0.1), st x0.2.1, .d (.sl .matcher x0.2.2), .d (.sl .str x0.2.3), it .i64 x0.2.4, it .i64 x0.2.5, it .i64 x0.2.6, .d (.sl .str x0.2.7), bl x0.2.8, .d (.sl .route x0.2.9), .d (.sl .str x0.3), .d (.sl .inhibit x0.4), .d (.sl .hours x0.5)]⟩, ⟨4060, gh2, Cell.tok 9 TyS.str (A.nlen TyS.str t8)⟩, ⟨4030, gh1, Cell.tok 9 TyS.str (A.nlen TyS.str t7)⟩]) [] ?_
    rintro ⟨t9, t67, b0_6⟩ gh3 g3 _ _ _ hK3 hQ3 h; cbv
    refine kj ?_
    refine bc h (fun hb h => ?_) fun hb h => ?_
    ·cbv
     refine kj ?_
     refine kk h fun c8 h => ?_
     refine kj ?_
     obtain ⟨w9, hw9, h⟩ := bd_e h; refine km hP [(6, 3)] (Aj3 hA hw9) ?_; cbv
     refine kk h fun c10 h => ?_
     refine kj ?_
     cases h; exact hK3 _ _ [(4090, 75, g3.succ.succ)] rfl hdy
    ·cbv
     refine hQ3 _ h _ _ fun h => ?_; cbv
     refine kj ?_
     obtain ⟨w11, hw11, h⟩ := bd_e h; refine km hP [(6, 3)] (Abd hA hw11) ?_; cbv
     obtain ⟨w12, hw12, h⟩ := bd_e h; refine km hP [(6, 3)] (Abd hA hw12) ?_; cbv
     obtain ⟨w13, hw13, h⟩ := bd_e h; refine km hP [(6, 3)] (Abd hA hw13) ?_; cbv
     obtain ⟨w14, hw14, h⟩ := bd_e h; refine km hP [(6, 3)] (Abd hA hw14) ?_; cbv
     obtain ⟨w15, hw15, h⟩ := bd_e h; refine km hP [(6, 3)] (Aqb hA hw15) ?_; cbv
     obtain ⟨w16, hw16, h⟩ := bd_e h; refine km hP [(6, 3)] (Abd hA hw16) ?_; cbv
     iterate 2 refine kj ?_
     refine bc h (fun hb h => ?_) fun hb h => ?_
     ·cbv
      refine kj ?_
      cases h; subst hR; exact ey
     ·cbv
      refine kj ?_
      cases h; subst hR; exact ey
theorem Atk {A : Ar} (hA : A = std) {r : List Int} (h : Akd A = some r) : PFun cx 191 [] (.d (.ar TyS.u32 r)) := by
 refine wF hA cx_ok Tryz.func191 fun P R hP hR => ?_
 cbv; unfold Akd at h
 iterate 2 refine kj ?_
 refine kk h fun c1 h => ?_
 refine ⟨by subst hA; simp +contextual [vcm], ?_⟩
 refine kk h fun c2 h => ?_
 cases h; subst hR; exact ey
theorem Ajw {A : Ar} (hA : A = std) {x0 : Int} {x1 : Int} {r : Int} (h : Ad5 A x0 x1 = some r) : PFun cx 286 [it .u32 x0, it .i64 x1] (it .u32 r) := by
 refine wF hA cx_ok Tryz.func286 fun P R hP hR => ?_
 cbv; unfold Ad5 at h
 iterate 3 refine kj ?_
 refine kk h fun c1 h => ?_
 refine kk h fun c2 h => ?_
 exact le h hR
theorem Acj {A : Ar} (hA : A = std) {x0 : Int} {x1 : Int} {r : Int} (h : Acu A x0 x1 = some r) : PFun cx 256 [it .u32 x0, it .i64 x1] (it .u32 r) := by
 refine wF hA cx_ok Tryz.func256 fun P R hP hR => ?_
 cbv; unfold Acu at h
 iterate 2 refine kj ?_
 obtain ⟨w1, hw1, h⟩ := bd_e h; refine kc hP (Ajw hA hw1) ?_; cbv
 exact le h hR
theorem Ar8 {A : Ar} (hA : A = std) {x0 : ByteArray} {r : List Int} (h : Ajc A x0 = some r) : PFun cx 255 [st x0] (.d (.ar TyS.u32 r)) := by
 refine wF hA cx_ok Tryz.func255 fun P R hP hR => ?_
 cbv; unfold Ajc at h
 iterate 3 refine kj ?_
 refine kl h (fun x _ => [(9, it .i64 x.1)]) (fun x gh => [⟨3, 1, .arr 235 TyS.u32 x.2⟩, ⟨2, 0, Cell.arr 235 TyS.u32 (A.rep TyS.u32 (Int.ofNat 64) 0)⟩]) [] ?_
 rintro ⟨t9, row3⟩ gh1 g1 _ _ _ hK1 hQ1 h; cbv
 refine kj ?_
 refine bc h (fun hb h => ?_) fun hb h => ?_
 ·cbv
  iterate 2 refine kj ?_
  refine kl h (fun x _ => [(12, it .i64 x.1)]) (fun x gh => [⟨3, 1, .arr 235 TyS.u32 x.2⟩, ⟨2, 0, Cell.arr 235 TyS.u32 (A.rep TyS.u32 (Int.ofNat 64) 0)⟩]) [] ?_
  rintro ⟨t12, row3'⟩ gh2 g2 _ _ _ hK2 hQ2 h; cbv
  refine kj ?_
  refine bc h (fun hb h => ?_) fun hb h => ?_
  ·cbv
   iterate 2 refine kj ?_
   refine kk h fun c1 h => ?_
   refine kk h fun c2 h => ?_
   refine ⟨by subst hA; simp +contextual [vcm], ?_⟩
   refine kk h fun c3 h => ?_
   refine ⟨c1, ?_⟩
   refine ⟨c2, ?_⟩
   iterate 2 refine kj ?_
   cases h; exact hK2 _ _ [] rfl hdy
  ·cbv
   refine hQ2 _ h _ _ fun h => ?_; cbv
   refine kj ?_
   cases h; exact hK1 _ _ [] rfl hdy
 ·cbv
  refine hQ1 _ h _ _ fun h => ?_; cbv
  refine kj ?_
  refine kl h (fun x _ => [(6, it .i64 x.1)]) (fun x gh => [⟨3, 1, .arr 235 TyS.u32 x.2⟩, ⟨2, 0, Cell.arr 235 TyS.u32 (A.rep TyS.u32 (Int.ofNat 64) 0)⟩]) [] ?_
  rintro ⟨t6, row3'⟩ gh3 g3 _ _ _ hK3 hQ3 h; cbv
  refine kj ?_
  refine bc h (fun hb h => ?_) fun hb h => ?_
  ·cbv
   refine kj ?_
   refine kk h fun c4 h => ?_
   refine kk h fun c5 h => ?_
   refine kk h fun c6 h => ?_
   refine kk h fun c7 h => ?_
   iterate 2 refine kj ?_
   obtain ⟨w8, hw8, h⟩ := bd_e h; refine kc hP (Acj hA hw8) ?_; cbv
   obtain ⟨w9, hw9, h⟩ := bd_e h; refine kc hP (Acj hA hw9) ?_; cbv
   refine ⟨by subst hA; simp +contextual [vcm], ?_⟩
   refine kk h fun c10 h => ?_
   refine kk h fun c11 h => ?_
   obtain ⟨w12, hw12, h⟩ := bd_e h; refine kc hP (Acj hA hw12) ?_; cbv
   obtain ⟨w13, hw13, h⟩ := bd_e h; refine kc hP (Acj hA hw13) ?_; cbv
   refine ⟨by subst hA; simp +contextual [vcm], ?_⟩
   refine kk h fun c14 h => ?_
   refine kk h fun c15 h => ?_
   refine kk h fun c16 h => ?_
   refine kk h fun c17 h => ?_
   iterate 2 refine kj ?_
   cases h; exact hK3 _ _ [] rfl hdy
  ·cbv
   refine hQ3 _ h _ _ fun h => ?_; cbv
   refine kj ?_
   refine kk h fun c18 h => ?_
   refine kk h fun c19 h => ?_
   refine ⟨c18, ?_⟩
   refine kk h fun c20 h => ?_
   cases h; subst hR; exact ey
theorem Atl {A : Ar} (hA : A = std) {x0 : List Int} {x1 : ByteArray} {r : List Int} (h : Ake A x0 x1 = some r) : PFun cx 192 [.d (.ar TyS.u32 x0), st x1] (.d (.ar TyS.u32 r)) := by
 refine wF hA cx_ok Tryz.func192 fun P R hP hR => ?_
 cbv; unfold Ake at h
 iterate 2 refine kj ?_
 refine kk h fun c1 h => ?_
 refine kk h fun c2 h => ?_
 refine ⟨c1, ?_⟩
 refine kj ?_
 obtain ⟨w3, hw3, h⟩ := bd_e h; refine kc hP (Ar8 hA hw3) ?_; cbv
 refine kl h (fun x _ => [(19, it .i64 x.1)]) (fun x gh => [⟨5, 1, .arr 195 TyS.u32 x.2⟩, ⟨4, 0, Cell.arr 195 TyS.u32 (A.rep TyS.u32 (Int.ofNat 8) 0)⟩, ⟨2, 0, Cell.arr 195 TyS.u32 x0⟩]) [] ?_
 rintro ⟨t19, row5⟩ gh1 g1 _ _ _ hK1 hQ1 h; cbv
 refine kj ?_
 refine bc h (fun hb h => ?_) fun hb h => ?_
 ·cbv
  refine kj ?_
  refine kk h fun c4 h => ?_
  refine kk h fun c5 h => ?_
  refine kj ?_
  refine ⟨by subst hA; simp +contextual [vcm], ?_⟩
  refine kk h fun c6 h => ?_
  refine ⟨by subst hA; simp +contextual [vcm], ?_⟩
  refine kk h fun c7 h => ?_
  refine ⟨by subst hA; simp +contextual [vcm], ?_⟩
  refine kk h fun c8 h => ?_
  refine ⟨by subst hA; simp +contextual [vcm], ?_⟩
  refine kk h fun c9 h => ?_
  iterate 2 refine kj ?_
  refine ⟨by subst hA; simp +contextual [vcm], ?_⟩
  refine kk h fun c10 h => ?_
  obtain ⟨w11, hw11, h⟩ := bd_e h; refine kc hP (Acj hA hw11) ?_; cbv
  obtain ⟨w12, hw12, h⟩ := bd_e h; refine kc hP (Acj hA hw12) ?_; cbv
  obtain ⟨w13, hw13, h⟩ := bd_e h; refine kc hP (Acj hA hw13) ?_; cbv
  refine ⟨by subst hA; simp +contextual [vcm], ?_⟩
  refine kk h fun c14 h => ?_
  refine ⟨by subst hA; simp +contextual [vcm], ?_⟩
  refine kk h fun c15 h => ?_
  refine ⟨c4, ?_⟩
  iterate 2 refine kj ?_
  obtain ⟨w16, hw16, h⟩ := bd_e h; refine kc hP (Acj hA hw16) ?_; cbv
  obtain ⟨w17, hw17, h⟩ := bd_e h; refine kc hP (Acj hA hw17) ?_; cbv
  obtain ⟨w18, hw18, h⟩ := bd_e h; refine kc hP (Acj hA hw18) ?_; cbv
  refine kj ?_
  refine kk h fun c19 h => ?_
  refine ⟨c2, ?_⟩
  refine ⟨c19, ?_⟩
  refine kj ?_
  refine ⟨by subst hA; simp +contextual [vcm], ?_⟩
  refine ⟨c19, ?_⟩
  refine ⟨by subst hA; simp +contextual [vcm], ?_⟩
  refine ⟨c19, ?_⟩
  refine kk h fun c20 h => ?_
  refine kk h fun c21 h => ?_
  iterate 2 refine kj ?_
  refine ⟨by subst hA; simp +contextual [vcm], ?_⟩
  refine kk h fun c22 h => ?_
  refine ⟨by subst hA; simp +contextual [vcm], ?_⟩
  refine kk h fun c23 h => ?_
  refine ⟨by subst hA; simp +contextual [vcm], ?_⟩
  refine kk h fun c24 h => ?_
  refine kj ?_
  cases h; exact hK1 _ _ [] rfl hdy
 ·cbv
  refine hQ1 _ h _ _ fun h => ?_; cbv
  refine kj ?_
  refine kl h (fun x _ => [(93, it .i64 x.1)]) (fun x gh => [⟨2, 0, .arr 195 TyS.u32 x.2⟩, ⟨5, 1, Cell.arr 195 TyS.u32 row5⟩, ⟨4, 0, Cell.arr 195 TyS.u32 (A.rep TyS.u32 (Int.ofNat 8) 0)⟩]) [] ?_
  rintro ⟨t93, row2⟩ gh2 g2 _ _ _ hK2 hQ2 h; cbv
  refine kj ?_
  refine bc h (fun hb h => ?_) fun hb h => ?_
  ·cbv
   iterate 2 refine kj ?_
   refine kk h fun c25 h => ?_
   refine kk h fun c26 h => ?_
   refine ⟨c25, ?_⟩
   refine kk h fun c27 h => ?_
   refine ⟨c25, ?_⟩
   refine ⟨c26, ?_⟩
   iterate 2 refine kj ?_
   cases h; exact hK2 _ _ [] rfl hdy
  ·cbv
   refine hQ2 _ h _ _ fun h => ?_; cbv
   refine kj ?_
   refine kk h fun c28 h => ?_
   refine ⟨c2, ?_⟩
   refine ⟨c28, ?_⟩
   refine kk h fun c29 h => ?_
   cases h; subst hR; exact ey
theorem Adt {A : Ar} (hA : A = std) {x0 : List UInt8} {x1 : Int} {r : List UInt8} (h : Aa1 A x0 x1 = some r) : PFunM cx 115 [.bx 1000 0 0, it .u8 x1] [⟨1000, 0, .box 129 [.np 1000 0, .os 1001 0 TyS.byte x0]⟩, ⟨1001, 0, .tok 5 TyS.byte (A.nlen TyS.byte x0)⟩] (.d (.v .nilIface)) [⟨1000, 0, .box 129 [.np 1000 0, .os 2000 1 TyS.byte r]⟩, ⟨2000, 1, .tok 5 TyS.byte (A.nlen TyS.byte r)⟩] := by
 refine PFunM.walkM (fz := fun _ => false) hA cx_ok Tryz.func115 rfl rfl fun P R hP hR => ?_
 cbv; unfold Aa1 at h
 iterate 2 refine kj ?_
 obtain ⟨w1, hw1, h⟩ := bd_e h; refine km hP [(1000, 0), (1001, 0)] (Afc hA hw1) ?_; cbv
 refine kj ?_
 refine and_assoc.2 ?_
 refine kk h fun c2 h => ?_
 refine cj ?_
 refine kk h fun c3 h => ?_
 refine kj ?_
 cases h
 refine hR _ _ ⟨[(14, 4)], ⟨by rfl, ez, by rfl, ez⟩⟩
theorem Awc {A : Ar} (hA : A = std) {x0 : ByteArray} {r : ByteArray} (h : Ana A x0 = some r) : PFun cx 114 [st x0] (st r) := by
 refine PFun.walkF (fz := fun k => k == 131078) hA cx_ok Tryz.func114 rfl rfl rfl fun P R hP hR => ?_
 cbv; unfold Ana at h
 iterate 3 refine kj ?_
 iterate 2 (refine ⟨by subst hA; simp +contextual [vcm], ?_⟩)
 obtain ⟨w1, hw1, h⟩ := bd_e h; refine kc hP (Aob hA hw1) ?_; cbv
 refine kk h fun c2 h => ?_
 refine kk h fun c3 h => ?_
 refine kj ?_
 refine kl h (fun x _ => [(0, st x.1), (4, it .i64 x.2)]) (fun _ _ => []) [] ?_
 rintro ⟨s0, i4⟩ gh1 g1 _ _ _ hK1 hQ1 h; cbv
 refine kj ?_
 refine bc h (fun hb h => ?_) fun hb h => ?_
 ·cbv
  refine kj ?_
  refine kk h fun c4 h => ?_
  refine and_assoc.2 ?_
  refine kk h fun c5 h => ?_
  refine cj ?_
  refine kk h fun c6 h => ?_
  refine kj ?_
  cases h; exact hK1 _ _ [] rfl hdy
 ·cbv
  refine hQ1 _ h _ _ fun h => ?_; cbv
  refine kj ?_
  obtain ⟨w7, hw7, h⟩ := bd_e h; refine kc hP (Atk hA hw7) ?_; cbv
  refine kk h fun c8 h => ?_
  refine kk h fun c9 h => ?_
  refine kl h (fun x _ => [(0, st x.1)]) (fun x gh => [⟨5, g1.succ, .arr 195 TyS.u32 x.2⟩]) [] ?_
  rintro ⟨s0', row5⟩ gh2 g2 _ _ _ hK2 hQ2 h; cbv
  refine kj ?_
  refine bc h (fun hb h => ?_) fun hb h => ?_
  ·cbv
   refine kj ?_
   refine kk h fun c10 h => ?_
   refine kk h fun c11 h => ?_
   obtain ⟨w12, hw12, h⟩ := bd_e h; refine kc hP (Atl hA hw12) ?_; cbv
   refine ⟨c10, ?_⟩
   refine kk h fun c13 h => ?_
   iterate 2 refine kj ?_
   refine kk h fun c14 h => ?_
   cases h; exact hK2 _ _ [] rfl hdy
  ·cbv
   refine hQ2 _ h _ _ fun h => ?_; cbv
   iterate 2 refine kj ?_
   refine kk h fun c15 h => ?_
   refine kl h (fun x _ => [(45, it .i64 x.1)]) (fun x gh => [⟨4091, gh, .tok 5 TyS.byte (A.nlen TyS.byte x.2)⟩, ⟨6, g2.succ, .box 129 [PV.np 6 g2.succ, .os 4091 gh TyS.byte x.2]⟩, ⟨5, g1.succ, Cell.arr 195 TyS.u32 row5⟩]) [(4091, 65542, g2.succ)] ?_
   rintro ⟨t45, b1_6⟩ gh3 g3 _ _ _ hK3 hQ3 h; cbv
   refine kj ?_
   refine bc h (fun hb h => ?_) fun hb h => ?_
   ·cbv
    refine kj ?_
    refine kk h fun c16 h => ?_
    refine kk h fun c17 h => ?_
    refine kj ?_
    refine kl h (fun x _ => [(9, it .i64 x.1)]) (fun x gh => [⟨4121, gh, .tok 5 TyS.byte (A.nlen TyS.byte x.2)⟩, ⟨6, g2.succ, .box 129 [PV.np 6 g2.succ, .os 4121 gh TyS.byte x.2]⟩, ⟨5, g1.succ, Cell.arr 195 TyS.u32 row5⟩]) [(4121, 4091, gh3)] ?_
    rintro ⟨i9, b1_6'⟩ gh4 g4 _ _ _ hK4 hQ4 h; cbv
    refine kj ?_
    refine bc h (fun hb h => ?_) fun hb h => ?_
    ·cbv
     refine kj ?_
     refine kk h fun c18 h => ?_
     obtain ⟨w19, hw19, h⟩ := bd_e h; refine km hP [(6, g2.succ), (4121, gh4)] (Adt hA hw19) ?_; cbv
     refine kj ?_
     cases h; exact hK4 _ _ [(4121, 56, g4.succ)] rfl hdy
    ·cbv
     refine hQ4 _ h _ _ fun h => ?_; cbv
     refine kj ?_
     cases h; exact hK3 _ _ [(4091, 4121, gh4)] rfl hdy
   ·cbv
    refine hQ3 _ h _ _ fun h => ?_; cbv
    refine kj ?_
    obtain ⟨w20, hw20, h⟩ := bd_e h; refine km hP [(6, g2.succ), (4091, gh3)] (Aeb hA hw20) ?_; cbv
    exact le h hR
theorem Aok {A : Ar} (hA : A = std) {x0 : ByteArray} {r : ByteArray} (h : Aid A x0 = some r) : PFun cx 33 [st x0] (st r) := by
 refine PFun.walkF (fz := fun k => k == 131075) hA cx_ok Tryz.func33 rfl rfl rfl fun P R hP hR => ?_
 cbv; unfold Aid at h
 iterate 3 refine kj ?_
 obtain ⟨w1, hw1, h⟩ := bd_e h; refine kc hP (Awc hA hw1) ?_; cbv
 refine kk h fun c2 h => ?_
 refine kl h (fun x _ => [(11, it .i64 x.1)]) (fun x gh => [⟨4031, gh, .tok 5 TyS.byte (A.nlen TyS.byte x.2)⟩, ⟨3, 1, .box 129 [PV.np 3 1, .os 4031 gh TyS.byte x.2]⟩]) [(4031, 65539, 1)] ?_
 rintro ⟨t11, b1_3⟩ gh1 g1 _ _ _ hK1 hQ1 h; cbv
 refine kj ?_
 refine bc h (fun hb h => ?_) fun hb h => ?_
 ·cbv
  refine kj ?_
  refine kk h fun c3 h => ?_
  refine kj ?_
  refine ⟨by subst hA; simp +contextual [vcm], ?_⟩
  refine kk h fun c4 h => ?_
  obtain ⟨w5, hw5, h⟩ := bd_e h; refine km hP [(3, 1), (4031, gh1)] (Adt hA hw5) ?_; cbv
  refine kj ?_
  refine kk h fun c6 h => ?_
  obtain ⟨w7, hw7, h⟩ := bd_e h; refine km hP [(3, 1), (18, g1.succ.succ)] (Adt hA hw7) ?_; cbv
  refine kj ?_
  cases h; exact hK1 _ _ [(4031, 22, g1.succ.succ.succ)] rfl hdy
 ·cbv
  refine hQ1 _ h _ _ fun h => ?_; cbv
  refine kj ?_
  obtain ⟨w8, hw8, h⟩ := bd_e h; refine km hP [(3, 1), (4031, gh1)] (Aeb hA hw8) ?_; cbv
  exact le h hR
theorem Ar9 {A : Ar} (hA : A = std) {x0 : Config} {r : ByteArray × Int} (h : Ahg A x0 = some r) : PFun cx 27 [Ajq x0] (.tu [st r.1, it .i64 r.2]) := by
 refine wF hA cx_ok Tryz.func27 fun P R hP hR => ?_
 cbv; unfold Ahg at h
 iterate 2 refine kj ?_
 obtain ⟨w1, hw1, h⟩ := bd_e h; refine kc hP (Amh hA hw1) ?_; cbv
 refine kj ?_
 refine bc h (fun hb h => ?_) fun hb h => ?_
 ·cbv
  refine kj ?_
  cases h; subst hR; exact ey
 ·cbv
  refine kj ?_
  obtain ⟨w2, hw2, h⟩ := bd_e h; refine kc hP (Aok hA hw2) ?_; cbv
  cases h; subst hR; exact ey
theorem Ag0 {A : Ar} (hA : A = std) {x0 : Config} {r : Bool} (h : Acd A x0 = some r) : PFun cx 8 [Ajq x0] (bl r) := by
 refine wF hA cx_ok Tryz.func8 fun P R hP hR => ?_
 cbv; unfold Acd at h
 iterate 2 refine kj ?_
 obtain ⟨w1, hw1, h⟩ := bd_e h; refine kc hP (Aj0 hA hw1) ?_; cbv
 refine bc h (fun hb h => ?_) fun hb h => ?_
 ·cbv
  refine kj ?_
  obtain ⟨w2, hw2, h⟩ := bd_e h; refine kc hP (Ad7 hA hw2) ?_; cbv
  exact le h hR
 ·cbv
  refine kj ?_
  obtain ⟨w3, hw3, h⟩ := bd_e h; refine kc hP (Amh hA hw3) ?_; cbv
  refine kj ?_
  obtain ⟨w4, hw4, h⟩ := bd_e h; refine kc hP (Ar9 hA hw4) ?_; cbv
  refine kj ?_
  refine bc h (fun hb h => ?_) fun hb h => ?_
  ·cbv
   refine kj ?_
   obtain ⟨w5, hw5, h⟩ := bd_e h; refine kc hP (Ad7 hA hw5) ?_; cbv
   iterate 5 refine cj ?_
   exact le h hR
  ·cbv
   refine kj ?_
   obtain ⟨w6, hw6, h⟩ := bd_e h; refine kc hP (Ad7 hA hw6) ?_; cbv
   iterate 3 refine cj ?_
   obtain ⟨w7, hw7, h⟩ := bd_e h; refine kg hP (fun hc => (Aok hA (gd_e hw7 hc))) ?_; cbv
   iterate 6 refine cj ?_
   exact le h hR
end Go.PL
