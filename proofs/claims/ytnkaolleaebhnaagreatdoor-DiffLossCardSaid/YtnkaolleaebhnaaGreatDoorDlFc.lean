/- Texts of this claim: plain laws of what the program's functions compute. No condition of their own. -/
import Derived.Test.YtnkaolleaebhnaaGreatDoorDlFu
import Derived.Test.YtnkaolleaebhnaaGreatDoorDlLd
namespace Go.PL
set_option linter.unusedSimpArgs false
set_option linter.unusedVariables false
set_option linter.unusedSectionVars false
open Tys (Ty U)
open Enc (sz enc dflt tb ofB toB)
open Dec (dec dok)
set_option maxRecDepth 100000
open Go.Proofs
variable [GM]
theorem Ajh {A : Ar} (hA : A = std) {x0 : List Label} {x1 : List Label} {r : Bool} (h : Ack A x0 x1 = some r) : PFun cx 145 [.d (.sl TyS.label x0), .d (.sl TyS.label x1)] (bl r) := by
 refine wF hA cx_ok Tryz.func145 fun P R hP hR => ?_
 cbv; unfold Ack at h
 iterate 2 refine kj ?_
 refine bc h (fun hb h => ?_) fun hb h => ?_
 ·cbv
  refine kj ?_
  exact le h hR
 ·cbv
  refine kj ?_
  refine kl h (fun x _ => [(13, it .i64 x)]) (fun _ _ => []) [] ?_
  rintro t13 gh1 g1 _ _ _ hK1 hQ1 h; cbv
  refine kj ?_
  refine bc h (fun hb h => ?_) fun hb h => ?_
  ·cbv
   iterate 2 refine kj ?_
   refine kk h fun c1 h => ?_
   refine kk h fun c2 h => ?_
   refine kj ?_
   refine bc h (fun hb h => ?_) fun hb h => ?_
   ·cbv
    refine kj ?_
    refine hQ1 _ h _ _ fun h => ?_; cbv
    exact le h hR
   ·cbv
    refine kj ?_
    cases h; exact hK1 _ _ [] rfl hdy
  ·cbv
   refine hQ1 _ h _ _ fun h => ?_; cbv
   refine kj ?_
   exact le h hR
theorem Atk {A : Ar} (hA : A = std) {x0 : Rule} {x1 : Rule} {r : Bool} (h : Akr A x0 x1 = some r) : PFun cx 60 [Aeb x0, Aeb x1] (bl r) := by
 refine wF hA cx_ok Tryz.func60 fun P R hP hR => ?_
 cbv; unfold Akr at h
 iterate 2 refine kj ?_
 obtain ⟨w1, hw1, h⟩ := bd_e h; refine kc hP (Ajh hA hw1) ?_; cbv
 refine kj ?_
 iterate 49 refine cj ?_
 exact le h hR
theorem Auy {A : Ar} (hA : A = std) {x0 : Rule} {r : ByteArray} (h : Au5 A x0 = some r) : PFun cx 59 [Aeb x0] (st r) := by
 refine wF hA cx_ok Tryz.func59 fun P R hP hR => ?_
 cbv; unfold Au5 at h
 iterate 2 refine kj ?_
 exact le h hR
theorem Ar3 {A : Ar} (hA : A = std) {x0 : ByteArray} {r : ByteArray} (h : Aqm A x0 = some r) : PFun cx 62 [st x0] (st r) := by
 refine wF hA cx_ok Tryz.func62 fun P R hP hR => ?_
 cbv; unfold Aqm at h
 iterate 2 refine kj ?_
 exact le h hR
theorem Auz {A : Ar} (hA : A = std) {x0 : ByteArray} {x1 : ByteArray} {r : Bool} (h : Aqn A x0 x1 = some r) : PFun cx 63 [st x0, st x1] (bl r) := by
 refine wF hA cx_ok Tryz.func63 fun P R hP hR => ?_
 cbv; unfold Aqn at h
 iterate 2 refine kj ?_
 exact le h hR
theorem Au0 {A : Ar} (hA : A = std) {x0 : Hours} {r : ByteArray} (h : Au6 A x0 = some r) : PFun cx 65 [Ac4 x0] (st r) := by
 refine wF hA cx_ok Tryz.func65 fun P R hP hR => ?_
 cbv; unfold Au6 at h
 iterate 2 refine kj ?_
 exact le h hR
theorem Au1 {A : Ar} (hA : A = std) {x0 : Hours} {x1 : Hours} {r : Bool} (h : Aqo A x0 x1 = some r) : PFun cx 66 [Ac4 x0, Ac4 x1] (bl r) := by
 refine wF hA cx_ok Tryz.func66 fun P R hP hR => ?_
 cbv; unfold Aqo at h
 iterate 2 refine kj ?_
 exact le h hR
theorem Aqc {α : Type} {lk : α → α → Option Bool} {x y : α} (h : (lk x y).isSome = true) : lk x y = some (likeB lk x y) := by
 unfold likeB
 cases e : lk x y with
 | none => rw [e] at h; cases h
 | some v => rfl
theorem Anv {A : Ar} (hA : A = std) {x1 : ByteArray} {x2 : List Rule} {x3 : List Rule} {r : List ByteArray} (h : Ahc A x1 x2 x3 = some r) : PFunM cx 58 [.d (.v (.slice none 0 0)), st x1, .ag [.d (.sl TyS.rule x2), .d (.sl TyS.rule x3), .fn (.func 59) [] [], .fn (.func 60) [] []]] [] (.os 2000 1 TyS.str r) [⟨2000, 1, .tok 9 TyS.str (A.nlen TyS.str r)⟩] := by
 unfold Ahc Agz at h
 obtain ⟨h1, h⟩ := ck_e h
 obtain ⟨h2, h⟩ := ck_e h
 obtain ⟨h3, h⟩ := ck_e h
 cases h
 exact PFunM.fz (A0t hA 59 60 _ _ x1 x2 x3 (fun x => Auy hA rfl) (fun x hx y hy => Atk hA (Aqc (h1 x hx y hy))) h2 h3)
theorem Amz {A : Ar} (hA : A = std) {x0 : List ByteArray} {x1 : ByteArray} {x2 : List ByteArray} {x3 : List ByteArray} {r : List ByteArray} (h : Af3 A x0 x1 x2 x3 = some r) : PFunM cx 61 [.os 1000 0 TyS.str x0, st x1, .ag [.d (.sl TyS.str x2), .d (.sl TyS.str x3), .fn (.func 62) [] [], .fn (.func 63) [] []]] [⟨1000, 0, .tok 9 TyS.str (A.nlen TyS.str x0)⟩] (.os 2000 1 TyS.str r) [⟨2000, 1, .tok 9 TyS.str (A.nlen TyS.str r)⟩] := by
 unfold Af3 Agz at h
 obtain ⟨h1, h⟩ := ck_e h
 obtain ⟨h2, h⟩ := ck_e h
 obtain ⟨h3, h⟩ := ck_e h
 cases h
 exact PFunM.fz (Awk hA 62 63 _ _ x0 x1 x2 x3 (fun x => Ar3 hA rfl) (fun x hx y hy => Auz hA (Aqc (h1 x hx y hy))) h2 h3)
theorem Anh {A : Ar} (hA : A = std) {x0 : List ByteArray} {x1 : ByteArray} {x2 : List Hours} {x3 : List Hours} {r : List ByteArray} (h : Agm A x0 x1 x2 x3 = some r) : PFunM cx 64 [.os 1000 0 TyS.str x0, st x1, .ag [.d (.sl TyS.hours x2), .d (.sl TyS.hours x3), .fn (.func 65) [] [], .fn (.func 66) [] []]] [⟨1000, 0, .tok 9 TyS.str (A.nlen TyS.str x0)⟩] (.os 2000 1 TyS.str r) [⟨2000, 1, .tok 9 TyS.str (A.nlen TyS.str r)⟩] := by
 unfold Agm Agz at h
 obtain ⟨h1, h⟩ := ck_e h
 obtain ⟨h2, h⟩ := ck_e h
 obtain ⟨h3, h⟩ := ck_e h
 cases h
 exact PFunM.fz (Ayq hA 65 66 _ _ x0 x1 x2 x3 (fun x => Au0 hA rfl) (fun x hx y hy => Au1 hA (Aqc (h1 x hx y hy))) h2 h3)
theorem Aji {A : Ar} (hA : A = std) {rf : Route → Int → Option Int} {x0 : Route} {x1 : Int} (hqr34 : ∀ (x0 : Route) (x1 : Int) (r : Int), rf x0 x1 = some r → PFun cx 34 [Aa4 x0, it .i64 x1] (it .i64 r)) {r : Int} (h : Ads A rf x0 x1 = some r) : PFun cx 34 [Aa4 x0, it .i64 x1] (it .i64 r) := by
 refine wF hA cx_ok Tryz.func34 fun P R hP hR => ?_
 cbv; unfold Ads at h
 iterate 3 refine kj ?_
 refine kl h (fun x _ => [(5, it .i64 x.1), (11, it .i64 x.2)]) (fun x gh => [⟨2, 0, .box 27 [st x0.1, .d (.sl .matcher x0.2), .d (.sl .str x0.3), it .i64 x0.4, it .i64 x0.5, it .i64 x0.6, .d (.sl .str x0.7), bl x0.8, .d (.sl .route x0.9)]⟩]) [] ?_
 rintro ⟨n5, t11⟩ gh1 g1 _ _ _ hK1 hQ1 h; cbv
 refine kj ?_
 refine bc h (fun hb h => ?_) fun hb h => ?_
 ·cbv
  refine kj ?_
  refine kk h fun c1 h => ?_
  refine kj ?_
  refine bc h (fun hb h => ?_) fun hb h => ?_
  ·cbv
   refine hQ1 _ h _ _ fun h => ?_; cbv
   refine kj ?_
   exact le h hR
  ·cbv
   refine kj ?_
   obtain ⟨w2, hw2, h⟩ := bd_e h; refine kc hP (hqr34 _ _ _ hw2) ?_; cbv
   refine kj ?_
   cases h; exact hK1 _ _ [] rfl hdy
 ·cbv
  refine hQ1 _ h _ _ fun h => ?_; cbv
  refine kj ?_
  exact le h hR
theorem Afv {A : Ar} (hA : A = std) : ∀ (n : Nat) (x0 : Route) (x1 : Int) (r : Int), Abh A n x0 x1 = some r → PFun cx 34 [Aa4 x0, it .i64 x1] (it .i64 r)
 | 0, _, _, _, h => by cases h
 | n + 1, x0, x1, r, h => Aji hA (fun _ _ _ hh => Afv hA n _ _ _ hh) h
theorem Akg {A : Ar} (hA : A = std) {x0 : Route} {x1 : Int} {r : Int} (h : Afk A x0 x1 = some r) : PFun cx 34 [Aa4 x0, it .i64 x1] (it .i64 r) := Afv hA _ _ _ _ h
theorem Akm {A : Ar} (hA : A = std) {x0 : Config} {r : Bool} (h : Adh A x0 = some r) : PFun cx 10 [Afq x0] (bl r) := by
 refine wF hA cx_ok Tryz.func10 fun P R hP hR => ?_
 cbv; unfold Adh at h
 iterate 2 refine kj ?_
 obtain ⟨w1, hw1, h⟩ := bd_e h; refine kc hP (Akg hA hw1) ?_; cbv
 iterate 20 refine cj ?_
 exact le h hR
theorem Ai4 {A : Ar} (hA : A = std) {x0 : Rule} {qc0 : Rule → Option Bool} {gc0 : Nat} {capc0 : List D} (hcapc0 : capOK capc0) (hqc0 : ∀ (y0 : Rule) (r : Bool), qc0 y0 = some r → PFun cx gc0 ((Aeb y0) :: un.uns capc0) (bl r)) {r : Bool} (h : Af4 A x0 qc0 = some r) : PFun cx 117 [Aeb x0, .ip [.fun (.func gc0) [] capc0]] (bl r) := by
 rcases hcapc0 with rfl | ⟨dscapc0, rfl⟩
 all_goals
  refine wF hA cx_ok Tryz.func117 fun P R hP hR => ?_
  cbv; unfold Af4 at h
  iterate 2 refine kj ?_
  obtain ⟨w1, hw1, h⟩ := bd_e h; refine kc hP (hqc0 _ _ hw1) ?_; cbv
  exact le h hR
theorem Air {A : Ar} (hA : A = std) {x0 : List Rule} {q1 : Rule → Option Bool} {g1 : Nat} {cap1 : List PV} (hcap1 : bare.bares cap1 = true) (hq1 : ∀ (y0 : Rule) (r : Bool), q1 y0 = some r → PFun cx g1 ((Aeb y0) :: cap1) (bl r)) {r : Int} (h : Ac5 A x0 q1 = some r) : PFun cx 161 [.d (.sl TyS.rule x0), .fn (.func g1) [] cap1] (it .i64 r) := by
 refine wF hA cx_ok Tryz.func161 fun P R hP hR => ?_
 cbv; unfold Ac5 at h
 iterate 2 refine kj ?_
 refine kl h (fun x _ => [(8, it .i64 x)]) (fun _ _ => []) [] ?_
 rintro t8 gh1 g1 _ _ _ hK1 hQ1 h; cbv
 refine kj ?_
 refine bc h (fun hb h => ?_) fun hb h => ?_
 ·cbv
  iterate 2 refine kj ?_
  refine kk h fun c1 h => ?_
  obtain ⟨w2, hw2, h⟩ := bd_e h; refine kc hP (hq1 _ _ hw2) ?_ (by first | rfl | simp [bare, bare.bares, hcap1]); cbv
  refine bc h (fun hb h => ?_) fun hb h => ?_
  ·cbv
   refine kj ?_
   refine hQ1 _ h _ _ fun h => ?_; cbv
   exact le h hR
  ·cbv
   refine kj ?_
   cases h; exact hK1 _ _ [] rfl hdy
 ·cbv
  refine hQ1 _ h _ _ fun h => ?_; cbv
  refine kj ?_
  exact le h hR
theorem Abz {A : Ar} (hA : A = std) {x0 : List Rule} {q1 : Rule → Option Bool} {g1 : Nat} {cap1 : List PV} (hcap1 : bare.bares cap1 = true) (hq1 : ∀ (y0 : Rule) (r : Bool), q1 y0 = some r → PFun cx g1 ((Aeb y0) :: cap1) (bl r)) {r : Bool} (h : Aal A x0 q1 = some r) : PFun cx 82 [.d (.sl TyS.rule x0), .fn (.func g1) [] cap1] (bl r) := by
 refine wF hA cx_ok Tryz.func82 fun P R hP hR => ?_
 cbv; unfold Aal at h
 iterate 2 refine kj ?_
 obtain ⟨w1, hw1, h⟩ := bd_e h; refine kc hP (Air hA hcap1 hq1 hw1) ?_ (by first | rfl | simp [bare, bare.bares, hcap1]); cbv
 exact le h hR
theorem Anw {A : Ar} (hA : A = std) {x0 : List Rule} {x1 : Int} {q2 : Rule → Option Bool} {g2 : Nat} {cap2 : List D} (hcap2 : capOK cap2) (hq2 : ∀ (y0 : Rule) (r : Bool), q2 y0 = some r → PFun cx g2 ((Aeb y0) :: un.uns cap2) (bl r)) {r : Bool} (h : Aee A x0 x1 q2 = some r) : PFun cx 35 [.d (.sl TyS.rule x0), it .i64 x1, .fn (.func g2) [] (un.uns cap2)] (bl r) := by
 rcases hcap2 with rfl | ⟨dscap2, rfl⟩
 ·refine PFun.walkF (fz := fun k => k == 5) hA cx_ok Tryz.func35 rfl rfl rfl fun P R hP hR => ?_
  cbv; unfold Aee at h
  iterate 2 refine kj ?_
  iterate 2 refine cj ?_
  obtain ⟨w1, hw1, h⟩ := bd_e h; refine kg hP (fun hc => (Abz hA (by rfl) (fun _ _ hw => Ai4 (capc0 := []) hA (by first | exact .inl rfl | exact .inr ⟨_, rfl⟩) hq2 hw) (gd_e hw1 hc))) ?_; cbv
  iterate 2 refine cj ?_
  exact le h hR
 ·refine PFun.walkF (fz := fun k => k == 5) hA cx_ok Tryz.func35 rfl rfl rfl fun P R hP hR => ?_
  cbv; unfold Aee at h
  iterate 2 refine kj ?_
  iterate 2 refine cj ?_
  obtain ⟨w1, hw1, h⟩ := bd_e h; refine kg hP (fun hc => (Abz hA (by rfl) (fun _ _ hw => Ai4 (capc0 := [D.ptr dscap2]) hA (by first | exact .inl rfl | exact .inr ⟨_, rfl⟩) hq2 hw) (gd_e hw1 hc))) ?_; cbv
  iterate 2 refine cj ?_
  exact le h hR
theorem Ajj {A : Ar} (hA : A = std) {x0 : List Def} {q1 : Def → Option Bool} {g1 : Nat} {cap1 : List PV} (hcap1 : bare.bares cap1 = true) (hq1 : ∀ (y0 : Def) (r : Bool), q1 y0 = some r → PFun cx g1 ((defPV y0) :: cap1) (bl r)) {r : Int} (h : Adt A x0 q1 = some r) : PFun cx 260 [.d (.sl TyS.dfn x0), .fn (.func g1) [] cap1] (it .i64 r) := by
 refine wF hA cx_ok Tryz.func260 fun P R hP hR => ?_
 cbv; unfold Adt at h
 iterate 2 refine kj ?_
 refine kl h (fun x _ => [(8, it .i64 x)]) (fun _ _ => []) [] ?_
 rintro t8 gh1 g1 _ _ _ hK1 hQ1 h; cbv
 refine kj ?_
 refine bc h (fun hb h => ?_) fun hb h => ?_
 ·cbv
  iterate 2 refine kj ?_
  refine kk h fun c1 h => ?_
  obtain ⟨w2, hw2, h⟩ := bd_e h; refine kc hP (hq1 _ _ hw2) ?_ (by first | rfl | simp [bare, bare.bares, hcap1]); cbv
  refine bc h (fun hb h => ?_) fun hb h => ?_
  ·cbv
   refine kj ?_
   refine hQ1 _ h _ _ fun h => ?_; cbv
   exact le h hR
  ·cbv
   refine kj ?_
   cases h; exact hK1 _ _ [] rfl hdy
 ·cbv
  refine hQ1 _ h _ _ fun h => ?_; cbv
  refine kj ?_
  exact le h hR
theorem Aib {A : Ar} (hA : A = std) {x0 : List Def} {q1 : Def → Option Bool} {g1 : Nat} {cap1 : List PV} (hcap1 : bare.bares cap1 = true) (hq1 : ∀ (y0 : Def) (r : Bool), q1 y0 = some r → PFun cx g1 ((defPV y0) :: cap1) (bl r)) {r : Bool} (h : Ab3 A x0 q1 = some r) : PFun cx 198 [.d (.sl TyS.dfn x0), .fn (.func g1) [] cap1] (bl r) := by
 refine wF hA cx_ok Tryz.func198 fun P R hP hR => ?_
 cbv; unfold Ab3 at h
 iterate 2 refine kj ?_
 obtain ⟨w1, hw1, h⟩ := bd_e h; refine kc hP (Ajj hA hcap1 hq1 hw1) ?_ (by first | rfl | simp [bare, bare.bares, hcap1]); cbv
 exact le h hR
theorem Aqd {A : Ar} (hA : A = std) {x0 : Int} {r : Bool} (h : Ag0 A x0 = some r) : PFun cx 289 [it .u8 x0] (bl r) := by
 refine wF hA cx_ok Tryz.func289 fun P R hP hR => ?_
 cbv; unfold Ag0 at h
 iterate 2 refine kj ?_
 iterate 6 refine cj ?_
 refine ⟨by subst hA; simp +contextual [vcm], ?_⟩
 iterate 3 refine cj ?_
 exact le h hR
theorem Ais {A : Ar} (hA : A = std) {x0 : List UInt8} {q1 : Int → Option Bool} {g1 : Nat} {cap1 : List PV} (hcap1 : bare.bares cap1 = true) (hq1 : ∀ (y0 : Int) (r : Bool), q1 y0 = some r → PFun cx g1 ((it .u8 y0) :: cap1) (bl r)) {r : Int} (h : Ac6 A x0 q1 = some r) : PFun cx 204 [.d (.sl TyS.byte x0), .fn (.func g1) [] cap1] (it .i64 r) := by
 refine wF hA cx_ok Tryz.func204 fun P R hP hR => ?_
 cbv; unfold Ac6 at h
 iterate 2 refine kj ?_
 refine kl h (fun x _ => [(8, it .i64 x)]) (fun _ _ => []) [] ?_
 rintro t8 gh1 g1 _ _ _ hK1 hQ1 h; cbv
 refine kj ?_
 refine bc h (fun hb h => ?_) fun hb h => ?_
 ·cbv
  iterate 2 refine kj ?_
  refine kk h fun c1 h => ?_
  obtain ⟨w2, hw2, h⟩ := bd_e h; refine kc hP (hq1 _ _ hw2) ?_ (by first | rfl | simp [bare, bare.bares, hcap1]); cbv
  refine bc h (fun hb h => ?_) fun hb h => ?_
  ·cbv
   refine kj ?_
   refine hQ1 _ h _ _ fun h => ?_; cbv
   exact le h hR
  ·cbv
   refine kj ?_
   cases h; exact hK1 _ _ [] rfl hdy
 ·cbv
  refine hQ1 _ h _ _ fun h => ?_; cbv
  refine kj ?_
  exact le h hR
theorem Abc {A : Ar} (hA : A = std) {x0 : List UInt8} {q1 : Int → Option Bool} {g1 : Nat} {cap1 : List PV} (hcap1 : bare.bares cap1 = true) (hq1 : ∀ (y0 : Int) (r : Bool), q1 y0 = some r → PFun cx g1 ((it .u8 y0) :: cap1) (bl r)) {r : Bool} (h : Aab A x0 q1 = some r) : PFun cx 130 [.d (.sl TyS.byte x0), .fn (.func g1) [] cap1] (bl r) := by
 refine wF hA cx_ok Tryz.func130 fun P R hP hR => ?_
 cbv; unfold Aab at h
 iterate 2 refine kj ?_
 obtain ⟨w1, hw1, h⟩ := bd_e h; refine kc hP (Ais hA hcap1 hq1 hw1) ?_ (by first | rfl | simp [bare, bare.bares, hcap1]); cbv
 exact le h hR
theorem Anx {A : Ar} (hA : A = std) {x0 : ByteArray} {r : Bool} (h : Ag1 A x0 = some r) : PFun cx 261 [st x0] (bl r) := by
 refine wF hA cx_ok Tryz.func261 fun P R hP hR => ?_
 cbv; unfold Ag1 at h
 iterate 3 refine kj ?_
 iterate 6 refine cj ?_
 obtain ⟨w1, hw1, h⟩ := bd_e h; refine kf hP (fun hc => (Abc hA (by rfl) (fun _ _ hw => Aqd hA hw) (gd_e hw1 hc))) ?_; cbv
 iterate 2 refine cj ?_
 exact le h hR
theorem Ait {A : Ar} (hA : A = std) {x0 : List ByteArray} {x1 : ByteArray} {r : Int} (h : Acd A x0 x1 = some r) : PFun cx 136 [.d (.sl TyS.str x0), st x1] (it .i64 r) := by
 refine wF hA cx_ok Tryz.func136 fun P R hP hR => ?_
 cbv; unfold Acd at h
 iterate 2 refine kj ?_
 refine kl h (fun x _ => [(8, it .i64 x)]) (fun _ _ => []) [] ?_
 rintro t8 gh1 g1 _ _ _ hK1 hQ1 h; cbv
 refine kj ?_
 refine bc h (fun hb h => ?_) fun hb h => ?_
 ·cbv
  iterate 2 refine kj ?_
  refine kk h fun c1 h => ?_
  refine bc h (fun hb h => ?_) fun hb h => ?_
  ·cbv
   refine kj ?_
   refine hQ1 _ h _ _ fun h => ?_; cbv
   exact le h hR
  ·cbv
   refine kj ?_
   cases h; exact hK1 _ _ [] rfl hdy
 ·cbv
  refine hQ1 _ h _ _ fun h => ?_; cbv
  refine kj ?_
  exact le h hR
theorem Ab0 {A : Ar} (hA : A = std) {x0 : List ByteArray} {x1 : ByteArray} {r : Bool} (h : Aav A x0 x1 = some r) : PFun cx 56 [.d (.sl TyS.str x0), st x1] (bl r) := by
 refine wF hA cx_ok Tryz.func56 fun P R hP hR => ?_
 cbv; unfold Aav at h
 iterate 2 refine kj ?_
 obtain ⟨w1, hw1, h⟩ := bd_e h; refine kc hP (Ait hA hw1) ?_; cbv
 exact le h hR
theorem Ag7 {A : Ar} (hA : A = std) {x0 : List ByteArray} {q1 : ByteArray → Option Bool} {g1 : Nat} {cap1 : List PV} (hcap1 : bare.bares cap1 = true) (hq1 : ∀ (y0 : ByteArray) (r : Bool), q1 y0 = some r → PFun cx g1 ((st y0) :: cap1) (bl r)) {r : Int} (h : Acf A x0 q1 = some r) : PFun cx 197 [.d (.sl TyS.str x0), .fn (.func g1) [] cap1] (it .i64 r) := by
 refine wF hA cx_ok Tryz.func197 fun P R hP hR => ?_
 cbv; unfold Acf at h
 iterate 2 refine kj ?_
 refine kl h (fun x _ => [(8, it .i64 x)]) (fun _ _ => []) [] ?_
 rintro t8 gh1 g1 _ _ _ hK1 hQ1 h; cbv
 refine kj ?_
 refine bc h (fun hb h => ?_) fun hb h => ?_
 ·cbv
  iterate 2 refine kj ?_
  refine kk h fun c1 h => ?_
  obtain ⟨w2, hw2, h⟩ := bd_e h; refine kc hP (hq1 _ _ hw2) ?_ (by first | rfl | simp [bare, bare.bares, hcap1]); cbv
  refine bc h (fun hb h => ?_) fun hb h => ?_
  ·cbv
   refine kj ?_
   refine hQ1 _ h _ _ fun h => ?_; cbv
   exact le h hR
  ·cbv
   refine kj ?_
   cases h; exact hK1 _ _ [] rfl hdy
 ·cbv
  refine hQ1 _ h _ _ fun h => ?_; cbv
  refine kj ?_
  exact le h hR
theorem Acg {A : Ar} (hA : A = std) {x0 : List ByteArray} {q1 : ByteArray → Option Bool} {g1 : Nat} {cap1 : List PV} (hcap1 : bare.bares cap1 = true) (hq1 : ∀ (y0 : ByteArray) (r : Bool), q1 y0 = some r → PFun cx g1 ((st y0) :: cap1) (bl r)) {r : Bool} (h : Aas A x0 q1 = some r) : PFun cx 122 [.d (.sl TyS.str x0), .fn (.func g1) [] cap1] (bl r) := by
 refine wF hA cx_ok Tryz.func122 fun P R hP hR => ?_
 cbv; unfold Aas at h
 iterate 2 refine kj ?_
 obtain ⟨w1, hw1, h⟩ := bd_e h; refine kc hP (Ag7 hA hcap1 hq1 hw1) ?_ (by first | rfl | simp [bare, bare.bares, hcap1]); cbv
 exact le h hR
theorem Apm {A : Ar} (hA : A = std) {x0 : Int} {r : Bool} (h : Ak6 A x0 = some r) : PFun cx 290 [it .u8 x0] (bl r) := by
 refine wF hA cx_ok Tryz.func290 fun P R hP hR => ?_
 cbv; unfold Ak6 at h
 iterate 2 refine kj ?_
 iterate 4 refine cj ?_
 exact le h hR
theorem Ar4 {A : Ar} (hA : A = std) {x0 : ByteArray} {r : Bool} (h : Anl A x0 = some r) : PFun cx 263 [st x0] (bl r) := by
 refine wF hA cx_ok Tryz.func263 fun P R hP hR => ?_
 cbv; unfold Anl at h
 iterate 3 refine kj ?_
 iterate 4 refine cj ?_
 obtain ⟨w1, hw1, h⟩ := bd_e h; refine kg hP (fun hc => (Arb hA (gd_e hw1 hc))) ?_; cbv
 iterate 6 refine cj ?_
 obtain ⟨w2, hw2, h⟩ := bd_e h; refine kf hP (fun hc => (Abc hA (by rfl) (fun _ _ hw => Apm hA hw) (gd_e hw2 hc))) ?_; cbv
 iterate 2 refine cj ?_
 exact le h hR
theorem Ar5 {A : Ar} (hA : A = std) {x0 : ByteArray} {r : Bool} (h : Anm A x0 = some r) : PFun cx 262 [st x0] (bl r) := by
 refine wF hA cx_ok Tryz.func262 fun P R hP hR => ?_
 cbv; unfold Anm at h
 iterate 2 refine kj ?_
 obtain ⟨w1, hw1, h⟩ := bd_e h; refine kc hP (Ar4 hA hw1) ?_; cbv
 exact le h hR
theorem Au2 {A : Ar} (hA : A = std) {x0 : Def} {r : Bool} (h : An2 A x0 = some r) : PFun cx 200 [defPV x0] (bl r) := by
 refine wF hA cx_ok Tryz.func200 fun P R hP hR => ?_
 cbv; unfold An2 at h
 iterate 2 refine kj ?_
 refine kl h (fun x _ => [(8, it .i64 x)]) (fun x gh => [⟨1, 0, .box 141 [st x0.1, .d (.sl .str x0.2), .d (.sl .str x0.3)]⟩]) [] ?_
 rintro t8 gh1 g1 _ _ _ hK1 hQ1 h; cbv
 refine kj ?_
 refine bc h (fun hb h => ?_) fun hb h => ?_
 ·cbv
  refine kj ?_
  refine kk h fun c1 h => ?_
  refine kj ?_
  obtain ⟨w2, hw2, h⟩ := bd_e h; refine kc hP (Anx hA hw2) ?_; cbv
  iterate 4 refine cj ?_
  refine kk h fun c3 h => ?_
  iterate 2 refine cj ?_
  obtain ⟨w4, hw4, h⟩ := bd_e h; refine kg hP (fun hc => (Ab0 hA (gd_e hw4 hc))) ?_; cbv
  refine cj ?_
  refine bc h (fun hb h => ?_) fun hb h => ?_
  ·cbv
   refine kj ?_
   refine hQ1 _ h _ _ fun h => ?_; cbv
   exact le h hR
  ·cbv
   refine kj ?_
   cases h; exact hK1 _ _ [] rfl hdy
 ·cbv
  refine hQ1 _ h _ _ fun h => ?_; cbv
  refine kj ?_
  obtain ⟨w5, hw5, h⟩ := bd_e h; refine kc hP (Anx hA hw5) ?_; cbv
  iterate 17 refine cj ?_
  obtain ⟨w6, hw6, h⟩ := bd_e h; refine kf hP (fun hc => (Acg hA (by rfl) (fun _ _ hw => Ar5 hA hw) (gd_e hw6 hc))) ?_; cbv
  iterate 2 refine cj ?_
  exact le h hR
theorem Apn {A : Ar} (hA : A = std) {x0 : Def} {r : Bool} (h : Ai6 A x0 = some r) : PFun cx 199 [defPV x0] (bl r) := by
 refine wF hA cx_ok Tryz.func199 fun P R hP hR => ?_
 cbv; unfold Ai6 at h
 iterate 2 refine kj ?_
 obtain ⟨w1, hw1, h⟩ := bd_e h; refine kc hP (Au2 hA hw1) ?_; cbv
 exact le h hR
theorem Akh {A : Ar} (hA : A = std) {x0 : List Def} {r : Bool} (h : Agq A x0 = some r) : PFun cx 124 [.d (.sl TyS.dfn x0)] (bl r) := by
 refine wF hA cx_ok Tryz.func124 fun P R hP hR => ?_
 cbv; unfold Agq at h
 iterate 2 refine kj ?_
 refine cj ?_
 obtain ⟨w1, hw1, h⟩ := bd_e h; refine kf hP (fun hc => (Aib hA (by rfl) (fun _ _ hw => Apn hA hw) (gd_e hw1 hc))) ?_; cbv
 iterate 2 refine cj ?_
 exact le h hR
theorem Anz {A : Ar} (hA : A = std) {x0 : ByteArray} {r : Bool} (h : Ajf A x0 = some r) : PFun cx 118 [st x0] (bl r) := by
 refine wF hA cx_ok Tryz.func118 fun P R hP hR => ?_
 cbv; unfold Ajf at h
 iterate 2 refine kj ?_
 obtain ⟨w1, hw1, h⟩ := bd_e h; refine kc hP (Akh hA hw1) ?_; cbv
 exact le h hR
theorem An0 {A : Ar} (hA : A = std) {x0 : Int} {r : Bool} (h : Aks A x0 = some r) : PFun cx 119 [it .i64 x0] (bl r) := by
 refine wF hA cx_ok Tryz.func119 fun P R hP hR => ?_
 cbv; unfold Aks at h
 iterate 2 refine kj ?_
 iterate 2 refine cj ?_
 exact le h hR
theorem Aqe {A : Ar} (hA : A = std) {x0 : Int} {r : Bool} (h : Aih A x0 = some r) : PFun cx 287 [it .u8 x0] (bl r) := by
 refine wF hA cx_ok Tryz.func287 fun P R hP hR => ?_
 cbv; unfold Aih at h
 iterate 2 refine kj ?_
 iterate 6 refine cj ?_
 refine ⟨by subst hA; simp +contextual [vcm], ?_⟩
 iterate 3 refine cj ?_
 exact le h hR
theorem Atl {A : Ar} (hA : A = std) {x0 : ByteArray} {r : Bool} (h : Akt A x0 = some r) : PFun cx 258 [st x0] (bl r) := by
 refine wF hA cx_ok Tryz.func258 fun P R hP hR => ?_
 cbv; unfold Akt at h
 iterate 2 refine kj ?_
 refine kl h (fun x _ => [(2, bl x.1), (7, it .i64 x.2)]) (fun _ _ => []) [] ?_
 rintro ⟨t2, t7⟩ gh1 g1 _ _ _ hK1 hQ1 h; cbv
 refine kj ?_
 refine bc h (fun hb h => ?_) fun hb h => ?_
 ·cbv
  iterate 2 refine kj ?_
  refine kk h fun c1 h => ?_
  refine kj ?_
  obtain ⟨w2, hw2, h⟩ := bd_e h; refine kc hP (Aqe hA hw2) ?_; cbv
  iterate 4 refine cj ?_
  refine ⟨by subst hA; simp +contextual [vcm], ?_⟩
  iterate 3 refine cj ?_
  refine ⟨by subst hA; simp +contextual [vcm], ?_⟩
  refine cj ?_
  refine bc h (fun hb h => ?_) fun hb h => ?_
  ·cbv
   refine kj ?_
   refine hQ1 _ h _ _ fun h => ?_; cbv
   exact le h hR
  ·cbv
   refine kj ?_
   cases h; exact hK1 _ _ [] rfl hdy
 ·cbv
  refine hQ1 _ h _ _ fun h => ?_; cbv
  refine kj ?_
  iterate 3 refine cj ?_
  exact le h hR
theorem Apo {A : Ar} (hA : A = std) {x0 : Int} {r : Bool} (h : Ai8 A x0 = some r) : PFun cx 288 [it .u8 x0] (bl r) := by
 refine wF hA cx_ok Tryz.func288 fun P R hP hR => ?_
 cbv; unfold Ai8 at h
 iterate 2 refine kj ?_
 iterate 2 refine cj ?_
 exact le h hR
theorem Ar6 {A : Ar} (hA : A = std) {x0 : ByteArray} {r : Bool} (h : Ajq A x0 = some r) : PFun cx 259 [st x0] (bl r) := by
 refine wF hA cx_ok Tryz.func259 fun P R hP hR => ?_
 cbv; unfold Ajq at h
 iterate 2 refine kj ?_
 iterate 5 refine cj ?_
 obtain ⟨w1, hw1, h⟩ := bd_e h; refine kf hP (fun hc => (Abc hA (by rfl) (fun _ _ hw => Apo hA hw) (gd_e hw1 hc))) ?_; cbv
 iterate 2 refine cj ?_
 exact le h hR
theorem Au3 {A : Ar} (hA : A = std) {x0 : Label} {r : Bool} (h : Aku A x0 = some r) : PFun cx 194 [Aq9 x0] (bl r) := by
 refine wF hA cx_ok Tryz.func194 fun P R hP hR => ?_
 cbv; unfold Aku at h
 iterate 2 refine kj ?_
 obtain ⟨w1, hw1, h⟩ := bd_e h; refine kc hP (Atl hA hw1) ?_; cbv
 iterate 3 refine cj ?_
 obtain ⟨w2, hw2, h⟩ := bd_e h; refine kg hP (fun hc => (Ar6 hA (gd_e hw2 hc))) ?_; cbv
 refine cj ?_
 exact le h hR
theorem Age {A : Ar} (hA : A = std) {x0 : List Label} {r : Bool} (h : Ady A x0 = some r) : PFun cx 120 [.d (.sl TyS.label x0)] (bl r) := by
 refine wF hA cx_ok Tryz.func120 fun P R hP hR => ?_
 cbv; unfold Ady at h
 iterate 2 refine kj ?_
 refine kl h (fun x _ => [(7, it .i64 x)]) (fun _ _ => []) [] ?_
 rintro t7 gh1 g1 _ _ _ hK1 hQ1 h; cbv
 refine kj ?_
 refine bc h (fun hb h => ?_) fun hb h => ?_
 ·cbv
  refine kj ?_
  refine kk h fun c1 h => ?_
  refine kj ?_
  obtain ⟨w2, hw2, h⟩ := bd_e h; refine kc hP (Au3 hA hw2) ?_; cbv
  iterate 5 refine cj ?_
  refine kk h fun c3 h => ?_
  iterate 7 refine cj ?_
  refine ⟨by subst hA; simp +contextual [vcm], ?_⟩
  refine cj ?_
  refine kj ?_
  refine bc h (fun hb h => ?_) fun hb h => ?_
  ·cbv
   refine kj ?_
   refine hQ1 _ h _ _ fun h => ?_; cbv
   exact le h hR
  ·cbv
   refine kj ?_
   cases h; exact hK1 _ _ [] rfl hdy
 ·cbv
  refine hQ1 _ h _ _ fun h => ?_; cbv
  refine kj ?_
  exact le h hR
theorem Ar7 {A : Ar} (hA : A = std) {x0 : Label} {c0 : ByteArray} {r : Bool} (h : Ajr A x0 c0 = some r) : PFun cx 196 [Aq9 x0, .ip [.v (.string c0)]] (bl r) := by
 refine wF hA cx_ok Tryz.func196 fun P R hP hR => ?_
 cbv; unfold Ajr at h
 iterate 2 refine kj ?_
 exact le h hR
theorem Aep {A : Ar} (hA : A = std) {x0 : List Label} {q1 : Label → Option Bool} {g1 : Nat} {cap1 : List PV} (hcap1 : bare.bares cap1 = true) (hq1 : ∀ (y0 : Label) (r : Bool), q1 y0 = some r → PFun cx g1 ((Aq9 y0) :: cap1) (bl r)) {r : Int} (h : Aa9 A x0 q1 = some r) : PFun cx 195 [.d (.sl TyS.label x0), .fn (.func g1) [] cap1] (it .i64 r) := by
 refine wF hA cx_ok Tryz.func195 fun P R hP hR => ?_
 cbv; unfold Aa9 at h
 iterate 2 refine kj ?_
 refine kl h (fun x _ => [(8, it .i64 x)]) (fun _ _ => []) [] ?_
 rintro t8 gh1 g1 _ _ _ hK1 hQ1 h; cbv
 refine kj ?_
 refine bc h (fun hb h => ?_) fun hb h => ?_
 ·cbv
  iterate 2 refine kj ?_
  refine kk h fun c1 h => ?_
  obtain ⟨w2, hw2, h⟩ := bd_e h; refine kc hP (hq1 _ _ hw2) ?_ (by first | rfl | simp [bare, bare.bares, hcap1]); cbv
  refine bc h (fun hb h => ?_) fun hb h => ?_
  ·cbv
   refine kj ?_
   refine hQ1 _ h _ _ fun h => ?_; cbv
   exact le h hR
  ·cbv
   refine kj ?_
   cases h; exact hK1 _ _ [] rfl hdy
 ·cbv
  refine hQ1 _ h _ _ fun h => ?_; cbv
  refine kj ?_
  exact le h hR
theorem Au4 {A : Ar} (hA : A = std) {x0 : List Label} {x1 : ByteArray} {r : ByteArray} (h : Al7 A x0 x1 = some r) : PFun cx 121 [.d (.sl TyS.label x0), st x1] (st r) := by
 refine PFun.walkF (fz := fun k => k == 3) hA cx_ok Tryz.func121 rfl rfl rfl fun P R hP hR => ?_
 cbv; unfold Al7 at h
 iterate 2 refine kj ?_
 obtain ⟨w1, hw1, h⟩ := bd_e h; refine kc hP (Aep hA (by rfl) (fun _ _ hw => Ar7 hA hw) hw1) ?_; cbv
 refine kj ?_
 refine bc h (fun hb h => ?_) fun hb h => ?_
 ·cbv
  refine kj ?_
  exact le h hR
 ·cbv
  refine kj ?_
  refine kk h fun c2 h => ?_
  exact le h hR
theorem Am2 {A : Ar} (hA : A = std) {x0 : Rule} {r : Bool} (h : Agr A x0 = some r) : PFun cx 36 [Aeb x0] (bl r) := by
 refine wF hA cx_ok Tryz.func36 fun P R hP hR => ?_
 cbv; unfold Agr at h
 iterate 2 refine kj ?_
 obtain ⟨w1, hw1, h⟩ := bd_e h; refine kc hP (Anz hA hw1) ?_; cbv
 iterate 3 refine cj ?_
 obtain ⟨w2, hw2, h⟩ := bd_e h; refine kg hP (fun hc => (Anz hA (gd_e hw2 hc))) ?_; cbv
 iterate 9 refine cj ?_
 refine kj ?_
 obtain ⟨w3, hw3, h⟩ := bd_e h; refine kc hP (An0 hA hw3) ?_; cbv
 iterate 3 refine cj ?_
 obtain ⟨w4, hw4, h⟩ := bd_e h; refine kg hP (fun hc => (An0 hA (gd_e hw4 hc))) ?_; cbv
 iterate 9 refine cj ?_
 refine kj ?_
 iterate 17 refine cj ?_
 obtain ⟨w5, hw5, h⟩ := bd_e h; refine kg hP (fun hc => (Age hA (gd_e hw5 hc))) ?_; cbv
 iterate 4 refine cj ?_
 obtain ⟨w6, hw6, h⟩ := bd_e h; refine kg hP (fun hc => (Au4 hA (gd_e hw6 hc))) ?_; cbv
 iterate 2 refine cj ?_
 exact le h hR
theorem Ahl {A : Ar} (hA : A = std) {x0 : ByteArray} {qc0 : ByteArray → Option Bool} {gc0 : Nat} {capc0 : List D} (hcapc0 : capOK capc0) (hqc0 : ∀ (y0 : ByteArray) (r : Bool), qc0 y0 = some r → PFun cx gc0 ((st y0) :: un.uns capc0) (bl r)) {r : Bool} (h : Ae1 A x0 qc0 = some r) : PFun cx 123 [st x0, .ip [.fun (.func gc0) [] capc0]] (bl r) := by
 rcases hcapc0 with rfl | ⟨dscapc0, rfl⟩
 all_goals
  refine wF hA cx_ok Tryz.func123 fun P R hP hR => ?_
  cbv; unfold Ae1 at h
  iterate 2 refine kj ?_
  obtain ⟨w1, hw1, h⟩ := bd_e h; refine kc hP (hqc0 _ _ hw1) ?_; cbv
  exact le h hR
theorem Agc {A : Ar} (hA : A = std) {x0 : List ByteArray} {x1 : Int} {q2 : ByteArray → Option Bool} {g2 : Nat} {cap2 : List D} (hcap2 : capOK cap2) (hq2 : ∀ (y0 : ByteArray) (r : Bool), q2 y0 = some r → PFun cx g2 ((st y0) :: un.uns cap2) (bl r)) {r : Bool} (h : Acb A x0 x1 q2 = some r) : PFun cx 37 [.d (.sl TyS.str x0), it .i64 x1, .fn (.func g2) [] (un.uns cap2)] (bl r) := by
 rcases hcap2 with rfl | ⟨dscap2, rfl⟩
 ·refine PFun.walkF (fz := fun k => k == 5) hA cx_ok Tryz.func37 rfl rfl rfl fun P R hP hR => ?_
  cbv; unfold Acb at h
  iterate 2 refine kj ?_
  iterate 2 refine cj ?_
  obtain ⟨w1, hw1, h⟩ := bd_e h; refine kg hP (fun hc => (Acg hA (by rfl) (fun _ _ hw => Ahl (capc0 := []) hA (by first | exact .inl rfl | exact .inr ⟨_, rfl⟩) hq2 hw) (gd_e hw1 hc))) ?_; cbv
  iterate 2 refine cj ?_
  exact le h hR
 ·refine PFun.walkF (fz := fun k => k == 5) hA cx_ok Tryz.func37 rfl rfl rfl fun P R hP hR => ?_
  cbv; unfold Acb at h
  iterate 2 refine kj ?_
  iterate 2 refine cj ?_
  obtain ⟨w1, hw1, h⟩ := bd_e h; refine kg hP (fun hc => (Acg hA (by rfl) (fun _ _ hw => Ahl (capc0 := [D.ptr dscap2]) hA (by first | exact .inl rfl | exact .inr ⟨_, rfl⟩) hq2 hw) (gd_e hw1 hc))) ?_; cbv
  iterate 2 refine cj ?_
  exact le h hR
theorem Ar8 {A : Ar} (hA : A = std) {x0 : ByteArray} {r : Bool} (h : Ahr A x0 = some r) : PFun cx 38 [st x0] (bl r) := by
 refine wF hA cx_ok Tryz.func38 fun P R hP hR => ?_
 cbv; unfold Ahr at h
 iterate 2 refine kj ?_
 obtain ⟨w1, hw1, h⟩ := bd_e h; refine kc hP (Akh hA hw1) ?_; cbv
 exact le h hR
theorem Ag8 {A : Ar} (hA : A = std) {x0 : Inhibit} {qc0 : Inhibit → Option Bool} {gc0 : Nat} {capc0 : List D} (hcapc0 : capOK capc0) (hqc0 : ∀ (y0 : Inhibit) (r : Bool), qc0 y0 = some r → PFun cx gc0 ((Adp y0) :: un.uns capc0) (bl r)) {r : Bool} (h : Aem A x0 qc0 = some r) : PFun cx 125 [Adp x0, .ip [.fun (.func gc0) [] capc0]] (bl r) := by
 rcases hcapc0 with rfl | ⟨dscapc0, rfl⟩
 all_goals
  refine wF hA cx_ok Tryz.func125 fun P R hP hR => ?_
  cbv; unfold Aem at h
  iterate 2 refine kj ?_
  obtain ⟨w1, hw1, h⟩ := bd_e h; refine kc hP (hqc0 _ _ hw1) ?_; cbv
  exact le h hR
theorem Ago {A : Ar} (hA : A = std) {x0 : List Inhibit} {q1 : Inhibit → Option Bool} {g1 : Nat} {cap1 : List PV} (hcap1 : bare.bares cap1 = true) (hq1 : ∀ (y0 : Inhibit) (r : Bool), q1 y0 = some r → PFun cx g1 ((Adp y0) :: cap1) (bl r)) {r : Int} (h : Ab1 A x0 q1 = some r) : PFun cx 160 [.d (.sl TyS.inhibit x0), .fn (.func g1) [] cap1] (it .i64 r) := by
 refine wF hA cx_ok Tryz.func160 fun P R hP hR => ?_
 cbv; unfold Ab1 at h
 iterate 2 refine kj ?_
 refine kl h (fun x _ => [(8, it .i64 x)]) (fun _ _ => []) [] ?_
 rintro t8 gh1 g1 _ _ _ hK1 hQ1 h; cbv
 refine kj ?_
 refine bc h (fun hb h => ?_) fun hb h => ?_
 ·cbv
  iterate 2 refine kj ?_
  refine kk h fun c1 h => ?_
  obtain ⟨w2, hw2, h⟩ := bd_e h; refine kc hP (hq1 _ _ hw2) ?_ (by first | rfl | simp [bare, bare.bares, hcap1]); cbv
  refine bc h (fun hb h => ?_) fun hb h => ?_
  ·cbv
   refine kj ?_
   refine hQ1 _ h _ _ fun h => ?_; cbv
   exact le h hR
  ·cbv
   refine kj ?_
   cases h; exact hK1 _ _ [] rfl hdy
 ·cbv
  refine hQ1 _ h _ _ fun h => ?_; cbv
  refine kj ?_
  exact le h hR
theorem Aca {A : Ar} (hA : A = std) {x0 : List Inhibit} {q1 : Inhibit → Option Bool} {g1 : Nat} {cap1 : List PV} (hcap1 : bare.bares cap1 = true) (hq1 : ∀ (y0 : Inhibit) (r : Bool), q1 y0 = some r → PFun cx g1 ((Adp y0) :: cap1) (bl r)) {r : Bool} (h : Aaf A x0 q1 = some r) : PFun cx 81 [.d (.sl TyS.inhibit x0), .fn (.func g1) [] cap1] (bl r) := by
 refine wF hA cx_ok Tryz.func81 fun P R hP hR => ?_
 cbv; unfold Aaf at h
 iterate 2 refine kj ?_
 obtain ⟨w1, hw1, h⟩ := bd_e h; refine kc hP (Ago hA hcap1 hq1 hw1) ?_ (by first | rfl | simp [bare, bare.bares, hcap1]); cbv
 exact le h hR
theorem Aly {A : Ar} (hA : A = std) {x0 : List Inhibit} {x1 : Int} {q2 : Inhibit → Option Bool} {g2 : Nat} {cap2 : List D} (hcap2 : capOK cap2) (hq2 : ∀ (y0 : Inhibit) (r : Bool), q2 y0 = some r → PFun cx g2 ((Adp y0) :: un.uns cap2) (bl r)) {r : Bool} (h : Acr A x0 x1 q2 = some r) : PFun cx 39 [.d (.sl TyS.inhibit x0), it .i64 x1, .fn (.func g2) [] (un.uns cap2)] (bl r) := by
 rcases hcap2 with rfl | ⟨dscap2, rfl⟩
 ·refine PFun.walkF (fz := fun k => k == 5) hA cx_ok Tryz.func39 rfl rfl rfl fun P R hP hR => ?_
  cbv; unfold Acr at h
  iterate 2 refine kj ?_
  iterate 2 refine cj ?_
  obtain ⟨w1, hw1, h⟩ := bd_e h; refine kg hP (fun hc => (Aca hA (by rfl) (fun _ _ hw => Ag8 (capc0 := []) hA (by first | exact .inl rfl | exact .inr ⟨_, rfl⟩) hq2 hw) (gd_e hw1 hc))) ?_; cbv
  iterate 2 refine cj ?_
  exact le h hR
 ·refine PFun.walkF (fz := fun k => k == 5) hA cx_ok Tryz.func39 rfl rfl rfl fun P R hP hR => ?_
  cbv; unfold Acr at h
  iterate 2 refine kj ?_
  iterate 2 refine cj ?_
  obtain ⟨w1, hw1, h⟩ := bd_e h; refine kg hP (fun hc => (Aca hA (by rfl) (fun _ _ hw => Ag8 (capc0 := [D.ptr dscap2]) hA (by first | exact .inl rfl | exact .inr ⟨_, rfl⟩) hq2 hw) (gd_e hw1 hc))) ?_; cbv
  iterate 2 refine cj ?_
  exact le h hR
theorem Ag9 {A : Ar} (hA : A = std) {x0 : Matcher} {qc0 : Matcher → Option Bool} {gc0 : Nat} {capc0 : List D} (hcapc0 : capOK capc0) (hqc0 : ∀ (y0 : Matcher) (r : Bool), qc0 y0 = some r → PFun cx gc0 ((Aev y0) :: un.uns capc0) (bl r)) {r : Bool} (h : Aen A x0 qc0 = some r) : PFun cx 201 [Aev x0, .ip [.fun (.func gc0) [] capc0]] (bl r) := by
 rcases hcapc0 with rfl | ⟨dscapc0, rfl⟩
 all_goals
  refine wF hA cx_ok Tryz.func201 fun P R hP hR => ?_
  cbv; unfold Aen at h
  iterate 2 refine kj ?_
  obtain ⟨w1, hw1, h⟩ := bd_e h; refine kc hP (hqc0 _ _ hw1) ?_; cbv
  exact le h hR
theorem Agp {A : Ar} (hA : A = std) {x0 : List Matcher} {q1 : Matcher → Option Bool} {g1 : Nat} {cap1 : List PV} (hcap1 : bare.bares cap1 = true) (hq1 : ∀ (y0 : Matcher) (r : Bool), q1 y0 = some r → PFun cx g1 ((Aev y0) :: cap1) (bl r)) {r : Int} (h : Ab2 A x0 q1 = some r) : PFun cx 230 [.d (.sl TyS.matcher x0), .fn (.func g1) [] cap1] (it .i64 r) := by
 refine wF hA cx_ok Tryz.func230 fun P R hP hR => ?_
 cbv; unfold Ab2 at h
 iterate 2 refine kj ?_
 refine kl h (fun x _ => [(8, it .i64 x)]) (fun _ _ => []) [] ?_
 rintro t8 gh1 g1 _ _ _ hK1 hQ1 h; cbv
 refine kj ?_
 refine bc h (fun hb h => ?_) fun hb h => ?_
 ·cbv
  iterate 2 refine kj ?_
  refine kk h fun c1 h => ?_
  obtain ⟨w2, hw2, h⟩ := bd_e h; refine kc hP (hq1 _ _ hw2) ?_ (by first | rfl | simp [bare, bare.bares, hcap1]); cbv
  refine bc h (fun hb h => ?_) fun hb h => ?_
  ·cbv
   refine kj ?_
   refine hQ1 _ h _ _ fun h => ?_; cbv
   exact le h hR
  ·cbv
   refine kj ?_
   cases h; exact hK1 _ _ [] rfl hdy
 ·cbv
  refine hQ1 _ h _ _ fun h => ?_; cbv
  refine kj ?_
  exact le h hR
theorem Aa8 {A : Ar} (hA : A = std) {x0 : List Matcher} {q1 : Matcher → Option Bool} {g1 : Nat} {cap1 : List PV} (hcap1 : bare.bares cap1 = true) (hq1 : ∀ (y0 : Matcher) (r : Bool), q1 y0 = some r → PFun cx g1 ((Aev y0) :: cap1) (bl r)) {r : Bool} (h : Aag A x0 q1 = some r) : PFun cx 155 [.d (.sl TyS.matcher x0), .fn (.func g1) [] cap1] (bl r) := by
 refine wF hA cx_ok Tryz.func155 fun P R hP hR => ?_
 cbv; unfold Aag at h
 iterate 2 refine kj ?_
 obtain ⟨w1, hw1, h⟩ := bd_e h; refine kc hP (Agp hA hcap1 hq1 hw1) ?_ (by first | rfl | simp [bare, bare.bares, hcap1]); cbv
 exact le h hR
theorem Aic {A : Ar} (hA : A = std) {x0 : List Matcher} {x1 : Int} {q2 : Matcher → Option Bool} {g2 : Nat} {cap2 : List D} (hcap2 : capOK cap2) (hq2 : ∀ (y0 : Matcher) (r : Bool), q2 y0 = some r → PFun cx g2 ((Aev y0) :: un.uns cap2) (bl r)) {r : Bool} (h : Abn A x0 x1 q2 = some r) : PFun cx 126 [.d (.sl TyS.matcher x0), it .i64 x1, .fn (.func g2) [] (un.uns cap2)] (bl r) := by
 rcases hcap2 with rfl | ⟨dscap2, rfl⟩
 ·refine PFun.walkF (fz := fun k => k == 5) hA cx_ok Tryz.func126 rfl rfl rfl fun P R hP hR => ?_
  cbv; unfold Abn at h
  iterate 2 refine kj ?_
  iterate 2 refine cj ?_
  obtain ⟨w1, hw1, h⟩ := bd_e h; refine kg hP (fun hc => (Aa8 hA (by rfl) (fun _ _ hw => Ag9 (capc0 := []) hA (by first | exact .inl rfl | exact .inr ⟨_, rfl⟩) hq2 hw) (gd_e hw1 hc))) ?_; cbv
  iterate 2 refine cj ?_
  exact le h hR
 ·refine PFun.walkF (fz := fun k => k == 5) hA cx_ok Tryz.func126 rfl rfl rfl fun P R hP hR => ?_
  cbv; unfold Abn at h
  iterate 2 refine kj ?_
  iterate 2 refine cj ?_
  obtain ⟨w1, hw1, h⟩ := bd_e h; refine kg hP (fun hc => (Aa8 hA (by rfl) (fun _ _ hw => Ag9 (capc0 := [D.ptr dscap2]) hA (by first | exact .inl rfl | exact .inr ⟨_, rfl⟩) hq2 hw) (gd_e hw1 hc))) ?_; cbv
  iterate 2 refine cj ?_
  exact le h hR
theorem App {A : Ar} (hA : A = std) {x0 : Int} {r : Bool} (h : Ahe A x0 = some r) : PFun cx 265 [it .u8 x0] (bl r) := by
 refine wF hA cx_ok Tryz.func265 fun P R hP hR => ?_
 cbv; unfold Ahe at h
 iterate 2 refine kj ?_
 iterate 6 refine cj ?_
 refine ⟨by subst hA; simp +contextual [vcm], ?_⟩
 iterate 5 refine cj ?_
 refine ⟨by subst hA; simp +contextual [vcm], ?_⟩
 iterate 2 refine cj ?_
 obtain ⟨w1, hw1, h⟩ := bd_e h; refine kg hP (fun hc => (Am0 hA (gd_e hw1 hc))) ?_; cbv
 iterate 2 refine cj ?_
 exact le h hR
theorem Aol {A : Ar} (hA : A = std) {x0 : Int} {r : Bool} (h : Ah3 A x0 = some r) : PFun cx 264 [it .u8 x0] (bl r) := by
 refine wF hA cx_ok Tryz.func264 fun P R hP hR => ?_
 cbv; unfold Ah3 at h
 iterate 2 refine kj ?_
 obtain ⟨w1, hw1, h⟩ := bd_e h; refine kc hP (App hA hw1) ?_; cbv
 exact le h hR
theorem Alz {A : Ar} (hA : A = std) {x0 : ByteArray} {r : Bool} (h : Aez A x0 = some r) : PFun cx 202 [st x0] (bl r) := by
 refine wF hA cx_ok Tryz.func202 fun P R hP hR => ?_
 cbv; unfold Aez at h
 iterate 2 refine kj ?_
 iterate 2 refine cj ?_
 obtain ⟨w1, hw1, h⟩ := bd_e h; refine kf hP (fun hc => (Abc hA (by rfl) (fun _ _ hw => Aol hA hw) (gd_e hw1 hc))) ?_; cbv
 iterate 2 refine cj ?_
 exact le h hR
theorem Aiu {A : Ar} (hA : A = std) {r : Unit} (h : Adf A = some r) : PFunM cx 203 [] [] (.mp 2000 1) [⟨2000, 1, .map [(.int .i64 1, .d (.v (.string (ByteArray.mk (Array.mk [61]))))), (.int .i64 2, .d (.v (.string (ByteArray.mk (Array.mk [33, 61]))))), (.int .i64 3, .d (.v (.string (ByteArray.mk (Array.mk [61, 126]))))), (.int .i64 4, .d (.v (.string (ByteArray.mk (Array.mk [33, 126])))))]⟩] := by
 refine PFunM.walkM (fz := fun _ => false) hA cx_ok Tryz.func203 rfl rfl fun P R hP hR => ?_
 cbv; unfold Adf at h
 iterate 2 refine kj ?_
 refine and_assoc.2 ?_
 refine ⟨by subst hA; simp +contextual [vcm], ?_⟩
 refine cj ?_
 refine and_assoc.2 ?_
 refine ⟨by subst hA; simp +contextual [vcm], ?_⟩
 refine and_assoc.2 ?_
 refine ⟨by subst hA; simp +contextual [vcm], ?_⟩
 refine cj ?_
 refine and_assoc.2 ?_
 refine ⟨by subst hA; simp +contextual [vcm], ?_⟩
 refine and_assoc.2 ?_
 refine ⟨by subst hA; simp +contextual [vcm], ?_⟩
 refine and_assoc.2 ?_
 refine ⟨by subst hA; simp +contextual [vcm], ?_⟩
 refine cj ?_
 cases h
 refine hR _ _ ⟨[(1, 3)], ⟨by rfl, ez, by rfl, ez⟩⟩
theorem Agl {A : Ar} (hA : A = std) {x0 : Matcher} {r : Bool} (h : Acs A x0 = some r) : PFun cx 127 [Aev x0] (bl r) := by
 refine wF hA cx_ok Tryz.func127 fun P R hP hR => ?_
 cbv; unfold Acs at h
 iterate 3 refine kj ?_
 refine bc h (fun hb h => ?_) fun hb h => ?_
 ·cbv
  iterate 2 refine kj ?_
  refine kl h (fun x _ => [(14, it .i64 x)]) (fun x gh => [⟨1, 0, .box 97 [st x0.1, it .i64 x0.2, .d (.sl .str x0.3)]⟩]) [] ?_
  rintro t14 gh1 g1 _ _ _ hK1 hQ1 h; cbv
  refine kj ?_
  refine bc h (fun hb h => ?_) fun hb h => ?_
  ·cbv
   refine kj ?_
   refine kk h fun c1 h => ?_
   refine kj ?_
   obtain ⟨w2, hw2, h⟩ := bd_e h; refine kc hP (Alz hA hw2) ?_; cbv
   iterate 7 refine cj ?_
   refine kk h fun c3 h => ?_
   iterate 4 refine cj ?_
   refine ⟨by subst hA; simp +contextual [vcm], ?_⟩
   refine cj ?_
   refine bc h (fun hb h => ?_) fun hb h => ?_
   ·cbv
    refine kj ?_
    refine hQ1 _ h _ _ fun h => ?_; cbv
    exact le h hR
   ·cbv
    refine kj ?_
    cases h; exact hK1 _ _ [] rfl hdy
  ·cbv
   refine hQ1 _ h _ _ fun h => ?_; cbv
   refine kj ?_
   obtain ⟨w4, hw4, h⟩ := bd_e h; refine km hP [] (Aiu hA hw4) ?_; cbv
   refine ⟨by first | exact Ae6 hA _ | exact ⟨rfl⟩, ?_⟩
   obtain ⟨w5, hw5, h⟩ := bd_e h
   have hw5' := Ap4 A x0.2 (fun x => st x) (ByteArray.mk (Array.mk [])) [(1, ByteArray.mk (Array.mk [61])), (2, ByteArray.mk (Array.mk [33, 61])), (3, ByteArray.mk (Array.mk [61, 126])), (4, ByteArray.mk (Array.mk [33, 126]))]
   rw [Option.some.inj hw5] at hw5'
   refine LookK.one _ _ hw5' ?_
   cbv
   iterate 2 refine kj ?_
   iterate 6 refine cj ?_
   obtain ⟨w6, hw6, h⟩ := bd_e h; refine kg hP (fun hc => (Age hA (gd_e hw6 hc))) ?_; cbv
   iterate 12 refine cj ?_
   exact le h hR
 ·cbv
  refine kj ?_
  refine kl h (fun x _ => [(14, it .i64 x)]) (fun x gh => [⟨1, 0, .box 97 [st x0.1, it .i64 x0.2, .d (.sl .str x0.3)]⟩]) [] ?_
  rintro t14 gh2 g2 _ _ _ hK2 hQ2 h; cbv
  refine kj ?_
  refine bc h (fun hb h => ?_) fun hb h => ?_
  ·cbv
   refine kj ?_
   refine kk h fun c7 h => ?_
   refine kj ?_
   obtain ⟨w8, hw8, h⟩ := bd_e h; refine kc hP (Alz hA hw8) ?_; cbv
   iterate 7 refine cj ?_
   refine kk h fun c9 h => ?_
   iterate 4 refine cj ?_
   refine ⟨by subst hA; simp +contextual [vcm], ?_⟩
   refine cj ?_
   refine bc h (fun hb h => ?_) fun hb h => ?_
   ·cbv
    refine kj ?_
    refine hQ2 _ h _ _ fun h => ?_; cbv
    exact le h hR
   ·cbv
    refine kj ?_
    cases h; exact hK2 _ _ [] rfl hdy
  ·cbv
   refine hQ2 _ h _ _ fun h => ?_; cbv
   refine kj ?_
   obtain ⟨w10, hw10, h⟩ := bd_e h; refine km hP [] (Aiu hA hw10) ?_; cbv
   refine ⟨by first | exact Ae6 hA _ | exact ⟨rfl⟩, ?_⟩
   obtain ⟨w11, hw11, h⟩ := bd_e h
   have hw11' := Ap4 A x0.2 (fun x => st x) (ByteArray.mk (Array.mk [])) [(1, ByteArray.mk (Array.mk [61])), (2, ByteArray.mk (Array.mk [33, 61])), (3, ByteArray.mk (Array.mk [61, 126])), (4, ByteArray.mk (Array.mk [33, 126]))]
   rw [Option.some.inj hw11] at hw11'
   refine LookK.one _ _ hw11' ?_
   cbv
   iterate 2 refine kj ?_
   iterate 6 refine cj ?_
   obtain ⟨w12, hw12, h⟩ := bd_e h; refine kg hP (fun hc => (Age hA (gd_e hw12 hc))) ?_; cbv
   iterate 12 refine cj ?_
   exact le h hR
theorem An1 {A : Ar} (hA : A = std) {x0 : Inhibit} {r : Bool} (h : Aer A x0 = some r) : PFun cx 40 [Adp x0] (bl r) := by
 refine wF hA cx_ok Tryz.func40 fun P R hP hR => ?_
 cbv; unfold Aer at h
 iterate 2 refine kj ?_
 refine kl h (fun x _ => [(9, it .i64 x)]) (fun x gh => [⟨1, 0, .box 61 [.d (.sl .matcher x0.1), .d (.sl .matcher x0.2), .d (.sl .str x0.3)]⟩]) [] ?_
 rintro t9 gh1 g1 _ _ _ hK1 hQ1 h; cbv
 refine kj ?_
 refine bc h (fun hb h => ?_) fun hb h => ?_
 ·cbv
  refine kj ?_
  refine kk h fun c1 h => ?_
  refine kj ?_
  obtain ⟨w2, hw2, h⟩ := bd_e h; refine kc hP (Age hA hw2) ?_; cbv
  iterate 7 refine cj ?_
  refine kk h fun c3 h => ?_
  iterate 4 refine cj ?_
  refine ⟨by subst hA; simp +contextual [vcm], ?_⟩
  refine cj ?_
  refine bc h (fun hb h => ?_) fun hb h => ?_
  ·cbv
   refine kj ?_
   refine hQ1 _ h _ _ fun h => ?_; cbv
   exact le h hR
  ·cbv
   refine kj ?_
   cases h; exact hK1 _ _ [] rfl hdy
 ·cbv
  refine hQ1 _ h _ _ fun h => ?_; cbv
  refine kj ?_
  iterate 10 refine cj ?_
  refine kj ?_
  iterate 3 refine cj ?_
  obtain ⟨w4, hw4, h⟩ := bd_e h; refine kf hP (fun hc => (Aic (cap2 := []) hA (by first | exact .inl rfl | exact .inr ⟨_, rfl⟩) (fun _ _ hw => Agl hA hw) (gd_e hw4 hc))) ?_; cbv
  iterate 4 refine cj ?_
  obtain ⟨w5, hw5, h⟩ := bd_e h; refine kf hP (fun hc => (Aic (cap2 := []) hA (by first | exact .inl rfl | exact .inr ⟨_, rfl⟩) (fun _ _ hw => Agl hA hw) (gd_e hw5 hc))) ?_; cbv
  refine cj ?_
  exact le h hR
theorem Aid {A : Ar} (hA : A = std) {x0 : Hours} {qc0 : Hours → Option Bool} {gc0 : Nat} {capc0 : List D} (hcapc0 : capOK capc0) (hqc0 : ∀ (y0 : Hours) (r : Bool), qc0 y0 = some r → PFun cx gc0 ((Ac4 y0) :: un.uns capc0) (bl r)) {r : Bool} (h : Afo A x0 qc0 = some r) : PFun cx 128 [Ac4 x0, .ip [.fun (.func gc0) [] capc0]] (bl r) := by
 rcases hcapc0 with rfl | ⟨dscapc0, rfl⟩
 all_goals
  refine wF hA cx_ok Tryz.func128 fun P R hP hR => ?_
  cbv; unfold Afo at h
  iterate 2 refine kj ?_
  obtain ⟨w1, hw1, h⟩ := bd_e h; refine kc hP (hqc0 _ _ hw1) ?_; cbv
  exact le h hR
theorem Ahm {A : Ar} (hA : A = std) {x0 : List Hours} {q1 : Hours → Option Bool} {g1 : Nat} {cap1 : List PV} (hcap1 : bare.bares cap1 = true) (hq1 : ∀ (y0 : Hours) (r : Bool), q1 y0 = some r → PFun cx g1 ((Ac4 y0) :: cap1) (bl r)) {r : Int} (h : Acm A x0 q1 = some r) : PFun cx 135 [.d (.sl TyS.hours x0), .fn (.func g1) [] cap1] (it .i64 r) := by
 refine wF hA cx_ok Tryz.func135 fun P R hP hR => ?_
 cbv; unfold Acm at h
 iterate 2 refine kj ?_
 refine kl h (fun x _ => [(8, it .i64 x)]) (fun _ _ => []) [] ?_
 rintro t8 gh1 g1 _ _ _ hK1 hQ1 h; cbv
 refine kj ?_
 refine bc h (fun hb h => ?_) fun hb h => ?_
 ·cbv
  iterate 2 refine kj ?_
  refine kk h fun c1 h => ?_
  obtain ⟨w2, hw2, h⟩ := bd_e h; refine kc hP (hq1 _ _ hw2) ?_ (by first | rfl | simp [bare, bare.bares, hcap1]); cbv
  refine bc h (fun hb h => ?_) fun hb h => ?_
  ·cbv
   refine kj ?_
   refine hQ1 _ h _ _ fun h => ?_; cbv
   exact le h hR
  ·cbv
   refine kj ?_
   cases h; exact hK1 _ _ [] rfl hdy
 ·cbv
  refine hQ1 _ h _ _ fun h => ?_; cbv
  refine kj ?_
  exact le h hR
theorem Aco {A : Ar} (hA : A = std) {x0 : List Hours} {q1 : Hours → Option Bool} {g1 : Nat} {cap1 : List PV} (hcap1 : bare.bares cap1 = true) (hq1 : ∀ (y0 : Hours) (r : Bool), q1 y0 = some r → PFun cx g1 ((Ac4 y0) :: cap1) (bl r)) {r : Bool} (h : Aaz A x0 q1 = some r) : PFun cx 53 [.d (.sl TyS.hours x0), .fn (.func g1) [] cap1] (bl r) := by
 refine wF hA cx_ok Tryz.func53 fun P R hP hR => ?_
 cbv; unfold Aaz at h
 iterate 2 refine kj ?_
 obtain ⟨w1, hw1, h⟩ := bd_e h; refine kc hP (Ahm hA hcap1 hq1 hw1) ?_ (by first | rfl | simp [bare, bare.bares, hcap1]); cbv
 exact le h hR
theorem Ani {A : Ar} (hA : A = std) {x0 : List Hours} {x1 : Int} {q2 : Hours → Option Bool} {g2 : Nat} {cap2 : List D} (hcap2 : capOK cap2) (hq2 : ∀ (y0 : Hours) (r : Bool), q2 y0 = some r → PFun cx g2 ((Ac4 y0) :: un.uns cap2) (bl r)) {r : Bool} (h : Adz A x0 x1 q2 = some r) : PFun cx 41 [.d (.sl TyS.hours x0), it .i64 x1, .fn (.func g2) [] (un.uns cap2)] (bl r) := by
 rcases hcap2 with rfl | ⟨dscap2, rfl⟩
 ·refine PFun.walkF (fz := fun k => k == 5) hA cx_ok Tryz.func41 rfl rfl rfl fun P R hP hR => ?_
  cbv; unfold Adz at h
  iterate 2 refine kj ?_
  iterate 2 refine cj ?_
  obtain ⟨w1, hw1, h⟩ := bd_e h; refine kg hP (fun hc => (Aco hA (by rfl) (fun _ _ hw => Aid (capc0 := []) hA (by first | exact .inl rfl | exact .inr ⟨_, rfl⟩) hq2 hw) (gd_e hw1 hc))) ?_; cbv
  iterate 2 refine cj ?_
  exact le h hR
 ·refine PFun.walkF (fz := fun k => k == 5) hA cx_ok Tryz.func41 rfl rfl rfl fun P R hP hR => ?_
  cbv; unfold Adz at h
  iterate 2 refine kj ?_
  iterate 2 refine cj ?_
  obtain ⟨w1, hw1, h⟩ := bd_e h; refine kg hP (fun hc => (Aco hA (by rfl) (fun _ _ hw => Aid (capc0 := [D.ptr dscap2]) hA (by first | exact .inl rfl | exact .inr ⟨_, rfl⟩) hq2 hw) (gd_e hw1 hc))) ?_; cbv
  iterate 2 refine cj ?_
  exact le h hR
theorem Apq {A : Ar} (hA : A = std) {x0 : Int} {r : Bool} (h : Ak7 A x0 = some r) : PFun cx 129 [it .u8 x0] (bl r) := by
 refine wF hA cx_ok Tryz.func129 fun P R hP hR => ?_
 cbv; unfold Ak7 at h
 iterate 2 refine kj ?_
 iterate 6 refine cj ?_
 refine ⟨by subst hA; simp +contextual [vcm], ?_⟩
 iterate 3 refine cj ?_
 exact le h hR
theorem Ar9 {A : Ar} (hA : A = std) {x0 : Hours} {r : Bool} (h : Agu A x0 = some r) : PFun cx 42 [Ac4 x0] (bl r) := by
 refine wF hA cx_ok Tryz.func42 fun P R hP hR => ?_
 cbv; unfold Agu at h
 iterate 3 refine kj ?_
 iterate 10 refine cj ?_
 obtain ⟨w1, hw1, h⟩ := bd_e h; refine kf hP (fun hc => (Abc hA (by rfl) (fun _ _ hw => Apq hA hw) (gd_e hw1 hc))) ?_; cbv
 iterate 29 refine cj ?_
 exact le h hR
theorem Al0 {A : Ar} (hA : A = std) {x0 : List Rule} {q1 : Rule → Option ByteArray} {g1 : Nat} {cap1 : List PV} (hcap1 : bare.bares cap1 = true) (hq1 : ∀ (y0 : Rule) (r : ByteArray), q1 y0 = some r → PFun cx g1 ((Aeb y0) :: cap1) (st r)) {r : Bool} (h : Adu A x0 q1 = some r) : PFun cx 43 [.d (.sl TyS.rule x0), .fn (.func g1) [] cap1] (bl r) := by
 refine wF hA cx_ok Tryz.func43 fun P R hP hR => ?_
 cbv; unfold Adu at h
 iterate 3 refine kj ?_
 refine kl h (fun x _ => [(11, it .i64 x.1)]) (fun x gh => [⟨8, 1, .map (A.mesB x.2)⟩]) [] ?_
 rintro ⟨t11, map8⟩ gh1 g1 _ _ _ hK1 hQ1 h; cbv
 refine kj ?_
 refine bc h (fun hb h => ?_) fun hb h => ?_
 ·cbv
  refine kj ?_
  refine kk h fun c1 h => ?_
  refine kj ?_
  obtain ⟨w2, hw2, h⟩ := bd_e h; refine kc hP (hq1 _ _ hw2) ?_ (by first | rfl | simp [bare, bare.bares, hcap1]); cbv
  refine ⟨by first | exact Ae6 hA _ | exact ⟨rfl⟩, ?_⟩
  obtain ⟨w3, hw3, h⟩ := bd_e h
  have hw3' := At6 hA w2 false map8
  rw [Option.some.inj hw3] at hw3'
  refine LookK.one _ _ hw3' ?_
  cbv
  refine bc h (fun hb h => ?_) fun hb h => ?_
  ·cbv
   refine kj ?_
   refine hQ1 _ h _ _ fun h => ?_; cbv
   exact le h hR
  ·cbv
   refine kj ?_
   obtain ⟨w4, hw4, h⟩ := bd_e h; refine kc hP (hq1 _ _ hw4) ?_ (by first | rfl | simp [bare, bare.bares, hcap1]); cbv
   refine ⟨by first | exact Ae6 hA _ | exact ⟨rfl⟩, ?_⟩
   refine kk h fun c5 h => ?_
   refine kj ?_
   cases h; exact hK1 _ _ [] rfl hdy
 ·cbv
  refine hQ1 _ h _ _ fun h => ?_; cbv
  refine kj ?_
  exact le h hR
theorem Al1 {A : Ar} (hA : A = std) {x0 : Rule} {r : ByteArray} (h : Ag2 A x0 = some r) : PFun cx 44 [Aeb x0] (st r) := by
 refine wF hA cx_ok Tryz.func44 fun P R hP hR => ?_
 cbv; unfold Ag2 at h
 iterate 2 refine kj ?_
 exact le h hR
theorem Ak4 {A : Ar} (hA : A = std) {x0 : List ByteArray} {q1 : ByteArray → Option ByteArray} {g1 : Nat} {cap1 : List PV} (hcap1 : bare.bares cap1 = true) (hq1 : ∀ (y0 : ByteArray) (r : ByteArray), q1 y0 = some r → PFun cx g1 ((st y0) :: cap1) (st r)) {r : Bool} (h : Ac1 A x0 q1 = some r) : PFun cx 45 [.d (.sl TyS.str x0), .fn (.func g1) [] cap1] (bl r) := by
 refine wF hA cx_ok Tryz.func45 fun P R hP hR => ?_
 cbv; unfold Ac1 at h
 iterate 3 refine kj ?_
 refine kl h (fun x _ => [(11, it .i64 x.1)]) (fun x gh => [⟨8, 1, .map (A.mesB x.2)⟩]) [] ?_
 rintro ⟨t11, map8⟩ gh1 g1 _ _ _ hK1 hQ1 h; cbv
 refine kj ?_
 refine bc h (fun hb h => ?_) fun hb h => ?_
 ·cbv
  refine kj ?_
  refine kk h fun c1 h => ?_
  refine kj ?_
  obtain ⟨w2, hw2, h⟩ := bd_e h; refine kc hP (hq1 _ _ hw2) ?_ (by first | rfl | simp [bare, bare.bares, hcap1]); cbv
  refine ⟨by first | exact Ae6 hA _ | exact ⟨rfl⟩, ?_⟩
  obtain ⟨w3, hw3, h⟩ := bd_e h
  have hw3' := At6 hA w2 false map8
  rw [Option.some.inj hw3] at hw3'
  refine LookK.one _ _ hw3' ?_
  cbv
  refine bc h (fun hb h => ?_) fun hb h => ?_
  ·cbv
   refine kj ?_
   refine hQ1 _ h _ _ fun h => ?_; cbv
   exact le h hR
  ·cbv
   refine kj ?_
   obtain ⟨w4, hw4, h⟩ := bd_e h; refine kc hP (hq1 _ _ hw4) ?_ (by first | rfl | simp [bare, bare.bares, hcap1]); cbv
   refine ⟨by first | exact Ae6 hA _ | exact ⟨rfl⟩, ?_⟩
   refine kk h fun c5 h => ?_
   refine kj ?_
   cases h; exact hK1 _ _ [] rfl hdy
 ·cbv
  refine hQ1 _ h _ _ fun h => ?_; cbv
  refine kj ?_
  exact le h hR
theorem Alm {A : Ar} (hA : A = std) {x0 : ByteArray} {r : ByteArray} (h : Ae2 A x0 = some r) : PFun cx 46 [st x0] (st r) := by
 refine wF hA cx_ok Tryz.func46 fun P R hP hR => ?_
 cbv; unfold Ae2 at h
 iterate 2 refine kj ?_
 exact le h hR
theorem Alw {A : Ar} (hA : A = std) {x0 : List Hours} {q1 : Hours → Option ByteArray} {g1 : Nat} {cap1 : List PV} (hcap1 : bare.bares cap1 = true) (hq1 : ∀ (y0 : Hours) (r : ByteArray), q1 y0 = some r → PFun cx g1 ((Ac4 y0) :: cap1) (st r)) {r : Bool} (h : Ada A x0 q1 = some r) : PFun cx 47 [.d (.sl TyS.hours x0), .fn (.func g1) [] cap1] (bl r) := by
 refine wF hA cx_ok Tryz.func47 fun P R hP hR => ?_
 cbv; unfold Ada at h
 iterate 3 refine kj ?_
 refine kl h (fun x _ => [(11, it .i64 x.1)]) (fun x gh => [⟨8, 1, .map (A.mesB x.2)⟩]) [] ?_
 rintro ⟨t11, map8⟩ gh1 g1 _ _ _ hK1 hQ1 h; cbv
 refine kj ?_
 refine bc h (fun hb h => ?_) fun hb h => ?_
 ·cbv
  refine kj ?_
  refine kk h fun c1 h => ?_
  refine kj ?_
  obtain ⟨w2, hw2, h⟩ := bd_e h; refine kc hP (hq1 _ _ hw2) ?_ (by first | rfl | simp [bare, bare.bares, hcap1]); cbv
  refine ⟨by first | exact Ae6 hA _ | exact ⟨rfl⟩, ?_⟩
  obtain ⟨w3, hw3, h⟩ := bd_e h
  have hw3' := At6 hA w2 false map8
  rw [Option.some.inj hw3] at hw3'
  refine LookK.one _ _ hw3' ?_
  cbv
  refine bc h (fun hb h => ?_) fun hb h => ?_
  ·cbv
   refine kj ?_
   refine hQ1 _ h _ _ fun h => ?_; cbv
   exact le h hR
  ·cbv
   refine kj ?_
   obtain ⟨w4, hw4, h⟩ := bd_e h; refine kc hP (hq1 _ _ hw4) ?_ (by first | rfl | simp [bare, bare.bares, hcap1]); cbv
   refine ⟨by first | exact Ae6 hA _ | exact ⟨rfl⟩, ?_⟩
   refine kk h fun c5 h => ?_
   refine kj ?_
   cases h; exact hK1 _ _ [] rfl hdy
 ·cbv
  refine hQ1 _ h _ _ fun h => ?_; cbv
  refine kj ?_
  exact le h hR
theorem Aln {A : Ar} (hA : A = std) {x0 : Hours} {r : ByteArray} (h : Af5 A x0 = some r) : PFun cx 48 [Ac4 x0] (st r) := by
 refine wF hA cx_ok Tryz.func48 fun P R hP hR => ?_
 cbv; unfold Af5 at h
 iterate 2 refine kj ?_
 exact le h hR
theorem Aqf {A : Ar} (hA : A = std) {x0 : Matcher} {r : Bool} (h : Aii A x0 = some r) : PFun cx 205 [Aev x0] (bl r) := by
 refine wF hA cx_ok Tryz.func205 fun P R hP hR => ?_
 cbv; unfold Aii at h
 iterate 2 refine kj ?_
 obtain ⟨w1, hw1, h⟩ := bd_e h; refine kc hP (Agl hA hw1) ?_; cbv
 exact le h hR
theorem Am3 {A : Ar} (hA : A = std) {x0 : ByteArray} {r : Bool} (h : Aht A x0 = some r) : PFun cx 206 [st x0] (bl r) := by
 refine wF hA cx_ok Tryz.func206 fun P R hP hR => ?_
 cbv; unfold Aht at h
 iterate 2 refine kj ?_
 obtain ⟨w1, hw1, h⟩ := bd_e h; refine kc hP (Akh hA hw1) ?_; cbv
 exact le h hR
theorem Akn {A : Ar} (hA : A = std) {x0 : List ByteArray} {q1 : ByteArray → Option Bool} {g1 : Nat} {cap1 : List PV} (hcap1 : bare.bares cap1 = true) (hq1 : ∀ (y0 : ByteArray) (r : Bool), q1 y0 = some r → PFun cx g1 ((st y0) :: cap1) (bl r)) {r : Bool} (h : Aff A x0 q1 = some r) : PFun cx 207 [.d (.sl TyS.str x0), .fn (.func g1) [] cap1] (bl r) := by
 refine wF hA cx_ok Tryz.func207 fun P R hP hR => ?_
 cbv; unfold Aff at h
 iterate 2 refine kj ?_
 refine kl h (fun x _ => [(4, bl x.1), (9, it .i64 x.2)]) (fun _ _ => []) [] ?_
 rintro ⟨t4, t9⟩ gh1 g1 _ _ _ hK1 hQ1 h; cbv
 refine kj ?_
 refine bc h (fun hb h => ?_) fun hb h => ?_
 ·cbv
  refine kj ?_
  refine kk h fun c1 h => ?_
  refine kj ?_
  obtain ⟨w2, hw2, h⟩ := bd_e h; refine kc hP (hq1 _ _ hw2) ?_ (by first | rfl | simp [bare, bare.bares, hcap1]); cbv
  iterate 5 refine cj ?_
  refine kk h fun c3 h => ?_
  iterate 4 refine cj ?_
  refine ⟨by subst hA; simp +contextual [vcm], ?_⟩
  refine cj ?_
  refine bc h (fun hb h => ?_) fun hb h => ?_
  ·cbv
   refine kj ?_
   refine hQ1 _ h _ _ fun h => ?_; cbv
   exact le h hR
  ·cbv
   refine kj ?_
   cases h; exact hK1 _ _ [] rfl hdy
 ·cbv
  refine hQ1 _ h _ _ fun h => ?_; cbv
  refine kj ?_
  exact le h hR
theorem Asa {A : Ar} (hA : A = std) {x0 : ByteArray} {r : Bool} (h : Ajs A x0 = some r) : PFun cx 208 [st x0] (bl r) := by
 refine wF hA cx_ok Tryz.func208 fun P R hP hR => ?_
 cbv; unfold Ajs at h
 iterate 2 refine kj ?_
 obtain ⟨w1, hw1, h⟩ := bd_e h; refine kc hP (Age hA hw1) ?_; cbv
 exact le h hR
theorem Aom {A : Ar} (hA : A = std) {x0 : Int} {c0 : Int} {r : Bool} (h : Agi A x0 c0 = some r) : PFun cx 267 [it .i64 x0, .ip [.v (.int .i64 c0)]] (bl r) := by
 refine wF hA cx_ok Tryz.func267 fun P R hP hR => ?_
 cbv; unfold Agi at h
 iterate 2 refine kj ?_
 iterate 2 refine cj ?_
 exact le h hR
theorem Ajk {A : Ar} (hA : A = std) {x0 : List Int} {q1 : Int → Option Bool} {g1 : Nat} {cap1 : List PV} (hcap1 : bare.bares cap1 = true) (hq1 : ∀ (y0 : Int) (r : Bool), q1 y0 = some r → PFun cx g1 ((it .i64 y0) :: cap1) (bl r)) {r : Int} (h : Adw A x0 q1 = some r) : PFun cx 293 [.d (.sl TyS.int x0), .fn (.func g1) [] cap1] (it .i64 r) := by
 refine wF hA cx_ok Tryz.func293 fun P R hP hR => ?_
 cbv; unfold Adw at h
 iterate 2 refine kj ?_
 refine kl h (fun x _ => [(8, it .i64 x)]) (fun _ _ => []) [] ?_
 rintro t8 gh1 g1 _ _ _ hK1 hQ1 h; cbv
 refine kj ?_
 refine bc h (fun hb h => ?_) fun hb h => ?_
 ·cbv
  iterate 2 refine kj ?_
  refine kk h fun c1 h => ?_
  obtain ⟨w2, hw2, h⟩ := bd_e h; refine kc hP (hq1 _ _ hw2) ?_ (by first | rfl | simp [bare, bare.bares, hcap1]); cbv
  refine bc h (fun hb h => ?_) fun hb h => ?_
  ·cbv
   refine kj ?_
   refine hQ1 _ h _ _ fun h => ?_; cbv
   exact le h hR
  ·cbv
   refine kj ?_
   cases h; exact hK1 _ _ [] rfl hdy
 ·cbv
  refine hQ1 _ h _ _ fun h => ?_; cbv
  refine kj ?_
  exact le h hR
theorem Aie {A : Ar} (hA : A = std) {x0 : List Int} {q1 : Int → Option Bool} {g1 : Nat} {cap1 : List PV} (hcap1 : bare.bares cap1 = true) (hq1 : ∀ (y0 : Int) (r : Bool), q1 y0 = some r → PFun cx g1 ((it .i64 y0) :: cap1) (bl r)) {r : Bool} (h : Ab4 A x0 q1 = some r) : PFun cx 266 [.d (.sl TyS.int x0), .fn (.func g1) [] cap1] (bl r) := by
 refine wF hA cx_ok Tryz.func266 fun P R hP hR => ?_
 cbv; unfold Ab4 at h
 iterate 2 refine kj ?_
 obtain ⟨w1, hw1, h⟩ := bd_e h; refine kc hP (Ajk hA hcap1 hq1 hw1) ?_ (by first | rfl | simp [bare, bare.bares, hcap1]); cbv
 exact le h hR
theorem Al2 {A : Ar} (hA : A = std) {x0 : Int} {x1 : List Int} {r : Bool} (h : Ag3 A x0 x1 = some r) : PFun cx 209 [it .i64 x0, .d (.sl TyS.int x1)] (bl r) := by
 refine PFun.walkF (fz := fun k => k == 2) hA cx_ok Tryz.func209 rfl rfl rfl fun P R hP hR => ?_
 cbv; unfold Ag3 at h
 iterate 2 refine kj ?_
 obtain ⟨w1, hw1, h⟩ := bd_e h; refine kc hP (Aie hA (by rfl) (fun _ _ hw => Aom hA hw) hw1) ?_; cbv
 exact le h hR
theorem Ahn {A : Ar} (hA : A = std) {x0 : List Route} {q1 : Route → Option Bool} {g1 : Nat} {cap1 : List PV} (hcap1 : bare.bares cap1 = true) (hq1 : ∀ (y0 : Route) (r : Bool), q1 y0 = some r → PFun cx g1 ((Aa4 y0) :: cap1) (bl r)) {r : Int} (h : Acn A x0 q1 = some r) : PFun cx 231 [.d (.sl TyS.route x0), .fn (.func g1) [] cap1] (it .i64 r) := by
 refine wF hA cx_ok Tryz.func231 fun P R hP hR => ?_
 cbv; unfold Acn at h
 iterate 2 refine kj ?_
 refine kl h (fun x _ => [(8, it .i64 x)]) (fun _ _ => []) [] ?_
 rintro t8 gh1 g1 _ _ _ hK1 hQ1 h; cbv
 refine kj ?_
 refine bc h (fun hb h => ?_) fun hb h => ?_
 ·cbv
  iterate 2 refine kj ?_
  refine kk h fun c1 h => ?_
  obtain ⟨w2, hw2, h⟩ := bd_e h; refine kc hP (hq1 _ _ hw2) ?_ (by first | rfl | simp [bare, bare.bares, hcap1]); cbv
  refine bc h (fun hb h => ?_) fun hb h => ?_
  ·cbv
   refine kj ?_
   refine hQ1 _ h _ _ fun h => ?_; cbv
   exact le h hR
  ·cbv
   refine kj ?_
   cases h; exact hK1 _ _ [] rfl hdy
 ·cbv
  refine hQ1 _ h _ _ fun h => ?_; cbv
  refine kj ?_
  exact le h hR
theorem Aeh {A : Ar} (hA : A = std) {x0 : List Route} {q1 : Route → Option Bool} {g1 : Nat} {cap1 : List PV} (hcap1 : bare.bares cap1 = true) (hq1 : ∀ (y0 : Route) (r : Bool), q1 y0 = some r → PFun cx g1 ((Aa4 y0) :: cap1) (bl r)) {r : Bool} (h : Aan A x0 q1 = some r) : PFun cx 158 [.d (.sl TyS.route x0), .fn (.func g1) [] cap1] (bl r) := by
 refine wF hA cx_ok Tryz.func158 fun P R hP hR => ?_
 cbv; unfold Aan at h
 iterate 2 refine kj ?_
 obtain ⟨w1, hw1, h⟩ := bd_e h; refine kc hP (Ahn hA hcap1 hq1 hw1) ?_ (by first | rfl | simp [bare, bare.bares, hcap1]); cbv
 exact le h hR
theorem Aqg {A : Ar} (hA : A = std) {rf : Route → Int → Option Bool} {x0 : Route} {c0 : Int} (hqr131 : ∀ (x0 : Route) (x1 : Int) (r : Bool), rf x0 x1 = some r → PFun cx 131 [Aa4 x0, it .i64 x1] (bl r)) {r : Bool} (h : Aij A rf x0 c0 = some r) : PFun cx 210 [Aa4 x0, .ip [.v (.int .i64 c0)]] (bl r) := by
 refine wF hA cx_ok Tryz.func210 fun P R hP hR => ?_
 cbv; unfold Aij at h
 iterate 2 refine kj ?_
 obtain ⟨w1, hw1, h⟩ := bd_e h; refine kc hP (hqr131 _ _ _ hw1) ?_; cbv
 exact le h hR
theorem Aqh {A : Ar} (hA : A = std) {rf : Route → Int → Option Bool} {x0 : Route} {x1 : Int} (hqr131 : ∀ (x0 : Route) (x1 : Int) (r : Bool), rf x0 x1 = some r → PFun cx 131 [Aa4 x0, it .i64 x1] (bl r)) {r : Bool} (h : Aik A rf x0 x1 = some r) : PFun cx 131 [Aa4 x0, it .i64 x1] (bl r) := by
 refine PFun.walkF (fz := fun k => k == 3) hA cx_ok Tryz.func131 rfl rfl rfl fun P R hP hR => ?_
 cbv; unfold Aik at h
 iterate 3 refine kj ?_
 iterate 3 refine cj ?_
 obtain ⟨w1, hw1, h⟩ := bd_e h; refine kg hP (fun hc => (Am3 hA (gd_e hw1 hc))) ?_; cbv
 iterate 11 refine cj ?_
 obtain ⟨w2, hw2, h⟩ := bd_e h; refine kf hP (fun hc => (Aa8 hA (by rfl) (fun _ _ hw => Aqf hA hw) (gd_e hw2 hc))) ?_; cbv
 iterate 6 refine cj ?_
 refine bc h (fun hb h => ?_) fun hb h => ?_
 ·cbv
  refine kj ?_
  exact le h hR
 ·cbv
  refine kj ?_
  obtain ⟨w3, hw3, h⟩ := bd_e h; refine ke hP (Akn hA (by rfl) (fun _ _ hw => Asa hA hw) hw3) ?_; cbv
  iterate 3 refine cj ?_
  obtain ⟨w4, hw4, h⟩ := bd_e h; refine kf hP (fun hc => (Akn hA (by rfl) (fun _ _ hw => Am3 hA hw) (gd_e hw4 hc))) ?_; cbv
  iterate 7 refine cj ?_
  obtain ⟨w5, hw5, h⟩ := bd_e h; refine kg hP (fun hc => (Al2 hA (gd_e hw5 hc))) ?_; cbv
  iterate 10 refine cj ?_
  obtain ⟨w6, hw6, h⟩ := bd_e h; refine kg hP (fun hc => (Al2 hA (gd_e hw6 hc))) ?_; cbv
  iterate 2 refine cj ?_
  refine bc h (fun hb h => ?_) fun hb h => ?_
  ·cbv
   refine kj ?_
   exact le h hR
  ·cbv
   refine kj ?_
   obtain ⟨w7, hw7, h⟩ := bd_e h; refine kc hP (Aeh hA (by rfl) (fun _ _ hw => Aqg hA hqr131 hw) hw7) ?_; cbv
   exact le h hR
theorem Al3 {A : Ar} (hA : A = std) : ∀ (n : Nat) (x0 : Route) (x1 : Int) (r : Bool), Ag4 A n x0 x1 = some r → PFun cx 131 [Aa4 x0, it .i64 x1] (bl r)
 | 0, _, _, _, h => by cases h
 | n + 1, x0, x1, r, h => Aqh hA (fun _ _ _ hh => Al3 hA n _ _ _ hh) h
theorem Atm {A : Ar} (hA : A = std) {x0 : Route} {x1 : Int} {r : Bool} (h : Aov A x0 x1 = some r) : PFun cx 131 [Aa4 x0, it .i64 x1] (bl r) := Al3 hA _ _ _ _ h
theorem Aqi {A : Ar} (hA : A = std) {x0 : Route} {r : Bool} (h : Ail A x0 = some r) : PFun cx 49 [Aa4 x0] (bl r) := by
 refine wF hA cx_ok Tryz.func49 fun P R hP hR => ?_
 cbv; unfold Ail at h
 iterate 2 refine kj ?_
 obtain ⟨w1, hw1, h⟩ := bd_e h; refine kc hP (Atm hA hw1) ?_; cbv
 exact le h hR
theorem Aon {A : Ar} (hA : A = std) {rf : Route → Option Int} {x0 : Route} (hqr50 : ∀ (x0 : Route) (r : Int), rf x0 = some r → PFun cx 50 [Aa4 x0] (it .i64 r)) {r : Int} (h : Agj A rf x0 = some r) : PFun cx 50 [Aa4 x0] (it .i64 r) := by
 refine wF hA cx_ok Tryz.func50 fun P R hP hR => ?_
 cbv; unfold Agj at h
 iterate 3 refine kj ?_
 refine kl h (fun x _ => [(3, it .i64 x.1), (9, it .i64 x.2)]) (fun x gh => [⟨1, 0, .box 27 [st x0.1, .d (.sl .matcher x0.2), .d (.sl .str x0.3), it .i64 x0.4, it .i64 x0.5, it .i64 x0.6, .d (.sl .str x0.7), bl x0.8, .d (.sl .route x0.9)]⟩]) [] ?_
 rintro ⟨n3, t9⟩ gh1 g1 _ _ _ hK1 hQ1 h; cbv
 refine kj ?_
 refine bc h (fun hb h => ?_) fun hb h => ?_
 ·cbv
  refine kj ?_
  refine kk h fun c1 h => ?_
  refine kj ?_
  obtain ⟨w2, hw2, h⟩ := bd_e h; refine kc hP (hqr50 _ _ hw2) ?_; cbv
  refine kj ?_
  cases h; exact hK1 _ _ [] rfl hdy
 ·cbv
  refine hQ1 _ h _ _ fun h => ?_; cbv
  refine kj ?_
  exact le h hR
theorem Ako {A : Ar} (hA : A = std) : ∀ (n : Nat) (x0 : Route) (r : Int), Afg A n x0 = some r → PFun cx 50 [Aa4 x0] (it .i64 r)
 | 0, _, _, h => by cases h
 | n + 1, x0, r, h => Aon hA (fun _ _ hh => Ako hA n _ _ hh) h
theorem Aqj {A : Ar} (hA : A = std) {x0 : Route} {r : Int} (h : Al8 A x0 = some r) : PFun cx 50 [Aa4 x0] (it .i64 r) := Ako hA _ _ _ h
theorem Ajl {A : Ar} (hA : A = std) {rf : Route → (List ByteArray) → Option (List ByteArray)} {x0 : Route} {qc0 : Route → Option (List ByteArray)} {c1 : List ByteArray} {gc0 : Nat} {capc0 : List D} (hcapc0 : capOK capc0) (hqc0 : ∀ (y0 : Route) (r : List ByteArray), qc0 y0 = some r → PFun cx gc0 ((Aa4 y0) :: un.uns capc0) (.d (.sl TyS.str r))) (hqr211 : ∀ (x0 : Route) (c1 : List ByteArray) (r : List ByteArray), rf x0 c1 = some r → PFunM cx 211 [Aa4 x0, .ip [.fun (.func gc0) [] capc0], .bx 1000 0 0, .bx 1001 0 0] [⟨1000, 0, .box 24 [.os 1002 0 TyS.str c1]⟩, ⟨1001, 0, .box 208 [.fn (.func 211) [] [.ip [.fun (.func gc0) [] capc0], .bx 1000 0 0, .bx 1001 0 0]]⟩, ⟨1002, 0, .tok 9 TyS.str (A.nlen TyS.str c1)⟩] (.tu []) [⟨1000, 0, .box 24 [.os 2000 1 TyS.str r]⟩, ⟨1001, 0, .box 208 [.fn (.func 211) [] [.ip [.fun (.func gc0) [] capc0], .bx 1000 0 0, .bx 1001 0 0]]⟩, ⟨2000, 1, .tok 9 TyS.str (A.nlen TyS.str r)⟩]) {r : List ByteArray} (h : Aby A rf x0 qc0 c1 = some r) : PFunM cx 211 [Aa4 x0, .ip [.fun (.func gc0) [] capc0], .bx 1000 0 0, .bx 1001 0 0] [⟨1000, 0, .box 24 [.os 1002 0 TyS.str c1]⟩, ⟨1001, 0, .box 208 [.fn (.func 211) [] [.ip [.fun (.func gc0) [] capc0], .bx 1000 0 0, .bx 1001 0 0]]⟩, ⟨1002, 0, .tok 9 TyS.str (A.nlen TyS.str c1)⟩] (.tu []) [⟨1000, 0, .box 24 [.os 2000 1 TyS.str r]⟩, ⟨1001, 0, .box 208 [.fn (.func 211) [] [.ip [.fun (.func gc0) [] capc0], .bx 1000 0 0, .bx 1001 0 0]]⟩, ⟨2000, 1, .tok 9 TyS.str (A.nlen TyS.str r)⟩] := by
 rcases hcapc0 with rfl | ⟨dscapc0, rfl⟩
 ·refine PFunM.walkM (fz := fun _ => false) hA cx_ok Tryz.func211 rfl rfl fun P R hP hR => ?_
  cbv; unfold Aby at h
  iterate 2 refine kj ?_
  obtain ⟨w1, hw1, h⟩ := bd_e h; refine kc hP (hqc0 _ _ hw1) ?_; cbv
  refine kl h (fun x _ => [(13, it .i64 x.1)]) (fun x gh => [⟨4031, gh, .tok 9 TyS.str (A.nlen TyS.str x.2)⟩, ⟨4, 2, .box 27 [st x0.1, .d (.sl .matcher x0.2), .d (.sl .str x0.3), it .i64 x0.4, it .i64 x0.5, it .i64 x0.6, .d (.sl .str x0.7), bl x0.8, .d (.sl .route x0.9)]⟩, ⟨1000, 0, .box 24 [.os 4031 gh TyS.str x.2]⟩, ⟨1001, 0, .box 208 [PV.fn (Fn.func 211) [] [PV.ip [D.fun (Fn.func gc0) [] []], PV.bx 1000 0 0, PV.bx 1001 0 0]]⟩]) [(4031, 1002, 0)] ?_
  rintro ⟨t13, b0_1000⟩ gh1 g1 _ _ _ hK1 hQ1 h; cbv
  refine kj ?_
  refine bc h (fun hb h => ?_) fun hb h => ?_
  ·cbv
   refine kj ?_
   refine kk h fun c2 h => ?_
   refine kj ?_
   obtain ⟨w3, hw3, h⟩ := bd_e h; refine kc hP (Ab0 hA hw3) ?_; cbv
   refine bc h (fun hb h => ?_) fun hb h => ?_
   ·cbv
    refine kj ?_
    refine kk h fun c4 h => ?_
    refine kj ?_
    cases h; exact hK1 _ _ [(4031, 24, g1.succ.succ.succ)] rfl hdy
   ·cbv
    refine kj ?_
    cases h; exact hK1 _ _ [(4031, 4031, gh1)] rfl hdy
  ·cbv
   refine hQ1 _ h _ _ fun h => ?_; cbv
   refine kj ?_
   refine kl h (fun x _ => [(29, it .i64 x.1)]) (fun x gh => [⟨4061, gh, .tok 9 TyS.str (A.nlen TyS.str x.2)⟩, ⟨4, 2, .box 27 [st x0.1, .d (.sl .matcher x0.2), .d (.sl .str x0.3), it .i64 x0.4, it .i64 x0.5, it .i64 x0.6, .d (.sl .str x0.7), bl x0.8, .d (.sl .route x0.9)]⟩, ⟨1000, 0, .box 24 [.os 4061 gh TyS.str x.2]⟩, ⟨1001, 0, .box 208 [PV.fn (Fn.func 211) [] [PV.ip [D.fun (Fn.func gc0) [] []], PV.bx 1000 0 0, PV.bx 1001 0 0]]⟩]) [(4061, 4031, gh1)] ?_
   rintro ⟨t29, b0_1000'⟩ gh2 g2 _ _ _ hK2 hQ2 h; cbv
   refine kj ?_
   refine bc h (fun hb h => ?_) fun hb h => ?_
   ·cbv
    refine kj ?_
    refine kk h fun c5 h => ?_
    refine kj ?_
    obtain ⟨w6, hw6, h⟩ := bd_e h; refine km hP [(1000, 0), (1001, 0), (4061, gh2)] (hqr211 _ _ _ hw6) ?_; cbv
    refine kj ?_
    cases h; exact hK2 _ _ [(4061, 35, g2.succ.succ)] rfl hdy
   ·cbv
    refine hQ2 _ h _ _ fun h => ?_; cbv
    cases h
    refine hR _ _ ⟨[(4061, gh2)], ⟨by rfl, ez, by rfl, ez⟩⟩
 ·refine PFunM.walkM (fz := fun _ => false) hA cx_ok Tryz.func211 rfl rfl fun P R hP hR => ?_
  cbv; unfold Aby at h
  iterate 2 refine kj ?_
  obtain ⟨w1, hw1, h⟩ := bd_e h; refine kc hP (hqc0 _ _ hw1) ?_; cbv
  refine kl h (fun x _ => [(13, it .i64 x.1)]) (fun x gh => [⟨4031, gh, .tok 9 TyS.str (A.nlen TyS.str x.2)⟩, ⟨4, 2, .box 27 [st x0.1, .d (.sl .matcher x0.2), .d (.sl .str x0.3), it .i64 x0.4, it .i64 x0.5, it .i64 x0.6, .d (.sl .str x0.7), bl x0.8, .d (.sl .route x0.9)]⟩, ⟨1000, 0, .box 24 [.os 4031 gh TyS.str x.2]⟩, ⟨1001, 0, .box 208 [PV.fn (Fn.func 211) [] [PV.ip [D.fun (Fn.func gc0) [] [D.ptr dscapc0]], PV.bx 1000 0 0, PV.bx 1001 0 0]]⟩]) [(4031, 1002, 0)] ?_
  rintro ⟨t13, b0_1000⟩ gh1 g1 _ _ _ hK1 hQ1 h; cbv
  refine kj ?_
  refine bc h (fun hb h => ?_) fun hb h => ?_
  ·cbv
   refine kj ?_
   refine kk h fun c2 h => ?_
   refine kj ?_
   obtain ⟨w3, hw3, h⟩ := bd_e h; refine kc hP (Ab0 hA hw3) ?_; cbv
   refine bc h (fun hb h => ?_) fun hb h => ?_
   ·cbv
    refine kj ?_
    refine kk h fun c4 h => ?_
    refine kj ?_
    cases h; exact hK1 _ _ [(4031, 24, g1.succ.succ.succ)] rfl hdy
   ·cbv
    refine kj ?_
    cases h; exact hK1 _ _ [(4031, 4031, gh1)] rfl hdy
  ·cbv
   refine hQ1 _ h _ _ fun h => ?_; cbv
   refine kj ?_
   refine kl h (fun x _ => [(29, it .i64 x.1)]) (fun x gh => [⟨4061, gh, .tok 9 TyS.str (A.nlen TyS.str x.2)⟩, ⟨4, 2, .box 27 [st x0.1, .d (.sl .matcher x0.2), .d (.sl .str x0.3), it .i64 x0.4, it .i64 x0.5, it .i64 x0.6, .d (.sl .str x0.7), bl x0.8, .d (.sl .route x0.9)]⟩, ⟨1000, 0, .box 24 [.os 4061 gh TyS.str x.2]⟩, ⟨1001, 0, .box 208 [PV.fn (Fn.func 211) [] [PV.ip [D.fun (Fn.func gc0) [] [D.ptr dscapc0]], PV.bx 1000 0 0, PV.bx 1001 0 0]]⟩]) [(4061, 4031, gh1)] ?_
   rintro ⟨t29, b0_1000'⟩ gh2 g2 _ _ _ hK2 hQ2 h; cbv
   refine kj ?_
   refine bc h (fun hb h => ?_) fun hb h => ?_
   ·cbv
    refine kj ?_
    refine kk h fun c5 h => ?_
    refine kj ?_
    obtain ⟨w6, hw6, h⟩ := bd_e h; refine km hP [(1000, 0), (1001, 0), (4061, gh2)] (hqr211 _ _ _ hw6) ?_; cbv
    refine kj ?_
    cases h; exact hK2 _ _ [(4061, 35, g2.succ.succ)] rfl hdy
   ·cbv
    refine hQ2 _ h _ _ fun h => ?_; cbv
    cases h
    refine hR _ _ ⟨[(4061, gh2)], ⟨by rfl, ez, by rfl, ez⟩⟩
theorem Afw {A : Ar} (hA : A = std) {qc0 : Route → Option (List ByteArray)} {gc0 : Nat} {capc0 : List D} (hcapc0 : capOK capc0) (hqc0 : ∀ (y0 : Route) (r : List ByteArray), qc0 y0 = some r → PFun cx gc0 ((Aa4 y0) :: un.uns capc0) (.d (.sl TyS.str r))) : ∀ (n : Nat) (x0 : Route) (c1 : List ByteArray) (r : List ByteArray), Aa2 A qc0 n x0 c1 = some r → PFunM cx 211 [Aa4 x0, .ip [.fun (.func gc0) [] capc0], .bx 1000 0 0, .bx 1001 0 0] [⟨1000, 0, .box 24 [.os 1002 0 TyS.str c1]⟩, ⟨1001, 0, .box 208 [.fn (.func 211) [] [.ip [.fun (.func gc0) [] capc0], .bx 1000 0 0, .bx 1001 0 0]]⟩, ⟨1002, 0, .tok 9 TyS.str (A.nlen TyS.str c1)⟩] (.tu []) [⟨1000, 0, .box 24 [.os 2000 1 TyS.str r]⟩, ⟨1001, 0, .box 208 [.fn (.func 211) [] [.ip [.fun (.func gc0) [] capc0], .bx 1000 0 0, .bx 1001 0 0]]⟩, ⟨2000, 1, .tok 9 TyS.str (A.nlen TyS.str r)⟩]
 | 0, _, _, _, h => by cases h
 | n + 1, x0, c1, r, h => Ajl hA hcapc0 hqc0 (fun _ _ _ hh => Afw hA hcapc0 hqc0 n _ _ _ hh) h
theorem Agf {A : Ar} (hA : A = std) {x0 : Route} {qc0 : Route → Option (List ByteArray)} {c1 : List ByteArray} {gc0 : Nat} {capc0 : List D} (hcapc0 : capOK capc0) (hqc0 : ∀ (y0 : Route) (r : List ByteArray), qc0 y0 = some r → PFun cx gc0 ((Aa4 y0) :: un.uns capc0) (.d (.sl TyS.str r))) {r : List ByteArray} (h : Afl A x0 qc0 c1 = some r) : PFunM cx 211 [Aa4 x0, .ip [.fun (.func gc0) [] capc0], .bx 1000 0 0, .bx 1001 0 0] [⟨1000, 0, .box 24 [.os 1002 0 TyS.str c1]⟩, ⟨1001, 0, .box 208 [.fn (.func 211) [] [.ip [.fun (.func gc0) [] capc0], .bx 1000 0 0, .bx 1001 0 0]]⟩, ⟨1002, 0, .tok 9 TyS.str (A.nlen TyS.str c1)⟩] (.tu []) [⟨1000, 0, .box 24 [.os 2000 1 TyS.str r]⟩, ⟨1001, 0, .box 208 [.fn (.func 211) [] [.ip [.fun (.func gc0) [] capc0], .bx 1000 0 0, .bx 1001 0 0]]⟩, ⟨2000, 1, .tok 9 TyS.str (A.nlen TyS.str r)⟩] := Afw hA hcapc0 hqc0 _ _ _ _ h
theorem Aha {A : Ar} (hA : A = std) {x0 : Route} {q1 : Route → Option (List ByteArray)} {g1 : Nat} {cap1 : List D} (hcap1 : capOK cap1) (hq1 : ∀ (y0 : Route) (r : List ByteArray), q1 y0 = some r → PFun cx g1 ((Aa4 y0) :: un.uns cap1) (.d (.sl TyS.str r))) {r : List ByteArray} (h : Ac2 A x0 q1 = some r) : PFun cx 132 [Aa4 x0, .fn (.func g1) [] (un.uns cap1)] (.d (.sl TyS.str r)) := by
 rcases hcap1 with rfl | ⟨dscap1, rfl⟩
 ·refine PFun.walkF (fz := fun k => k == 3 || k == 131077) hA cx_ok Tryz.func132 rfl rfl rfl fun P R hP hR => ?_
  cbv; unfold Ac2 at h
  iterate 5 refine kj ?_
  obtain ⟨w1, hw1, h⟩ := bd_e h; refine km hP [(5, 1), (6, 2), (65541, 1)] (Agf (capc0 := []) hA (by first | exact .inl rfl | exact .inr ⟨_, rfl⟩) hq1 hw1) ?_; cbv
  refine kj ?_
  cases h; subst hR; exact ey
 ·refine PFun.walkF (fz := fun k => k == 3 || k == 131077) hA cx_ok Tryz.func132 rfl rfl rfl fun P R hP hR => ?_
  cbv; unfold Ac2 at h
  iterate 5 refine kj ?_
  obtain ⟨w1, hw1, h⟩ := bd_e h; refine km hP [(5, 1), (6, 2), (65541, 1)] (Agf (capc0 := [D.ptr dscap1]) hA (by first | exact .inl rfl | exact .inr ⟨_, rfl⟩) hq1 hw1) ?_; cbv
  refine kj ?_
  cases h; subst hR; exact ey
theorem Aoo {A : Ar} (hA : A = std) {x0 : Route} {r : List ByteArray} (h : Ah4 A x0 = some r) : PFun cx 133 [Aa4 x0] (.d (.sl TyS.str r)) := by
 refine wF hA cx_ok Tryz.func133 fun P R hP hR => ?_
 cbv; unfold Ah4 at h
 iterate 2 refine kj ?_
 cases h; subst hR; exact ey
theorem Aop {A : Ar} (hA : A = std) {x0 : Route} {r : List ByteArray} (h : Ah5 A x0 = some r) : PFun cx 134 [Aa4 x0] (.d (.sl TyS.str r)) := by
 refine wF hA cx_ok Tryz.func134 fun P R hP hR => ?_
 cbv; unfold Ah5 at h
 iterate 2 refine kj ?_
 cases h; subst hR; exact ey
theorem Aqk {A : Ar} (hA : A = std) {x0 : Route} {r : (List ByteArray) × (List ByteArray)} (h : Aim A x0 = some r) : PFun cx 51 [Aa4 x0] (.tu [.d (.sl TyS.str r.1), .d (.sl TyS.str r.2)]) := by
 refine wF hA cx_ok Tryz.func51 fun P R hP hR => ?_
 cbv; unfold Aim at h
 iterate 2 refine kj ?_
 obtain ⟨w1, hw1, h⟩ := bd_e h; refine ke hP (Aha (cap1 := []) hA (by first | exact .inl rfl | exact .inr ⟨_, rfl⟩) (fun _ _ hw => Aoo hA hw) hw1) ?_; cbv
 refine kj ?_
 obtain ⟨w2, hw2, h⟩ := bd_e h; refine ke hP (Aha (cap1 := []) hA (by first | exact .inl rfl | exact .inr ⟨_, rfl⟩) (fun _ _ hw => Aop hA hw) hw2) ?_; cbv
 cases h; subst hR; exact ey
theorem Anj {A : Ar} (hA : A = std) {x0 : Hours} {c0 : ByteArray} {r : Bool} (h : Afa A x0 c0 = some r) : PFun cx 54 [Ac4 x0, .ip [.v (.string c0)]] (bl r) := by
 refine wF hA cx_ok Tryz.func54 fun P R hP hR => ?_
 cbv; unfold Afa at h
 iterate 2 refine kj ?_
 exact le h hR
theorem Aoq {A : Ar} (hA : A = std) {x0 : ByteArray} {c0 : Config} {r : Bool} (h : Afh A x0 c0 = some r) : PFun cx 52 [st x0, .ip [.sl TyS.rule c0.Rules, .v (.string c0.Route.Receiver), .sl TyS.matcher c0.Route.Match, .sl TyS.str c0.Route.By, .v (.int .i64 c0.Route.Wait), .v (.int .i64 c0.Route.Every), .v (.int .i64 c0.Route.Repeat), .sl TyS.str c0.Route.Mute, .v (.bool c0.Route.On), .sl TyS.route c0.Route.Routes, .sl TyS.str c0.Receivers, .sl TyS.inhibit c0.Inhibits, .sl TyS.hours c0.Hours]] (bl r) := by
 refine PFun.walkF (fz := fun k => k == 2) hA cx_ok Tryz.func52 rfl rfl rfl fun P R hP hR => ?_
 cbv; unfold Afh at h
 iterate 2 refine kj ?_
 obtain ⟨w1, hw1, h⟩ := bd_e h; refine kc hP (Aco hA (by rfl) (fun _ _ hw => Anj hA hw) hw1) ?_; cbv
 exact le h hR
theorem Aor {A : Ar} (hA : A = std) {x0 : ByteArray} {c0 : Config} {r : Bool} (h : Afi A x0 c0 = some r) : PFun cx 55 [st x0, .ip [.sl TyS.rule c0.Rules, .v (.string c0.Route.Receiver), .sl TyS.matcher c0.Route.Match, .sl TyS.str c0.Route.By, .v (.int .i64 c0.Route.Wait), .v (.int .i64 c0.Route.Every), .v (.int .i64 c0.Route.Repeat), .sl TyS.str c0.Route.Mute, .v (.bool c0.Route.On), .sl TyS.route c0.Route.Routes, .sl TyS.str c0.Receivers, .sl TyS.inhibit c0.Inhibits, .sl TyS.hours c0.Hours]] (bl r) := by
 refine wF hA cx_ok Tryz.func55 fun P R hP hR => ?_
 cbv; unfold Afi at h
 iterate 2 refine kj ?_
 obtain ⟨w1, hw1, h⟩ := bd_e h; refine kc hP (Ab0 hA hw1) ?_; cbv
 exact le h hR
theorem Aeq {A : Ar} (hA : A = std) {x0 : Config} {r : Bool} (h : Adi A x0 = some r) : PFun cx 11 [Afq x0] (bl r) := by
 refine PFun.walkF (fz := fun k => k == 1) hA cx_ok Tryz.func11 rfl rfl rfl fun P R hP hR => ?_
 cbv; unfold Adi at h
 iterate 2 refine kj ?_
 obtain ⟨w1, hw1, h⟩ := bd_e h; refine ke hP (Anw (cap2 := []) hA (by first | exact .inl rfl | exact .inr ⟨_, rfl⟩) (fun _ _ hw => Am2 hA hw) hw1) ?_; cbv
 iterate 2 refine cj ?_
 obtain ⟨w2, hw2, h⟩ := bd_e h; refine kf hP (fun hc => (Agc (cap2 := []) hA (by first | exact .inl rfl | exact .inr ⟨_, rfl⟩) (fun _ _ hw => Ar8 hA hw) (gd_e hw2 hc))) ?_; cbv
 iterate 3 refine cj ?_
 obtain ⟨w3, hw3, h⟩ := bd_e h; refine kf hP (fun hc => (Aly (cap2 := []) hA (by first | exact .inl rfl | exact .inr ⟨_, rfl⟩) (fun _ _ hw => An1 hA hw) (gd_e hw3 hc))) ?_; cbv
 iterate 3 refine cj ?_
 obtain ⟨w4, hw4, h⟩ := bd_e h; refine kf hP (fun hc => (Ani (cap2 := []) hA (by first | exact .inl rfl | exact .inr ⟨_, rfl⟩) (fun _ _ hw => Ar9 hA hw) (gd_e hw4 hc))) ?_; cbv
 refine cj ?_
 refine kj ?_
 iterate 2 refine cj ?_
 obtain ⟨w5, hw5, h⟩ := bd_e h; refine kf hP (fun hc => (Al0 hA (by rfl) (fun _ _ hw => Al1 hA hw) (gd_e hw5 hc))) ?_; cbv
 iterate 4 refine cj ?_
 obtain ⟨w6, hw6, h⟩ := bd_e h; refine kf hP (fun hc => (Ak4 hA (by rfl) (fun _ _ hw => Alm hA hw) (gd_e hw6 hc))) ?_; cbv
 iterate 4 refine cj ?_
 obtain ⟨w7, hw7, h⟩ := bd_e h; refine kf hP (fun hc => (Alw hA (by rfl) (fun _ _ hw => Aln hA hw) (gd_e hw7 hc))) ?_; cbv
 iterate 2 refine cj ?_
 refine bc h (fun hb h => ?_) fun hb h => ?_
 ·cbv
  refine kj ?_
  exact le h hR
 ·cbv
  refine kj ?_
  obtain ⟨w8, hw8, h⟩ := bd_e h; refine kc hP (Aqi hA hw8) ?_; cbv
  iterate 10 refine cj ?_
  obtain ⟨w9, hw9, h⟩ := bd_e h; refine kg hP (fun hc => (Aqj hA (gd_e hw9 hc))) ?_; cbv
  iterate 2 refine cj ?_
  refine bc h (fun hb h => ?_) fun hb h => ?_
  ·cbv
   refine kj ?_
   exact le h hR
  ·cbv
   refine kj ?_
   obtain ⟨w10, hw10, h⟩ := bd_e h; refine kc hP (Aqk hA hw10) ?_; cbv
   iterate 2 refine kj ?_
   obtain ⟨w11, hw11, h⟩ := bd_e h; refine kc hP (Agc (cap2 := [D.ptr [D.sl TyS.rule x0.1, D.v (Value.string x0.2.1), D.sl TyS.matcher x0.2.2, D.sl TyS.str x0.2.3, D.v (Value.int .i64 x0.2.4), D.v (Value.int .i64 x0.2.5), D.v (Value.int .i64 x0.2.6), D.sl TyS.str x0.2.7, D.v (Value.bool x0.2.8), D.sl TyS.route x0.2.9, D.sl TyS.str x0.3, D.sl TyS.inhibit x0.4, D.sl TyS.hours x0.5]]) hA (by first | exact .inl rfl | exact .inr ⟨_, rfl⟩) (fun _ _ hw => Aor hA hw) hw11) ?_; cbv
   iterate 2 refine cj ?_
   obtain ⟨w12, hw12, h⟩ := bd_e h; refine kg hP (fun hc => (Agc (cap2 := [D.ptr [D.sl TyS.rule x0.1, D.v (Value.string x0.2.1), D.sl TyS.matcher x0.2.2, D.sl TyS.str x0.2.3, D.v (Value.int .i64 x0.2.4), D.v (Value.int .i64 x0.2.5), D.v (Value.int .i64 x0.2.6), D.sl TyS.str x0.2.7, D.v (Value.bool x0.2.8), D.sl TyS.route x0.2.9, D.sl TyS.str x0.3, D.sl TyS.inhibit x0.4, D.sl TyS.hours x0.5]]) hA (by first | exact .inl rfl | exact .inr ⟨_, rfl⟩) (fun _ _ hw => Aoq hA hw) (gd_e hw12 hc))) ?_; cbv
   refine cj ?_
   exact le h hR
theorem Al4 {A : Ar} (hA : A = std) {x0 : Matcher} {r : ByteArray × Int} (h : Ag5 A x0 = some r) : PFun cx 157 [Aev x0] (.tu [st r.1, it .i64 r.2]) := by
 refine wF hA cx_ok Tryz.func157 fun P R hP hR => ?_
 cbv; unfold Ag5 at h
 iterate 2 refine kj ?_
 obtain ⟨w1, hw1, h⟩ := bd_e h; refine kc hP (Agl hA hw1) ?_; cbv
 refine bc h (fun hb h => ?_) fun hb h => ?_
 ·cbv
  refine kj ?_
  cases h; subst hR; exact ey
 ·cbv
  refine kj ?_
  obtain ⟨w2, hw2, h⟩ := bd_e h; refine km hP [] (Aiu hA hw2) ?_; cbv
  refine ⟨by first | exact Ae6 hA _ | exact ⟨rfl⟩, ?_⟩
  obtain ⟨w3, hw3, h⟩ := bd_e h
  have hw3' := Ap4 A x0.2 (fun x => st x) (ByteArray.mk (Array.mk [])) [(1, ByteArray.mk (Array.mk [61])), (2, ByteArray.mk (Array.mk [33, 61])), (3, ByteArray.mk (Array.mk [61, 126])), (4, ByteArray.mk (Array.mk [33, 126]))]
  rw [Option.some.inj hw3] at hw3'
  refine LookK.one _ _ hw3' ?_
  cbv
  refine kk h fun c4 h => ?_
  refine kk h fun c5 h => ?_
  obtain ⟨w6, hw6, h⟩ := bd_e h; refine kc hP (Arc hA hw6) ?_; cbv
  refine kk h fun c7 h => ?_
  refine kk h fun c8 h => ?_
  refine kj ?_
  cases h; subst hR; exact ey
theorem Aql {A : Ar} (hA : A = std) {x0 : Int} {r : ByteArray × Int} (h : Ain A x0 = some r) : PFun cx 182 [it .i64 x0] (.tu [st r.1, it .i64 r.2]) := by
 refine wF hA cx_ok Tryz.func182 fun P R hP hR => ?_
 cbv; unfold Ain at h
 iterate 2 refine kj ?_
 iterate 2 refine cj ?_
 refine bc h (fun hb h => ?_) fun hb h => ?_
 ·cbv
  refine kj ?_
  cases h; subst hR; exact ey
 ·cbv
  refine kj ?_
  refine kl h (fun x gh => [(0, it .i64 x.1), (4, .os 4031 gh TyS.byte x.2)]) (fun x gh => [⟨4031, gh, .tok 5 TyS.byte (A.nlen TyS.byte x.2)⟩]) [] ?_
  rintro ⟨n0, out4⟩ gh1 g1 _ _ _ hK1 hQ1 h; cbv
  refine kj ?_
  refine bc h (fun hb h => ?_) fun hb h => ?_
  ·cbv
   refine kj ?_
   refine ⟨by subst hA; simp +contextual [vcm], ?_⟩
   refine and_assoc.2 ?_
   refine kk h fun c1 h => ?_
   refine cj ?_
   refine kk h fun c2 h => ?_
   refine kj ?_
   refine ⟨by subst hA; simp +contextual [vcm], ?_⟩
   cases h; exact hK1 _ _ [(4031, 21, g1.succ)] rfl hdy
  ·cbv
   refine hQ1 _ h _ _ fun h => ?_; cbv
   refine kj ?_
   refine and_assoc.2 ?_
   refine kk h fun c3 h => ?_
   refine cj ?_
   refine kk h fun c4 h => ?_
   cases h; subst hR; exact ey
theorem Aif {A : Ar} (hA : A = std) {x0 : List UInt8} {r : List UInt8} (h : Acv A x0 = some r) : PFunM cx 193 [.bx 1000 0 0] [⟨1000, 0, .box 129 [.d (.v (.pointer none)), .os 1001 0 TyS.byte x0]⟩, ⟨1001, 0, .tok 5 TyS.byte (A.nlen TyS.byte x0)⟩] (.tu []) [⟨1000, 0, .box 129 [.np 1000 0, .os 2000 1 TyS.byte r]⟩, ⟨2000, 1, .tok 5 TyS.byte (A.nlen TyS.byte r)⟩] := by
 refine PFunM.walkM (fz := fun _ => false) hA cx_ok Tryz.func193 rfl rfl fun P R hP hR => ?_
 cbv; unfold Acv at h
 iterate 2 refine kj ?_
 obtain ⟨w1, hw1, h⟩ := bd_e h; refine km hP [(1000, 0), (1001, 0)] (Ard hA hw1) ?_; cbv
 cases h
 refine hR _ _ ⟨[(1001, 0)], ⟨by rfl, ez, by rfl, ez⟩⟩
theorem Aig {A : Ar} (hA : A = std) {x0 : List UInt8} {r : List UInt8} (h : Acw A x0 = some r) : PFunM cx 193 [.bx 1000 0 0] [⟨1000, 0, .box 129 [.bx 1000 0 0, .os 1001 0 TyS.byte x0]⟩, ⟨1001, 0, .tok 5 TyS.byte (A.nlen TyS.byte x0)⟩] (.tu []) [⟨1000, 0, .box 129 [.np 1000 0, .os 2000 1 TyS.byte r]⟩, ⟨2000, 1, .tok 5 TyS.byte (A.nlen TyS.byte r)⟩] := by
 refine PFunM.walkM (fz := fun _ => false) hA cx_ok Tryz.func193 rfl rfl fun P R hP hR => ?_
 cbv; unfold Acw at h
 iterate 2 refine kj ?_
 cases h
 refine hR _ _ ⟨[(1001, 0)], ⟨by rfl, ez, by rfl, ez⟩⟩
theorem Ai5 {A : Ar} (hA : A = std) {x0 : List UInt8} {r : List UInt8} (h : Ach A x0 = some r) : PFunM cx 193 [.bx 1000 0 0] [⟨1000, 0, .box 129 [.np 1000 0, .os 1001 0 TyS.byte x0]⟩, ⟨1001, 0, .tok 5 TyS.byte (A.nlen TyS.byte x0)⟩] (.tu []) [⟨1000, 0, .box 129 [.np 1000 0, .os 2000 1 TyS.byte r]⟩, ⟨2000, 1, .tok 5 TyS.byte (A.nlen TyS.byte r)⟩] := by
 unfold Ach at h
 obtain ⟨a, h1, h⟩ := bd_e h
 obtain ⟨b, h2, h⟩ := bd_e h
 obtain ⟨e, h⟩ := ck_e h
 cases h; subst e
 exact PFunM.np (Aif hA h1) (Aig hA h2)
theorem Aex {A : Ar} (hA : A = std) {x0 : List UInt8} {x1 : ByteArray} {r : List UInt8} (h : Abi A x0 x1 = some r) : PFunM cx 246 [.bx 1000 0 0, st x1] [⟨1000, 0, .box 129 [.np 1000 0, .os 1001 0 TyS.byte x0]⟩, ⟨1001, 0, .tok 5 TyS.byte (A.nlen TyS.byte x0)⟩] (.tu [it .i64 (A.slen x1), .d (.v .nilIface)]) [⟨1000, 0, .box 129 [.np 1000 0, .os 2000 1 TyS.byte r]⟩, ⟨2000, 1, .tok 5 TyS.byte (A.nlen TyS.byte r)⟩] := by
 refine PFunM.walkM (fz := fun _ => false) hA cx_ok Tryz.func246 rfl rfl fun P R hP hR => ?_
 cbv; unfold Abi at h
 iterate 2 refine kj ?_
 obtain ⟨w1, hw1, h⟩ := bd_e h; refine km hP [(1000, 0), (1001, 0)] (Ai5 hA hw1) ?_; cbv
 refine kj ?_
 refine kk h fun c2 h => ?_
 refine kj ?_
 cases h
 refine hR _ _ ⟨[(14, 4)], ⟨by rfl, ez, by rfl, ez⟩⟩
theorem Atn {A : Ar} (hA : A = std) {x0 : List ByteArray} {r : ByteArray × Int} (h : Akw A x0 = some r) : PFun cx 181 [.d (.sl TyS.str x0)] (.tu [st r.1, it .i64 r.2]) := by
 refine PFun.walkF (fz := fun k => k == 131076) hA cx_ok Tryz.func181 rfl rfl rfl fun P R hP hR => ?_
 cbv; unfold Akw at h
 iterate 2 refine kj ?_
 refine bc h (fun hb h => ?_) fun hb h => ?_
 ·cbv
  refine kj ?_
  cases h; subst hR; exact ey
 ·cbv
  iterate 2 refine kj ?_
  refine kl h (fun x _ => [(14, it .i64 x.1)]) (fun x gh => [⟨4031, gh, .tok 5 TyS.byte (A.nlen TyS.byte x.2)⟩, ⟨4, 2, .box 129 [PV.np 4 2, .os 4031 gh TyS.byte x.2]⟩]) [(4031, 65540, 2)] ?_
  rintro ⟨t14, b1_4⟩ gh1 g1 _ _ _ hK1 hQ1 h; cbv
  refine kj ?_
  refine bc h (fun hb h => ?_) fun hb h => ?_
  ·cbv
   refine kj ?_
   refine kk h fun c1 h => ?_
   refine kj ?_
   refine bc h (fun hb h => ?_) fun hb h => ?_
   ·cbv
    refine kj ?_
    refine hQ1 _ h _ _ fun h => ?_; cbv
    cases h; subst hR; exact ey
   ·cbv
    refine kj ?_
    obtain ⟨w2, hw2, h⟩ := bd_e h; refine kc hP (Aql hA hw2) ?_; cbv
    refine kj ?_
    obtain ⟨w3, hw3, h⟩ := bd_e h; refine km hP [(4, 2), (4031, gh1)] (Aex hA hw3) ?_; cbv
    refine kj ?_
    obtain ⟨w4, hw4, h⟩ := bd_e h; refine km hP [(4, 2), (28, g1.succ.succ.succ.succ)] (Aex hA hw4) ?_; cbv
    refine kj ?_
    cases h; exact hK1 _ _ [(4031, 30, g1.succ.succ.succ.succ.succ)] rfl hdy
  ·cbv
   refine hQ1 _ h _ _ fun h => ?_; cbv
   refine kj ?_
   obtain ⟨w5, hw5, h⟩ := bd_e h; refine km hP [(4, 2), (4031, gh1)] (Akj hA hw5) ?_; cbv
   cases h; subst hR; exact ey
theorem Aki {A : Ar} (hA : A = std) {x0 : Bool} {x1 : List ByteArray} {r : ByteArray × Bool} (h : Agv A x0 x1 = some r) : PFunM cx 104 [.bx 1000 0 0, .d (.sl TyS.str x1)] [⟨1000, 0, .box 4 [bl x0]⟩] (st r.1) [⟨1000, 0, .box 4 [bl r.2]⟩] := by
 refine PFunM.walkM (fz := fun _ => false) hA cx_ok Tryz.func104 rfl rfl fun P R hP hR => ?_
 cbv; unfold Agv at h
 iterate 2 refine kj ?_
 obtain ⟨w1, hw1, h⟩ := bd_e h; refine kc hP (Atn hA hw1) ?_; cbv
 refine kj ?_
 iterate 2 refine cj ?_
 refine kj ?_
 cases h
 refine hR _ _ ⟨[], ⟨by rfl, ez, by rfl, ez⟩⟩
theorem Aj7 {A : Ar} (hA : A = std) {x0 : Bool} {x1 : List Matcher} {r : ByteArray × Bool} (h : Aet A x0 x1 = some r) : PFunM cx 180 [.bx 1000 0 0, .d (.sl TyS.matcher x1)] [⟨1000, 0, .box 4 [bl x0]⟩] (st r.1) [⟨1000, 0, .box 4 [bl r.2]⟩] := by
 refine PFunM.walkM (fz := fun _ => false) hA cx_ok Tryz.func180 rfl rfl fun P R hP hR => ?_
 cbv; unfold Aet at h
 iterate 3 refine kj ?_
 refine kl h (fun x gh => [(5, .os 4030 gh TyS.str x.1), (12, it .i64 x.2)]) (fun x gh => [⟨4030, gh, .tok 9 TyS.str (A.nlen TyS.str x.1)⟩, ⟨1000, 0, .box 4 [bl x0]⟩]) [] ?_
 rintro ⟨out5, t12⟩ gh1 g1 _ _ _ hK1 hQ1 h; cbv
 refine kj ?_
 refine bc h (fun hb h => ?_) fun hb h => ?_
 ·cbv
  refine kj ?_
  refine kk h fun c1 h => ?_
  refine kj ?_
  obtain ⟨w2, hw2, h⟩ := bd_e h; refine kc hP (Al4 hA hw2) ?_; cbv
  refine kj ?_
  refine kk h fun c3 h => ?_
  refine kj ?_
  cases h; exact hK1 _ _ [(4030, 24, g1.succ.succ.succ)] rfl hdy
 ·cbv
  refine hQ1 _ h _ _ fun h => ?_; cbv
  refine kj ?_
  obtain ⟨w4, hw4, h⟩ := bd_e h; refine km hP [(1000, 0)] (Aki hA hw4) ?_; cbv
  cases h
  refine hR _ _ ⟨[], ⟨by rfl, ez, by rfl, ez⟩⟩
theorem Aos {A : Ar} (hA : A = std) {x0 : Bool} {x1 : Inhibit} {r : ByteArray × Bool} (h : Ah6 A x0 x1 = some r) : PFunM cx 103 [.bx 1000 0 0, Adp x1] [⟨1000, 0, .box 4 [bl x0]⟩] (st r.1) [⟨1000, 0, .box 4 [bl r.2]⟩] := by
 refine PFunM.walkM (fz := fun _ => false) hA cx_ok Tryz.func103 rfl rfl fun P R hP hR => ?_
 cbv; unfold Ah6 at h
 iterate 2 refine kj ?_
 obtain ⟨w1, hw1, h⟩ := bd_e h; refine km hP [(1000, 0)] (Aj7 hA hw1) ?_; cbv
 obtain ⟨w2, hw2, h⟩ := bd_e h; refine km hP [(1000, 0)] (Aj7 hA hw2) ?_; cbv
 obtain ⟨w3, hw3, h⟩ := bd_e h; refine km hP [(1000, 0)] (Aki hA hw3) ?_; cbv
 obtain ⟨w4, hw4, h⟩ := bd_e h; refine km hP [(1000, 0)] (Aki hA hw4) ?_; cbv
 refine kj ?_
 cases h
 refine hR _ _ ⟨[], ⟨by rfl, ez, by rfl, ez⟩⟩
theorem Afm {A : Ar} (hA : A = std) {x0 : Inhibit} {c0 : Bool} {r : ByteArray × Bool} (h : Adj A x0 c0 = some r) : PFunM cx 137 [Adp x0, .bx 1000 0 0] [⟨1000, 0, .box 4 [bl c0]⟩] (st r.1) [⟨1000, 0, .box 4 [bl r.2]⟩] := by
 refine PFunM.walkM (fz := fun _ => false) hA cx_ok Tryz.func137 rfl rfl fun P R hP hR => ?_
 cbv; unfold Adj at h
 iterate 2 refine kj ?_
 obtain ⟨w1, hw1, h⟩ := bd_e h; refine km hP [(1000, 0)] (Aos hA hw1) ?_; cbv
 cases h
 refine hR _ _ ⟨[], ⟨by rfl, ez, by rfl, ez⟩⟩
theorem Agg {A : Ar} (hA : A = std) {x0 : List Rule} {r : Int × List Rule} (h : Ac8 A x0 = some r) : PFunM cx 212 [.d (.sl TyS.rule x0)] [] (.ms 2000 1 TyS.rule 0 r.1) [⟨2000, 1, .arr 36 TyS.rule r.2⟩] := by
 refine PFunM.walkM (fz := fun k => k == 65541 || k == 65543 || k == 65538 || k == 65538 || k == 65538) hA cx_ok Tryz.func212 rfl rfl fun P R hP hR => ?_
 cbv; unfold Ac8 at h
 iterate 2 refine kj ?_
 obtain ⟨h1, h2⟩ := Azq h
 refine ⟨fun hc => ?_, ?_⟩
 ·have h := h1 hc
  clear h1 h2
  cbv
  refine kj ?_
  cases h
  refine hR _ _ ⟨[(2, 4)], ⟨by rfl, ez, by rfl, ez⟩⟩
 ·have h := h2
  clear h1 h2
  refine kj ?_
  refine kk h fun c1 h => ?_
  cases h
  refine hR _ _ ⟨[(7, 4)], ⟨by rfl, ez, by rfl, ez⟩⟩
theorem Ahb {A : Ar} (hA : A = std) {x0 : Rule} {x1 : Rule} {qc0 : Rule → Option ByteArray} {gc0 : Nat} {capc0 : List D} (hcapc0 : capOK capc0) (hqc0 : ∀ (y0 : Rule) (r : ByteArray), qc0 y0 = some r → PFun cx gc0 ((Aeb y0) :: un.uns capc0) (st r)) {r : Int} (h : Ad2 A x0 x1 qc0 = some r) : PFun cx 214 [Aeb x0, Aeb x1, .ip [.fun (.func gc0) [] capc0]] (it .i64 r) := by
 rcases hcapc0 with rfl | ⟨dscapc0, rfl⟩
 all_goals
  refine wF hA cx_ok Tryz.func214 fun P R hP hR => ?_
  cbv; unfold Ad2 at h
  iterate 2 refine kj ?_
  obtain ⟨w1, hw1, h⟩ := bd_e h; refine kc hP (hqc0 _ _ hw1) ?_; cbv
  obtain ⟨w2, hw2, h⟩ := bd_e h; refine kc hP (hqc0 _ _ hw2) ?_; cbv
  obtain ⟨w3, hw3, h⟩ := bd_e h; refine kc hP (Afr hA hw3) ?_; cbv
  refine kj ?_
  exact le h hR
theorem Abr {A : Ar} (hA : A = std) {x0 : List Rule} {n0 : Int} {x1 : Int} {x2 : Int} {q3 : Rule → Rule → Option Int} {g3 : Nat} {cap3 : List D} (hcap3 : capOK cap3) (hq3 : ∀ (y0 : Rule) (y1 : Rule) (r : Int), q3 y0 y1 = some r → PFun cx g3 ((Aeb y0) :: (Aeb y1) :: un.uns cap3) (it .i64 r)) {r : List Rule} (h : Aay A x0 n0 x1 x2 q3 = some r) : PFunM cx 294 [.ms 1000 0 TyS.rule 0 n0, it .i64 x1, it .i64 x2, .fn (.func g3) [] (un.uns cap3)] [⟨1000, 0, .arr 36 TyS.rule x0⟩] (.tu []) [⟨1000, 0, .arr 36 TyS.rule r⟩] := by
 rcases hcap3 with rfl | ⟨dscap3, rfl⟩
 all_goals
  refine PFunM.walkM (fz := fun _ => false) hA cx_ok Tryz.func294 rfl rfl fun P R hP hR => ?_
  cbv; unfold Aay at h
  refine kj ?_
  refine kl h (fun x _ => [(8, it .i64 x.1)]) (fun x gh => [⟨1000, 0, .arr 36 TyS.rule x.2⟩]) [] ?_
  rintro ⟨i8, row1000⟩ gh1 g1 _ _ _ hK1 hQ1 h; cbv
  refine kj ?_
  refine bc h (fun hb h => ?_) fun hb h => ?_
  ·cbv
   refine kj ?_
   refine kl h (fun x _ => [(9, it .i64 x.1)]) (fun x gh => [⟨1000, 0, .arr 36 TyS.rule x.2⟩]) [] ?_
   rintro ⟨j9, row1000'⟩ gh2 g2 _ _ _ hK2 hQ2 h; cbv
   refine kj ?_
   iterate 2 refine cj ?_
   refine kk h fun c1 h => ?_
   iterate 2 refine cj ?_
   refine kk h fun c2 h => ?_
   iterate 3 refine cj ?_
   refine kk h fun c3 h => ?_
   iterate 2 refine cj ?_
   refine kk h fun c4 h => ?_
   iterate 3 refine cj ?_
   obtain ⟨w5, hw5, h⟩ := bd_e h; refine kg hP (fun hc => (hq3 _ _ _ (gd_e hw5 hc))) ?_; cbv
   iterate 2 refine cj ?_
   refine kj ?_
   refine bc h (fun hb h => ?_) fun hb h => ?_
   ·cbv
    refine kj ?_
    refine kk h fun c6 h => ?_
    refine kk h fun c7 h => ?_
    refine kk h fun c8 h => ?_
    refine kk h fun c9 h => ?_
    refine ⟨c8, ?_⟩
    refine ⟨c9, ?_⟩
    refine ⟨c6, ?_⟩
    refine kk h fun c10 h => ?_
    iterate 2 refine kj ?_
    cases h; exact hK2 _ _ [] rfl hdy
   ·cbv
    refine hQ2 _ h _ _ fun h => ?_; cbv
    refine kj ?_
    cases h; exact hK1 _ _ [] rfl hdy
  ·cbv
   refine hQ1 _ h _ _ fun h => ?_; cbv
   cases h
   refine hR _ _ ⟨[], ⟨by rfl, ez, by rfl, ez⟩⟩
theorem Afn {A : Ar} (hA : A = std) {x0 : List Rule} {n0 : Int} {x1 : Int} {q2 : Rule → Rule → Option Int} {g2 : Nat} {cap2 : List D} (hcap2 : capOK cap2) (hq2 : ∀ (y0 : Rule) (y1 : Rule) (r : Int), q2 y0 y1 = some r → PFun cx g2 ((Aeb y0) :: (Aeb y1) :: un.uns cap2) (it .i64 r)) {r : List Rule} (h : Abu A x0 n0 x1 q2 = some r) : PFunM cx 268 [.ms 1000 0 TyS.rule 0 n0, it .i64 x1, .fn (.func g2) [] (un.uns cap2)] [⟨1000, 0, .arr 36 TyS.rule x0⟩] (.tu []) [⟨1000, 0, .arr 36 TyS.rule r⟩] := by
 rcases hcap2 with rfl | ⟨dscap2, rfl⟩
 ·refine PFunM.walkM (fz := fun _ => false) hA cx_ok Tryz.func268 rfl rfl fun P R hP hR => ?_
  cbv; unfold Abu at h
  iterate 2 refine kj ?_
  refine kl h (fun x _ => [(7, it .i64 x.1), (8, it .i64 x.2.1)]) (fun x gh => [⟨1000, 0, .arr 36 TyS.rule x.2.2⟩]) [] ?_
  rintro ⟨a7, b8, row1000⟩ gh1 g1 _ _ _ hK1 hQ1 h; cbv
  refine kj ?_
  refine bc h (fun hb h => ?_) fun hb h => ?_
  ·cbv
   refine kj ?_
   obtain ⟨w1, hw1, h⟩ := bd_e h; refine km hP [(1000, 0)] (Abr (cap3 := []) hA (by first | exact .inl rfl | exact .inr ⟨_, rfl⟩) hq2 hw1) ?_; cbv
   iterate 2 refine kj ?_
   cases h; exact hK1 _ _ [] rfl hdy
  ·cbv
   refine hQ1 _ h _ _ fun h => ?_; cbv
   refine kj ?_
   obtain ⟨w2, hw2, h⟩ := bd_e h; refine km hP [(1000, 0)] (Abr (cap3 := []) hA (by first | exact .inl rfl | exact .inr ⟨_, rfl⟩) hq2 hw2) ?_; cbv
   refine kl h (fun x _ => [(6, it .i64 x)]) (fun _ _ => [⟨1000, 0, Cell.arr 36 TyS.rule w2⟩]) [] ?_
   rintro blockSize6 gh2 g2 _ _ _ hK2 hQ2 h; cbv
   refine kj ?_
   refine bc h (fun hb h => ?_) fun hb h => ?_
   ·cbv
    refine kj ?_
    refine kl h (fun x _ => [(7, it .i64 x.1), (8, it .i64 x.2)]) (fun _ _ => [⟨1000, 0, Cell.arr 36 TyS.rule w2⟩]) [] ?_
    rintro ⟨a7', b8'⟩ gh3 g3 _ _ _ hK3 hQ3 h; cbv
    refine kj ?_
    refine bc h (fun hb h => ?_) fun hb h => ?_
    ·cbv
     refine kj ?_
     cases h
    ·cbv
     refine hQ3 _ h _ _ fun h => ?_; cbv
     iterate 2 refine kj ?_
     refine bc h (fun hb h => ?_) fun hb h => ?_
     ·cbv
      refine kj ?_
      cases h
     ·cbv
      refine kj ?_
      cases h; exact hK2 _ _ [] rfl hdy
   ·cbv
    refine hQ2 _ h _ _ fun h => ?_; cbv
    cases h
    refine hR _ _ ⟨[], ⟨by rfl, ez, by rfl, ez⟩⟩
 ·refine PFunM.walkM (fz := fun _ => false) hA cx_ok Tryz.func268 rfl rfl fun P R hP hR => ?_
  cbv; unfold Abu at h
  iterate 2 refine kj ?_
  refine kl h (fun x _ => [(7, it .i64 x.1), (8, it .i64 x.2.1)]) (fun x gh => [⟨1000, 0, .arr 36 TyS.rule x.2.2⟩]) [] ?_
  rintro ⟨a7, b8, row1000⟩ gh1 g1 _ _ _ hK1 hQ1 h; cbv
  refine kj ?_
  refine bc h (fun hb h => ?_) fun hb h => ?_
  ·cbv
   refine kj ?_
   obtain ⟨w1, hw1, h⟩ := bd_e h; refine km hP [(1000, 0)] (Abr (cap3 := [D.ptr dscap2]) hA (by first | exact .inl rfl | exact .inr ⟨_, rfl⟩) hq2 hw1) ?_; cbv
   iterate 2 refine kj ?_
   cases h; exact hK1 _ _ [] rfl hdy
  ·cbv
   refine hQ1 _ h _ _ fun h => ?_; cbv
   refine kj ?_
   obtain ⟨w2, hw2, h⟩ := bd_e h; refine km hP [(1000, 0)] (Abr (cap3 := [D.ptr dscap2]) hA (by first | exact .inl rfl | exact .inr ⟨_, rfl⟩) hq2 hw2) ?_; cbv
   refine kl h (fun x _ => [(6, it .i64 x)]) (fun _ _ => [⟨1000, 0, Cell.arr 36 TyS.rule w2⟩]) [] ?_
   rintro blockSize6 gh2 g2 _ _ _ hK2 hQ2 h; cbv
   refine kj ?_
   refine bc h (fun hb h => ?_) fun hb h => ?_
   ·cbv
    refine kj ?_
    refine kl h (fun x _ => [(7, it .i64 x.1), (8, it .i64 x.2)]) (fun _ _ => [⟨1000, 0, Cell.arr 36 TyS.rule w2⟩]) [] ?_
    rintro ⟨a7', b8'⟩ gh3 g3 _ _ _ hK3 hQ3 h; cbv
    refine kj ?_
    refine bc h (fun hb h => ?_) fun hb h => ?_
    ·cbv
     refine kj ?_
     cases h
    ·cbv
     refine hQ3 _ h _ _ fun h => ?_; cbv
     iterate 2 refine kj ?_
     refine bc h (fun hb h => ?_) fun hb h => ?_
     ·cbv
      refine kj ?_
      cases h
     ·cbv
      refine kj ?_
      cases h; exact hK2 _ _ [] rfl hdy
   ·cbv
    refine hQ2 _ h _ _ fun h => ?_; cbv
    cases h
    refine hR _ _ ⟨[], ⟨by rfl, ez, by rfl, ez⟩⟩
theorem Aei {A : Ar} (hA : A = std) {x0 : List Rule} {n0 : Int} {q1 : Rule → Rule → Option Int} {g1 : Nat} {cap1 : List D} (hcap1 : capOK cap1) (hq1 : ∀ (y0 : Rule) (y1 : Rule) (r : Int), q1 y0 y1 = some r → PFun cx g1 ((Aeb y0) :: (Aeb y1) :: un.uns cap1) (it .i64 r)) {r : List Rule} (h : Abj A x0 n0 q1 = some r) : PFunM cx 213 [.ms 1000 0 TyS.rule 0 n0, .fn (.func g1) [] (un.uns cap1)] [⟨1000, 0, .arr 36 TyS.rule x0⟩] (.tu []) [⟨1000, 0, .arr 36 TyS.rule r⟩] := by
 rcases hcap1 with rfl | ⟨dscap1, rfl⟩
 ·refine PFunM.walkM (fz := fun _ => false) hA cx_ok Tryz.func213 rfl rfl fun P R hP hR => ?_
  cbv; unfold Abj at h
  refine kj ?_
  obtain ⟨w1, hw1, h⟩ := bd_e h; refine km hP [(1000, 0)] (Afn (cap2 := []) hA (by first | exact .inl rfl | exact .inr ⟨_, rfl⟩) hq1 hw1) ?_; cbv
  cases h
  refine hR _ _ ⟨[], ⟨by rfl, ez, by rfl, ez⟩⟩
 ·refine PFunM.walkM (fz := fun _ => false) hA cx_ok Tryz.func213 rfl rfl fun P R hP hR => ?_
  cbv; unfold Abj at h
  refine kj ?_
  obtain ⟨w1, hw1, h⟩ := bd_e h; refine km hP [(1000, 0)] (Afn (cap2 := [D.ptr dscap1]) hA (by first | exact .inl rfl | exact .inr ⟨_, rfl⟩) hq1 hw1) ?_; cbv
  cases h
  refine hR _ _ ⟨[], ⟨by rfl, ez, by rfl, ez⟩⟩
theorem Al5 {A : Ar} (hA : A = std) {x0 : List Rule} {q1 : Rule → Option ByteArray} {g1 : Nat} {cap1 : List D} (hcap1 : capOK cap1) (hq1 : ∀ (y0 : Rule) (r : ByteArray), q1 y0 = some r → PFun cx g1 ((Aeb y0) :: un.uns cap1) (st r)) {r : List Rule} (h : Adx A x0 q1 = some r) : PFun cx 138 [.d (.sl TyS.rule x0), .fn (.func g1) [] (un.uns cap1)] (.d (.sl TyS.rule r)) := by
 rcases hcap1 with rfl | ⟨dscap1, rfl⟩
 ·refine PFun.walkF (fz := fun k => k == 3) hA cx_ok Tryz.func138 rfl rfl rfl fun P R hP hR => ?_
  cbv; unfold Adx at h
  iterate 2 refine kj ?_
  obtain ⟨w1, hw1, h⟩ := bd_e h; refine km hP [] (Agg hA hw1) ?_; cbv
  refine kj ?_
  obtain ⟨w2, hw2, h⟩ := bd_e h; refine km hP [(7, 1)] (Aei (cap1 := [D.ptr [D.fun (Fn.func g1) [] []]]) hA (by first | exact .inl rfl | exact .inr ⟨_, rfl⟩) (fun _ _ _ hw => Ahb (capc0 := []) hA (by first | exact .inl rfl | exact .inr ⟨_, rfl⟩) hq1 hw) hw2) ?_; cbv
  refine kj ?_
  refine kk h fun c3 h => ?_
  cases h; subst hR; exact ey
 ·refine PFun.walkF (fz := fun k => k == 3) hA cx_ok Tryz.func138 rfl rfl rfl fun P R hP hR => ?_
  cbv; unfold Adx at h
  iterate 2 refine kj ?_
  obtain ⟨w1, hw1, h⟩ := bd_e h; refine km hP [] (Agg hA hw1) ?_; cbv
  refine kj ?_
  obtain ⟨w2, hw2, h⟩ := bd_e h; refine km hP [(7, 1)] (Aei (cap1 := [D.ptr [D.fun (Fn.func g1) [] [D.ptr dscap1]]]) hA (by first | exact .inl rfl | exact .inr ⟨_, rfl⟩) (fun _ _ _ hw => Ahb (capc0 := [D.ptr dscap1]) hA (by first | exact .inl rfl | exact .inr ⟨_, rfl⟩) hq1 hw) hw2) ?_; cbv
  refine kj ?_
  refine kk h fun c3 h => ?_
  cases h; subst hR; exact ey
theorem Ae7 {A : Ar} (hA : A = std) {x0 : List ByteArray} {r : Int × List ByteArray} (h : Ace A x0 = some r) : PFunM cx 216 [.d (.sl TyS.str x0)] [] (.ms 2000 1 TyS.str 0 r.1) [⟨2000, 1, .arr 9 TyS.str r.2⟩] := by
 refine PFunM.walkM (fz := fun k => k == 65541 || k == 65543 || k == 65538 || k == 65538 || k == 65538) hA cx_ok Tryz.func216 rfl rfl fun P R hP hR => ?_
 cbv; unfold Ace at h
 iterate 2 refine kj ?_
 obtain ⟨h1, h2⟩ := Azq h
 refine ⟨fun hc => ?_, ?_⟩
 ·have h := h1 hc
  clear h1 h2
  cbv
  refine kj ?_
  cases h
  refine hR _ _ ⟨[(2, 4)], ⟨by rfl, ez, by rfl, ez⟩⟩
 ·have h := h2
  clear h1 h2
  refine kj ?_
  refine kk h fun c1 h => ?_
  cases h
  refine hR _ _ ⟨[(7, 4)], ⟨by rfl, ez, by rfl, ez⟩⟩
theorem Agh {A : Ar} (hA : A = std) {x0 : ByteArray} {x1 : ByteArray} {qc0 : ByteArray → Option ByteArray} {gc0 : Nat} {capc0 : List D} (hcapc0 : capOK capc0) (hqc0 : ∀ (y0 : ByteArray) (r : ByteArray), qc0 y0 = some r → PFun cx gc0 ((st y0) :: un.uns capc0) (st r)) {r : Int} (h : Ac9 A x0 x1 qc0 = some r) : PFun cx 218 [st x0, st x1, .ip [.fun (.func gc0) [] capc0]] (it .i64 r) := by
 rcases hcapc0 with rfl | ⟨dscapc0, rfl⟩
 all_goals
  refine wF hA cx_ok Tryz.func218 fun P R hP hR => ?_
  cbv; unfold Ac9 at h
  iterate 2 refine kj ?_
  obtain ⟨w1, hw1, h⟩ := bd_e h; refine kc hP (hqc0 _ _ hw1) ?_; cbv
  obtain ⟨w2, hw2, h⟩ := bd_e h; refine kc hP (hqc0 _ _ hw2) ?_; cbv
  obtain ⟨w3, hw3, h⟩ := bd_e h; refine kc hP (Afr hA hw3) ?_; cbv
  refine kj ?_
  exact le h hR
theorem Abe {A : Ar} (hA : A = std) {x0 : List ByteArray} {n0 : Int} {x1 : Int} {x2 : Int} {q3 : ByteArray → ByteArray → Option Int} {g3 : Nat} {cap3 : List D} (hcap3 : capOK cap3) (hq3 : ∀ (y0 : ByteArray) (y1 : ByteArray) (r : Int), q3 y0 y1 = some r → PFun cx g3 ((st y0) :: (st y1) :: un.uns cap3) (it .i64 r)) {r : List ByteArray} (h : Aar A x0 n0 x1 x2 q3 = some r) : PFunM cx 297 [.ms 1000 0 TyS.str 0 n0, it .i64 x1, it .i64 x2, .fn (.func g3) [] (un.uns cap3)] [⟨1000, 0, .arr 9 TyS.str x0⟩] (.tu []) [⟨1000, 0, .arr 9 TyS.str r⟩] := by
 rcases hcap3 with rfl | ⟨dscap3, rfl⟩
 all_goals
  refine PFunM.walkM (fz := fun _ => false) hA cx_ok Tryz.func297 rfl rfl fun P R hP hR => ?_
  cbv; unfold Aar at h
  refine kj ?_
  refine kl h (fun x _ => [(8, it .i64 x.1)]) (fun x gh => [⟨1000, 0, .arr 9 TyS.str x.2⟩]) [] ?_
  rintro ⟨i8, row1000⟩ gh1 g1 _ _ _ hK1 hQ1 h; cbv
  refine kj ?_
  refine bc h (fun hb h => ?_) fun hb h => ?_
  ·cbv
   refine kj ?_
   refine kl h (fun x _ => [(9, it .i64 x.1)]) (fun x gh => [⟨1000, 0, .arr 9 TyS.str x.2⟩]) [] ?_
   rintro ⟨j9, row1000'⟩ gh2 g2 _ _ _ hK2 hQ2 h; cbv
   refine kj ?_
   iterate 2 refine cj ?_
   refine kk h fun c1 h => ?_
   iterate 2 refine cj ?_
   refine kk h fun c2 h => ?_
   iterate 3 refine cj ?_
   refine kk h fun c3 h => ?_
   iterate 2 refine cj ?_
   refine kk h fun c4 h => ?_
   iterate 3 refine cj ?_
   obtain ⟨w5, hw5, h⟩ := bd_e h; refine kg hP (fun hc => (hq3 _ _ _ (gd_e hw5 hc))) ?_; cbv
   iterate 2 refine cj ?_
   refine kj ?_
   refine bc h (fun hb h => ?_) fun hb h => ?_
   ·cbv
    refine kj ?_
    refine kk h fun c6 h => ?_
    refine kk h fun c7 h => ?_
    refine kk h fun c8 h => ?_
    refine kk h fun c9 h => ?_
    refine ⟨c8, ?_⟩
    refine ⟨c9, ?_⟩
    refine ⟨c6, ?_⟩
    refine kk h fun c10 h => ?_
    iterate 2 refine kj ?_
    cases h; exact hK2 _ _ [] rfl hdy
   ·cbv
    refine hQ2 _ h _ _ fun h => ?_; cbv
    refine kj ?_
    cases h; exact hK1 _ _ [] rfl hdy
  ·cbv
   refine hQ1 _ h _ _ fun h => ?_; cbv
   cases h
   refine hR _ _ ⟨[], ⟨by rfl, ez, by rfl, ez⟩⟩
theorem Aey {A : Ar} (hA : A = std) {x0 : List ByteArray} {n0 : Int} {x1 : Int} {q2 : ByteArray → ByteArray → Option Int} {g2 : Nat} {cap2 : List D} (hcap2 : capOK cap2) (hq2 : ∀ (y0 : ByteArray) (y1 : ByteArray) (r : Int), q2 y0 y1 = some r → PFun cx g2 ((st y0) :: (st y1) :: un.uns cap2) (it .i64 r)) {r : List ByteArray} (h : Abk A x0 n0 x1 q2 = some r) : PFunM cx 270 [.ms 1000 0 TyS.str 0 n0, it .i64 x1, .fn (.func g2) [] (un.uns cap2)] [⟨1000, 0, .arr 9 TyS.str x0⟩] (.tu []) [⟨1000, 0, .arr 9 TyS.str r⟩] := by
 rcases hcap2 with rfl | ⟨dscap2, rfl⟩
 ·refine PFunM.walkM (fz := fun _ => false) hA cx_ok Tryz.func270 rfl rfl fun P R hP hR => ?_
  cbv; unfold Abk at h
  iterate 2 refine kj ?_
  refine kl h (fun x _ => [(7, it .i64 x.1), (8, it .i64 x.2.1)]) (fun x gh => [⟨1000, 0, .arr 9 TyS.str x.2.2⟩]) [] ?_
  rintro ⟨a7, b8, row1000⟩ gh1 g1 _ _ _ hK1 hQ1 h; cbv
  refine kj ?_
  refine bc h (fun hb h => ?_) fun hb h => ?_
  ·cbv
   refine kj ?_
   obtain ⟨w1, hw1, h⟩ := bd_e h; refine km hP [(1000, 0)] (Abe (cap3 := []) hA (by first | exact .inl rfl | exact .inr ⟨_, rfl⟩) hq2 hw1) ?_; cbv
   iterate 2 refine kj ?_
   cases h; exact hK1 _ _ [] rfl hdy
  ·cbv
   refine hQ1 _ h _ _ fun h => ?_; cbv
   refine kj ?_
   obtain ⟨w2, hw2, h⟩ := bd_e h; refine km hP [(1000, 0)] (Abe (cap3 := []) hA (by first | exact .inl rfl | exact .inr ⟨_, rfl⟩) hq2 hw2) ?_; cbv
   refine kl h (fun x _ => [(6, it .i64 x)]) (fun _ _ => [⟨1000, 0, Cell.arr 9 TyS.str w2⟩]) [] ?_
   rintro blockSize6 gh2 g2 _ _ _ hK2 hQ2 h; cbv
   refine kj ?_
   refine bc h (fun hb h => ?_) fun hb h => ?_
   ·cbv
    refine kj ?_
    refine kl h (fun x _ => [(7, it .i64 x.1), (8, it .i64 x.2)]) (fun _ _ => [⟨1000, 0, Cell.arr 9 TyS.str w2⟩]) [] ?_
    rintro ⟨a7', b8'⟩ gh3 g3 _ _ _ hK3 hQ3 h; cbv
    refine kj ?_
    refine bc h (fun hb h => ?_) fun hb h => ?_
    ·cbv
     refine kj ?_
     cases h
    ·cbv
     refine hQ3 _ h _ _ fun h => ?_; cbv
     iterate 2 refine kj ?_
     refine bc h (fun hb h => ?_) fun hb h => ?_
     ·cbv
      refine kj ?_
      cases h
     ·cbv
      refine kj ?_
      cases h; exact hK2 _ _ [] rfl hdy
   ·cbv
    refine hQ2 _ h _ _ fun h => ?_; cbv
    cases h
    refine hR _ _ ⟨[], ⟨by rfl, ez, by rfl, ez⟩⟩
 ·refine PFunM.walkM (fz := fun _ => false) hA cx_ok Tryz.func270 rfl rfl fun P R hP hR => ?_
  cbv; unfold Abk at h
  iterate 2 refine kj ?_
  refine kl h (fun x _ => [(7, it .i64 x.1), (8, it .i64 x.2.1)]) (fun x gh => [⟨1000, 0, .arr 9 TyS.str x.2.2⟩]) [] ?_
  rintro ⟨a7, b8, row1000⟩ gh1 g1 _ _ _ hK1 hQ1 h; cbv
  refine kj ?_
  refine bc h (fun hb h => ?_) fun hb h => ?_
  ·cbv
   refine kj ?_
   obtain ⟨w1, hw1, h⟩ := bd_e h; refine km hP [(1000, 0)] (Abe (cap3 := [D.ptr dscap2]) hA (by first | exact .inl rfl | exact .inr ⟨_, rfl⟩) hq2 hw1) ?_; cbv
   iterate 2 refine kj ?_
   cases h; exact hK1 _ _ [] rfl hdy
  ·cbv
   refine hQ1 _ h _ _ fun h => ?_; cbv
   refine kj ?_
   obtain ⟨w2, hw2, h⟩ := bd_e h; refine km hP [(1000, 0)] (Abe (cap3 := [D.ptr dscap2]) hA (by first | exact .inl rfl | exact .inr ⟨_, rfl⟩) hq2 hw2) ?_; cbv
   refine kl h (fun x _ => [(6, it .i64 x)]) (fun _ _ => [⟨1000, 0, Cell.arr 9 TyS.str w2⟩]) [] ?_
   rintro blockSize6 gh2 g2 _ _ _ hK2 hQ2 h; cbv
   refine kj ?_
   refine bc h (fun hb h => ?_) fun hb h => ?_
   ·cbv
    refine kj ?_
    refine kl h (fun x _ => [(7, it .i64 x.1), (8, it .i64 x.2)]) (fun _ _ => [⟨1000, 0, Cell.arr 9 TyS.str w2⟩]) [] ?_
    rintro ⟨a7', b8'⟩ gh3 g3 _ _ _ hK3 hQ3 h; cbv
    refine kj ?_
    refine bc h (fun hb h => ?_) fun hb h => ?_
    ·cbv
     refine kj ?_
     cases h
    ·cbv
     refine hQ3 _ h _ _ fun h => ?_; cbv
     iterate 2 refine kj ?_
     refine bc h (fun hb h => ?_) fun hb h => ?_
     ·cbv
      refine kj ?_
      cases h
     ·cbv
      refine kj ?_
      cases h; exact hK2 _ _ [] rfl hdy
   ·cbv
    refine hQ2 _ h _ _ fun h => ?_; cbv
    cases h
    refine hR _ _ ⟨[], ⟨by rfl, ez, by rfl, ez⟩⟩
theorem Adq {A : Ar} (hA : A = std) {x0 : List ByteArray} {n0 : Int} {q1 : ByteArray → ByteArray → Option Int} {g1 : Nat} {cap1 : List D} (hcap1 : capOK cap1) (hq1 : ∀ (y0 : ByteArray) (y1 : ByteArray) (r : Int), q1 y0 y1 = some r → PFun cx g1 ((st y0) :: (st y1) :: un.uns cap1) (it .i64 r)) {r : List ByteArray} (h : Aa1 A x0 n0 q1 = some r) : PFunM cx 217 [.ms 1000 0 TyS.str 0 n0, .fn (.func g1) [] (un.uns cap1)] [⟨1000, 0, .arr 9 TyS.str x0⟩] (.tu []) [⟨1000, 0, .arr 9 TyS.str r⟩] := by
 rcases hcap1 with rfl | ⟨dscap1, rfl⟩
 ·refine PFunM.walkM (fz := fun _ => false) hA cx_ok Tryz.func217 rfl rfl fun P R hP hR => ?_
  cbv; unfold Aa1 at h
  refine kj ?_
  obtain ⟨w1, hw1, h⟩ := bd_e h; refine km hP [(1000, 0)] (Aey (cap2 := []) hA (by first | exact .inl rfl | exact .inr ⟨_, rfl⟩) hq1 hw1) ?_; cbv
  cases h
  refine hR _ _ ⟨[], ⟨by rfl, ez, by rfl, ez⟩⟩
 ·refine PFunM.walkM (fz := fun _ => false) hA cx_ok Tryz.func217 rfl rfl fun P R hP hR => ?_
  cbv; unfold Aa1 at h
  refine kj ?_
  obtain ⟨w1, hw1, h⟩ := bd_e h; refine km hP [(1000, 0)] (Aey (cap2 := [D.ptr dscap1]) hA (by first | exact .inl rfl | exact .inr ⟨_, rfl⟩) hq1 hw1) ?_; cbv
  cases h
  refine hR _ _ ⟨[], ⟨by rfl, ez, by rfl, ez⟩⟩
theorem Ak5 {A : Ar} (hA : A = std) {x0 : List ByteArray} {q1 : ByteArray → Option ByteArray} {g1 : Nat} {cap1 : List D} (hcap1 : capOK cap1) (hq1 : ∀ (y0 : ByteArray) (r : ByteArray), q1 y0 = some r → PFun cx g1 ((st y0) :: un.uns cap1) (st r)) {r : List ByteArray} (h : Ac3 A x0 q1 = some r) : PFun cx 139 [.d (.sl TyS.str x0), .fn (.func g1) [] (un.uns cap1)] (.d (.sl TyS.str r)) := by
 rcases hcap1 with rfl | ⟨dscap1, rfl⟩
 ·refine PFun.walkF (fz := fun k => k == 3) hA cx_ok Tryz.func139 rfl rfl rfl fun P R hP hR => ?_
  cbv; unfold Ac3 at h
  iterate 2 refine kj ?_
  obtain ⟨w1, hw1, h⟩ := bd_e h; refine km hP [] (Ae7 hA hw1) ?_; cbv
  refine kj ?_
  obtain ⟨w2, hw2, h⟩ := bd_e h; refine km hP [(7, 1)] (Adq (cap1 := [D.ptr [D.fun (Fn.func g1) [] []]]) hA (by first | exact .inl rfl | exact .inr ⟨_, rfl⟩) (fun _ _ _ hw => Agh (capc0 := []) hA (by first | exact .inl rfl | exact .inr ⟨_, rfl⟩) hq1 hw) hw2) ?_; cbv
  refine kj ?_
  refine kk h fun c3 h => ?_
  cases h; subst hR; exact ey
 ·refine PFun.walkF (fz := fun k => k == 3) hA cx_ok Tryz.func139 rfl rfl rfl fun P R hP hR => ?_
  cbv; unfold Ac3 at h
  iterate 2 refine kj ?_
  obtain ⟨w1, hw1, h⟩ := bd_e h; refine km hP [] (Ae7 hA hw1) ?_; cbv
  refine kj ?_
  obtain ⟨w2, hw2, h⟩ := bd_e h; refine km hP [(7, 1)] (Adq (cap1 := [D.ptr [D.fun (Fn.func g1) [] [D.ptr dscap1]]]) hA (by first | exact .inl rfl | exact .inr ⟨_, rfl⟩) (fun _ _ _ hw => Agh (capc0 := [D.ptr dscap1]) hA (by first | exact .inl rfl | exact .inr ⟨_, rfl⟩) hq1 hw) hw2) ?_; cbv
  refine kj ?_
  refine kk h fun c3 h => ?_
  cases h; subst hR; exact ey
theorem Afx {A : Ar} (hA : A = std) {x0 : List Hours} {r : Int × List Hours} (h : Acl A x0 = some r) : PFunM cx 219 [.d (.sl TyS.hours x0)] [] (.ms 2000 1 TyS.hours 0 r.1) [⟨2000, 1, .arr 65 TyS.hours r.2⟩] := by
 refine PFunM.walkM (fz := fun k => k == 65541 || k == 65543 || k == 65538 || k == 65538 || k == 65538) hA cx_ok Tryz.func219 rfl rfl fun P R hP hR => ?_
 cbv; unfold Acl at h
 iterate 2 refine kj ?_
 obtain ⟨h1, h2⟩ := Azq h
 refine ⟨fun hc => ?_, ?_⟩
 ·have h := h1 hc
  clear h1 h2
  cbv
  refine kj ?_
  cases h
  refine hR _ _ ⟨[(2, 4)], ⟨by rfl, ez, by rfl, ez⟩⟩
 ·have h := h2
  clear h1 h2
  refine kj ?_
  refine kk h fun c1 h => ?_
  cases h
  refine hR _ _ ⟨[(7, 4)], ⟨by rfl, ez, by rfl, ez⟩⟩
theorem Agy {A : Ar} (hA : A = std) {x0 : Hours} {x1 : Hours} {qc0 : Hours → Option ByteArray} {gc0 : Nat} {capc0 : List D} (hcapc0 : capOK capc0) (hqc0 : ∀ (y0 : Hours) (r : ByteArray), qc0 y0 = some r → PFun cx gc0 ((Ac4 y0) :: un.uns capc0) (st r)) {r : Int} (h : Adm A x0 x1 qc0 = some r) : PFun cx 221 [Ac4 x0, Ac4 x1, .ip [.fun (.func gc0) [] capc0]] (it .i64 r) := by
 rcases hcapc0 with rfl | ⟨dscapc0, rfl⟩
 all_goals
  refine wF hA cx_ok Tryz.func221 fun P R hP hR => ?_
  cbv; unfold Adm at h
  iterate 2 refine kj ?_
  obtain ⟨w1, hw1, h⟩ := bd_e h; refine kc hP (hqc0 _ _ hw1) ?_; cbv
  obtain ⟨w2, hw2, h⟩ := bd_e h; refine kc hP (hqc0 _ _ hw2) ?_; cbv
  obtain ⟨w3, hw3, h⟩ := bd_e h; refine kc hP (Afr hA hw3) ?_; cbv
  refine kj ?_
  exact le h hR
theorem Abm {A : Ar} (hA : A = std) {x0 : List Hours} {n0 : Int} {x1 : Int} {x2 : Int} {q3 : Hours → Hours → Option Int} {g3 : Nat} {cap3 : List D} (hcap3 : capOK cap3) (hq3 : ∀ (y0 : Hours) (y1 : Hours) (r : Int), q3 y0 y1 = some r → PFun cx g3 ((Ac4 y0) :: (Ac4 y1) :: un.uns cap3) (it .i64 r)) {r : List Hours} (h : Aat A x0 n0 x1 x2 q3 = some r) : PFunM cx 299 [.ms 1000 0 TyS.hours 0 n0, it .i64 x1, it .i64 x2, .fn (.func g3) [] (un.uns cap3)] [⟨1000, 0, .arr 65 TyS.hours x0⟩] (.tu []) [⟨1000, 0, .arr 65 TyS.hours r⟩] := by
 rcases hcap3 with rfl | ⟨dscap3, rfl⟩
 all_goals
  refine PFunM.walkM (fz := fun _ => false) hA cx_ok Tryz.func299 rfl rfl fun P R hP hR => ?_
  cbv; unfold Aat at h
  refine kj ?_
  refine kl h (fun x _ => [(8, it .i64 x.1)]) (fun x gh => [⟨1000, 0, .arr 65 TyS.hours x.2⟩]) [] ?_
  rintro ⟨i8, row1000⟩ gh1 g1 _ _ _ hK1 hQ1 h; cbv
  refine kj ?_
  refine bc h (fun hb h => ?_) fun hb h => ?_
  ·cbv
   refine kj ?_
   refine kl h (fun x _ => [(9, it .i64 x.1)]) (fun x gh => [⟨1000, 0, .arr 65 TyS.hours x.2⟩]) [] ?_
   rintro ⟨j9, row1000'⟩ gh2 g2 _ _ _ hK2 hQ2 h; cbv
   refine kj ?_
   iterate 2 refine cj ?_
   refine kk h fun c1 h => ?_
   iterate 2 refine cj ?_
   refine kk h fun c2 h => ?_
   iterate 3 refine cj ?_
   refine kk h fun c3 h => ?_
   iterate 2 refine cj ?_
   refine kk h fun c4 h => ?_
   iterate 3 refine cj ?_
   obtain ⟨w5, hw5, h⟩ := bd_e h; refine kg hP (fun hc => (hq3 _ _ _ (gd_e hw5 hc))) ?_; cbv
   iterate 2 refine cj ?_
   refine kj ?_
   refine bc h (fun hb h => ?_) fun hb h => ?_
   ·cbv
    refine kj ?_
    refine kk h fun c6 h => ?_
    refine kk h fun c7 h => ?_
    refine kk h fun c8 h => ?_
    refine kk h fun c9 h => ?_
    refine ⟨c8, ?_⟩
    refine ⟨c9, ?_⟩
    refine ⟨c6, ?_⟩
    refine kk h fun c10 h => ?_
    iterate 2 refine kj ?_
    cases h; exact hK2 _ _ [] rfl hdy
   ·cbv
    refine hQ2 _ h _ _ fun h => ?_; cbv
    refine kj ?_
    cases h; exact hK1 _ _ [] rfl hdy
  ·cbv
   refine hQ1 _ h _ _ fun h => ?_; cbv
   cases h
   refine hR _ _ ⟨[], ⟨by rfl, ez, by rfl, ez⟩⟩
theorem Ae8 {A : Ar} (hA : A = std) {x0 : List Hours} {n0 : Int} {x1 : Int} {q2 : Hours → Hours → Option Int} {g2 : Nat} {cap2 : List D} (hcap2 : capOK cap2) (hq2 : ∀ (y0 : Hours) (y1 : Hours) (r : Int), q2 y0 y1 = some r → PFun cx g2 ((Ac4 y0) :: (Ac4 y1) :: un.uns cap2) (it .i64 r)) {r : List Hours} (h : Abq A x0 n0 x1 q2 = some r) : PFunM cx 271 [.ms 1000 0 TyS.hours 0 n0, it .i64 x1, .fn (.func g2) [] (un.uns cap2)] [⟨1000, 0, .arr 65 TyS.hours x0⟩] (.tu []) [⟨1000, 0, .arr 65 TyS.hours r⟩] := by
 rcases hcap2 with rfl | ⟨dscap2, rfl⟩
 ·refine PFunM.walkM (fz := fun _ => false) hA cx_ok Tryz.func271 rfl rfl fun P R hP hR => ?_
  cbv; unfold Abq at h
  iterate 2 refine kj ?_
  refine kl h (fun x _ => [(7, it .i64 x.1), (8, it .i64 x.2.1)]) (fun x gh => [⟨1000, 0, .arr 65 TyS.hours x.2.2⟩]) [] ?_
  rintro ⟨a7, b8, row1000⟩ gh1 g1 _ _ _ hK1 hQ1 h; cbv
  refine kj ?_
  refine bc h (fun hb h => ?_) fun hb h => ?_
  ·cbv
   refine kj ?_
   obtain ⟨w1, hw1, h⟩ := bd_e h; refine km hP [(1000, 0)] (Abm (cap3 := []) hA (by first | exact .inl rfl | exact .inr ⟨_, rfl⟩) hq2 hw1) ?_; cbv
   iterate 2 refine kj ?_
   cases h; exact hK1 _ _ [] rfl hdy
  ·cbv
   refine hQ1 _ h _ _ fun h => ?_; cbv
   refine kj ?_
   obtain ⟨w2, hw2, h⟩ := bd_e h; refine km hP [(1000, 0)] (Abm (cap3 := []) hA (by first | exact .inl rfl | exact .inr ⟨_, rfl⟩) hq2 hw2) ?_; cbv
   refine kl h (fun x _ => [(6, it .i64 x)]) (fun _ _ => [⟨1000, 0, Cell.arr 65 TyS.hours w2⟩]) [] ?_
   rintro blockSize6 gh2 g2 _ _ _ hK2 hQ2 h; cbv
   refine kj ?_
   refine bc h (fun hb h => ?_) fun hb h => ?_
   ·cbv
    refine kj ?_
    refine kl h (fun x _ => [(7, it .i64 x.1), (8, it .i64 x.2)]) (fun _ _ => [⟨1000, 0, Cell.arr 65 TyS.hours w2⟩]) [] ?_
    rintro ⟨a7', b8'⟩ gh3 g3 _ _ _ hK3 hQ3 h; cbv
    refine kj ?_
    refine bc h (fun hb h => ?_) fun hb h => ?_
    ·cbv
     refine kj ?_
     cases h
    ·cbv
     refine hQ3 _ h _ _ fun h => ?_; cbv
     iterate 2 refine kj ?_
     refine bc h (fun hb h => ?_) fun hb h => ?_
     ·cbv
      refine kj ?_
      cases h
     ·cbv
      refine kj ?_
      cases h; exact hK2 _ _ [] rfl hdy
   ·cbv
    refine hQ2 _ h _ _ fun h => ?_; cbv
    cases h
    refine hR _ _ ⟨[], ⟨by rfl, ez, by rfl, ez⟩⟩
 ·refine PFunM.walkM (fz := fun _ => false) hA cx_ok Tryz.func271 rfl rfl fun P R hP hR => ?_
  cbv; unfold Abq at h
  iterate 2 refine kj ?_
  refine kl h (fun x _ => [(7, it .i64 x.1), (8, it .i64 x.2.1)]) (fun x gh => [⟨1000, 0, .arr 65 TyS.hours x.2.2⟩]) [] ?_
  rintro ⟨a7, b8, row1000⟩ gh1 g1 _ _ _ hK1 hQ1 h; cbv
  refine kj ?_
  refine bc h (fun hb h => ?_) fun hb h => ?_
  ·cbv
   refine kj ?_
   obtain ⟨w1, hw1, h⟩ := bd_e h; refine km hP [(1000, 0)] (Abm (cap3 := [D.ptr dscap2]) hA (by first | exact .inl rfl | exact .inr ⟨_, rfl⟩) hq2 hw1) ?_; cbv
   iterate 2 refine kj ?_
   cases h; exact hK1 _ _ [] rfl hdy
  ·cbv
   refine hQ1 _ h _ _ fun h => ?_; cbv
   refine kj ?_
   obtain ⟨w2, hw2, h⟩ := bd_e h; refine km hP [(1000, 0)] (Abm (cap3 := [D.ptr dscap2]) hA (by first | exact .inl rfl | exact .inr ⟨_, rfl⟩) hq2 hw2) ?_; cbv
   refine kl h (fun x _ => [(6, it .i64 x)]) (fun _ _ => [⟨1000, 0, Cell.arr 65 TyS.hours w2⟩]) [] ?_
   rintro blockSize6 gh2 g2 _ _ _ hK2 hQ2 h; cbv
   refine kj ?_
   refine bc h (fun hb h => ?_) fun hb h => ?_
   ·cbv
    refine kj ?_
    refine kl h (fun x _ => [(7, it .i64 x.1), (8, it .i64 x.2)]) (fun _ _ => [⟨1000, 0, Cell.arr 65 TyS.hours w2⟩]) [] ?_
    rintro ⟨a7', b8'⟩ gh3 g3 _ _ _ hK3 hQ3 h; cbv
    refine kj ?_
    refine bc h (fun hb h => ?_) fun hb h => ?_
    ·cbv
     refine kj ?_
     cases h
    ·cbv
     refine hQ3 _ h _ _ fun h => ?_; cbv
     iterate 2 refine kj ?_
     refine bc h (fun hb h => ?_) fun hb h => ?_
     ·cbv
      refine kj ?_
      cases h
     ·cbv
      refine kj ?_
      cases h; exact hK2 _ _ [] rfl hdy
   ·cbv
    refine hQ2 _ h _ _ fun h => ?_; cbv
    cases h
    refine hR _ _ ⟨[], ⟨by rfl, ez, by rfl, ez⟩⟩
theorem Ad9 {A : Ar} (hA : A = std) {x0 : List Hours} {n0 : Int} {q1 : Hours → Hours → Option Int} {g1 : Nat} {cap1 : List D} (hcap1 : capOK cap1) (hq1 : ∀ (y0 : Hours) (y1 : Hours) (r : Int), q1 y0 y1 = some r → PFun cx g1 ((Ac4 y0) :: (Ac4 y1) :: un.uns cap1) (it .i64 r)) {r : List Hours} (h : Aa5 A x0 n0 q1 = some r) : PFunM cx 220 [.ms 1000 0 TyS.hours 0 n0, .fn (.func g1) [] (un.uns cap1)] [⟨1000, 0, .arr 65 TyS.hours x0⟩] (.tu []) [⟨1000, 0, .arr 65 TyS.hours r⟩] := by
 rcases hcap1 with rfl | ⟨dscap1, rfl⟩
 ·refine PFunM.walkM (fz := fun _ => false) hA cx_ok Tryz.func220 rfl rfl fun P R hP hR => ?_
  cbv; unfold Aa5 at h
  refine kj ?_
  obtain ⟨w1, hw1, h⟩ := bd_e h; refine km hP [(1000, 0)] (Ae8 (cap2 := []) hA (by first | exact .inl rfl | exact .inr ⟨_, rfl⟩) hq1 hw1) ?_; cbv
  cases h
  refine hR _ _ ⟨[], ⟨by rfl, ez, by rfl, ez⟩⟩
 ·refine PFunM.walkM (fz := fun _ => false) hA cx_ok Tryz.func220 rfl rfl fun P R hP hR => ?_
  cbv; unfold Aa5 at h
  refine kj ?_
  obtain ⟨w1, hw1, h⟩ := bd_e h; refine km hP [(1000, 0)] (Ae8 (cap2 := [D.ptr dscap1]) hA (by first | exact .inl rfl | exact .inr ⟨_, rfl⟩) hq1 hw1) ?_; cbv
  cases h
  refine hR _ _ ⟨[], ⟨by rfl, ez, by rfl, ez⟩⟩
theorem Alx {A : Ar} (hA : A = std) {x0 : List Hours} {q1 : Hours → Option ByteArray} {g1 : Nat} {cap1 : List D} (hcap1 : capOK cap1) (hq1 : ∀ (y0 : Hours) (r : ByteArray), q1 y0 = some r → PFun cx g1 ((Ac4 y0) :: un.uns cap1) (st r)) {r : List Hours} (h : Adb A x0 q1 = some r) : PFun cx 140 [.d (.sl TyS.hours x0), .fn (.func g1) [] (un.uns cap1)] (.d (.sl TyS.hours r)) := by
 rcases hcap1 with rfl | ⟨dscap1, rfl⟩
 ·refine PFun.walkF (fz := fun k => k == 3) hA cx_ok Tryz.func140 rfl rfl rfl fun P R hP hR => ?_
  cbv; unfold Adb at h
  iterate 2 refine kj ?_
  obtain ⟨w1, hw1, h⟩ := bd_e h; refine km hP [] (Afx hA hw1) ?_; cbv
  refine kj ?_
  obtain ⟨w2, hw2, h⟩ := bd_e h; refine km hP [(7, 1)] (Ad9 (cap1 := [D.ptr [D.fun (Fn.func g1) [] []]]) hA (by first | exact .inl rfl | exact .inr ⟨_, rfl⟩) (fun _ _ _ hw => Agy (capc0 := []) hA (by first | exact .inl rfl | exact .inr ⟨_, rfl⟩) hq1 hw) hw2) ?_; cbv
  refine kj ?_
  refine kk h fun c3 h => ?_
  cases h; subst hR; exact ey
 ·refine PFun.walkF (fz := fun k => k == 3) hA cx_ok Tryz.func140 rfl rfl rfl fun P R hP hR => ?_
  cbv; unfold Adb at h
  iterate 2 refine kj ?_
  obtain ⟨w1, hw1, h⟩ := bd_e h; refine km hP [] (Afx hA hw1) ?_; cbv
  refine kj ?_
  obtain ⟨w2, hw2, h⟩ := bd_e h; refine km hP [(7, 1)] (Ad9 (cap1 := [D.ptr [D.fun (Fn.func g1) [] [D.ptr dscap1]]]) hA (by first | exact .inl rfl | exact .inr ⟨_, rfl⟩) (fun _ _ _ hw => Agy (capc0 := [D.ptr dscap1]) hA (by first | exact .inl rfl | exact .inr ⟨_, rfl⟩) hq1 hw) hw2) ?_; cbv
  refine kj ?_
  refine kk h fun c3 h => ?_
  cases h; subst hR; exact ey
theorem Aho {A : Ar} (hA : A = std) {x0 : List Inhibit} {r : Int × List Inhibit} (h : Abw A x0 = some r) : PFunM cx 222 [.d (.sl TyS.inhibit x0)] [] (.ms 2000 1 TyS.inhibit 0 r.1) [⟨2000, 1, .arr 61 TyS.inhibit r.2⟩] := by
 refine PFunM.walkM (fz := fun k => k == 65541 || k == 65543 || k == 65538 || k == 65538 || k == 65538) hA cx_ok Tryz.func222 rfl rfl fun P R hP hR => ?_
 cbv; unfold Abw at h
 iterate 2 refine kj ?_
 obtain ⟨h1, h2⟩ := Azq h
 refine ⟨fun hc => ?_, ?_⟩
 ·have h := h1 hc
  clear h1 h2
  cbv
  refine kj ?_
  cases h
  refine hR _ _ ⟨[(2, 4)], ⟨by rfl, ez, by rfl, ez⟩⟩
 ·have h := h2
  clear h1 h2
  refine kj ?_
  refine kk h fun c1 h => ?_
  cases h
  refine hR _ _ ⟨[(7, 4)], ⟨by rfl, ez, by rfl, ez⟩⟩
theorem Aj6 {A : Ar} (hA : A = std) {x0 : Inhibit} {x1 : Inhibit} {c0 : Bool} {r : Int × Bool} (h : Acx A x0 x1 c0 = some r) : PFunM cx 224 [Adp x0, Adp x1, .bx 1000 0 0] [⟨1000, 0, .box 122 [.fn (.func 137) [] [.bx 1001 0 0]]⟩, ⟨1001, 0, .box 4 [bl c0]⟩] (it .i64 r.1) [⟨1000, 0, .box 122 [.fn (.func 137) [] [.bx 1001 0 0]]⟩, ⟨1001, 0, .box 4 [bl r.2]⟩] := by
 refine PFunM.walkM (fz := fun _ => false) hA cx_ok Tryz.func224 rfl rfl fun P R hP hR => ?_
 cbv; unfold Acx at h
 iterate 2 refine kj ?_
 obtain ⟨w1, hw1, h⟩ := bd_e h; refine km hP [(1001, 0)] (Afm hA hw1) ?_; cbv
 obtain ⟨w2, hw2, h⟩ := bd_e h; refine km hP [(1001, 0)] (Afm hA hw2) ?_; cbv
 obtain ⟨w3, hw3, h⟩ := bd_e h; refine kc hP (Afr hA hw3) ?_; cbv
 refine kj ?_
 cases h
 refine hR _ _ ⟨[], ⟨by rfl, ez, by rfl, ez⟩⟩
theorem Adr {A : Ar} (hA : A = std) {x0 : List Inhibit} {n0 : Int} {x1 : Int} {x2 : Int} {c0 : Bool} {r : List Inhibit × Bool} (h : Aap A x0 n0 x1 x2 c0 = some r) : PFunM cx 301 [.ms 1000 0 TyS.inhibit 0 n0, it .i64 x1, it .i64 x2, .fn (.func 224) [] [.bx 1001 0 0]] [⟨1000, 0, .arr 61 TyS.inhibit x0⟩, ⟨1001, 0, .box 122 [.fn (.func 137) [] [.bx 1002 0 0]]⟩, ⟨1002, 0, .box 4 [bl c0]⟩] (.tu []) [⟨1000, 0, .arr 61 TyS.inhibit r.1⟩, ⟨1001, 0, .box 122 [.fn (.func 137) [] [.bx 1002 0 0]]⟩, ⟨1002, 0, .box 4 [bl r.2]⟩] := by
 refine PFunM.walkM (fz := fun k => k == 196629) hA cx_ok Tryz.func301 rfl rfl fun P R hP hR => ?_
 cbv; unfold Aap at h
 refine kj ?_
 refine kl h (fun x _ => [(8, it .i64 x.1)]) (fun x gh => [⟨1001, 0, .box 122 [PV.fn (Fn.func 137) [] [PV.bx 1002 0 0]]⟩, ⟨1002, 0, .box 4 [bl x.2.1]⟩, ⟨1000, 0, .arr 61 TyS.inhibit x.2.2⟩]) [] ?_
 rintro ⟨i8, b0_1002, row1000⟩ gh1 g1 _ _ _ hK1 hQ1 h; cbv
 refine kj ?_
 refine bc h (fun hb h => ?_) fun hb h => ?_
 ·cbv
  refine kj ?_
  refine kl h (fun x _ => [(9, it .i64 x.1)]) (fun x gh => [⟨1001, 0, .box 122 [PV.fn (Fn.func 137) [] [PV.bx 1002 0 0]]⟩, ⟨1002, 0, .box 4 [bl x.2.1]⟩, ⟨1000, 0, .arr 61 TyS.inhibit x.2.2⟩]) [] ?_
  rintro ⟨j9, b0_1002', row1000'⟩ gh2 g2 _ _ _ hK2 hQ2 h; cbv
  refine kj ?_
  obtain ⟨hb, h⟩ | ⟨hb, h⟩ := br_e h
  ·refine selT hb ?_
   cbv
   refine kk h fun c1 h => ?_
   refine kk h fun c2 h => ?_
   refine kk h fun c3 h => ?_
   refine kk h fun c4 h => ?_
   obtain ⟨w5, hw5, h⟩ := bd_e h; refine km hP [(1001, 0), (1002, 0)] (Aj6 hA hw5) ?_; cbv
   refine kj ?_
   refine bc h (fun hb h => ?_) fun hb h => ?_
   ·cbv
    refine kj ?_
    refine ⟨c3, ?_⟩
    refine ⟨c4, ?_⟩
    refine ⟨c1, ?_⟩
    refine ⟨c2, ?_⟩
    refine ⟨c1, ?_⟩
    refine ⟨c2, ?_⟩
    refine ⟨c3, ?_⟩
    refine kk h fun c6 h => ?_
    iterate 2 refine kj ?_
    cases h; exact hK2 _ _ [] rfl hdy
   ·cbv
    refine hQ2 _ h _ _ fun h => ?_; cbv
    refine kj ?_
    cases h; exact hK1 _ _ [] rfl hdy
  ·refine selF hb ?_
   cbv
   refine kj ?_
   refine bc h (fun hb h => ?_) fun hb h => ?_
   ·cbv
    refine kj ?_
    refine kk h fun c7 h => ?_
    refine kk h fun c8 h => ?_
    refine kk h fun c9 h => ?_
    refine kk h fun c10 h => ?_
    refine ⟨c9, ?_⟩
    refine ⟨c10, ?_⟩
    refine ⟨c7, ?_⟩
    refine kk h fun c11 h => ?_
    iterate 2 refine kj ?_
    cases h; exact hK2 _ _ [] rfl hdy
   ·cbv
    refine hQ2 _ h _ _ fun h => ?_; cbv
    refine kj ?_
    cases h; exact hK1 _ _ [] rfl hdy
 ·cbv
  refine hQ1 _ h _ _ fun h => ?_; cbv
  cases h
  refine hR _ _ ⟨[], ⟨by rfl, ez, by rfl, ez⟩⟩
theorem Ahp {A : Ar} (hA : A = std) {x0 : List Inhibit} {n0 : Int} {x1 : Int} {c0 : Bool} {r : List Inhibit × Bool} (h : Abx A x0 n0 x1 c0 = some r) : PFunM cx 272 [.ms 1000 0 TyS.inhibit 0 n0, it .i64 x1, .fn (.func 224) [] [.bx 1001 0 0]] [⟨1000, 0, .arr 61 TyS.inhibit x0⟩, ⟨1001, 0, .box 122 [.fn (.func 137) [] [.bx 1002 0 0]]⟩, ⟨1002, 0, .box 4 [bl c0]⟩] (.tu []) [⟨1000, 0, .arr 61 TyS.inhibit r.1⟩, ⟨1001, 0, .box 122 [.fn (.func 137) [] [.bx 1002 0 0]]⟩, ⟨1002, 0, .box 4 [bl r.2]⟩] := by
 refine PFunM.walkM (fz := fun _ => false) hA cx_ok Tryz.func272 rfl rfl fun P R hP hR => ?_
 cbv; unfold Abx at h
 iterate 2 refine kj ?_
 refine kl h (fun x _ => [(7, it .i64 x.1), (8, it .i64 x.2.1)]) (fun x gh => [⟨1001, 0, .box 122 [PV.fn (Fn.func 137) [] [PV.bx 1002 0 0]]⟩, ⟨1002, 0, .box 4 [bl x.2.2.1]⟩, ⟨1000, 0, .arr 61 TyS.inhibit x.2.2.2⟩]) [] ?_
 rintro ⟨a7, b8, b0_1002, row1000⟩ gh1 g1 _ _ _ hK1 hQ1 h; cbv
 refine kj ?_
 refine bc h (fun hb h => ?_) fun hb h => ?_
 ·cbv
  refine kj ?_
  obtain ⟨w1, hw1, h⟩ := bd_e h; refine km hP [(1000, 0), (1001, 0), (1002, 0)] (Adr hA hw1) ?_; cbv
  iterate 2 refine kj ?_
  cases h; exact hK1 _ _ [] rfl hdy
 ·cbv
  refine hQ1 _ h _ _ fun h => ?_; cbv
  refine kj ?_
  obtain ⟨w2, hw2, h⟩ := bd_e h; refine km hP [(1000, 0), (1001, 0), (1002, 0)] (Adr hA hw2) ?_; cbv
  refine kl h (fun x _ => [(6, it .i64 x)]) (fun x gh => [⟨1001, 0, .box 122 [PV.fn (Fn.func 137) [] [PV.bx 1002 0 0]]⟩, ⟨1002, 0, .box 4 [bl w2.2]⟩, ⟨1000, 0, Cell.arr 61 TyS.inhibit w2.1⟩]) [] ?_
  rintro blockSize6 gh2 g2 _ _ _ hK2 hQ2 h; cbv
  refine kj ?_
  refine bc h (fun hb h => ?_) fun hb h => ?_
  ·cbv
   refine kj ?_
   refine kl h (fun x _ => [(7, it .i64 x.1), (8, it .i64 x.2)]) (fun x gh => [⟨1001, 0, .box 122 [PV.fn (Fn.func 137) [] [PV.bx 1002 0 0]]⟩, ⟨1002, 0, .box 4 [bl w2.2]⟩, ⟨1000, 0, Cell.arr 61 TyS.inhibit w2.1⟩]) [] ?_
   rintro ⟨a7', b8'⟩ gh3 g3 _ _ _ hK3 hQ3 h; cbv
   refine kj ?_
   refine bc h (fun hb h => ?_) fun hb h => ?_
   ·cbv
    refine kj ?_
    cases h
   ·cbv
    refine hQ3 _ h _ _ fun h => ?_; cbv
    iterate 2 refine kj ?_
    refine bc h (fun hb h => ?_) fun hb h => ?_
    ·cbv
     refine kj ?_
     cases h
    ·cbv
     refine kj ?_
     cases h; exact hK2 _ _ [] rfl hdy
  ·cbv
   refine hQ2 _ h _ _ fun h => ?_; cbv
   cases h
   refine hR _ _ ⟨[], ⟨by rfl, ez, by rfl, ez⟩⟩
theorem Afu {A : Ar} (hA : A = std) {x0 : List Inhibit} {n0 : Int} {c0 : Bool} {r : List Inhibit × Bool} (h : Abg A x0 n0 c0 = some r) : PFunM cx 223 [.ms 1000 0 TyS.inhibit 0 n0, .fn (.func 224) [] [.bx 1001 0 0]] [⟨1000, 0, .arr 61 TyS.inhibit x0⟩, ⟨1001, 0, .box 122 [.fn (.func 137) [] [.bx 1002 0 0]]⟩, ⟨1002, 0, .box 4 [bl c0]⟩] (.tu []) [⟨1000, 0, .arr 61 TyS.inhibit r.1⟩, ⟨1001, 0, .box 122 [.fn (.func 137) [] [.bx 1002 0 0]]⟩, ⟨1002, 0, .box 4 [bl r.2]⟩] := by
 refine PFunM.walkM (fz := fun _ => false) hA cx_ok Tryz.func223 rfl rfl fun P R hP hR => ?_
 cbv; unfold Abg at h
 refine kj ?_
 obtain ⟨w1, hw1, h⟩ := bd_e h; refine km hP [(1000, 0), (1001, 0), (1002, 0)] (Ahp hA hw1) ?_; cbv
 cases h
 refine hR _ _ ⟨[], ⟨by rfl, ez, by rfl, ez⟩⟩
theorem Akp {A : Ar} (hA : A = std) {x0 : List Inhibit} {c0 : Bool} {r : Int × List Inhibit × Bool} (h : Adn A x0 c0 = some r) : PFunM cx 142 [.d (.sl TyS.inhibit x0), .fn (.func 137) [] [.bx 1000 0 0]] [⟨1000, 0, .box 4 [bl c0]⟩] (.ms 2000 1 TyS.inhibit 0 r.1) [⟨1000, 0, .box 4 [bl r.2.2]⟩, ⟨2000, 1, .arr 61 TyS.inhibit r.2.1⟩] := by
 refine PFunM.walkM (fz := fun _ => false) hA cx_ok Tryz.func142 rfl rfl fun P R hP hR => ?_
 cbv; unfold Adn at h
 iterate 2 refine kj ?_
 obtain ⟨w1, hw1, h⟩ := bd_e h; refine km hP [] (Aho hA hw1) ?_; cbv
 refine kj ?_
 obtain ⟨w2, hw2, h⟩ := bd_e h; refine km hP [(7, 3), (3, 2), (1000, 0)] (Afu hA hw2) ?_; cbv
 refine kj ?_
 cases h
 refine hR _ _ ⟨[(7, 3)], ⟨by rfl, ez, by rfl, ez⟩⟩
theorem Aj8 {A : Ar} (hA : A = std) {x0 : Inhibit} {x1 : Inhibit} {c0 : Bool} {r : Bool × Bool} (h : Aeu A x0 x1 c0 = some r) : PFunM cx 143 [Adp x0, Adp x1, .bx 1000 0 0] [⟨1000, 0, .box 122 [.fn (.func 137) [] [.bx 1001 0 0]]⟩, ⟨1001, 0, .box 4 [bl c0]⟩] (bl r.1) [⟨1000, 0, .box 122 [.fn (.func 137) [] [.bx 1001 0 0]]⟩, ⟨1001, 0, .box 4 [bl r.2]⟩] := by
 refine PFunM.walkM (fz := fun _ => false) hA cx_ok Tryz.func143 rfl rfl fun P R hP hR => ?_
 cbv; unfold Aeu at h
 iterate 2 refine kj ?_
 obtain ⟨w1, hw1, h⟩ := bd_e h; refine km hP [(1001, 0)] (Afm hA hw1) ?_; cbv
 obtain ⟨w2, hw2, h⟩ := bd_e h; refine km hP [(1001, 0)] (Afm hA hw2) ?_; cbv
 refine kj ?_
 cases h
 refine hR _ _ ⟨[], ⟨by rfl, ez, by rfl, ez⟩⟩
theorem Agd {A : Ar} (hA : A = std) {x0 : List Inhibit} {n0 : Int} {c0 : Bool} {r : Int × Int × List Inhibit × Bool} (h : Aa3 A x0 n0 c0 = some r) : PFunM cx 141 [.ms 1000 0 TyS.inhibit 0 n0, .fn (.func 143) [] [.bx 1001 0 0]] [⟨1000, 0, .arr 61 TyS.inhibit x0⟩, ⟨1001, 0, .box 122 [.fn (.func 137) [] [.bx 1002 0 0]]⟩, ⟨1002, 0, .box 4 [bl c0]⟩] (.ms 1000 0 TyS.inhibit r.1 r.2.1) [⟨1000, 0, .arr 61 TyS.inhibit r.2.2.1⟩, ⟨1001, 0, .box 122 [.fn (.func 137) [] [.bx 1002 0 0]]⟩, ⟨1002, 0, .box 4 [bl r.2.2.2]⟩] := by
 refine PFunM.walkM (fz := fun _ => false) hA cx_ok Tryz.func141 rfl rfl fun P R hP hR => ?_
 cbv; unfold Aa3 at h
 iterate 2 refine kj ?_
 refine bc h (fun hb h => ?_) fun hb h => ?_
 ·cbv
  refine kj ?_
  cases h
  refine hR _ _ ⟨[], ⟨by rfl, ez, by rfl, ez⟩⟩
 ·cbv
  refine kj ?_
  refine kl h (fun x _ => [(5, it .i64 x.1)]) (fun x gh => [⟨1001, 0, .box 122 [PV.fn (Fn.func 137) [] [PV.bx 1002 0 0]]⟩, ⟨1002, 0, .box 4 [bl x.2]⟩, ⟨1000, 0, Cell.arr 61 TyS.inhibit x0⟩]) [] ?_
  rintro ⟨t5, b0_1002⟩ gh1 g1 _ _ _ hK1 hQ1 h; cbv
  refine kj ?_
  refine bc h (fun hb h => ?_) fun hb h => ?_
  ·cbv
   refine kj ?_
   refine kk h fun c1 h => ?_
   refine kk h fun c2 h => ?_
   refine kk h fun c3 h => ?_
   refine kk h fun c4 h => ?_
   obtain ⟨w5, hw5, h⟩ := bd_e h; refine km hP [(1001, 0), (1002, 0)] (Aj8 hA hw5) ?_; cbv
   refine kj ?_
   refine bc h (fun hb h => ?_) fun hb h => ?_
   ·cbv
    refine kj ?_
    refine kk h fun c6 h => ?_
    refine kj ?_
    refine kl h (fun x _ => [(5, it .i64 x.1), (7, it .i64 x.2.1)]) (fun x gh => [⟨1001, 0, .box 122 [PV.fn (Fn.func 137) [] [PV.bx 1002 0 0]]⟩, ⟨1002, 0, .box 4 [bl x.2.2.1]⟩, ⟨1000, 0, .arr 61 TyS.inhibit x.2.2.2⟩]) [] ?_
    rintro ⟨t5', t7, b0_1002', row1000⟩ gh2 g2 _ _ _ hK2 hQ2 h; cbv
    refine kj ?_
    refine bc h (fun hb h => ?_) fun hb h => ?_
    ·cbv
     refine kj ?_
     refine kk h fun c7 h => ?_
     refine kk h fun c8 h => ?_
     refine kk h fun c9 h => ?_
     refine kk h fun c10 h => ?_
     obtain ⟨w11, hw11, h⟩ := bd_e h; refine km hP [(1001, 0), (1002, 0)] (Aj8 hA hw11) ?_; cbv
     refine kj ?_
     refine bc h (fun hb h => ?_) fun hb h => ?_
     ·cbv
      refine kj ?_
      refine ⟨c7, ?_⟩
      refine ⟨c8, ?_⟩
      refine kk h fun c12 h => ?_
      refine kk h fun c13 h => ?_
      iterate 2 refine kj ?_
      cases h; exact hK2 _ _ [] rfl hdy
     ·cbv
      refine kj ?_
      cases h; exact hK2 _ _ [] rfl hdy
    ·cbv
     refine hQ2 _ h _ _ fun h => ?_; cbv
     refine kj ?_
     refine kk h fun c14 h => ?_
     refine kk h fun c15 h => ?_
     refine kj ?_
     refine kk h fun c16 h => ?_
     refine hQ1 _ h _ _ fun h => ?_; cbv
     cases h
     refine hR _ _ ⟨[], ⟨by rfl, ez, by rfl, ez⟩⟩
   ·cbv
    refine kj ?_
    cases h; exact hK1 _ _ [] rfl hdy
  ·cbv
   refine hQ1 _ h _ _ fun h => ?_; cbv
   refine kj ?_
   cases h
   refine hR _ _ ⟨[], ⟨by rfl, ez, by rfl, ez⟩⟩
theorem Alo {A : Ar} (hA : A = std) {x0 : Config} {r : Config × Int} (h : Ae3 A x0 = some r) : PFun cx 57 [Afq x0] (.tu [Afq r.1, it .i64 r.2]) := by
 refine wF hA cx_ok Tryz.func57 fun P R hP hR => ?_
 cbv; unfold Ae3 at h
 iterate 2 refine kj ?_
 obtain ⟨w1, hw1, h⟩ := bd_e h; refine kc hP (Aeq hA hw1) ?_; cbv
 refine bc h (fun hb h => ?_) fun hb h => ?_
 ·cbv
  refine kj ?_
  cases h; subst hR; exact ey
 ·cbv
  iterate 3 refine kj ?_
  obtain ⟨w2, hw2, h⟩ := bd_e h; refine ke hP (Al5 (cap1 := []) hA (by first | exact .inl rfl | exact .inr ⟨_, rfl⟩) (fun _ _ hw => Al1 hA hw) hw2) ?_; cbv
  obtain ⟨w3, hw3, h⟩ := bd_e h; refine ke hP (Ak5 (cap1 := []) hA (by first | exact .inl rfl | exact .inr ⟨_, rfl⟩) (fun _ _ hw => Alm hA hw) hw3) ?_; cbv
  obtain ⟨w4, hw4, h⟩ := bd_e h; refine ke hP (Alx (cap1 := []) hA (by first | exact .inl rfl | exact .inr ⟨_, rfl⟩) (fun _ _ hw => Aln hA hw) hw4) ?_; cbv
  iterate 2 refine kj ?_
  obtain ⟨w5, hw5, h⟩ := bd_e h; refine km hP [(4, 2)] (Akp hA hw5) ?_; cbv
  obtain ⟨w6, hw6, h⟩ := bd_e h; refine km hP [(26, 5), (5, 3), (4, 2)] (Agd hA hw6) ?_; cbv
  refine kj ?_
  refine kk h fun c7 h => ?_
  cases h; subst hR; exact ey
theorem Aed {A : Ar} (hA : A = std) {x0 : List Inhibit} {x1 : List Inhibit} {q2 : Inhibit → Inhibit → Option Bool} {g2 : Nat} {cap2 : List PV} (hcap2 : bare.bares cap2 = true) (hq2 : ∀ (y0 : Inhibit) (y1 : Inhibit) (r : Bool), q2 y0 y1 = some r → PFun cx g2 ((Adp y0) :: (Adp y1) :: cap2) (bl r)) {r : Bool} (h : Aad A x0 x1 q2 = some r) : PFun cx 67 [.d (.sl TyS.inhibit x0), .d (.sl TyS.inhibit x1), .fn (.func g2) [] cap2] (bl r) := by
 refine wF hA cx_ok Tryz.func67 fun P R hP hR => ?_
 cbv; unfold Aad at h
 iterate 2 refine kj ?_
 refine bc h (fun hb h => ?_) fun hb h => ?_
 ·cbv
  refine kj ?_
  exact le h hR
 ·cbv
  refine kj ?_
  refine kl h (fun x _ => [(17, it .i64 x)]) (fun _ _ => []) [] ?_
  rintro t17 gh1 g1 _ _ _ hK1 hQ1 h; cbv
  refine kj ?_
  refine bc h (fun hb h => ?_) fun hb h => ?_
  ·cbv
   refine kj ?_
   refine kk h fun c1 h => ?_
   refine kj ?_
   refine kk h fun c2 h => ?_
   refine kj ?_
   obtain ⟨w3, hw3, h⟩ := bd_e h; refine kc hP (hq2 _ _ _ hw3) ?_ (by first | rfl | simp [bare, bare.bares, hcap2]); cbv
   refine bc h (fun hb h => ?_) fun hb h => ?_
   ·cbv
    refine kj ?_
    refine hQ1 _ h _ _ fun h => ?_; cbv
    exact le h hR
   ·cbv
    refine kj ?_
    cases h; exact hK1 _ _ [] rfl hdy
  ·cbv
   refine hQ1 _ h _ _ fun h => ?_; cbv
   refine kj ?_
   exact le h hR
theorem Aa0 {A : Ar} (hA : A = std) {x0 : List Matcher} {x1 : List Matcher} {q2 : Matcher → Matcher → Option Bool} {g2 : Nat} {cap2 : List PV} (hcap2 : bare.bares cap2 = true) (hq2 : ∀ (y0 : Matcher) (y1 : Matcher) (r : Bool), q2 y0 y1 = some r → PFun cx g2 ((Aev y0) :: (Aev y1) :: cap2) (bl r)) {r : Bool} (h : Aaa A x0 x1 q2 = some r) : PFun cx 71 [.d (.sl TyS.matcher x0), .d (.sl TyS.matcher x1), .fn (.func g2) [] cap2] (bl r) := by
 refine wF hA cx_ok Tryz.func71 fun P R hP hR => ?_
 cbv; unfold Aaa at h
 iterate 2 refine kj ?_
 refine bc h (fun hb h => ?_) fun hb h => ?_
 ·cbv
  refine kj ?_
  exact le h hR
 ·cbv
  refine kj ?_
  refine kl h (fun x _ => [(17, it .i64 x)]) (fun _ _ => []) [] ?_
  rintro t17 gh1 g1 _ _ _ hK1 hQ1 h; cbv
  refine kj ?_
  refine bc h (fun hb h => ?_) fun hb h => ?_
  ·cbv
   refine kj ?_
   refine kk h fun c1 h => ?_
   refine kj ?_
   refine kk h fun c2 h => ?_
   refine kj ?_
   obtain ⟨w3, hw3, h⟩ := bd_e h; refine kc hP (hq2 _ _ _ hw3) ?_ (by first | rfl | simp [bare, bare.bares, hcap2]); cbv
   refine bc h (fun hb h => ?_) fun hb h => ?_
   ·cbv
    refine kj ?_
    refine hQ1 _ h _ _ fun h => ?_; cbv
    exact le h hR
   ·cbv
    refine kj ?_
    cases h; exact hK1 _ _ [] rfl hdy
  ·cbv
   refine hQ1 _ h _ _ fun h => ?_; cbv
   refine kj ?_
   exact le h hR
theorem Aci {A : Ar} (hA : A = std) {x0 : List ByteArray} {x1 : List ByteArray} {r : Bool} (h : Aaw A x0 x1 = some r) : PFun cx 73 [.d (.sl TyS.str x0), .d (.sl TyS.str x1)] (bl r) := by
 refine wF hA cx_ok Tryz.func73 fun P R hP hR => ?_
 cbv; unfold Aaw at h
 iterate 2 refine kj ?_
 refine bc h (fun hb h => ?_) fun hb h => ?_
 ·cbv
  refine kj ?_
  exact le h hR
 ·cbv
  refine kj ?_
  refine kl h (fun x _ => [(13, it .i64 x)]) (fun _ _ => []) [] ?_
  rintro t13 gh1 g1 _ _ _ hK1 hQ1 h; cbv
  refine kj ?_
  refine bc h (fun hb h => ?_) fun hb h => ?_
  ·cbv
   iterate 2 refine kj ?_
   refine kk h fun c1 h => ?_
   refine kk h fun c2 h => ?_
   refine kj ?_
   refine bc h (fun hb h => ?_) fun hb h => ?_
   ·cbv
    refine kj ?_
    refine hQ1 _ h _ _ fun h => ?_; cbv
    exact le h hR
   ·cbv
    refine kj ?_
    cases h; exact hK1 _ _ [] rfl hdy
  ·cbv
   refine hQ1 _ h _ _ fun h => ?_; cbv
   refine kj ?_
   exact le h hR
theorem Ajm {A : Ar} (hA : A = std) {x0 : Matcher} {x1 : Matcher} {r : Bool} (h : Aea A x0 x1 = some r) : PFun cx 72 [Aev x0, Aev x1] (bl r) := by
 refine wF hA cx_ok Tryz.func72 fun P R hP hR => ?_
 cbv; unfold Aea at h
 iterate 2 refine kj ?_
 iterate 13 refine cj ?_
 obtain ⟨w1, hw1, h⟩ := bd_e h; refine kg hP (fun hc => (Aci hA (gd_e hw1 hc))) ?_; cbv
 refine cj ?_
 exact le h hR
theorem Apr {A : Ar} (hA : A = std) {x0 : Inhibit} {x1 : Inhibit} {r : Bool} (h : Af7 A x0 x1 = some r) : PFun cx 68 [Adp x0, Adp x1] (bl r) := by
 refine wF hA cx_ok Tryz.func68 fun P R hP hR => ?_
 cbv; unfold Af7 at h
 iterate 2 refine kj ?_
 obtain ⟨w1, hw1, h⟩ := bd_e h; refine ke hP (Aa0 hA (by rfl) (fun _ _ _ hw => Ajm hA hw) hw1) ?_; cbv
 iterate 6 refine cj ?_
 obtain ⟨w2, hw2, h⟩ := bd_e h; refine kf hP (fun hc => (Aa0 hA (by rfl) (fun _ _ _ hw => Ajm hA hw) (gd_e hw2 hc))) ?_; cbv
 iterate 7 refine cj ?_
 obtain ⟨w3, hw3, h⟩ := bd_e h; refine kg hP (fun hc => (Aci hA (gd_e hw3 hc))) ?_; cbv
 refine cj ?_
 exact le h hR
theorem Ae0 {A : Ar} (hA : A = std) {x0 : List Route} {x1 : List Route} {q2 : Route → Route → Option Bool} {g2 : Nat} {cap2 : List PV} (hcap2 : bare.bares cap2 = true) (hq2 : ∀ (y0 : Route) (y1 : Route) (r : Bool), q2 y0 y1 = some r → PFun cx g2 ((Aa4 y0) :: (Aa4 y1) :: cap2) (bl r)) {r : Bool} (h : Aaq A x0 x1 q2 = some r) : PFun cx 148 [.d (.sl TyS.route x0), .d (.sl TyS.route x1), .fn (.func g2) [] cap2] (bl r) := by
 refine wF hA cx_ok Tryz.func148 fun P R hP hR => ?_
 cbv; unfold Aaq at h
 iterate 2 refine kj ?_
 refine bc h (fun hb h => ?_) fun hb h => ?_
 ·cbv
  refine kj ?_
  exact le h hR
 ·cbv
  refine kj ?_
  refine kl h (fun x _ => [(17, it .i64 x)]) (fun _ _ => []) [] ?_
  rintro t17 gh1 g1 _ _ _ hK1 hQ1 h; cbv
  refine kj ?_
  refine bc h (fun hb h => ?_) fun hb h => ?_
  ·cbv
   refine kj ?_
   refine kk h fun c1 h => ?_
   refine kj ?_
   refine kk h fun c2 h => ?_
   refine kj ?_
   obtain ⟨w3, hw3, h⟩ := bd_e h; refine kc hP (hq2 _ _ _ hw3) ?_ (by first | rfl | simp [bare, bare.bares, hcap2]); cbv
   refine bc h (fun hb h => ?_) fun hb h => ?_
   ·cbv
    refine kj ?_
    refine hQ1 _ h _ _ fun h => ?_; cbv
    exact le h hR
   ·cbv
    refine kj ?_
    cases h; exact hK1 _ _ [] rfl hdy
  ·cbv
   refine hQ1 _ h _ _ fun h => ?_; cbv
   refine kj ?_
   exact le h hR
theorem Aps {A : Ar} (hA : A = std) {rf : Route → Route → Option Bool} {x0 : Route} {x1 : Route} (hqr69 : ∀ (x0 : Route) (x1 : Route) (r : Bool), rf x0 x1 = some r → PFun cx 69 [Aa4 x0, Aa4 x1] (bl r)) {r : Bool} (h : Ajb A rf x0 x1 = some r) : PFun cx 69 [Aa4 x0, Aa4 x1] (bl r) := by
 refine wF hA cx_ok Tryz.func69 fun P R hP hR => ?_
 cbv; unfold Ajb at h
 iterate 2 refine kj ?_
 iterate 28 refine cj ?_
 refine kj ?_
 iterate 6 refine cj ?_
 obtain ⟨w1, hw1, h⟩ := bd_e h; refine kf hP (fun hc => (Aa0 hA (by rfl) (fun _ _ _ hw => Ajm hA hw) (gd_e hw1 hc))) ?_; cbv
 iterate 7 refine cj ?_
 obtain ⟨w2, hw2, h⟩ := bd_e h; refine kg hP (fun hc => (Aci hA (gd_e hw2 hc))) ?_; cbv
 iterate 7 refine cj ?_
 obtain ⟨w3, hw3, h⟩ := bd_e h; refine kg hP (fun hc => (Aci hA (gd_e hw3 hc))) ?_; cbv
 iterate 7 refine cj ?_
 obtain ⟨w4, hw4, h⟩ := bd_e h; refine kf hP (fun hc => (Ae0 hA (by rfl) hqr69 (gd_e hw4 hc))) ?_; cbv
 refine cj ?_
 exact le h hR
theorem Alp {A : Ar} (hA : A = std) : ∀ (n : Nat) (x0 : Route) (x1 : Route) (r : Bool), Ahf A n x0 x1 = some r → PFun cx 69 [Aa4 x0, Aa4 x1] (bl r)
 | 0, _, _, _, h => by cases h
 | n + 1, x0, x1, r, h => Aps hA (fun _ _ _ hh => Alp hA n _ _ _ hh) h
theorem Am4 {A : Ar} (hA : A = std) {x0 : Route} {x1 : Route} {r : Bool} (h : Ak8 A x0 x1 = some r) : PFun cx 69 [Aa4 x0, Aa4 x1] (bl r) := Alp hA _ _ _ _ h
theorem Az7 {A : Ar} (hA : A = std) {x0 : Config} {x1 : Config} {r : (List ByteArray) × Int} (h : Aqp A x0 x1 = some r) : PFun cx 13 [Afq x0, Afq x1] (.tu [.d (.sl TyS.str r.1), it .i64 r.2]) := by
 refine wF hA cx_ok Tryz.func13 fun P R hP hR => ?_
 cbv; unfold Aqp at h
 iterate 2 refine kj ?_
 obtain ⟨w1, hw1, h⟩ := bd_e h; refine kc hP (Alo hA hw1) ?_; cbv
 refine kj ?_
 obtain ⟨w2, hw2, h⟩ := bd_e h; refine kc hP (Alo hA hw2) ?_; cbv
 refine kj ?_
 iterate 2 refine cj ?_
 refine bc h (fun hb h => ?_) fun hb h => ?_
 ·cbv
  refine kj ?_
  cases h; subst hR; exact ey
 ·cbv
  refine kj ?_
  obtain ⟨w3, hw3, h⟩ := bd_e h; refine km hP [] (Anv hA hw3) ?_; cbv
  refine kj ?_
  obtain ⟨w4, hw4, h⟩ := bd_e h; refine km hP [(32, 4)] (Amz hA hw4) ?_; cbv
  refine kj ?_
  obtain ⟨w5, hw5, h⟩ := bd_e h; refine km hP [(39, 5)] (Anh hA hw5) ?_; cbv
  refine kj ?_
  obtain ⟨w6, hw6, h⟩ := bd_e h; refine ke hP (Aed hA (by rfl) (fun _ _ _ hw => Apr hA hw) hw6) ?_; cbv
  refine bc h (fun hb h => ?_) fun hb h => ?_
  ·cbv
   refine kj ?_
   refine kk h fun c7 h => ?_
   refine kj ?_
   obtain ⟨w8, hw8, h⟩ := bd_e h; refine kc hP (Am4 hA hw8) ?_; cbv
   refine bc h (fun hb h => ?_) fun hb h => ?_
   ·cbv
    refine kj ?_
    refine kk h fun c9 h => ?_
    refine kj ?_
    cases h; subst hR; exact ey
   ·cbv
    refine kj ?_
    cases h; subst hR; exact ey
  ·cbv
   refine kj ?_
   obtain ⟨w10, hw10, h⟩ := bd_e h; refine kc hP (Am4 hA hw10) ?_; cbv
   refine bc h (fun hb h => ?_) fun hb h => ?_
   ·cbv
    refine kj ?_
    refine kk h fun c11 h => ?_
    refine kj ?_
    cases h; subst hR; exact ey
   ·cbv
    refine kj ?_
    cases h; subst hR; exact ey
theorem Agb {A : Ar} (hA : A = std) {r : Bool} (h : Acc A = some r) : PFun cx 12 [] (bl r) := by
 refine wF hA cx_ok Tryz.func12 fun P R hP hR => ?_
 cbv; unfold Acc at h
 iterate 5 refine kj ?_
 obtain ⟨w1, hw1, h⟩ := bd_e h; refine ke hP (Az7 hA hw1) ?_; cbv
 refine kj ?_
 iterate 4 refine cj ?_
 refine kk h fun c2 h => ?_
 iterate 3 refine cj ?_
 exact le h hR
theorem Aiv {A : Ar} (hA : A = std) {q0 : Rule → Option Bool} {c0 : Config} {g0 : Nat} {cap0 : List PV} (hcap0 : bare.bares cap0 = true) (hq0 : ∀ (y0 : Rule) (r : Bool), q0 y0 = some r → PFun cx g0 ((Aeb y0) :: cap0) (bl r)) {r : Bool} (h : Ae4 A q0 c0 = some r) : PFun cx 149 [.fn (.func g0) [] cap0, .ip [.sl TyS.rule c0.Rules, .v (.string c0.Route.Receiver), .sl TyS.matcher c0.Route.Match, .sl TyS.str c0.Route.By, .v (.int .i64 c0.Route.Wait), .v (.int .i64 c0.Route.Every), .v (.int .i64 c0.Route.Repeat), .sl TyS.str c0.Route.Mute, .v (.bool c0.Route.On), .sl TyS.route c0.Route.Routes, .sl TyS.str c0.Receivers, .sl TyS.inhibit c0.Inhibits, .sl TyS.hours c0.Hours]] (bl r) := by
 refine wF hA cx_ok Tryz.func149 fun P R hP hR => ?_
 cbv; unfold Ae4 at h
 iterate 2 refine kj ?_
 obtain ⟨w1, hw1, h⟩ := bd_e h; refine kc hP (Abz hA hcap0 hq0 hw1) ?_ (by first | rfl | simp [bare, bare.bares, hcap0]); cbv
 exact le h hR
theorem Apt {A : Ar} (hA : A = std) {x0 : Rule} {r : Bool} (h : Ajc A x0 = some r) : PFun cx 150 [Aeb x0] (bl r) := by
 refine wF hA cx_ok Tryz.func150 fun P R hP hR => ?_
 cbv; unfold Ajc at h
 iterate 2 refine kj ?_
 exact le h hR
theorem Apu {A : Ar} (hA : A = std) {x0 : Rule} {r : Bool} (h : Ajd A x0 = some r) : PFun cx 151 [Aeb x0] (bl r) := by
 refine wF hA cx_ok Tryz.func151 fun P R hP hR => ?_
 cbv; unfold Ajd at h
 iterate 2 refine kj ?_
 exact le h hR
theorem Ag6 {A : Ar} (hA : A = std) {x0 : List Label} {q1 : Label → Option Bool} {g1 : Nat} {cap1 : List PV} (hcap1 : bare.bares cap1 = true) (hq1 : ∀ (y0 : Label) (r : Bool), q1 y0 = some r → PFun cx g1 ((Aq9 y0) :: cap1) (bl r)) {r : Bool} (h : Abl A x0 q1 = some r) : PFun cx 153 [.d (.sl TyS.label x0), .fn (.func g1) [] cap1] (bl r) := by
 refine wF hA cx_ok Tryz.func153 fun P R hP hR => ?_
 cbv; unfold Abl at h
 iterate 2 refine kj ?_
 obtain ⟨w1, hw1, h⟩ := bd_e h; refine kc hP (Aep hA hcap1 hq1 hw1) ?_ (by first | rfl | simp [bare, bare.bares, hcap1]); cbv
 exact le h hR
theorem Asb {A : Ar} (hA : A = std) {x0 : Label} {r : Bool} (h : Agw A x0 = some r) : PFun cx 154 [Aq9 x0] (bl r) := by
 refine wF hA cx_ok Tryz.func154 fun P R hP hR => ?_
 cbv; unfold Agw at h
 iterate 2 refine kj ?_
 obtain ⟨w1, hw1, h⟩ := bd_e h; refine kc hP (Anr hA hw1) ?_; cbv
 iterate 3 refine cj ?_
 obtain ⟨w2, hw2, h⟩ := bd_e h; refine kg hP (fun hc => (Am1 hA (gd_e hw2 hc))) ?_; cbv
 refine cj ?_
 exact le h hR
theorem Apv {A : Ar} (hA : A = std) {x0 : Rule} {r : Bool} (h : Ahg A x0 = some r) : PFun cx 152 [Aeb x0] (bl r) := by
 refine wF hA cx_ok Tryz.func152 fun P R hP hR => ?_
 cbv; unfold Ahg at h
 iterate 2 refine kj ?_
 obtain ⟨w1, hw1, h⟩ := bd_e h; refine ke hP (Ag6 hA (by rfl) (fun _ _ hw => Asb hA hw) hw1) ?_; cbv
 exact le h hR
theorem Am5 {A : Ar} (hA : A = std) {x0 : Config} {r : List ByteArray} (h : Ahw A x0 = some r) : PFun cx 76 [Afq x0] (.d (.sl TyS.str r)) := by
 refine PFun.walkF (fz := fun k => k == 1) hA cx_ok Tryz.func76 rfl rfl rfl fun P R hP hR => ?_
 cbv; unfold Ahw at h
 iterate 2 refine kj ?_
 obtain ⟨w1, hw1, h⟩ := bd_e h; refine kc hP (Aeq hA hw1) ?_; cbv
 refine bc h (fun hb h => ?_) fun hb h => ?_
 ·cbv
  refine kj ?_
  cases h; subst hR; exact ey
 ·cbv
  iterate 3 refine kj ?_
  obtain ⟨w2, hw2, h⟩ := bd_e h; refine ke hP (Aiv hA (by rfl) (fun _ _ hw => Apt hA hw) hw2) ?_; cbv
  obtain ⟨w3, hw3, h⟩ := bd_e h; refine ke hP (Aiv hA (by rfl) (fun _ _ hw => Apu hA hw) hw3) ?_; cbv
  obtain ⟨w4, hw4, h⟩ := bd_e h; refine ke hP (Aiv hA (by rfl) (fun _ _ hw => Apv hA hw) hw4) ?_; cbv
  refine kj ?_
  refine kl h (fun x gh => [(4, .os 4030 gh TyS.str x.1), (39, it .i64 x.2)]) (fun x gh => [⟨4030, gh, .tok 9 TyS.str (A.nlen TyS.str x.1)⟩, ⟨37, 4, Cell.tok 165 TyS.whyw (A.nlen TyS.whyw [WhyW.mk (ByteArray.mk (Array.mk [114, 111, 117, 116, 101, 115])) (A.cmp BinOp.gtr (A.len TyS.route x0.2.9) 0), WhyW.mk (ByteArray.mk (Array.mk [103, 114, 111, 117, 112])) (A.cmp BinOp.gtr (A.len TyS.str x0.2.3) 0), WhyW.mk (ByteArray.mk (Array.mk [105, 110, 104, 105, 98, 105, 116])) (A.cmp BinOp.gtr (A.len TyS.inhibit x0.4) 0), WhyW.mk (ByteArray.mk (Array.mk [102, 111, 114])) w2, WhyW.mk (ByteArray.mk (Array.mk [107, 101, 101, 112])) w3, WhyW.mk (ByteArray.mk (Array.mk [108, 97, 98, 101, 108])) w4])⟩]) [] ?_
  rintro ⟨out4, t39⟩ gh1 g1 _ _ _ hK1 hQ1 h; cbv
  refine kj ?_
  refine bc h (fun hb h => ?_) fun hb h => ?_
  ·cbv
   refine kj ?_
   refine kk h fun c5 h => ?_
   refine kj ?_
   refine bc h (fun hb h => ?_) fun hb h => ?_
   ·cbv
    refine kj ?_
    refine kk h fun c6 h => ?_
    refine kj ?_
    cases h; exact hK1 _ _ [(4030, 49, g1.succ.succ.succ)] rfl hdy
   ·cbv
    refine kj ?_
    cases h; exact hK1 _ _ [(4030, 4030, gh1)] rfl hdy
  ·cbv
   refine hQ1 _ h _ _ fun h => ?_; cbv
   refine kj ?_
   cases h; subst hR; exact ey
theorem Ank {A : Ar} (hA : A = std) {x0 : Rule} {c0 : Rule} {r : Bool} (h : Afc A x0 c0 = some r) : PFun cx 83 [Aeb x0, .ip [.v (.string c0.Name), .v (.string c0.Metric), .v (.int .i64 c0.How), .v (.int .i64 c0.Limit), .v (.int .i64 c0.For), .v (.int .i64 c0.Keep), .v (.int .i64 c0.Tries), .sl TyS.label c0.Labels]] (bl r) := by
 refine wF hA cx_ok Tryz.func83 fun P R hP hR => ?_
 cbv; unfold Afc at h
 iterate 2 refine kj ?_
 exact le h hR
theorem Akq {A : Ar} (hA : A = std) {x0 : List Rule} {r : Bool} (h : Adg A x0 = some r) : PFun cx 18 [.d (.sl TyS.rule x0)] (bl r) := by
 refine PFun.walkF (fz := fun k => k == 262143 || k == 262148) hA cx_ok Tryz.func18 rfl rfl rfl fun P R hP hR => ?_
 cbv; unfold Adg at h
 iterate 2 refine kj ?_
 refine kl h (fun x _ => [(7, it .i64 x)]) (fun _ _ => []) [] ?_
 rintro t7 gh1 g1 _ _ _ hK1 hQ1 h; cbv
 refine kj ?_
 refine bc h (fun hb h => ?_) fun hb h => ?_
 ·cbv
  refine kj ?_
  refine kk h fun c1 h => ?_
  refine kj ?_
  obtain ⟨w2, hw2, h⟩ := bd_e h; refine kc hP (Am2 hA hw2) ?_; cbv
  iterate 5 refine cj ?_
  refine kk h fun c3 h => ?_
  iterate 2 refine cj ?_
  obtain ⟨w4, hw4, h⟩ := bd_e h; refine kg hP (fun hc => (Abz hA (by rfl) (fun _ _ hw => Ank hA hw) (gd_e hw4 hc))) ?_; cbv
  refine cj ?_
  refine bc h (fun hb h => ?_) fun hb h => ?_
  ·cbv
   refine kj ?_
   refine hQ1 _ h _ _ fun h => ?_; cbv
   exact le h hR
  ·cbv
   refine kj ?_
   cases h; exact hK1 _ _ [] rfl hdy
 ·cbv
  refine hQ1 _ h _ _ fun h => ?_; cbv
  refine kj ?_
  iterate 3 refine cj ?_
  exact le h hR
theorem Aot {A : Ar} (hA : A = std) {x0 : Matcher} {r : Bool} (h : Ah7 A x0 = some r) : PFun cx 156 [Aev x0] (bl r) := by
 refine wF hA cx_ok Tryz.func156 fun P R hP hR => ?_
 cbv; unfold Ah7 at h
 iterate 2 refine kj ?_
 obtain ⟨w1, hw1, h⟩ := bd_e h; refine kc hP (Al4 hA hw1) ?_; cbv
 refine kj ?_
 exact le h hR
theorem Ajn {A : Ar} (hA : A = std) {x0 : List Matcher} {r : Bool} (h : Afz A x0 = some r) : PFun cx 78 [.d (.sl TyS.matcher x0)] (bl r) := by
 refine wF hA cx_ok Tryz.func78 fun P R hP hR => ?_
 cbv; unfold Afz at h
 iterate 2 refine kj ?_
 obtain ⟨w1, hw1, h⟩ := bd_e h; refine ke hP (Aa8 hA (by rfl) (fun _ _ hw => Aot hA hw) hw1) ?_; cbv
 exact le h hR
theorem Aou {A : Ar} (hA : A = std) {x0 : Inhibit} {r : Bool} (h : Agk A x0 = some r) : PFun cx 77 [Adp x0] (bl r) := by
 refine wF hA cx_ok Tryz.func77 fun P R hP hR => ?_
 cbv; unfold Agk at h
 iterate 2 refine kj ?_
 obtain ⟨w1, hw1, h⟩ := bd_e h; refine kc hP (Ajn hA hw1) ?_; cbv
 iterate 3 refine cj ?_
 obtain ⟨w2, hw2, h⟩ := bd_e h; refine kg hP (fun hc => (Ajn hA (gd_e hw2 hc))) ?_; cbv
 iterate 2 refine cj ?_
 exact le h hR
theorem Asd {A : Ar} (hA : A = std) {x0 : Config} {r : Config} (h : Ak9 A x0 = some r) : PFun cx 79 [Afq x0] (Afq r) := by
 refine wF hA cx_ok Tryz.func79 fun P R hP hR => ?_
 cbv; unfold Ak9 at h
 iterate 3 refine kj ?_
 exact le h hR
theorem Apw {A : Ar} (hA : A = std) {rf : Route → Int → Option Bool} {x0 : Route} {c0 : Int} (hqr80 : ∀ (x0 : Route) (x1 : Int) (r : Bool), rf x0 x1 = some r → PFun cx 80 [Aa4 x0, it .i64 x1] (bl r)) {r : Bool} (h : Ahh A rf x0 c0 = some r) : PFun cx 159 [Aa4 x0, .ip [.v (.int .i64 c0)]] (bl r) := by
 refine wF hA cx_ok Tryz.func159 fun P R hP hR => ?_
 cbv; unfold Ahh at h
 iterate 2 refine kj ?_
 obtain ⟨w1, hw1, h⟩ := bd_e h; refine kc hP (hqr80 _ _ _ hw1) ?_; cbv
 exact le h hR
theorem Apx {A : Ar} (hA : A = std) {rf : Route → Int → Option Bool} {x0 : Route} {x1 : Int} (hqr80 : ∀ (x0 : Route) (x1 : Int) (r : Bool), rf x0 x1 = some r → PFun cx 80 [Aa4 x0, it .i64 x1] (bl r)) {r : Bool} (h : Aje A rf x0 x1 = some r) : PFun cx 80 [Aa4 x0, it .i64 x1] (bl r) := by
 refine PFun.walkF (fz := fun k => k == 3) hA cx_ok Tryz.func80 rfl rfl rfl fun P R hP hR => ?_
 cbv; unfold Aje at h
 iterate 2 refine kj ?_
 iterate 3 refine cj ?_
 obtain ⟨w1, hw1, h⟩ := bd_e h; refine kg hP (fun hc => (Ajn hA (gd_e hw1 hc))) ?_; cbv
 iterate 5 refine cj ?_
 obtain ⟨w2, hw2, h⟩ := bd_e h; refine kg hP (fun hc => (Aeh hA (by rfl) (fun _ _ hw => Apw hA hqr80 hw) (gd_e hw2 hc))) ?_; cbv
 iterate 2 refine cj ?_
 exact le h hR
theorem Alq {A : Ar} (hA : A = std) : ∀ (n : Nat) (x0 : Route) (x1 : Int) (r : Bool), Af9 A n x0 x1 = some r → PFun cx 80 [Aa4 x0, it .i64 x1] (bl r)
 | 0, _, _, _, h => by cases h
 | n + 1, x0, x1, r, h => Apx hA (fun _ _ _ hh => Alq hA n _ _ _ hh) h
theorem Ase {A : Ar} (hA : A = std) {x0 : Route} {x1 : Int} {r : Bool} (h : Ann A x0 x1 = some r) : PFun cx 80 [Aa4 x0, it .i64 x1] (bl r) := Alq hA _ _ _ _ h
theorem Ajo {A : Ar} (hA : A = std) {x0 : Config} {r : Bool} (h : Af0 A x0 = some r) : PFun cx 17 [Afq x0] (bl r) := by
 refine wF hA cx_ok Tryz.func17 fun P R hP hR => ?_
 cbv; unfold Af0 at h
 iterate 3 refine kj ?_
 obtain ⟨w1, hw1, h⟩ := bd_e h; refine kc hP (Asd hA hw1) ?_; cbv
 obtain ⟨w2, hw2, h⟩ := bd_e h; refine kc hP (Aeq hA hw2) ?_; cbv
 iterate 3 refine cj ?_
 obtain ⟨w3, hw3, h⟩ := bd_e h; refine kg hP (fun hc => (Ase hA (gd_e hw3 hc))) ?_; cbv
 iterate 5 refine cj ?_
 obtain ⟨w4, hw4, h⟩ := bd_e h; refine kf hP (fun hc => (Aca hA (by rfl) (fun _ _ hw => Aou hA hw) (gd_e hw4 hc))) ?_; cbv
 iterate 2 refine cj ?_
 exact le h hR
theorem Apa {A : Ar} (hA : A = std) {x0 : Config} {x1 : Int} {r : (List ByteArray) × Int} (h : Aip A x0 x1 = some r) : PFun cx 16 [Afq x0, it .i64 x1] (.tu [.d (.sl TyS.str r.1), it .i64 r.2]) := by
 refine wF hA cx_ok Tryz.func16 fun P R hP hR => ?_
 cbv; unfold Aip at h
 iterate 2 refine kj ?_
 obtain ⟨w1, hw1, h⟩ := bd_e h; refine kc hP (Aeq hA hw1) ?_; cbv
 refine bc h (fun hb h => ?_) fun hb h => ?_
 ·cbv
  refine kj ?_
  cases h; subst hR; exact ey
 ·cbv
  iterate 3 refine kj ?_
  refine bc h (fun hb h => ?_) fun hb h => ?_
  ·cbv
   refine kj ?_
   obtain ⟨w2, hw2, h⟩ := bd_e h; refine kc hP (Am5 hA hw2) ?_; cbv
   cases h; subst hR; exact ey
  ·cbv
   refine kj ?_
   refine bc h (fun hb h => ?_) fun hb h => ?_
   ·cbv
    refine kj ?_
    iterate 3 refine cj ?_
    obtain ⟨w3, hw3, h⟩ := bd_e h; refine kg hP (fun hc => (Akq hA (gd_e hw3 hc))) ?_; cbv
    iterate 2 refine cj ?_
    refine bc h (fun hb h => ?_) fun hb h => ?_
    ·cbv
     refine kj ?_
     refine ⟨by subst hA; simp +contextual [vcm], ?_⟩
     refine kj ?_
     obtain ⟨w4, hw4, h⟩ := bd_e h; refine kc hP (Ajo hA hw4) ?_; cbv
     refine bc h (fun hb h => ?_) fun hb h => ?_
     ·cbv
      refine kj ?_
      refine ⟨by subst hA; simp +contextual [vcm], ?_⟩
      refine kj ?_
      cases h; subst hR; exact ey
     ·cbv
      refine kj ?_
      cases h; subst hR; exact ey
    ·cbv
     refine kj ?_
     obtain ⟨w5, hw5, h⟩ := bd_e h; refine kc hP (Ajo hA hw5) ?_; cbv
     refine bc h (fun hb h => ?_) fun hb h => ?_
     ·cbv
      refine kj ?_
      refine ⟨by subst hA; simp +contextual [vcm], ?_⟩
      refine kj ?_
      cases h; subst hR; exact ey
     ·cbv
      refine kj ?_
      cases h; subst hR; exact ey
   ·cbv
    refine kj ?_
    cases h; subst hR; exact ey
theorem Apy {A : Ar} (hA : A = std) {x0 : Config} {r : Bool} (h : Ahi A x0 = some r) : PFun cx 19 [Afq x0] (bl r) := by
 refine wF hA cx_ok Tryz.func19 fun P R hP hR => ?_
 cbv; unfold Ahi at h
 iterate 2 refine kj ?_
 obtain ⟨w1, hw1, h⟩ := bd_e h; refine kc hP (Aeq hA hw1) ?_; cbv
 iterate 2 refine cj ?_
 obtain ⟨w2, hw2, h⟩ := bd_e h; refine kg hP (fun hc => (Am5 hA (gd_e hw2 hc))) ?_; cbv
 iterate 3 refine cj ?_
 exact le h hR
theorem Aiw {A : Ar} (hA : A = std) {x0 : Config} {r : Bool} (h : Ac7 A x0 = some r) : PFun cx 5 [Afq x0] (bl r) := by
 refine wF hA cx_ok Tryz.func5 fun P R hP hR => ?_
 cbv; unfold Ac7 at h
 iterate 2 refine kj ?_
 obtain ⟨w1, hw1, h⟩ := bd_e h; refine kc hP (Akm hA hw1) ?_; cbv
 iterate 2 refine cj ?_
 obtain ⟨w2, hw2, h⟩ := bd_e h; refine kg hP (fun hc => (Aeq hA (gd_e hw2 hc))) ?_; cbv
 iterate 2 refine cj ?_
 refine bc h (fun hb h => ?_) fun hb h => ?_
 ·cbv
  refine kj ?_
  obtain ⟨w3, hw3, h⟩ := bd_e h; refine kc hP (Agb hA hw3) ?_; cbv
  exact le h hR
 ·cbv
  refine kj ?_
  obtain ⟨w4, hw4, h⟩ := bd_e h; refine kc hP (Apa hA hw4) ?_; cbv
  refine kj ?_
  obtain ⟨w5, hw5, h⟩ := bd_e h; refine kc hP (Apa hA hw5) ?_; cbv
  refine kj ?_
  obtain ⟨w6, hw6, h⟩ := bd_e h; refine kc hP (Ajo hA hw6) ?_; cbv
  iterate 8 refine cj ?_
  obtain ⟨w7, hw7, h⟩ := bd_e h; refine kg hP (fun hc => (Akq hA (gd_e hw7 hc))) ?_; cbv
  refine cj ?_
  refine ⟨by subst hA; simp +contextual [vcm], ?_⟩
  refine cj ?_
  refine kj ?_
  obtain ⟨w8, hw8, h⟩ := bd_e h; refine kc hP (Agb hA hw8) ?_; cbv
  iterate 13 refine cj ?_
  obtain ⟨w9, hw9, h⟩ := bd_e h; refine kg hP (fun hc => (Apy hA (gd_e hw9 hc))) ?_; cbv
  iterate 3 refine cj ?_
  exact le h hR
end Go.PL
