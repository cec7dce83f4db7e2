/- Texts of this claim: plain laws of what the program's functions compute. No condition of their own. -/
import Derived.Test.YtnkaolleaebhnaaGreatDoorAqFu
import Derived.Test.YtnkaolleaebhnaaGreatDoorAqLc
namespace Go.PL
set_option linter.unusedSimpArgs false
set_option linter.unusedVariables false
set_option linter.unusedSectionVars false
open Tys (Ty U)
open Enc (sz enc dflt tb ofB toB)
open Dec (dec dok)
set_option maxRecDepth 100000
open Go.Proofs
variable [GM]
theorem Aj2 {A : Ar} (hA : A = std) {rf : Route → Int → Option Int} {x0 : Route} {x1 : Int} (hqr100 : ∀ (x0 : Route) (x1 : Int) (r : Int), rf x0 x1 = some r → PFun cx 100 [Aba x0, it .i64 x1] (it .i64 r)) {r : Int} (h : Ad4 A rf x0 x1 = some r) : PFun cx 100 [Aba x0, it .i64 x1] (it .i64 r) := by
 refine wF hA cx_ok Tryz.func100 fun P R hP hR => ?_
 cbv; unfold Ad4 at h
 iterate 3 refine kj ?_
 refine kl h (fun x _ => [(5, it .i64 x.1), (11, it .i64 x.2)]) (fun x gh => [⟨2, 0, .box 27 [st x0.1, .d (.sl .matcher x0.2), .d (.sl .str x0.3), it .i64 x0.4, it .i64 x0.5, it .i64 x0.6, .d (.sl .str x0.7), bl x0.8, .d (.sl .route x0.9)]⟩]) [] ?_
 rintro ⟨n5, t11⟩ gh1 g1 _ _ _ hK1 hQ1 h; cbv
 refine kj ?_
 refine bc h (fun hb h => ?_) fun hb h => ?_
 ·cbv
  refine kj ?_
  refine kk h fun c1 h => ?_
  refine kj ?_
  refine bc h (fun hb h => ?_) fun hb h => ?_
  ·cbv
   refine hQ1 _ h _ _ fun h => ?_; cbv
   refine kj ?_
   exact le h hR
  ·cbv
   refine kj ?_
   obtain ⟨w2, hw2, h⟩ := bd_e h; refine kc hP (hqr100 _ _ _ hw2) ?_; cbv
   refine kj ?_
   cases h; exact hK1 _ _ [] rfl hdy
 ·cbv
  refine hQ1 _ h _ _ fun h => ?_; cbv
  refine kj ?_
  exact le h hR
theorem Agc {A : Ar} (hA : A = std) : ∀ (n : Nat) (x0 : Route) (x1 : Int) (r : Int), Abh A n x0 x1 = some r → PFun cx 100 [Aba x0, it .i64 x1] (it .i64 r)
 | 0, _, _, _, h => by cases h
 | n + 1, x0, x1, r, h => Aj2 hA (fun _ _ _ hh => Agc hA n _ _ _ hh) h
theorem Ak3 {A : Ar} (hA : A = std) {x0 : Route} {x1 : Int} {r : Int} (h : Af1 A x0 x1 = some r) : PFun cx 100 [Aba x0, it .i64 x1] (it .i64 r) := Agc hA _ _ _ _ h
theorem Ahi {A : Ar} (hA : A = std) {x0 : Config} {r : Bool} (h : Acp A x0 = some r) : PFun cx 24 [Ah2 x0] (bl r) := by
 refine wF hA cx_ok Tryz.func24 fun P R hP hR => ?_
 cbv; unfold Acp at h
 iterate 2 refine kj ?_
 obtain ⟨w1, hw1, h⟩ := bd_e h; refine kc hP (Ak3 hA hw1) ?_; cbv
 iterate 20 refine cj ?_
 exact le h hR
theorem Ajr {A : Ar} (hA : A = std) {x0 : Rule} {qc0 : Rule → Option Bool} {gc0 : Nat} {capc0 : List D} (hcapc0 : capOK capc0) (hqc0 : ∀ (y0 : Rule) (r : Bool), qc0 y0 = some r → PFun cx gc0 ((Agm y0) :: un.uns capc0) (bl r)) {r : Bool} (h : Agp A x0 qc0 = some r) : PFun cx 117 [Agm x0, .ip [.fun (.func gc0) [] capc0]] (bl r) := by
 rcases hcapc0 with rfl | ⟨dscapc0, rfl⟩
 all_goals
  refine wF hA cx_ok Tryz.func117 fun P R hP hR => ?_
  cbv; unfold Agp at h
  iterate 2 refine kj ?_
  obtain ⟨w1, hw1, h⟩ := bd_e h; refine kc hP (hqc0 _ _ hw1) ?_; cbv
  exact le h hR
theorem Ajh {A : Ar} (hA : A = std) {x0 : List Rule} {q1 : Rule → Option Bool} {g1 : Nat} {cap1 : List PV} (hcap1 : bare.bares cap1 = true) (hq1 : ∀ (y0 : Rule) (r : Bool), q1 y0 = some r → PFun cx g1 ((Agm y0) :: cap1) (bl r)) {r : Int} (h : Adf A x0 q1 = some r) : PFun cx 161 [.d (.sl TyS.rule x0), .fn (.func g1) [] cap1] (it .i64 r) := by
 refine wF hA cx_ok Tryz.func161 fun P R hP hR => ?_
 cbv; unfold Adf at h
 iterate 2 refine kj ?_
 refine kl h (fun x _ => [(8, it .i64 x)]) (fun _ _ => []) [] ?_
 rintro t8 gh1 g1 _ _ _ hK1 hQ1 h; cbv
 refine kj ?_
 refine bc h (fun hb h => ?_) fun hb h => ?_
 ·cbv
  iterate 2 refine kj ?_
  refine kk h fun c1 h => ?_
  obtain ⟨w2, hw2, h⟩ := bd_e h; refine kc hP (hq1 _ _ hw2) ?_ (by first | rfl | simp [bare, bare.bares, hcap1]); cbv
  refine bc h (fun hb h => ?_) fun hb h => ?_
  ·cbv
   refine kj ?_
   refine hQ1 _ h _ _ fun h => ?_; cbv
   exact le h hR
  ·cbv
   refine kj ?_
   cases h; exact hK1 _ _ [] rfl hdy
 ·cbv
  refine hQ1 _ h _ _ fun h => ?_; cbv
  refine kj ?_
  exact le h hR
theorem Ae5 {A : Ar} (hA : A = std) {x0 : List Rule} {q1 : Rule → Option Bool} {g1 : Nat} {cap1 : List PV} (hcap1 : bare.bares cap1 = true) (hq1 : ∀ (y0 : Rule) (r : Bool), q1 y0 = some r → PFun cx g1 ((Agm y0) :: cap1) (bl r)) {r : Bool} (h : Abw A x0 q1 = some r) : PFun cx 82 [.d (.sl TyS.rule x0), .fn (.func g1) [] cap1] (bl r) := by
 refine wF hA cx_ok Tryz.func82 fun P R hP hR => ?_
 cbv; unfold Abw at h
 iterate 2 refine kj ?_
 obtain ⟨w1, hw1, h⟩ := bd_e h; refine kc hP (Ajh hA hcap1 hq1 hw1) ?_ (by first | rfl | simp [bare, bare.bares, hcap1]); cbv
 exact le h hR
theorem Aoq {A : Ar} (hA : A = std) {x0 : List Rule} {x1 : Int} {q2 : Rule → Option Bool} {g2 : Nat} {cap2 : List D} (hcap2 : capOK cap2) (hq2 : ∀ (y0 : Rule) (r : Bool), q2 y0 = some r → PFun cx g2 ((Agm y0) :: un.uns cap2) (bl r)) {r : Bool} (h : Aeq A x0 x1 q2 = some r) : PFun cx 35 [.d (.sl TyS.rule x0), it .i64 x1, .fn (.func g2) [] (un.uns cap2)] (bl r) := by
 rcases hcap2 with rfl | ⟨dscap2, rfl⟩
 ·refine PFun.walkF (fz := fun k => k == 5) hA cx_ok Tryz.func35 rfl rfl rfl fun P R hP hR => ?_
  cbv; unfold Aeq at h
  iterate 2 refine kj ?_
  iterate 2 refine cj ?_
  obtain ⟨w1, hw1, h⟩ := bd_e h; refine kg hP (fun hc => (Ae5 hA (by rfl) (fun _ _ hw => Ajr (capc0 := []) hA (by first | exact .inl rfl | exact .inr ⟨_, rfl⟩) hq2 hw) (gd_e hw1 hc))) ?_; cbv
  iterate 2 refine cj ?_
  exact le h hR
 ·refine PFun.walkF (fz := fun k => k == 5) hA cx_ok Tryz.func35 rfl rfl rfl fun P R hP hR => ?_
  cbv; unfold Aeq at h
  iterate 2 refine kj ?_
  iterate 2 refine cj ?_
  obtain ⟨w1, hw1, h⟩ := bd_e h; refine kg hP (fun hc => (Ae5 hA (by rfl) (fun _ _ hw => Ajr (capc0 := [D.ptr dscap2]) hA (by first | exact .inl rfl | exact .inr ⟨_, rfl⟩) hq2 hw) (gd_e hw1 hc))) ?_; cbv
  iterate 2 refine cj ?_
  exact le h hR
theorem Aj3 {A : Ar} (hA : A = std) {x0 : List Def} {q1 : Def → Option Bool} {g1 : Nat} {cap1 : List PV} (hcap1 : bare.bares cap1 = true) (hq1 : ∀ (y0 : Def) (r : Bool), q1 y0 = some r → PFun cx g1 ((defPV y0) :: cap1) (bl r)) {r : Int} (h : Ad5 A x0 q1 = some r) : PFun cx 260 [.d (.sl TyS.dfn x0), .fn (.func g1) [] cap1] (it .i64 r) := by
 refine wF hA cx_ok Tryz.func260 fun P R hP hR => ?_
 cbv; unfold Ad5 at h
 iterate 2 refine kj ?_
 refine kl h (fun x _ => [(8, it .i64 x)]) (fun _ _ => []) [] ?_
 rintro t8 gh1 g1 _ _ _ hK1 hQ1 h; cbv
 refine kj ?_
 refine bc h (fun hb h => ?_) fun hb h => ?_
 ·cbv
  iterate 2 refine kj ?_
  refine kk h fun c1 h => ?_
  obtain ⟨w2, hw2, h⟩ := bd_e h; refine kc hP (hq1 _ _ hw2) ?_ (by first | rfl | simp [bare, bare.bares, hcap1]); cbv
  refine bc h (fun hb h => ?_) fun hb h => ?_
  ·cbv
   refine kj ?_
   refine hQ1 _ h _ _ fun h => ?_; cbv
   exact le h hR
  ·cbv
   refine kj ?_
   cases h; exact hK1 _ _ [] rfl hdy
 ·cbv
  refine hQ1 _ h _ _ fun h => ?_; cbv
  refine kj ?_
  exact le h hR
theorem Aiz {A : Ar} (hA : A = std) {x0 : List Def} {q1 : Def → Option Bool} {g1 : Nat} {cap1 : List PV} (hcap1 : bare.bares cap1 = true) (hq1 : ∀ (y0 : Def) (r : Bool), q1 y0 = some r → PFun cx g1 ((defPV y0) :: cap1) (bl r)) {r : Bool} (h : Ab8 A x0 q1 = some r) : PFun cx 198 [.d (.sl TyS.dfn x0), .fn (.func g1) [] cap1] (bl r) := by
 refine wF hA cx_ok Tryz.func198 fun P R hP hR => ?_
 cbv; unfold Ab8 at h
 iterate 2 refine kj ?_
 obtain ⟨w1, hw1, h⟩ := bd_e h; refine kc hP (Aj3 hA hcap1 hq1 hw1) ?_ (by first | rfl | simp [bare, bare.bares, hcap1]); cbv
 exact le h hR
theorem Ar0 {A : Ar} (hA : A = std) {x0 : Int} {r : Bool} (h : Ahk A x0 = some r) : PFun cx 289 [it .u8 x0] (bl r) := by
 refine wF hA cx_ok Tryz.func289 fun P R hP hR => ?_
 cbv; unfold Ahk at h
 iterate 2 refine kj ?_
 iterate 6 refine cj ?_
 refine ⟨by subst hA; simp +contextual [vcm], ?_⟩
 iterate 3 refine cj ?_
 exact le h hR
theorem Aji {A : Ar} (hA : A = std) {x0 : List UInt8} {q1 : Int → Option Bool} {g1 : Nat} {cap1 : List PV} (hcap1 : bare.bares cap1 = true) (hq1 : ∀ (y0 : Int) (r : Bool), q1 y0 = some r → PFun cx g1 ((it .u8 y0) :: cap1) (bl r)) {r : Int} (h : Adg A x0 q1 = some r) : PFun cx 204 [.d (.sl TyS.byte x0), .fn (.func g1) [] cap1] (it .i64 r) := by
 refine wF hA cx_ok Tryz.func204 fun P R hP hR => ?_
 cbv; unfold Adg at h
 iterate 2 refine kj ?_
 refine kl h (fun x _ => [(8, it .i64 x)]) (fun _ _ => []) [] ?_
 rintro t8 gh1 g1 _ _ _ hK1 hQ1 h; cbv
 refine kj ?_
 refine bc h (fun hb h => ?_) fun hb h => ?_
 ·cbv
  iterate 2 refine kj ?_
  refine kk h fun c1 h => ?_
  obtain ⟨w2, hw2, h⟩ := bd_e h; refine kc hP (hq1 _ _ hw2) ?_ (by first | rfl | simp [bare, bare.bares, hcap1]); cbv
  refine bc h (fun hb h => ?_) fun hb h => ?_
  ·cbv
   refine kj ?_
   refine hQ1 _ h _ _ fun h => ?_; cbv
   exact le h hR
  ·cbv
   refine kj ?_
   cases h; exact hK1 _ _ [] rfl hdy
 ·cbv
  refine hQ1 _ h _ _ fun h => ?_; cbv
  refine kj ?_
  exact le h hR
theorem Abd {A : Ar} (hA : A = std) {x0 : List UInt8} {q1 : Int → Option Bool} {g1 : Nat} {cap1 : List PV} (hcap1 : bare.bares cap1 = true) (hq1 : ∀ (y0 : Int) (r : Bool), q1 y0 = some r → PFun cx g1 ((it .u8 y0) :: cap1) (bl r)) {r : Bool} (h : Aab A x0 q1 = some r) : PFun cx 130 [.d (.sl TyS.byte x0), .fn (.func g1) [] cap1] (bl r) := by
 refine wF hA cx_ok Tryz.func130 fun P R hP hR => ?_
 cbv; unfold Aab at h
 iterate 2 refine kj ?_
 obtain ⟨w1, hw1, h⟩ := bd_e h; refine kc hP (Aji hA hcap1 hq1 hw1) ?_ (by first | rfl | simp [bare, bare.bares, hcap1]); cbv
 exact le h hR
theorem Aor {A : Ar} (hA : A = std) {x0 : ByteArray} {r : Bool} (h : Ahl A x0 = some r) : PFun cx 261 [st x0] (bl r) := by
 refine wF hA cx_ok Tryz.func261 fun P R hP hR => ?_
 cbv; unfold Ahl at h
 iterate 3 refine kj ?_
 iterate 6 refine cj ?_
 obtain ⟨w1, hw1, h⟩ := bd_e h; refine kf hP (fun hc => (Abd hA (by rfl) (fun _ _ hw => Ar0 hA hw) (gd_e hw1 hc))) ?_; cbv
 iterate 2 refine cj ?_
 exact le h hR
theorem Ajj {A : Ar} (hA : A = std) {x0 : List ByteArray} {x1 : ByteArray} {r : Int} (h : Ach A x0 x1 = some r) : PFun cx 136 [.d (.sl TyS.str x0), st x1] (it .i64 r) := by
 refine wF hA cx_ok Tryz.func136 fun P R hP hR => ?_
 cbv; unfold Ach at h
 iterate 2 refine kj ?_
 refine kl h (fun x _ => [(8, it .i64 x)]) (fun _ _ => []) [] ?_
 rintro t8 gh1 g1 _ _ _ hK1 hQ1 h; cbv
 refine kj ?_
 refine bc h (fun hb h => ?_) fun hb h => ?_
 ·cbv
  iterate 2 refine kj ?_
  refine kk h fun c1 h => ?_
  refine bc h (fun hb h => ?_) fun hb h => ?_
  ·cbv
   refine kj ?_
   refine hQ1 _ h _ _ fun h => ?_; cbv
   exact le h hR
  ·cbv
   refine kj ?_
   cases h; exact hK1 _ _ [] rfl hdy
 ·cbv
  refine hQ1 _ h _ _ fun h => ?_; cbv
  refine kj ?_
  exact le h hR
theorem Ab5 {A : Ar} (hA : A = std) {x0 : List ByteArray} {x1 : ByteArray} {r : Bool} (h : Aav A x0 x1 = some r) : PFun cx 56 [.d (.sl TyS.str x0), st x1] (bl r) := by
 refine wF hA cx_ok Tryz.func56 fun P R hP hR => ?_
 cbv; unfold Aav at h
 iterate 2 refine kj ?_
 obtain ⟨w1, hw1, h⟩ := bd_e h; refine kc hP (Ajj hA hw1) ?_; cbv
 exact le h hR
theorem Aht {A : Ar} (hA : A = std) {x0 : List ByteArray} {q1 : ByteArray → Option Bool} {g1 : Nat} {cap1 : List PV} (hcap1 : bare.bares cap1 = true) (hq1 : ∀ (y0 : ByteArray) (r : Bool), q1 y0 = some r → PFun cx g1 ((st y0) :: cap1) (bl r)) {r : Int} (h : Ack A x0 q1 = some r) : PFun cx 197 [.d (.sl TyS.str x0), .fn (.func g1) [] cap1] (it .i64 r) := by
 refine wF hA cx_ok Tryz.func197 fun P R hP hR => ?_
 cbv; unfold Ack at h
 iterate 2 refine kj ?_
 refine kl h (fun x _ => [(8, it .i64 x)]) (fun _ _ => []) [] ?_
 rintro t8 gh1 g1 _ _ _ hK1 hQ1 h; cbv
 refine kj ?_
 refine bc h (fun hb h => ?_) fun hb h => ?_
 ·cbv
  iterate 2 refine kj ?_
  refine kk h fun c1 h => ?_
  obtain ⟨w2, hw2, h⟩ := bd_e h; refine kc hP (hq1 _ _ hw2) ?_ (by first | rfl | simp [bare, bare.bares, hcap1]); cbv
  refine bc h (fun hb h => ?_) fun hb h => ?_
  ·cbv
   refine kj ?_
   refine hQ1 _ h _ _ fun h => ?_; cbv
   exact le h hR
  ·cbv
   refine kj ?_
   cases h; exact hK1 _ _ [] rfl hdy
 ·cbv
  refine hQ1 _ h _ _ fun h => ?_; cbv
  refine kj ?_
  exact le h hR
theorem Acl {A : Ar} (hA : A = std) {x0 : List ByteArray} {q1 : ByteArray → Option Bool} {g1 : Nat} {cap1 : List PV} (hcap1 : bare.bares cap1 = true) (hq1 : ∀ (y0 : ByteArray) (r : Bool), q1 y0 = some r → PFun cx g1 ((st y0) :: cap1) (bl r)) {r : Bool} (h : Aar A x0 q1 = some r) : PFun cx 122 [.d (.sl TyS.str x0), .fn (.func g1) [] cap1] (bl r) := by
 refine wF hA cx_ok Tryz.func122 fun P R hP hR => ?_
 cbv; unfold Aar at h
 iterate 2 refine kj ?_
 obtain ⟨w1, hw1, h⟩ := bd_e h; refine kc hP (Aht hA hcap1 hq1 hw1) ?_ (by first | rfl | simp [bare, bare.bares, hcap1]); cbv
 exact le h hR
theorem Aqt {A : Ar} (hA : A = std) {x0 : Int} {r : Bool} (h : Al4 A x0 = some r) : PFun cx 290 [it .u8 x0] (bl r) := by
 refine wF hA cx_ok Tryz.func290 fun P R hP hR => ?_
 cbv; unfold Al4 at h
 iterate 2 refine kj ?_
 iterate 4 refine cj ?_
 exact le h hR
theorem At2 {A : Ar} (hA : A = std) {x0 : ByteArray} {r : Bool} (h : Aob A x0 = some r) : PFun cx 263 [st x0] (bl r) := by
 refine wF hA cx_ok Tryz.func263 fun P R hP hR => ?_
 cbv; unfold Aob at h
 iterate 3 refine kj ?_
 iterate 4 refine cj ?_
 obtain ⟨w1, hw1, h⟩ := bd_e h; refine kg hP (fun hc => (Ass hA (gd_e hw1 hc))) ?_; cbv
 iterate 6 refine cj ?_
 obtain ⟨w2, hw2, h⟩ := bd_e h; refine kf hP (fun hc => (Abd hA (by rfl) (fun _ _ hw => Aqt hA hw) (gd_e hw2 hc))) ?_; cbv
 iterate 2 refine cj ?_
 exact le h hR
theorem At3 {A : Ar} (hA : A = std) {x0 : ByteArray} {r : Bool} (h : Aoc A x0 = some r) : PFun cx 262 [st x0] (bl r) := by
 refine wF hA cx_ok Tryz.func262 fun P R hP hR => ?_
 cbv; unfold Aoc at h
 iterate 2 refine kj ?_
 obtain ⟨w1, hw1, h⟩ := bd_e h; refine kc hP (At2 hA hw1) ?_; cbv
 exact le h hR
theorem Axa {A : Ar} (hA : A = std) {x0 : Def} {r : Bool} (h : Aow A x0 = some r) : PFun cx 200 [defPV x0] (bl r) := by
 refine wF hA cx_ok Tryz.func200 fun P R hP hR => ?_
 cbv; unfold Aow at h
 iterate 2 refine kj ?_
 refine kl h (fun x _ => [(8, it .i64 x)]) (fun x gh => [⟨1, 0, .box 141 [st x0.1, .d (.sl .str x0.2), .d (.sl .str x0.3)]⟩]) [] ?_
 rintro t8 gh1 g1 _ _ _ hK1 hQ1 h; cbv
 refine kj ?_
 refine bc h (fun hb h => ?_) fun hb h => ?_
 ·cbv
  refine kj ?_
  refine kk h fun c1 h => ?_
  refine kj ?_
  obtain ⟨w2, hw2, h⟩ := bd_e h; refine kc hP (Aor hA hw2) ?_; cbv
  iterate 4 refine cj ?_
  refine kk h fun c3 h => ?_
  iterate 2 refine cj ?_
  obtain ⟨w4, hw4, h⟩ := bd_e h; refine kg hP (fun hc => (Ab5 hA (gd_e hw4 hc))) ?_; cbv
  refine cj ?_
  refine bc h (fun hb h => ?_) fun hb h => ?_
  ·cbv
   refine kj ?_
   refine hQ1 _ h _ _ fun h => ?_; cbv
   exact le h hR
  ·cbv
   refine kj ?_
   cases h; exact hK1 _ _ [] rfl hdy
 ·cbv
  refine hQ1 _ h _ _ fun h => ?_; cbv
  refine kj ?_
  obtain ⟨w5, hw5, h⟩ := bd_e h; refine kc hP (Aor hA hw5) ?_; cbv
  iterate 17 refine cj ?_
  obtain ⟨w6, hw6, h⟩ := bd_e h; refine kf hP (fun hc => (Acl hA (by rfl) (fun _ _ hw => At3 hA hw) (gd_e hw6 hc))) ?_; cbv
  iterate 2 refine cj ?_
  exact le h hR
theorem Aqu {A : Ar} (hA : A = std) {x0 : Def} {r : Bool} (h : Ajs A x0 = some r) : PFun cx 199 [defPV x0] (bl r) := by
 refine wF hA cx_ok Tryz.func199 fun P R hP hR => ?_
 cbv; unfold Ajs at h
 iterate 2 refine kj ?_
 obtain ⟨w1, hw1, h⟩ := bd_e h; refine kc hP (Axa hA hw1) ?_; cbv
 exact le h hR
theorem Ak4 {A : Ar} (hA : A = std) {x0 : List Def} {r : Bool} (h : Ahc A x0 = some r) : PFun cx 124 [.d (.sl TyS.dfn x0)] (bl r) := by
 refine wF hA cx_ok Tryz.func124 fun P R hP hR => ?_
 cbv; unfold Ahc at h
 iterate 2 refine kj ?_
 refine cj ?_
 obtain ⟨w1, hw1, h⟩ := bd_e h; refine kf hP (fun hc => (Aiz hA (by rfl) (fun _ _ hw => Aqu hA hw) (gd_e hw1 hc))) ?_; cbv
 iterate 2 refine cj ?_
 exact le h hR
theorem Aos {A : Ar} (hA : A = std) {x0 : ByteArray} {r : Bool} (h : Ajz A x0 = some r) : PFun cx 118 [st x0] (bl r) := by
 refine wF hA cx_ok Tryz.func118 fun P R hP hR => ?_
 cbv; unfold Ajz at h
 iterate 2 refine kj ?_
 obtain ⟨w1, hw1, h⟩ := bd_e h; refine kc hP (Ak4 hA hw1) ?_; cbv
 exact le h hR
theorem Aot {A : Ar} (hA : A = std) {x0 : Int} {r : Bool} (h : Alj A x0 = some r) : PFun cx 119 [it .i64 x0] (bl r) := by
 refine wF hA cx_ok Tryz.func119 fun P R hP hR => ?_
 cbv; unfold Alj at h
 iterate 2 refine kj ?_
 iterate 2 refine cj ?_
 exact le h hR
theorem Ar1 {A : Ar} (hA : A = std) {x0 : Int} {r : Bool} (h : Ai5 A x0 = some r) : PFun cx 287 [it .u8 x0] (bl r) := by
 refine wF hA cx_ok Tryz.func287 fun P R hP hR => ?_
 cbv; unfold Ai5 at h
 iterate 2 refine kj ?_
 iterate 6 refine cj ?_
 refine ⟨by subst hA; simp +contextual [vcm], ?_⟩
 iterate 3 refine cj ?_
 exact le h hR
theorem Avq {A : Ar} (hA : A = std) {x0 : ByteArray} {r : Bool} (h : Alk A x0 = some r) : PFun cx 258 [st x0] (bl r) := by
 refine wF hA cx_ok Tryz.func258 fun P R hP hR => ?_
 cbv; unfold Alk at h
 iterate 2 refine kj ?_
 refine kl h (fun x _ => [(2, bl x.1), (7, it .i64 x.2)]) (fun _ _ => []) [] ?_
 rintro ⟨t2, t7⟩ gh1 g1 _ _ _ hK1 hQ1 h; cbv
 refine kj ?_
 refine bc h (fun hb h => ?_) fun hb h => ?_
 ·cbv
  iterate 2 refine kj ?_
  refine kk h fun c1 h => ?_
  refine kj ?_
  obtain ⟨w2, hw2, h⟩ := bd_e h; refine kc hP (Ar1 hA hw2) ?_; cbv
  iterate 4 refine cj ?_
  refine ⟨by subst hA; simp +contextual [vcm], ?_⟩
  iterate 3 refine cj ?_
  refine ⟨by subst hA; simp +contextual [vcm], ?_⟩
  refine cj ?_
  refine bc h (fun hb h => ?_) fun hb h => ?_
  ·cbv
   refine kj ?_
   refine hQ1 _ h _ _ fun h => ?_; cbv
   exact le h hR
  ·cbv
   refine kj ?_
   cases h; exact hK1 _ _ [] rfl hdy
 ·cbv
  refine hQ1 _ h _ _ fun h => ?_; cbv
  refine kj ?_
  iterate 3 refine cj ?_
  exact le h hR
theorem Aqv {A : Ar} (hA : A = std) {x0 : Int} {r : Bool} (h : Aju A x0 = some r) : PFun cx 288 [it .u8 x0] (bl r) := by
 refine wF hA cx_ok Tryz.func288 fun P R hP hR => ?_
 cbv; unfold Aju at h
 iterate 2 refine kj ?_
 iterate 2 refine cj ?_
 exact le h hR
theorem At4 {A : Ar} (hA : A = std) {x0 : ByteArray} {r : Bool} (h : Aka A x0 = some r) : PFun cx 259 [st x0] (bl r) := by
 refine wF hA cx_ok Tryz.func259 fun P R hP hR => ?_
 cbv; unfold Aka at h
 iterate 2 refine kj ?_
 iterate 5 refine cj ?_
 obtain ⟨w1, hw1, h⟩ := bd_e h; refine kf hP (fun hc => (Abd hA (by rfl) (fun _ _ hw => Aqv hA hw) (gd_e hw1 hc))) ?_; cbv
 iterate 2 refine cj ?_
 exact le h hR
theorem Axb {A : Ar} (hA : A = std) {x0 : Label} {r : Bool} (h : All A x0 = some r) : PFun cx 194 [Azu x0] (bl r) := by
 refine wF hA cx_ok Tryz.func194 fun P R hP hR => ?_
 cbv; unfold All at h
 iterate 2 refine kj ?_
 obtain ⟨w1, hw1, h⟩ := bd_e h; refine kc hP (Avq hA hw1) ?_; cbv
 iterate 3 refine cj ?_
 obtain ⟨w2, hw2, h⟩ := bd_e h; refine kg hP (fun hc => (At4 hA (gd_e hw2 hc))) ?_; cbv
 refine cj ?_
 exact le h hR
theorem Afu {A : Ar} (hA : A = std) {x0 : List Label} {r : Bool} (h : Adl A x0 = some r) : PFun cx 120 [.d (.sl TyS.label x0)] (bl r) := by
 refine wF hA cx_ok Tryz.func120 fun P R hP hR => ?_
 cbv; unfold Adl at h
 iterate 2 refine kj ?_
 refine kl h (fun x _ => [(7, it .i64 x)]) (fun _ _ => []) [] ?_
 rintro t7 gh1 g1 _ _ _ hK1 hQ1 h; cbv
 refine kj ?_
 refine bc h (fun hb h => ?_) fun hb h => ?_
 ·cbv
  refine kj ?_
  refine kk h fun c1 h => ?_
  refine kj ?_
  obtain ⟨w2, hw2, h⟩ := bd_e h; refine kc hP (Axb hA hw2) ?_; cbv
  iterate 5 refine cj ?_
  refine kk h fun c3 h => ?_
  iterate 7 refine cj ?_
  refine ⟨by subst hA; simp +contextual [vcm], ?_⟩
  refine cj ?_
  refine kj ?_
  refine bc h (fun hb h => ?_) fun hb h => ?_
  ·cbv
   refine kj ?_
   refine hQ1 _ h _ _ fun h => ?_; cbv
   exact le h hR
  ·cbv
   refine kj ?_
   cases h; exact hK1 _ _ [] rfl hdy
 ·cbv
  refine hQ1 _ h _ _ fun h => ?_; cbv
  refine kj ?_
  exact le h hR
theorem At5 {A : Ar} (hA : A = std) {x0 : Label} {c0 : ByteArray} {r : Bool} (h : Akb A x0 c0 = some r) : PFun cx 196 [Azu x0, .ip [.v (.string c0)]] (bl r) := by
 refine wF hA cx_ok Tryz.func196 fun P R hP hR => ?_
 cbv; unfold Akb at h
 iterate 2 refine kj ?_
 exact le h hR
theorem Ah9 {A : Ar} (hA : A = std) {x0 : List Label} {q1 : Label → Option Bool} {g1 : Nat} {cap1 : List PV} (hcap1 : bare.bares cap1 = true) (hq1 : ∀ (y0 : Label) (r : Bool), q1 y0 = some r → PFun cx g1 ((Azu y0) :: cap1) (bl r)) {r : Int} (h : Acv A x0 q1 = some r) : PFun cx 195 [.d (.sl TyS.label x0), .fn (.func g1) [] cap1] (it .i64 r) := by
 refine wF hA cx_ok Tryz.func195 fun P R hP hR => ?_
 cbv; unfold Acv at h
 iterate 2 refine kj ?_
 refine kl h (fun x _ => [(8, it .i64 x)]) (fun _ _ => []) [] ?_
 rintro t8 gh1 g1 _ _ _ hK1 hQ1 h; cbv
 refine kj ?_
 refine bc h (fun hb h => ?_) fun hb h => ?_
 ·cbv
  iterate 2 refine kj ?_
  refine kk h fun c1 h => ?_
  obtain ⟨w2, hw2, h⟩ := bd_e h; refine kc hP (hq1 _ _ hw2) ?_ (by first | rfl | simp [bare, bare.bares, hcap1]); cbv
  refine bc h (fun hb h => ?_) fun hb h => ?_
  ·cbv
   refine kj ?_
   refine hQ1 _ h _ _ fun h => ?_; cbv
   exact le h hR
  ·cbv
   refine kj ?_
   cases h; exact hK1 _ _ [] rfl hdy
 ·cbv
  refine hQ1 _ h _ _ fun h => ?_; cbv
  refine kj ?_
  exact le h hR
theorem Axc {A : Ar} (hA : A = std) {x0 : List Label} {x1 : ByteArray} {r : ByteArray} (h : Am5 A x0 x1 = some r) : PFun cx 121 [.d (.sl TyS.label x0), st x1] (st r) := by
 refine PFun.walkF (fz := fun k => k == 3) hA cx_ok Tryz.func121 rfl rfl rfl fun P R hP hR => ?_
 cbv; unfold Am5 at h
 iterate 2 refine kj ?_
 obtain ⟨w1, hw1, h⟩ := bd_e h; refine kc hP (Ah9 hA (by rfl) (fun _ _ hw => At5 hA hw) hw1) ?_; cbv
 refine kj ?_
 refine bc h (fun hb h => ?_) fun hb h => ?_
 ·cbv
  refine kj ?_
  exact le h hR
 ·cbv
  refine kj ?_
  refine kk h fun c2 h => ?_
  exact le h hR
theorem Anu {A : Ar} (hA : A = std) {x0 : Rule} {r : Bool} (h : Ahd A x0 = some r) : PFun cx 36 [Agm x0] (bl r) := by
 refine wF hA cx_ok Tryz.func36 fun P R hP hR => ?_
 cbv; unfold Ahd at h
 iterate 2 refine kj ?_
 obtain ⟨w1, hw1, h⟩ := bd_e h; refine kc hP (Aos hA hw1) ?_; cbv
 iterate 3 refine cj ?_
 obtain ⟨w2, hw2, h⟩ := bd_e h; refine kg hP (fun hc => (Aos hA (gd_e hw2 hc))) ?_; cbv
 iterate 9 refine cj ?_
 refine kj ?_
 obtain ⟨w3, hw3, h⟩ := bd_e h; refine kc hP (Aot hA hw3) ?_; cbv
 iterate 3 refine cj ?_
 obtain ⟨w4, hw4, h⟩ := bd_e h; refine kg hP (fun hc => (Aot hA (gd_e hw4 hc))) ?_; cbv
 iterate 9 refine cj ?_
 refine kj ?_
 iterate 17 refine cj ?_
 obtain ⟨w5, hw5, h⟩ := bd_e h; refine kg hP (fun hc => (Afu hA (gd_e hw5 hc))) ?_; cbv
 iterate 4 refine cj ?_
 obtain ⟨w6, hw6, h⟩ := bd_e h; refine kg hP (fun hc => (Axc hA (gd_e hw6 hc))) ?_; cbv
 iterate 2 refine cj ?_
 exact le h hR
theorem Ah8 {A : Ar} (hA : A = std) {x0 : ByteArray} {qc0 : ByteArray → Option Bool} {gc0 : Nat} {capc0 : List D} (hcapc0 : capOK capc0) (hqc0 : ∀ (y0 : ByteArray) (r : Bool), qc0 y0 = some r → PFun cx gc0 ((st y0) :: un.uns capc0) (bl r)) {r : Bool} (h : Afh A x0 qc0 = some r) : PFun cx 123 [st x0, .ip [.fun (.func gc0) [] capc0]] (bl r) := by
 rcases hcapc0 with rfl | ⟨dscapc0, rfl⟩
 all_goals
  refine wF hA cx_ok Tryz.func123 fun P R hP hR => ?_
  cbv; unfold Afh at h
  iterate 2 refine kj ?_
  obtain ⟨w1, hw1, h⟩ := bd_e h; refine kc hP (hqc0 _ _ hw1) ?_; cbv
  exact le h hR
theorem Agw {A : Ar} (hA : A = std) {x0 : List ByteArray} {x1 : Int} {q2 : ByteArray → Option Bool} {g2 : Nat} {cap2 : List D} (hcap2 : capOK cap2) (hq2 : ∀ (y0 : ByteArray) (r : Bool), q2 y0 = some r → PFun cx g2 ((st y0) :: un.uns cap2) (bl r)) {r : Bool} (h : Acg A x0 x1 q2 = some r) : PFun cx 37 [.d (.sl TyS.str x0), it .i64 x1, .fn (.func g2) [] (un.uns cap2)] (bl r) := by
 rcases hcap2 with rfl | ⟨dscap2, rfl⟩
 ·refine PFun.walkF (fz := fun k => k == 5) hA cx_ok Tryz.func37 rfl rfl rfl fun P R hP hR => ?_
  cbv; unfold Acg at h
  iterate 2 refine kj ?_
  iterate 2 refine cj ?_
  obtain ⟨w1, hw1, h⟩ := bd_e h; refine kg hP (fun hc => (Acl hA (by rfl) (fun _ _ hw => Ah8 (capc0 := []) hA (by first | exact .inl rfl | exact .inr ⟨_, rfl⟩) hq2 hw) (gd_e hw1 hc))) ?_; cbv
  iterate 2 refine cj ?_
  exact le h hR
 ·refine PFun.walkF (fz := fun k => k == 5) hA cx_ok Tryz.func37 rfl rfl rfl fun P R hP hR => ?_
  cbv; unfold Acg at h
  iterate 2 refine kj ?_
  iterate 2 refine cj ?_
  obtain ⟨w1, hw1, h⟩ := bd_e h; refine kg hP (fun hc => (Acl hA (by rfl) (fun _ _ hw => Ah8 (capc0 := [D.ptr dscap2]) hA (by first | exact .inl rfl | exact .inr ⟨_, rfl⟩) hq2 hw) (gd_e hw1 hc))) ?_; cbv
  iterate 2 refine cj ?_
  exact le h hR
theorem At6 {A : Ar} (hA : A = std) {x0 : ByteArray} {r : Bool} (h : Aif A x0 = some r) : PFun cx 38 [st x0] (bl r) := by
 refine wF hA cx_ok Tryz.func38 fun P R hP hR => ?_
 cbv; unfold Aif at h
 iterate 2 refine kj ?_
 obtain ⟨w1, hw1, h⟩ := bd_e h; refine kc hP (Ak4 hA hw1) ?_; cbv
 exact le h hR
theorem Ahu {A : Ar} (hA : A = std) {x0 : Inhibit} {qc0 : Inhibit → Option Bool} {gc0 : Nat} {capc0 : List D} (hcapc0 : capOK capc0) (hqc0 : ∀ (y0 : Inhibit) (r : Bool), qc0 y0 = some r → PFun cx gc0 ((Aee y0) :: un.uns capc0) (bl r)) {r : Bool} (h : Ae6 A x0 qc0 = some r) : PFun cx 125 [Aee x0, .ip [.fun (.func gc0) [] capc0]] (bl r) := by
 rcases hcapc0 with rfl | ⟨dscapc0, rfl⟩
 all_goals
  refine wF hA cx_ok Tryz.func125 fun P R hP hR => ?_
  cbv; unfold Ae6 at h
  iterate 2 refine kj ?_
  obtain ⟨w1, hw1, h⟩ := bd_e h; refine kc hP (hqc0 _ _ hw1) ?_; cbv
  exact le h hR
theorem Aha {A : Ar} (hA : A = std) {x0 : List Inhibit} {q1 : Inhibit → Option Bool} {g1 : Nat} {cap1 : List PV} (hcap1 : bare.bares cap1 = true) (hq1 : ∀ (y0 : Inhibit) (r : Bool), q1 y0 = some r → PFun cx g1 ((Aee y0) :: cap1) (bl r)) {r : Int} (h : Ab6 A x0 q1 = some r) : PFun cx 160 [.d (.sl TyS.inhibit x0), .fn (.func g1) [] cap1] (it .i64 r) := by
 refine wF hA cx_ok Tryz.func160 fun P R hP hR => ?_
 cbv; unfold Ab6 at h
 iterate 2 refine kj ?_
 refine kl h (fun x _ => [(8, it .i64 x)]) (fun _ _ => []) [] ?_
 rintro t8 gh1 g1 _ _ _ hK1 hQ1 h; cbv
 refine kj ?_
 refine bc h (fun hb h => ?_) fun hb h => ?_
 ·cbv
  iterate 2 refine kj ?_
  refine kk h fun c1 h => ?_
  obtain ⟨w2, hw2, h⟩ := bd_e h; refine kc hP (hq1 _ _ hw2) ?_ (by first | rfl | simp [bare, bare.bares, hcap1]); cbv
  refine bc h (fun hb h => ?_) fun hb h => ?_
  ·cbv
   refine kj ?_
   refine hQ1 _ h _ _ fun h => ?_; cbv
   exact le h hR
  ·cbv
   refine kj ?_
   cases h; exact hK1 _ _ [] rfl hdy
 ·cbv
  refine hQ1 _ h _ _ fun h => ?_; cbv
  refine kj ?_
  exact le h hR
theorem Ad1 {A : Ar} (hA : A = std) {x0 : List Inhibit} {q1 : Inhibit → Option Bool} {g1 : Nat} {cap1 : List PV} (hcap1 : bare.bares cap1 = true) (hq1 : ∀ (y0 : Inhibit) (r : Bool), q1 y0 = some r → PFun cx g1 ((Aee y0) :: cap1) (bl r)) {r : Bool} (h : Aa3 A x0 q1 = some r) : PFun cx 81 [.d (.sl TyS.inhibit x0), .fn (.func g1) [] cap1] (bl r) := by
 refine wF hA cx_ok Tryz.func81 fun P R hP hR => ?_
 cbv; unfold Aa3 at h
 iterate 2 refine kj ?_
 obtain ⟨w1, hw1, h⟩ := bd_e h; refine kc hP (Aha hA hcap1 hq1 hw1) ?_ (by first | rfl | simp [bare, bare.bares, hcap1]); cbv
 exact le h hR
theorem Amv {A : Ar} (hA : A = std) {x0 : List Inhibit} {x1 : Int} {q2 : Inhibit → Option Bool} {g2 : Nat} {cap2 : List D} (hcap2 : capOK cap2) (hq2 : ∀ (y0 : Inhibit) (r : Bool), q2 y0 = some r → PFun cx g2 ((Aee y0) :: un.uns cap2) (bl r)) {r : Bool} (h : Ac1 A x0 x1 q2 = some r) : PFun cx 39 [.d (.sl TyS.inhibit x0), it .i64 x1, .fn (.func g2) [] (un.uns cap2)] (bl r) := by
 rcases hcap2 with rfl | ⟨dscap2, rfl⟩
 ·refine PFun.walkF (fz := fun k => k == 5) hA cx_ok Tryz.func39 rfl rfl rfl fun P R hP hR => ?_
  cbv; unfold Ac1 at h
  iterate 2 refine kj ?_
  iterate 2 refine cj ?_
  obtain ⟨w1, hw1, h⟩ := bd_e h; refine kg hP (fun hc => (Ad1 hA (by rfl) (fun _ _ hw => Ahu (capc0 := []) hA (by first | exact .inl rfl | exact .inr ⟨_, rfl⟩) hq2 hw) (gd_e hw1 hc))) ?_; cbv
  iterate 2 refine cj ?_
  exact le h hR
 ·refine PFun.walkF (fz := fun k => k == 5) hA cx_ok Tryz.func39 rfl rfl rfl fun P R hP hR => ?_
  cbv; unfold Ac1 at h
  iterate 2 refine kj ?_
  iterate 2 refine cj ?_
  obtain ⟨w1, hw1, h⟩ := bd_e h; refine kg hP (fun hc => (Ad1 hA (by rfl) (fun _ _ hw => Ahu (capc0 := [D.ptr dscap2]) hA (by first | exact .inl rfl | exact .inr ⟨_, rfl⟩) hq2 hw) (gd_e hw1 hc))) ?_; cbv
  iterate 2 refine cj ?_
  exact le h hR
theorem Ahv {A : Ar} (hA : A = std) {x0 : Matcher} {qc0 : Matcher → Option Bool} {gc0 : Nat} {capc0 : List D} (hcapc0 : capOK capc0) (hqc0 : ∀ (y0 : Matcher) (r : Bool), qc0 y0 = some r → PFun cx gc0 ((Afs y0) :: un.uns capc0) (bl r)) {r : Bool} (h : Ae7 A x0 qc0 = some r) : PFun cx 201 [Afs x0, .ip [.fun (.func gc0) [] capc0]] (bl r) := by
 rcases hcapc0 with rfl | ⟨dscapc0, rfl⟩
 all_goals
  refine wF hA cx_ok Tryz.func201 fun P R hP hR => ?_
  cbv; unfold Ae7 at h
  iterate 2 refine kj ?_
  obtain ⟨w1, hw1, h⟩ := bd_e h; refine kc hP (hqc0 _ _ hw1) ?_; cbv
  exact le h hR
theorem Ahb {A : Ar} (hA : A = std) {x0 : List Matcher} {q1 : Matcher → Option Bool} {g1 : Nat} {cap1 : List PV} (hcap1 : bare.bares cap1 = true) (hq1 : ∀ (y0 : Matcher) (r : Bool), q1 y0 = some r → PFun cx g1 ((Afs y0) :: cap1) (bl r)) {r : Int} (h : Ab7 A x0 q1 = some r) : PFun cx 230 [.d (.sl TyS.matcher x0), .fn (.func g1) [] cap1] (it .i64 r) := by
 refine wF hA cx_ok Tryz.func230 fun P R hP hR => ?_
 cbv; unfold Ab7 at h
 iterate 2 refine kj ?_
 refine kl h (fun x _ => [(8, it .i64 x)]) (fun _ _ => []) [] ?_
 rintro t8 gh1 g1 _ _ _ hK1 hQ1 h; cbv
 refine kj ?_
 refine bc h (fun hb h => ?_) fun hb h => ?_
 ·cbv
  iterate 2 refine kj ?_
  refine kk h fun c1 h => ?_
  obtain ⟨w2, hw2, h⟩ := bd_e h; refine kc hP (hq1 _ _ hw2) ?_ (by first | rfl | simp [bare, bare.bares, hcap1]); cbv
  refine bc h (fun hb h => ?_) fun hb h => ?_
  ·cbv
   refine kj ?_
   refine hQ1 _ h _ _ fun h => ?_; cbv
   exact le h hR
  ·cbv
   refine kj ?_
   cases h; exact hK1 _ _ [] rfl hdy
 ·cbv
  refine hQ1 _ h _ _ fun h => ?_; cbv
  refine kj ?_
  exact le h hR
theorem Acf {A : Ar} (hA : A = std) {x0 : List Matcher} {q1 : Matcher → Option Bool} {g1 : Nat} {cap1 : List PV} (hcap1 : bare.bares cap1 = true) (hq1 : ∀ (y0 : Matcher) (r : Bool), q1 y0 = some r → PFun cx g1 ((Afs y0) :: cap1) (bl r)) {r : Bool} (h : Aam A x0 q1 = some r) : PFun cx 155 [.d (.sl TyS.matcher x0), .fn (.func g1) [] cap1] (bl r) := by
 refine wF hA cx_ok Tryz.func155 fun P R hP hR => ?_
 cbv; unfold Aam at h
 iterate 2 refine kj ?_
 obtain ⟨w1, hw1, h⟩ := bd_e h; refine kc hP (Ahb hA hcap1 hq1 hw1) ?_ (by first | rfl | simp [bare, bare.bares, hcap1]); cbv
 exact le h hR
theorem Ai0 {A : Ar} (hA : A = std) {x0 : List Matcher} {x1 : Int} {q2 : Matcher → Option Bool} {g2 : Nat} {cap2 : List D} (hcap2 : capOK cap2) (hq2 : ∀ (y0 : Matcher) (r : Bool), q2 y0 = some r → PFun cx g2 ((Afs y0) :: un.uns cap2) (bl r)) {r : Bool} (h : Abo A x0 x1 q2 = some r) : PFun cx 126 [.d (.sl TyS.matcher x0), it .i64 x1, .fn (.func g2) [] (un.uns cap2)] (bl r) := by
 rcases hcap2 with rfl | ⟨dscap2, rfl⟩
 ·refine PFun.walkF (fz := fun k => k == 5) hA cx_ok Tryz.func126 rfl rfl rfl fun P R hP hR => ?_
  cbv; unfold Abo at h
  iterate 2 refine kj ?_
  iterate 2 refine cj ?_
  obtain ⟨w1, hw1, h⟩ := bd_e h; refine kg hP (fun hc => (Acf hA (by rfl) (fun _ _ hw => Ahv (capc0 := []) hA (by first | exact .inl rfl | exact .inr ⟨_, rfl⟩) hq2 hw) (gd_e hw1 hc))) ?_; cbv
  iterate 2 refine cj ?_
  exact le h hR
 ·refine PFun.walkF (fz := fun k => k == 5) hA cx_ok Tryz.func126 rfl rfl rfl fun P R hP hR => ?_
  cbv; unfold Abo at h
  iterate 2 refine kj ?_
  iterate 2 refine cj ?_
  obtain ⟨w1, hw1, h⟩ := bd_e h; refine kg hP (fun hc => (Acf hA (by rfl) (fun _ _ hw => Ahv (capc0 := [D.ptr dscap2]) hA (by first | exact .inl rfl | exact .inr ⟨_, rfl⟩) hq2 hw) (gd_e hw1 hc))) ?_; cbv
  iterate 2 refine cj ?_
  exact le h hR
theorem Aqw {A : Ar} (hA : A = std) {x0 : Int} {r : Bool} (h : Ah0 A x0 = some r) : PFun cx 265 [it .u8 x0] (bl r) := by
 refine wF hA cx_ok Tryz.func265 fun P R hP hR => ?_
 cbv; unfold Ah0 at h
 iterate 2 refine kj ?_
 iterate 6 refine cj ?_
 refine ⟨by subst hA; simp +contextual [vcm], ?_⟩
 iterate 5 refine cj ?_
 refine ⟨by subst hA; simp +contextual [vcm], ?_⟩
 iterate 2 refine cj ?_
 obtain ⟨w1, hw1, h⟩ := bd_e h; refine kg hP (fun hc => (Ant hA (gd_e hw1 hc))) ?_; cbv
 iterate 2 refine cj ?_
 exact le h hR
theorem Apm {A : Ar} (hA : A = std) {x0 : Int} {r : Bool} (h : Aip A x0 = some r) : PFun cx 264 [it .u8 x0] (bl r) := by
 refine wF hA cx_ok Tryz.func264 fun P R hP hR => ?_
 cbv; unfold Aip at h
 iterate 2 refine kj ?_
 obtain ⟨w1, hw1, h⟩ := bd_e h; refine kc hP (Aqw hA hw1) ?_; cbv
 exact le h hR
theorem Amw {A : Ar} (hA : A = std) {x0 : ByteArray} {r : Bool} (h : Aff A x0 = some r) : PFun cx 202 [st x0] (bl r) := by
 refine wF hA cx_ok Tryz.func202 fun P R hP hR => ?_
 cbv; unfold Aff at h
 iterate 2 refine kj ?_
 iterate 2 refine cj ?_
 obtain ⟨w1, hw1, h⟩ := bd_e h; refine kf hP (fun hc => (Abd hA (by rfl) (fun _ _ hw => Apm hA hw) (gd_e hw1 hc))) ?_; cbv
 iterate 2 refine cj ?_
 exact le h hR
theorem Ajk {A : Ar} (hA : A = std) {r : Unit} (h : Adr A = some r) : PFunM cx 203 [] [] (.mp 2000 1) [⟨2000, 1, .map [(.int .i64 1, .d (.v (.string (ByteArray.mk (Array.mk [61]))))), (.int .i64 2, .d (.v (.string (ByteArray.mk (Array.mk [33, 61]))))), (.int .i64 3, .d (.v (.string (ByteArray.mk (Array.mk [61, 126]))))), (.int .i64 4, .d (.v (.string (ByteArray.mk (Array.mk [33, 126])))))]⟩] := by
 refine PFunM.walkM (fz := fun _ => false) hA cx_ok Tryz.func203 rfl rfl fun P R hP hR => ?_
 cbv; unfold Adr at h
 iterate 2 refine kj ?_
 refine and_assoc.2 ?_
 refine ⟨by subst hA; simp +contextual [vcm], ?_⟩
 refine cj ?_
 refine and_assoc.2 ?_
 refine ⟨by subst hA; simp +contextual [vcm], ?_⟩
 refine and_assoc.2 ?_
 refine ⟨by subst hA; simp +contextual [vcm], ?_⟩
 refine cj ?_
 refine and_assoc.2 ?_
 refine ⟨by subst hA; simp +contextual [vcm], ?_⟩
 refine and_assoc.2 ?_
 refine ⟨by subst hA; simp +contextual [vcm], ?_⟩
 refine and_assoc.2 ?_
 refine ⟨by subst hA; simp +contextual [vcm], ?_⟩
 refine cj ?_
 cases h
 refine hR _ _ ⟨[(1, 3)], ⟨by rfl, ez, by rfl, ez⟩⟩
theorem Ag6 {A : Ar} (hA : A = std) {x0 : Matcher} {r : Bool} (h : Ac2 A x0 = some r) : PFun cx 127 [Afs x0] (bl r) := by
 refine wF hA cx_ok Tryz.func127 fun P R hP hR => ?_
 cbv; unfold Ac2 at h
 iterate 3 refine kj ?_
 refine bc h (fun hb h => ?_) fun hb h => ?_
 ·cbv
  iterate 2 refine kj ?_
  refine kl h (fun x _ => [(14, it .i64 x)]) (fun x gh => [⟨1, 0, .box 97 [st x0.1, it .i64 x0.2, .d (.sl .str x0.3)]⟩]) [] ?_
  rintro t14 gh1 g1 _ _ _ hK1 hQ1 h; cbv
  refine kj ?_
  refine bc h (fun hb h => ?_) fun hb h => ?_
  ·cbv
   refine kj ?_
   refine kk h fun c1 h => ?_
   refine kj ?_
   obtain ⟨w2, hw2, h⟩ := bd_e h; refine kc hP (Amw hA hw2) ?_; cbv
   iterate 7 refine cj ?_
   refine kk h fun c3 h => ?_
   iterate 4 refine cj ?_
   refine ⟨by subst hA; simp +contextual [vcm], ?_⟩
   refine cj ?_
   refine bc h (fun hb h => ?_) fun hb h => ?_
   ·cbv
    refine kj ?_
    refine hQ1 _ h _ _ fun h => ?_; cbv
    exact le h hR
   ·cbv
    refine kj ?_
    cases h; exact hK1 _ _ [] rfl hdy
  ·cbv
   refine hQ1 _ h _ _ fun h => ?_; cbv
   refine kj ?_
   obtain ⟨w4, hw4, h⟩ := bd_e h; refine km hP [] (Ajk hA hw4) ?_; cbv
   refine ⟨by first | exact Afm hA _ | exact ⟨rfl⟩, ?_⟩
   obtain ⟨w5, hw5, h⟩ := bd_e h
   have hw5' := Aq6 A x0.2 (fun x => st x) (ByteArray.mk (Array.mk [])) [(1, ByteArray.mk (Array.mk [61])), (2, ByteArray.mk (Array.mk [33, 61])), (3, ByteArray.mk (Array.mk [61, 126])), (4, ByteArray.mk (Array.mk [33, 126]))]
   rw [Option.some.inj hw5] at hw5'
   refine LookK.one _ _ hw5' ?_
   cbv
   iterate 2 refine kj ?_
   iterate 6 refine cj ?_
   obtain ⟨w6, hw6, h⟩ := bd_e h; refine kg hP (fun hc => (Afu hA (gd_e hw6 hc))) ?_; cbv
   iterate 12 refine cj ?_
   exact le h hR
 ·cbv
  refine kj ?_
  refine kl h (fun x _ => [(14, it .i64 x)]) (fun x gh => [⟨1, 0, .box 97 [st x0.1, it .i64 x0.2, .d (.sl .str x0.3)]⟩]) [] ?_
  rintro t14 gh2 g2 _ _ _ hK2 hQ2 h; cbv
  refine kj ?_
  refine bc h (fun hb h => ?_) fun hb h => ?_
  ·cbv
   refine kj ?_
   refine kk h fun c7 h => ?_
   refine kj ?_
   obtain ⟨w8, hw8, h⟩ := bd_e h; refine kc hP (Amw hA hw8) ?_; cbv
   iterate 7 refine cj ?_
   refine kk h fun c9 h => ?_
   iterate 4 refine cj ?_
   refine ⟨by subst hA; simp +contextual [vcm], ?_⟩
   refine cj ?_
   refine bc h (fun hb h => ?_) fun hb h => ?_
   ·cbv
    refine kj ?_
    refine hQ2 _ h _ _ fun h => ?_; cbv
    exact le h hR
   ·cbv
    refine kj ?_
    cases h; exact hK2 _ _ [] rfl hdy
  ·cbv
   refine hQ2 _ h _ _ fun h => ?_; cbv
   refine kj ?_
   obtain ⟨w10, hw10, h⟩ := bd_e h; refine km hP [] (Ajk hA hw10) ?_; cbv
   refine ⟨by first | exact Afm hA _ | exact ⟨rfl⟩, ?_⟩
   obtain ⟨w11, hw11, h⟩ := bd_e h
   have hw11' := Aq6 A x0.2 (fun x => st x) (ByteArray.mk (Array.mk [])) [(1, ByteArray.mk (Array.mk [61])), (2, ByteArray.mk (Array.mk [33, 61])), (3, ByteArray.mk (Array.mk [61, 126])), (4, ByteArray.mk (Array.mk [33, 126]))]
   rw [Option.some.inj hw11] at hw11'
   refine LookK.one _ _ hw11' ?_
   cbv
   iterate 2 refine kj ?_
   iterate 6 refine cj ?_
   obtain ⟨w12, hw12, h⟩ := bd_e h; refine kg hP (fun hc => (Afu hA (gd_e hw12 hc))) ?_; cbv
   iterate 12 refine cj ?_
   exact le h hR
theorem Aou {A : Ar} (hA : A = std) {x0 : Inhibit} {r : Bool} (h : Ae9 A x0 = some r) : PFun cx 40 [Aee x0] (bl r) := by
 refine wF hA cx_ok Tryz.func40 fun P R hP hR => ?_
 cbv; unfold Ae9 at h
 iterate 2 refine kj ?_
 refine kl h (fun x _ => [(9, it .i64 x)]) (fun x gh => [⟨1, 0, .box 61 [.d (.sl .matcher x0.1), .d (.sl .matcher x0.2), .d (.sl .str x0.3)]⟩]) [] ?_
 rintro t9 gh1 g1 _ _ _ hK1 hQ1 h; cbv
 refine kj ?_
 refine bc h (fun hb h => ?_) fun hb h => ?_
 ·cbv
  refine kj ?_
  refine kk h fun c1 h => ?_
  refine kj ?_
  obtain ⟨w2, hw2, h⟩ := bd_e h; refine kc hP (Afu hA hw2) ?_; cbv
  iterate 7 refine cj ?_
  refine kk h fun c3 h => ?_
  iterate 4 refine cj ?_
  refine ⟨by subst hA; simp +contextual [vcm], ?_⟩
  refine cj ?_
  refine bc h (fun hb h => ?_) fun hb h => ?_
  ·cbv
   refine kj ?_
   refine hQ1 _ h _ _ fun h => ?_; cbv
   exact le h hR
  ·cbv
   refine kj ?_
   cases h; exact hK1 _ _ [] rfl hdy
 ·cbv
  refine hQ1 _ h _ _ fun h => ?_; cbv
  refine kj ?_
  iterate 10 refine cj ?_
  refine kj ?_
  iterate 3 refine cj ?_
  obtain ⟨w4, hw4, h⟩ := bd_e h; refine kf hP (fun hc => (Ai0 (cap2 := []) hA (by first | exact .inl rfl | exact .inr ⟨_, rfl⟩) (fun _ _ hw => Ag6 hA hw) (gd_e hw4 hc))) ?_; cbv
  iterate 4 refine cj ?_
  obtain ⟨w5, hw5, h⟩ := bd_e h; refine kf hP (fun hc => (Ai0 (cap2 := []) hA (by first | exact .inl rfl | exact .inr ⟨_, rfl⟩) (fun _ _ hw => Ag6 hA hw) (gd_e hw5 hc))) ?_; cbv
  refine cj ?_
  exact le h hR
theorem Ai1 {A : Ar} (hA : A = std) {x0 : Hours} {qc0 : Hours → Option Bool} {gc0 : Nat} {capc0 : List D} (hcapc0 : capOK capc0) (hqc0 : ∀ (y0 : Hours) (r : Bool), qc0 y0 = some r → PFun cx gc0 ((Afc y0) :: un.uns capc0) (bl r)) {r : Bool} (h : Af6 A x0 qc0 = some r) : PFun cx 128 [Afc x0, .ip [.fun (.func gc0) [] capc0]] (bl r) := by
 rcases hcapc0 with rfl | ⟨dscapc0, rfl⟩
 all_goals
  refine wF hA cx_ok Tryz.func128 fun P R hP hR => ?_
  cbv; unfold Af6 at h
  iterate 2 refine kj ?_
  obtain ⟨w1, hw1, h⟩ := bd_e h; refine kc hP (hqc0 _ _ hw1) ?_; cbv
  exact le h hR
theorem Aia {A : Ar} (hA : A = std) {x0 : List Hours} {q1 : Hours → Option Bool} {g1 : Nat} {cap1 : List PV} (hcap1 : bare.bares cap1 = true) (hq1 : ∀ (y0 : Hours) (r : Bool), q1 y0 = some r → PFun cx g1 ((Afc y0) :: cap1) (bl r)) {r : Int} (h : Acw A x0 q1 = some r) : PFun cx 135 [.d (.sl TyS.hours x0), .fn (.func g1) [] cap1] (it .i64 r) := by
 refine wF hA cx_ok Tryz.func135 fun P R hP hR => ?_
 cbv; unfold Acw at h
 iterate 2 refine kj ?_
 refine kl h (fun x _ => [(8, it .i64 x)]) (fun _ _ => []) [] ?_
 rintro t8 gh1 g1 _ _ _ hK1 hQ1 h; cbv
 refine kj ?_
 refine bc h (fun hb h => ?_) fun hb h => ?_
 ·cbv
  iterate 2 refine kj ?_
  refine kk h fun c1 h => ?_
  obtain ⟨w2, hw2, h⟩ := bd_e h; refine kc hP (hq1 _ _ hw2) ?_ (by first | rfl | simp [bare, bare.bares, hcap1]); cbv
  refine bc h (fun hb h => ?_) fun hb h => ?_
  ·cbv
   refine kj ?_
   refine hQ1 _ h _ _ fun h => ?_; cbv
   exact le h hR
  ·cbv
   refine kj ?_
   cases h; exact hK1 _ _ [] rfl hdy
 ·cbv
  refine hQ1 _ h _ _ fun h => ?_; cbv
  refine kj ?_
  exact le h hR
theorem Acy {A : Ar} (hA : A = std) {x0 : List Hours} {q1 : Hours → Option Bool} {g1 : Nat} {cap1 : List PV} (hcap1 : bare.bares cap1 = true) (hq1 : ∀ (y0 : Hours) (r : Bool), q1 y0 = some r → PFun cx g1 ((Afc y0) :: cap1) (bl r)) {r : Bool} (h : Aa1 A x0 q1 = some r) : PFun cx 53 [.d (.sl TyS.hours x0), .fn (.func g1) [] cap1] (bl r) := by
 refine wF hA cx_ok Tryz.func53 fun P R hP hR => ?_
 cbv; unfold Aa1 at h
 iterate 2 refine kj ?_
 obtain ⟨w1, hw1, h⟩ := bd_e h; refine kc hP (Aia hA hcap1 hq1 hw1) ?_ (by first | rfl | simp [bare, bare.bares, hcap1]); cbv
 exact le h hR
theorem An9 {A : Ar} (hA : A = std) {x0 : List Hours} {x1 : Int} {q2 : Hours → Option Bool} {g2 : Nat} {cap2 : List D} (hcap2 : capOK cap2) (hq2 : ∀ (y0 : Hours) (r : Bool), q2 y0 = some r → PFun cx g2 ((Afc y0) :: un.uns cap2) (bl r)) {r : Bool} (h : Ad9 A x0 x1 q2 = some r) : PFun cx 41 [.d (.sl TyS.hours x0), it .i64 x1, .fn (.func g2) [] (un.uns cap2)] (bl r) := by
 rcases hcap2 with rfl | ⟨dscap2, rfl⟩
 ·refine PFun.walkF (fz := fun k => k == 5) hA cx_ok Tryz.func41 rfl rfl rfl fun P R hP hR => ?_
  cbv; unfold Ad9 at h
  iterate 2 refine kj ?_
  iterate 2 refine cj ?_
  obtain ⟨w1, hw1, h⟩ := bd_e h; refine kg hP (fun hc => (Acy hA (by rfl) (fun _ _ hw => Ai1 (capc0 := []) hA (by first | exact .inl rfl | exact .inr ⟨_, rfl⟩) hq2 hw) (gd_e hw1 hc))) ?_; cbv
  iterate 2 refine cj ?_
  exact le h hR
 ·refine PFun.walkF (fz := fun k => k == 5) hA cx_ok Tryz.func41 rfl rfl rfl fun P R hP hR => ?_
  cbv; unfold Ad9 at h
  iterate 2 refine kj ?_
  iterate 2 refine cj ?_
  obtain ⟨w1, hw1, h⟩ := bd_e h; refine kg hP (fun hc => (Acy hA (by rfl) (fun _ _ hw => Ai1 (capc0 := [D.ptr dscap2]) hA (by first | exact .inl rfl | exact .inr ⟨_, rfl⟩) hq2 hw) (gd_e hw1 hc))) ?_; cbv
  iterate 2 refine cj ?_
  exact le h hR
theorem Aqx {A : Ar} (hA : A = std) {x0 : Int} {r : Bool} (h : Al5 A x0 = some r) : PFun cx 129 [it .u8 x0] (bl r) := by
 refine wF hA cx_ok Tryz.func129 fun P R hP hR => ?_
 cbv; unfold Al5 at h
 iterate 2 refine kj ?_
 iterate 6 refine cj ?_
 refine ⟨by subst hA; simp +contextual [vcm], ?_⟩
 iterate 3 refine cj ?_
 exact le h hR
theorem Anv {A : Ar} (hA : A = std) {x0 : Hours} {r : Bool} (h : Agg A x0 = some r) : PFun cx 42 [Afc x0] (bl r) := by
 refine wF hA cx_ok Tryz.func42 fun P R hP hR => ?_
 cbv; unfold Agg at h
 iterate 3 refine kj ?_
 iterate 10 refine cj ?_
 obtain ⟨w1, hw1, h⟩ := bd_e h; refine kf hP (fun hc => (Abd hA (by rfl) (fun _ _ hw => Aqx hA hw) (gd_e hw1 hc))) ?_; cbv
 iterate 29 refine cj ?_
 exact le h hR
theorem Amx {A : Ar} (hA : A = std) {x0 : List Rule} {q1 : Rule → Option ByteArray} {g1 : Nat} {cap1 : List PV} (hcap1 : bare.bares cap1 = true) (hq1 : ∀ (y0 : Rule) (r : ByteArray), q1 y0 = some r → PFun cx g1 ((Agm y0) :: cap1) (st r)) {r : Bool} (h : Ad6 A x0 q1 = some r) : PFun cx 43 [.d (.sl TyS.rule x0), .fn (.func g1) [] cap1] (bl r) := by
 refine wF hA cx_ok Tryz.func43 fun P R hP hR => ?_
 cbv; unfold Ad6 at h
 iterate 3 refine kj ?_
 refine kl h (fun x _ => [(11, it .i64 x.1)]) (fun x gh => [⟨8, 1, .map (A.mesB x.2)⟩]) [] ?_
 rintro ⟨t11, map8⟩ gh1 g1 _ _ _ hK1 hQ1 h; cbv
 refine kj ?_
 refine bc h (fun hb h => ?_) fun hb h => ?_
 ·cbv
  refine kj ?_
  refine kk h fun c1 h => ?_
  refine kj ?_
  obtain ⟨w2, hw2, h⟩ := bd_e h; refine kc hP (hq1 _ _ hw2) ?_ (by first | rfl | simp [bare, bare.bares, hcap1]); cbv
  refine ⟨by first | exact Afm hA _ | exact ⟨rfl⟩, ?_⟩
  obtain ⟨w3, hw3, h⟩ := bd_e h
  have hw3' := Awg hA w2 false map8
  rw [Option.some.inj hw3] at hw3'
  refine LookK.one _ _ hw3' ?_
  cbv
  refine bc h (fun hb h => ?_) fun hb h => ?_
  ·cbv
   refine kj ?_
   refine hQ1 _ h _ _ fun h => ?_; cbv
   exact le h hR
  ·cbv
   refine kj ?_
   obtain ⟨w4, hw4, h⟩ := bd_e h; refine kc hP (hq1 _ _ hw4) ?_ (by first | rfl | simp [bare, bare.bares, hcap1]); cbv
   refine ⟨by first | exact Afm hA _ | exact ⟨rfl⟩, ?_⟩
   refine kk h fun c5 h => ?_
   refine kj ?_
   cases h; exact hK1 _ _ [] rfl hdy
 ·cbv
  refine hQ1 _ h _ _ fun h => ?_; cbv
  refine kj ?_
  exact le h hR
theorem Amy {A : Ar} (hA : A = std) {x0 : Rule} {r : ByteArray} (h : Ahm A x0 = some r) : PFun cx 44 [Agm x0] (st r) := by
 refine wF hA cx_ok Tryz.func44 fun P R hP hR => ?_
 cbv; unfold Ahm at h
 iterate 2 refine kj ?_
 exact le h hR
theorem Al2 {A : Ar} (hA : A = std) {x0 : List ByteArray} {q1 : ByteArray → Option ByteArray} {g1 : Nat} {cap1 : List PV} (hcap1 : bare.bares cap1 = true) (hq1 : ∀ (y0 : ByteArray) (r : ByteArray), q1 y0 = some r → PFun cx g1 ((st y0) :: cap1) (st r)) {r : Bool} (h : Adc A x0 q1 = some r) : PFun cx 45 [.d (.sl TyS.str x0), .fn (.func g1) [] cap1] (bl r) := by
 refine wF hA cx_ok Tryz.func45 fun P R hP hR => ?_
 cbv; unfold Adc at h
 iterate 3 refine kj ?_
 refine kl h (fun x _ => [(11, it .i64 x.1)]) (fun x gh => [⟨8, 1, .map (A.mesB x.2)⟩]) [] ?_
 rintro ⟨t11, map8⟩ gh1 g1 _ _ _ hK1 hQ1 h; cbv
 refine kj ?_
 refine bc h (fun hb h => ?_) fun hb h => ?_
 ·cbv
  refine kj ?_
  refine kk h fun c1 h => ?_
  refine kj ?_
  obtain ⟨w2, hw2, h⟩ := bd_e h; refine kc hP (hq1 _ _ hw2) ?_ (by first | rfl | simp [bare, bare.bares, hcap1]); cbv
  refine ⟨by first | exact Afm hA _ | exact ⟨rfl⟩, ?_⟩
  obtain ⟨w3, hw3, h⟩ := bd_e h
  have hw3' := Awg hA w2 false map8
  rw [Option.some.inj hw3] at hw3'
  refine LookK.one _ _ hw3' ?_
  cbv
  refine bc h (fun hb h => ?_) fun hb h => ?_
  ·cbv
   refine kj ?_
   refine hQ1 _ h _ _ fun h => ?_; cbv
   exact le h hR
  ·cbv
   refine kj ?_
   obtain ⟨w4, hw4, h⟩ := bd_e h; refine kc hP (hq1 _ _ hw4) ?_ (by first | rfl | simp [bare, bare.bares, hcap1]); cbv
   refine ⟨by first | exact Afm hA _ | exact ⟨rfl⟩, ?_⟩
   refine kk h fun c5 h => ?_
   refine kj ?_
   cases h; exact hK1 _ _ [] rfl hdy
 ·cbv
  refine hQ1 _ h _ _ fun h => ?_; cbv
  refine kj ?_
  exact le h hR
theorem Amm {A : Ar} (hA : A = std) {x0 : ByteArray} {r : ByteArray} (h : Afi A x0 = some r) : PFun cx 46 [st x0] (st r) := by
 refine wF hA cx_ok Tryz.func46 fun P R hP hR => ?_
 cbv; unfold Afi at h
 iterate 2 refine kj ?_
 exact le h hR
theorem Amt {A : Ar} (hA : A = std) {x0 : List Hours} {q1 : Hours → Option ByteArray} {g1 : Nat} {cap1 : List PV} (hcap1 : bare.bares cap1 = true) (hq1 : ∀ (y0 : Hours) (r : ByteArray), q1 y0 = some r → PFun cx g1 ((Afc y0) :: cap1) (st r)) {r : Bool} (h : Adm A x0 q1 = some r) : PFun cx 47 [.d (.sl TyS.hours x0), .fn (.func g1) [] cap1] (bl r) := by
 refine wF hA cx_ok Tryz.func47 fun P R hP hR => ?_
 cbv; unfold Adm at h
 iterate 3 refine kj ?_
 refine kl h (fun x _ => [(11, it .i64 x.1)]) (fun x gh => [⟨8, 1, .map (A.mesB x.2)⟩]) [] ?_
 rintro ⟨t11, map8⟩ gh1 g1 _ _ _ hK1 hQ1 h; cbv
 refine kj ?_
 refine bc h (fun hb h => ?_) fun hb h => ?_
 ·cbv
  refine kj ?_
  refine kk h fun c1 h => ?_
  refine kj ?_
  obtain ⟨w2, hw2, h⟩ := bd_e h; refine kc hP (hq1 _ _ hw2) ?_ (by first | rfl | simp [bare, bare.bares, hcap1]); cbv
  refine ⟨by first | exact Afm hA _ | exact ⟨rfl⟩, ?_⟩
  obtain ⟨w3, hw3, h⟩ := bd_e h
  have hw3' := Awg hA w2 false map8
  rw [Option.some.inj hw3] at hw3'
  refine LookK.one _ _ hw3' ?_
  cbv
  refine bc h (fun hb h => ?_) fun hb h => ?_
  ·cbv
   refine kj ?_
   refine hQ1 _ h _ _ fun h => ?_; cbv
   exact le h hR
  ·cbv
   refine kj ?_
   obtain ⟨w4, hw4, h⟩ := bd_e h; refine kc hP (hq1 _ _ hw4) ?_ (by first | rfl | simp [bare, bare.bares, hcap1]); cbv
   refine ⟨by first | exact Afm hA _ | exact ⟨rfl⟩, ?_⟩
   refine kk h fun c5 h => ?_
   refine kj ?_
   cases h; exact hK1 _ _ [] rfl hdy
 ·cbv
  refine hQ1 _ h _ _ fun h => ?_; cbv
  refine kj ?_
  exact le h hR
theorem Amn {A : Ar} (hA : A = std) {x0 : Hours} {r : ByteArray} (h : Agq A x0 = some r) : PFun cx 48 [Afc x0] (st r) := by
 refine wF hA cx_ok Tryz.func48 fun P R hP hR => ?_
 cbv; unfold Agq at h
 iterate 2 refine kj ?_
 exact le h hR
theorem Ar2 {A : Ar} (hA : A = std) {x0 : Matcher} {r : Bool} (h : Ai6 A x0 = some r) : PFun cx 205 [Afs x0] (bl r) := by
 refine wF hA cx_ok Tryz.func205 fun P R hP hR => ?_
 cbv; unfold Ai6 at h
 iterate 2 refine kj ?_
 obtain ⟨w1, hw1, h⟩ := bd_e h; refine kc hP (Ag6 hA hw1) ?_; cbv
 exact le h hR
theorem Anw {A : Ar} (hA : A = std) {x0 : ByteArray} {r : Bool} (h : Aih A x0 = some r) : PFun cx 206 [st x0] (bl r) := by
 refine wF hA cx_ok Tryz.func206 fun P R hP hR => ?_
 cbv; unfold Aih at h
 iterate 2 refine kj ?_
 obtain ⟨w1, hw1, h⟩ := bd_e h; refine kc hP (Ak4 hA hw1) ?_; cbv
 exact le h hR
theorem Ale {A : Ar} (hA : A = std) {x0 : List ByteArray} {q1 : ByteArray → Option Bool} {g1 : Nat} {cap1 : List PV} (hcap1 : bare.bares cap1 = true) (hq1 : ∀ (y0 : ByteArray) (r : Bool), q1 y0 = some r → PFun cx g1 ((st y0) :: cap1) (bl r)) {r : Bool} (h : Afv A x0 q1 = some r) : PFun cx 207 [.d (.sl TyS.str x0), .fn (.func g1) [] cap1] (bl r) := by
 refine wF hA cx_ok Tryz.func207 fun P R hP hR => ?_
 cbv; unfold Afv at h
 iterate 2 refine kj ?_
 refine kl h (fun x _ => [(4, bl x.1), (9, it .i64 x.2)]) (fun _ _ => []) [] ?_
 rintro ⟨t4, t9⟩ gh1 g1 _ _ _ hK1 hQ1 h; cbv
 refine kj ?_
 refine bc h (fun hb h => ?_) fun hb h => ?_
 ·cbv
  refine kj ?_
  refine kk h fun c1 h => ?_
  refine kj ?_
  obtain ⟨w2, hw2, h⟩ := bd_e h; refine kc hP (hq1 _ _ hw2) ?_ (by first | rfl | simp [bare, bare.bares, hcap1]); cbv
  iterate 5 refine cj ?_
  refine kk h fun c3 h => ?_
  iterate 4 refine cj ?_
  refine ⟨by subst hA; simp +contextual [vcm], ?_⟩
  refine cj ?_
  refine bc h (fun hb h => ?_) fun hb h => ?_
  ·cbv
   refine kj ?_
   refine hQ1 _ h _ _ fun h => ?_; cbv
   exact le h hR
  ·cbv
   refine kj ?_
   cases h; exact hK1 _ _ [] rfl hdy
 ·cbv
  refine hQ1 _ h _ _ fun h => ?_; cbv
  refine kj ?_
  exact le h hR
theorem At7 {A : Ar} (hA : A = std) {x0 : ByteArray} {r : Bool} (h : Akc A x0 = some r) : PFun cx 208 [st x0] (bl r) := by
 refine wF hA cx_ok Tryz.func208 fun P R hP hR => ?_
 cbv; unfold Akc at h
 iterate 2 refine kj ?_
 obtain ⟨w1, hw1, h⟩ := bd_e h; refine kc hP (Afu hA hw1) ?_; cbv
 exact le h hR
theorem Apn {A : Ar} (hA : A = std) {x0 : Int} {c0 : Int} {r : Bool} (h : Ag1 A x0 c0 = some r) : PFun cx 267 [it .i64 x0, .ip [.v (.int .i64 c0)]] (bl r) := by
 refine wF hA cx_ok Tryz.func267 fun P R hP hR => ?_
 cbv; unfold Ag1 at h
 iterate 2 refine kj ?_
 iterate 2 refine cj ?_
 exact le h hR
theorem Aj4 {A : Ar} (hA : A = std) {x0 : List Int} {q1 : Int → Option Bool} {g1 : Nat} {cap1 : List PV} (hcap1 : bare.bares cap1 = true) (hq1 : ∀ (y0 : Int) (r : Bool), q1 y0 = some r → PFun cx g1 ((it .i64 y0) :: cap1) (bl r)) {r : Int} (h : Ad7 A x0 q1 = some r) : PFun cx 293 [.d (.sl TyS.int x0), .fn (.func g1) [] cap1] (it .i64 r) := by
 refine wF hA cx_ok Tryz.func293 fun P R hP hR => ?_
 cbv; unfold Ad7 at h
 iterate 2 refine kj ?_
 refine kl h (fun x _ => [(8, it .i64 x)]) (fun _ _ => []) [] ?_
 rintro t8 gh1 g1 _ _ _ hK1 hQ1 h; cbv
 refine kj ?_
 refine bc h (fun hb h => ?_) fun hb h => ?_
 ·cbv
  iterate 2 refine kj ?_
  refine kk h fun c1 h => ?_
  obtain ⟨w2, hw2, h⟩ := bd_e h; refine kc hP (hq1 _ _ hw2) ?_ (by first | rfl | simp [bare, bare.bares, hcap1]); cbv
  refine bc h (fun hb h => ?_) fun hb h => ?_
  ·cbv
   refine kj ?_
   refine hQ1 _ h _ _ fun h => ?_; cbv
   exact le h hR
  ·cbv
   refine kj ?_
   cases h; exact hK1 _ _ [] rfl hdy
 ·cbv
  refine hQ1 _ h _ _ fun h => ?_; cbv
  refine kj ?_
  exact le h hR
theorem Ai2 {A : Ar} (hA : A = std) {x0 : List Int} {q1 : Int → Option Bool} {g1 : Nat} {cap1 : List PV} (hcap1 : bare.bares cap1 = true) (hq1 : ∀ (y0 : Int) (r : Bool), q1 y0 = some r → PFun cx g1 ((it .i64 y0) :: cap1) (bl r)) {r : Bool} (h : Ab9 A x0 q1 = some r) : PFun cx 266 [.d (.sl TyS.int x0), .fn (.func g1) [] cap1] (bl r) := by
 refine wF hA cx_ok Tryz.func266 fun P R hP hR => ?_
 cbv; unfold Ab9 at h
 iterate 2 refine kj ?_
 obtain ⟨w1, hw1, h⟩ := bd_e h; refine kc hP (Aj4 hA hcap1 hq1 hw1) ?_ (by first | rfl | simp [bare, bare.bares, hcap1]); cbv
 exact le h hR
theorem Amz {A : Ar} (hA : A = std) {x0 : Int} {x1 : List Int} {r : Bool} (h : Ahn A x0 x1 = some r) : PFun cx 209 [it .i64 x0, .d (.sl TyS.int x1)] (bl r) := by
 refine PFun.walkF (fz := fun k => k == 2) hA cx_ok Tryz.func209 rfl rfl rfl fun P R hP hR => ?_
 cbv; unfold Ahn at h
 iterate 2 refine kj ?_
 obtain ⟨w1, hw1, h⟩ := bd_e h; refine kc hP (Ai2 hA (by rfl) (fun _ _ hw => Apn hA hw) hw1) ?_; cbv
 exact le h hR
theorem Aib {A : Ar} (hA : A = std) {x0 : List Route} {q1 : Route → Option Bool} {g1 : Nat} {cap1 : List PV} (hcap1 : bare.bares cap1 = true) (hq1 : ∀ (y0 : Route) (r : Bool), q1 y0 = some r → PFun cx g1 ((Aba y0) :: cap1) (bl r)) {r : Int} (h : Acx A x0 q1 = some r) : PFun cx 231 [.d (.sl TyS.route x0), .fn (.func g1) [] cap1] (it .i64 r) := by
 refine wF hA cx_ok Tryz.func231 fun P R hP hR => ?_
 cbv; unfold Acx at h
 iterate 2 refine kj ?_
 refine kl h (fun x _ => [(8, it .i64 x)]) (fun _ _ => []) [] ?_
 rintro t8 gh1 g1 _ _ _ hK1 hQ1 h; cbv
 refine kj ?_
 refine bc h (fun hb h => ?_) fun hb h => ?_
 ·cbv
  iterate 2 refine kj ?_
  refine kk h fun c1 h => ?_
  obtain ⟨w2, hw2, h⟩ := bd_e h; refine kc hP (hq1 _ _ hw2) ?_ (by first | rfl | simp [bare, bare.bares, hcap1]); cbv
  refine bc h (fun hb h => ?_) fun hb h => ?_
  ·cbv
   refine kj ?_
   refine hQ1 _ h _ _ fun h => ?_; cbv
   exact le h hR
  ·cbv
   refine kj ?_
   cases h; exact hK1 _ _ [] rfl hdy
 ·cbv
  refine hQ1 _ h _ _ fun h => ?_; cbv
  refine kj ?_
  exact le h hR
theorem Ahs {A : Ar} (hA : A = std) {x0 : List Route} {q1 : Route → Option Bool} {g1 : Nat} {cap1 : List PV} (hcap1 : bare.bares cap1 = true) (hq1 : ∀ (y0 : Route) (r : Bool), q1 y0 = some r → PFun cx g1 ((Aba y0) :: cap1) (bl r)) {r : Bool} (h : Abi A x0 q1 = some r) : PFun cx 158 [.d (.sl TyS.route x0), .fn (.func g1) [] cap1] (bl r) := by
 refine wF hA cx_ok Tryz.func158 fun P R hP hR => ?_
 cbv; unfold Abi at h
 iterate 2 refine kj ?_
 obtain ⟨w1, hw1, h⟩ := bd_e h; refine kc hP (Aib hA hcap1 hq1 hw1) ?_ (by first | rfl | simp [bare, bare.bares, hcap1]); cbv
 exact le h hR
theorem Ar3 {A : Ar} (hA : A = std) {rf : Route → Int → Option Bool} {x0 : Route} {c0 : Int} (hqr131 : ∀ (x0 : Route) (x1 : Int) (r : Bool), rf x0 x1 = some r → PFun cx 131 [Aba x0, it .i64 x1] (bl r)) {r : Bool} (h : Ai7 A rf x0 c0 = some r) : PFun cx 210 [Aba x0, .ip [.v (.int .i64 c0)]] (bl r) := by
 refine wF hA cx_ok Tryz.func210 fun P R hP hR => ?_
 cbv; unfold Ai7 at h
 iterate 2 refine kj ?_
 obtain ⟨w1, hw1, h⟩ := bd_e h; refine kc hP (hqr131 _ _ _ hw1) ?_; cbv
 exact le h hR
theorem Ar4 {A : Ar} (hA : A = std) {rf : Route → Int → Option Bool} {x0 : Route} {x1 : Int} (hqr131 : ∀ (x0 : Route) (x1 : Int) (r : Bool), rf x0 x1 = some r → PFun cx 131 [Aba x0, it .i64 x1] (bl r)) {r : Bool} (h : Ai8 A rf x0 x1 = some r) : PFun cx 131 [Aba x0, it .i64 x1] (bl r) := by
 refine PFun.walkF (fz := fun k => k == 3) hA cx_ok Tryz.func131 rfl rfl rfl fun P R hP hR => ?_
 cbv; unfold Ai8 at h
 iterate 3 refine kj ?_
 iterate 3 refine cj ?_
 obtain ⟨w1, hw1, h⟩ := bd_e h; refine kg hP (fun hc => (Anw hA (gd_e hw1 hc))) ?_; cbv
 iterate 11 refine cj ?_
 obtain ⟨w2, hw2, h⟩ := bd_e h; refine kf hP (fun hc => (Acf hA (by rfl) (fun _ _ hw => Ar2 hA hw) (gd_e hw2 hc))) ?_; cbv
 iterate 6 refine cj ?_
 refine bc h (fun hb h => ?_) fun hb h => ?_
 ·cbv
  refine kj ?_
  exact le h hR
 ·cbv
  refine kj ?_
  obtain ⟨w3, hw3, h⟩ := bd_e h; refine ke hP (Ale hA (by rfl) (fun _ _ hw => At7 hA hw) hw3) ?_; cbv
  iterate 3 refine cj ?_
  obtain ⟨w4, hw4, h⟩ := bd_e h; refine kf hP (fun hc => (Ale hA (by rfl) (fun _ _ hw => Anw hA hw) (gd_e hw4 hc))) ?_; cbv
  iterate 7 refine cj ?_
  obtain ⟨w5, hw5, h⟩ := bd_e h; refine kg hP (fun hc => (Amz hA (gd_e hw5 hc))) ?_; cbv
  iterate 10 refine cj ?_
  obtain ⟨w6, hw6, h⟩ := bd_e h; refine kg hP (fun hc => (Amz hA (gd_e hw6 hc))) ?_; cbv
  iterate 2 refine cj ?_
  refine bc h (fun hb h => ?_) fun hb h => ?_
  ·cbv
   refine kj ?_
   exact le h hR
  ·cbv
   refine kj ?_
   obtain ⟨w7, hw7, h⟩ := bd_e h; refine kc hP (Ahs hA (by rfl) (fun _ _ hw => Ar3 hA hqr131 hw) hw7) ?_; cbv
   exact le h hR
theorem Am0 {A : Ar} (hA : A = std) : ∀ (n : Nat) (x0 : Route) (x1 : Int) (r : Bool), Aho A n x0 x1 = some r → PFun cx 131 [Aba x0, it .i64 x1] (bl r)
 | 0, _, _, _, h => by cases h
 | n + 1, x0, x1, r, h => Ar4 hA (fun _ _ _ hh => Am0 hA n _ _ _ hh) h
theorem Avr {A : Ar} (hA : A = std) {x0 : Route} {x1 : Int} {r : Bool} (h : Apu A x0 x1 = some r) : PFun cx 131 [Aba x0, it .i64 x1] (bl r) := Am0 hA _ _ _ _ h
theorem Ar5 {A : Ar} (hA : A = std) {x0 : Route} {r : Bool} (h : Ai9 A x0 = some r) : PFun cx 49 [Aba x0] (bl r) := by
 refine wF hA cx_ok Tryz.func49 fun P R hP hR => ?_
 cbv; unfold Ai9 at h
 iterate 2 refine kj ?_
 obtain ⟨w1, hw1, h⟩ := bd_e h; refine kc hP (Avr hA hw1) ?_; cbv
 exact le h hR
theorem Apo {A : Ar} (hA : A = std) {rf : Route → Option Int} {x0 : Route} (hqr50 : ∀ (x0 : Route) (r : Int), rf x0 = some r → PFun cx 50 [Aba x0] (it .i64 r)) {r : Int} (h : Ag2 A rf x0 = some r) : PFun cx 50 [Aba x0] (it .i64 r) := by
 refine wF hA cx_ok Tryz.func50 fun P R hP hR => ?_
 cbv; unfold Ag2 at h
 iterate 3 refine kj ?_
 refine kl h (fun x _ => [(3, it .i64 x.1), (9, it .i64 x.2)]) (fun x gh => [⟨1, 0, .box 27 [st x0.1, .d (.sl .matcher x0.2), .d (.sl .str x0.3), it .i64 x0.4, it .i64 x0.5, it .i64 x0.6, .d (.sl .str x0.7), bl x0.8, .d (.sl .route x0.9)]⟩]) [] ?_
 rintro ⟨n3, t9⟩ gh1 g1 _ _ _ hK1 hQ1 h; cbv
 refine kj ?_
 refine bc h (fun hb h => ?_) fun hb h => ?_
 ·cbv
  refine kj ?_
  refine kk h fun c1 h => ?_
  refine kj ?_
  obtain ⟨w2, hw2, h⟩ := bd_e h; refine kc hP (hqr50 _ _ hw2) ?_; cbv
  refine kj ?_
  cases h; exact hK1 _ _ [] rfl hdy
 ·cbv
  refine hQ1 _ h _ _ fun h => ?_; cbv
  refine kj ?_
  exact le h hR
theorem Alf {A : Ar} (hA : A = std) : ∀ (n : Nat) (x0 : Route) (r : Int), Afw A n x0 = some r → PFun cx 50 [Aba x0] (it .i64 r)
 | 0, _, _, h => by cases h
 | n + 1, x0, r, h => Apo hA (fun _ _ hh => Alf hA n _ _ hh) h
theorem Ar6 {A : Ar} (hA : A = std) {x0 : Route} {r : Int} (h : Am6 A x0 = some r) : PFun cx 50 [Aba x0] (it .i64 r) := Alf hA _ _ _ h
theorem Aj5 {A : Ar} (hA : A = std) {rf : Route → (List ByteArray) → Option (List ByteArray)} {x0 : Route} {qc0 : Route → Option (List ByteArray)} {c1 : List ByteArray} {gc0 : Nat} {capc0 : List D} (hcapc0 : capOK capc0) (hqc0 : ∀ (y0 : Route) (r : List ByteArray), qc0 y0 = some r → PFun cx gc0 ((Aba y0) :: un.uns capc0) (.d (.sl TyS.str r))) (hqr211 : ∀ (x0 : Route) (c1 : List ByteArray) (r : List ByteArray), rf x0 c1 = some r → PFunM cx 211 [Aba x0, .ip [.fun (.func gc0) [] capc0], .bx 1000 0 0, .bx 1001 0 0] [⟨1000, 0, .box 24 [.os 1002 0 TyS.str c1]⟩, ⟨1001, 0, .box 208 [.fn (.func 211) [] [.ip [.fun (.func gc0) [] capc0], .bx 1000 0 0, .bx 1001 0 0]]⟩, ⟨1002, 0, .tok 9 TyS.str (A.nlen TyS.str c1)⟩] (.tu []) [⟨1000, 0, .box 24 [.os 2000 1 TyS.str r]⟩, ⟨1001, 0, .box 208 [.fn (.func 211) [] [.ip [.fun (.func gc0) [] capc0], .bx 1000 0 0, .bx 1001 0 0]]⟩, ⟨2000, 1, .tok 9 TyS.str (A.nlen TyS.str r)⟩]) {r : List ByteArray} (h : Ab4 A rf x0 qc0 c1 = some r) : PFunM cx 211 [Aba x0, .ip [.fun (.func gc0) [] capc0], .bx 1000 0 0, .bx 1001 0 0] [⟨1000, 0, .box 24 [.os 1002 0 TyS.str c1]⟩, ⟨1001, 0, .box 208 [.fn (.func 211) [] [.ip [.fun (.func gc0) [] capc0], .bx 1000 0 0, .bx 1001 0 0]]⟩, ⟨1002, 0, .tok 9 TyS.str (A.nlen TyS.str c1)⟩] (.tu []) [⟨1000, 0, .box 24 [.os 2000 1 TyS.str r]⟩, ⟨1001, 0, .box 208 [.fn (.func 211) [] [.ip [.fun (.func gc0) [] capc0], .bx 1000 0 0, .bx 1001 0 0]]⟩, ⟨2000, 1, .tok 9 TyS.str (A.nlen TyS.str r)⟩] := by
 rcases hcapc0 with rfl | ⟨dscapc0, rfl⟩
 ·refine PFunM.walkM (fz := fun _ => false) hA cx_ok Tryz.func211 rfl rfl fun P R hP hR => ?_
  cbv; unfold Ab4 at h
  iterate 2 refine kj ?_
  obtain ⟨w1, hw1, h⟩ := bd_e h; refine kc hP (hqc0 _ _ hw1) ?_; cbv
  refine kl h (fun x _ => [(13, it .i64 x.1)]) (fun x gh => [⟨4031, gh, .tok 9 TyS.str (A.nlen TyS.str x.2)⟩, ⟨4, 2, .box 27 [st x0.1, .d (.sl .matcher x0.2), .d (.sl .str x0.3), it .i64 x0.4, it .i64 x0.5, it .i64 x0.6, .d (.sl .str x0.7), bl x0.8, .d (.sl .route x0.9)]⟩, ⟨1000, 0, .box 24 [.os 4031 gh TyS.str x.2]⟩, ⟨1001, 0, .box 208 [PV.fn (Fn.func 211) [] [PV.ip [D.fun (Fn.func gc0) [] []], PV.bx 1000 0 0, PV.bx 1001 0 0]]⟩]) [(4031, 1002, 0)] ?_
  rintro ⟨t13, b0_1000⟩ gh1 g1 _ _ _ hK1 hQ1 h; cbv
  refine kj ?_
  refine bc h (fun hb h => ?_) fun hb h => ?_
  ·cbv
   refine kj ?_
   refine kk h fun c2 h => ?_
   refine kj ?_
   obtain ⟨w3, hw3, h⟩ := bd_e h; refine kc hP (Ab5 hA hw3) ?_; cbv
   refine bc h (fun hb h => ?_) fun hb h => ?_
   ·cbv
    refine kj ?_
    refine kk h fun c4 h => ?_
    refine kj ?_
    cases h; exact hK1 _ _ [(4031, 24, g1.succ.succ.succ)] rfl hdy
   ·cbv
    refine kj ?_
    cases h; exact hK1 _ _ [(4031, 4031, gh1)] rfl hdy
  ·cbv
   refine hQ1 _ h _ _ fun h => ?_; cbv
   refine kj ?_
   refine kl h (fun x _ => [(29, it .i64 x.1)]) (fun x gh => [⟨4061, gh, .tok 9 TyS.str (A.nlen TyS.str x.2)⟩, ⟨4, 2, .box 27 [st x0.1, .d (.sl .matcher x0.2), .d (.sl .str x0.3), it .i64 x0.4, it .i64 x0.5, it .i64 x0.6, .d (.sl .str x0.7), bl x0.8, .d (.sl .route x0.9)]⟩, ⟨1000, 0, .box 24 [.os 4061 gh TyS.str x.2]⟩, ⟨1001, 0, .box 208 [PV.fn (Fn.func 211) [] [PV.ip [D.fun (Fn.func gc0) [] []], PV.bx 1000 0 0, PV.bx 1001 0 0]]⟩]) [(4061, 4031, gh1)] ?_
   rintro ⟨t29, b0_1000'⟩ gh2 g2 _ _ _ hK2 hQ2 h; cbv
   refine kj ?_
   refine bc h (fun hb h => ?_) fun hb h => ?_
   ·cbv
    refine kj ?_
    refine kk h fun c5 h => ?_
    refine kj ?_
    obtain ⟨w6, hw6, h⟩ := bd_e h; refine km hP [(1000, 0), (1001, 0), (4061, gh2)] (hqr211 _ _ _ hw6) ?_; cbv
    refine kj ?_
    cases h; exact hK2 _ _ [(4061, 35, g2.succ.succ)] rfl hdy
   ·cbv
    refine hQ2 _ h _ _ fun h => ?_; cbv
    cases h
    refine hR _ _ ⟨[(4061, gh2)], ⟨by rfl, ez, by rfl, ez⟩⟩
 ·refine PFunM.walkM (fz := fun _ => false) hA cx_ok Tryz.func211 rfl rfl fun P R hP hR => ?_
  cbv; unfold Ab4 at h
  iterate 2 refine kj ?_
  obtain ⟨w1, hw1, h⟩ := bd_e h; refine kc hP (hqc0 _ _ hw1) ?_; cbv
  refine kl h (fun x _ => [(13, it .i64 x.1)]) (fun x gh => [⟨4031, gh, .tok 9 TyS.str (A.nlen TyS.str x.2)⟩, ⟨4, 2, .box 27 [st x0.1, .d (.sl .matcher x0.2), .d (.sl .str x0.3), it .i64 x0.4, it .i64 x0.5, it .i64 x0.6, .d (.sl .str x0.7), bl x0.8, .d (.sl .route x0.9)]⟩, ⟨1000, 0, .box 24 [.os 4031 gh TyS.str x.2]⟩, ⟨1001, 0, .box 208 [PV.fn (Fn.func 211) [] [PV.ip [D.fun (Fn.func gc0) [] [D.ptr dscapc0]], PV.bx 1000 0 0, PV.bx 1001 0 0]]⟩]) [(4031, 1002, 0)] ?_
  rintro ⟨t13, b0_1000⟩ gh1 g1 _ _ _ hK1 hQ1 h; cbv
  refine kj ?_
  refine bc h (fun hb h => ?_) fun hb h => ?_
  ·cbv
   refine kj ?_
   refine kk h fun c2 h => ?_
   refine kj ?_
   obtain ⟨w3, hw3, h⟩ := bd_e h; refine kc hP (Ab5 hA hw3) ?_; cbv
   refine bc h (fun hb h => ?_) fun hb h => ?_
   ·cbv
    refine kj ?_
    refine kk h fun c4 h => ?_
    refine kj ?_
    cases h; exact hK1 _ _ [(4031, 24, g1.succ.succ.succ)] rfl hdy
   ·cbv
    refine kj ?_
    cases h; exact hK1 _ _ [(4031, 4031, gh1)] rfl hdy
  ·cbv
   refine hQ1 _ h _ _ fun h => ?_; cbv
   refine kj ?_
   refine kl h (fun x _ => [(29, it .i64 x.1)]) (fun x gh => [⟨4061, gh, .tok 9 TyS.str (A.nlen TyS.str x.2)⟩, ⟨4, 2, .box 27 [st x0.1, .d (.sl .matcher x0.2), .d (.sl .str x0.3), it .i64 x0.4, it .i64 x0.5, it .i64 x0.6, .d (.sl .str x0.7), bl x0.8, .d (.sl .route x0.9)]⟩, ⟨1000, 0, .box 24 [.os 4061 gh TyS.str x.2]⟩, ⟨1001, 0, .box 208 [PV.fn (Fn.func 211) [] [PV.ip [D.fun (Fn.func gc0) [] [D.ptr dscapc0]], PV.bx 1000 0 0, PV.bx 1001 0 0]]⟩]) [(4061, 4031, gh1)] ?_
   rintro ⟨t29, b0_1000'⟩ gh2 g2 _ _ _ hK2 hQ2 h; cbv
   refine kj ?_
   refine bc h (fun hb h => ?_) fun hb h => ?_
   ·cbv
    refine kj ?_
    refine kk h fun c5 h => ?_
    refine kj ?_
    obtain ⟨w6, hw6, h⟩ := bd_e h; refine km hP [(1000, 0), (1001, 0), (4061, gh2)] (hqr211 _ _ _ hw6) ?_; cbv
    refine kj ?_
    cases h; exact hK2 _ _ [(4061, 35, g2.succ.succ)] rfl hdy
   ·cbv
    refine hQ2 _ h _ _ fun h => ?_; cbv
    cases h
    refine hR _ _ ⟨[(4061, gh2)], ⟨by rfl, ez, by rfl, ez⟩⟩
theorem Agd {A : Ar} (hA : A = std) {qc0 : Route → Option (List ByteArray)} {gc0 : Nat} {capc0 : List D} (hcapc0 : capOK capc0) (hqc0 : ∀ (y0 : Route) (r : List ByteArray), qc0 y0 = some r → PFun cx gc0 ((Aba y0) :: un.uns capc0) (.d (.sl TyS.str r))) : ∀ (n : Nat) (x0 : Route) (c1 : List ByteArray) (r : List ByteArray), Aa5 A qc0 n x0 c1 = some r → PFunM cx 211 [Aba x0, .ip [.fun (.func gc0) [] capc0], .bx 1000 0 0, .bx 1001 0 0] [⟨1000, 0, .box 24 [.os 1002 0 TyS.str c1]⟩, ⟨1001, 0, .box 208 [.fn (.func 211) [] [.ip [.fun (.func gc0) [] capc0], .bx 1000 0 0, .bx 1001 0 0]]⟩, ⟨1002, 0, .tok 9 TyS.str (A.nlen TyS.str c1)⟩] (.tu []) [⟨1000, 0, .box 24 [.os 2000 1 TyS.str r]⟩, ⟨1001, 0, .box 208 [.fn (.func 211) [] [.ip [.fun (.func gc0) [] capc0], .bx 1000 0 0, .bx 1001 0 0]]⟩, ⟨2000, 1, .tok 9 TyS.str (A.nlen TyS.str r)⟩]
 | 0, _, _, _, h => by cases h
 | n + 1, x0, c1, r, h => Aj5 hA hcapc0 hqc0 (fun _ _ _ hh => Agd hA hcapc0 hqc0 n _ _ _ hh) h
theorem Agy {A : Ar} (hA : A = std) {x0 : Route} {qc0 : Route → Option (List ByteArray)} {c1 : List ByteArray} {gc0 : Nat} {capc0 : List D} (hcapc0 : capOK capc0) (hqc0 : ∀ (y0 : Route) (r : List ByteArray), qc0 y0 = some r → PFun cx gc0 ((Aba y0) :: un.uns capc0) (.d (.sl TyS.str r))) {r : List ByteArray} (h : Af2 A x0 qc0 c1 = some r) : PFunM cx 211 [Aba x0, .ip [.fun (.func gc0) [] capc0], .bx 1000 0 0, .bx 1001 0 0] [⟨1000, 0, .box 24 [.os 1002 0 TyS.str c1]⟩, ⟨1001, 0, .box 208 [.fn (.func 211) [] [.ip [.fun (.func gc0) [] capc0], .bx 1000 0 0, .bx 1001 0 0]]⟩, ⟨1002, 0, .tok 9 TyS.str (A.nlen TyS.str c1)⟩] (.tu []) [⟨1000, 0, .box 24 [.os 2000 1 TyS.str r]⟩, ⟨1001, 0, .box 208 [.fn (.func 211) [] [.ip [.fun (.func gc0) [] capc0], .bx 1000 0 0, .bx 1001 0 0]]⟩, ⟨2000, 1, .tok 9 TyS.str (A.nlen TyS.str r)⟩] := Agd hA hcapc0 hqc0 _ _ _ _ h
theorem Ahw {A : Ar} (hA : A = std) {x0 : Route} {q1 : Route → Option (List ByteArray)} {g1 : Nat} {cap1 : List D} (hcap1 : capOK cap1) (hq1 : ∀ (y0 : Route) (r : List ByteArray), q1 y0 = some r → PFun cx g1 ((Aba y0) :: un.uns cap1) (.d (.sl TyS.str r))) {r : List ByteArray} (h : Add A x0 q1 = some r) : PFun cx 132 [Aba x0, .fn (.func g1) [] (un.uns cap1)] (.d (.sl TyS.str r)) := by
 rcases hcap1 with rfl | ⟨dscap1, rfl⟩
 ·refine PFun.walkF (fz := fun k => k == 3 || k == 131077) hA cx_ok Tryz.func132 rfl rfl rfl fun P R hP hR => ?_
  cbv; unfold Add at h
  iterate 5 refine kj ?_
  obtain ⟨w1, hw1, h⟩ := bd_e h; refine km hP [(5, 1), (6, 2), (65541, 1)] (Agy (capc0 := []) hA (by first | exact .inl rfl | exact .inr ⟨_, rfl⟩) hq1 hw1) ?_; cbv
  refine kj ?_
  cases h; subst hR; exact ey
 ·refine PFun.walkF (fz := fun k => k == 3 || k == 131077) hA cx_ok Tryz.func132 rfl rfl rfl fun P R hP hR => ?_
  cbv; unfold Add at h
  iterate 5 refine kj ?_
  obtain ⟨w1, hw1, h⟩ := bd_e h; refine km hP [(5, 1), (6, 2), (65541, 1)] (Agy (capc0 := [D.ptr dscap1]) hA (by first | exact .inl rfl | exact .inr ⟨_, rfl⟩) hq1 hw1) ?_; cbv
  refine kj ?_
  cases h; subst hR; exact ey
theorem App {A : Ar} (hA : A = std) {x0 : Route} {r : List ByteArray} (h : Aiq A x0 = some r) : PFun cx 133 [Aba x0] (.d (.sl TyS.str r)) := by
 refine wF hA cx_ok Tryz.func133 fun P R hP hR => ?_
 cbv; unfold Aiq at h
 iterate 2 refine kj ?_
 cases h; subst hR; exact ey
theorem Apq {A : Ar} (hA : A = std) {x0 : Route} {r : List ByteArray} (h : Air A x0 = some r) : PFun cx 134 [Aba x0] (.d (.sl TyS.str r)) := by
 refine wF hA cx_ok Tryz.func134 fun P R hP hR => ?_
 cbv; unfold Air at h
 iterate 2 refine kj ?_
 cases h; subst hR; exact ey
theorem Ar7 {A : Ar} (hA : A = std) {x0 : Route} {r : (List ByteArray) × (List ByteArray)} (h : Aja A x0 = some r) : PFun cx 51 [Aba x0] (.tu [.d (.sl TyS.str r.1), .d (.sl TyS.str r.2)]) := by
 refine wF hA cx_ok Tryz.func51 fun P R hP hR => ?_
 cbv; unfold Aja at h
 iterate 2 refine kj ?_
 obtain ⟨w1, hw1, h⟩ := bd_e h; refine ke hP (Ahw (cap1 := []) hA (by first | exact .inl rfl | exact .inr ⟨_, rfl⟩) (fun _ _ hw => App hA hw) hw1) ?_; cbv
 refine kj ?_
 obtain ⟨w2, hw2, h⟩ := bd_e h; refine ke hP (Ahw (cap1 := []) hA (by first | exact .inl rfl | exact .inr ⟨_, rfl⟩) (fun _ _ hw => Apq hA hw) hw2) ?_; cbv
 cases h; subst hR; exact ey
theorem Aoa {A : Ar} (hA : A = std) {x0 : Hours} {c0 : ByteArray} {r : Bool} (h : Afq A x0 c0 = some r) : PFun cx 54 [Afc x0, .ip [.v (.string c0)]] (bl r) := by
 refine wF hA cx_ok Tryz.func54 fun P R hP hR => ?_
 cbv; unfold Afq at h
 iterate 2 refine kj ?_
 exact le h hR
theorem Apr {A : Ar} (hA : A = std) {x0 : ByteArray} {c0 : Config} {r : Bool} (h : Afx A x0 c0 = some r) : PFun cx 52 [st x0, .ip [.sl TyS.rule c0.Rules, .v (.string c0.Route.Receiver), .sl TyS.matcher c0.Route.Match, .sl TyS.str c0.Route.By, .v (.int .i64 c0.Route.Wait), .v (.int .i64 c0.Route.Every), .v (.int .i64 c0.Route.Repeat), .sl TyS.str c0.Route.Mute, .v (.bool c0.Route.On), .sl TyS.route c0.Route.Routes, .sl TyS.str c0.Receivers, .sl TyS.inhibit c0.Inhibits, .sl TyS.hours c0.Hours]] (bl r) := by
 refine PFun.walkF (fz := fun k => k == 2) hA cx_ok Tryz.func52 rfl rfl rfl fun P R hP hR => ?_
 cbv; unfold Afx at h
 iterate 2 refine kj ?_
 obtain ⟨w1, hw1, h⟩ := bd_e h; refine kc hP (Acy hA (by rfl) (fun _ _ hw => Aoa hA hw) hw1) ?_; cbv
 exact le h hR
theorem Aps {A : Ar} (hA : A = std) {x0 : ByteArray} {c0 : Config} {r : Bool} (h : Afy A x0 c0 = some r) : PFun cx 55 [st x0, .ip [.sl TyS.rule c0.Rules, .v (.string c0.Route.Receiver), .sl TyS.matcher c0.Route.Match, .sl TyS.str c0.Route.By, .v (.int .i64 c0.Route.Wait), .v (.int .i64 c0.Route.Every), .v (.int .i64 c0.Route.Repeat), .sl TyS.str c0.Route.Mute, .v (.bool c0.Route.On), .sl TyS.route c0.Route.Routes, .sl TyS.str c0.Receivers, .sl TyS.inhibit c0.Inhibits, .sl TyS.hours c0.Hours]] (bl r) := by
 refine wF hA cx_ok Tryz.func55 fun P R hP hR => ?_
 cbv; unfold Afy at h
 iterate 2 refine kj ?_
 obtain ⟨w1, hw1, h⟩ := bd_e h; refine kc hP (Ab5 hA hw1) ?_; cbv
 exact le h hR
theorem Am1 {A : Ar} (hA : A = std) {x0 : Config} {r : Bool} (h : Ahp A x0 = some r) : PFun cx 11 [Ah2 x0] (bl r) := by
 refine PFun.walkF (fz := fun k => k == 1) hA cx_ok Tryz.func11 rfl rfl rfl fun P R hP hR => ?_
 cbv; unfold Ahp at h
 iterate 2 refine kj ?_
 obtain ⟨w1, hw1, h⟩ := bd_e h; refine ke hP (Aoq (cap2 := []) hA (by first | exact .inl rfl | exact .inr ⟨_, rfl⟩) (fun _ _ hw => Anu hA hw) hw1) ?_; cbv
 iterate 2 refine cj ?_
 obtain ⟨w2, hw2, h⟩ := bd_e h; refine kf hP (fun hc => (Agw (cap2 := []) hA (by first | exact .inl rfl | exact .inr ⟨_, rfl⟩) (fun _ _ hw => At6 hA hw) (gd_e hw2 hc))) ?_; cbv
 iterate 3 refine cj ?_
 obtain ⟨w3, hw3, h⟩ := bd_e h; refine kf hP (fun hc => (Amv (cap2 := []) hA (by first | exact .inl rfl | exact .inr ⟨_, rfl⟩) (fun _ _ hw => Aou hA hw) (gd_e hw3 hc))) ?_; cbv
 iterate 3 refine cj ?_
 obtain ⟨w4, hw4, h⟩ := bd_e h; refine kf hP (fun hc => (An9 (cap2 := []) hA (by first | exact .inl rfl | exact .inr ⟨_, rfl⟩) (fun _ _ hw => Anv hA hw) (gd_e hw4 hc))) ?_; cbv
 refine cj ?_
 refine kj ?_
 iterate 2 refine cj ?_
 obtain ⟨w5, hw5, h⟩ := bd_e h; refine kf hP (fun hc => (Amx hA (by rfl) (fun _ _ hw => Amy hA hw) (gd_e hw5 hc))) ?_; cbv
 iterate 4 refine cj ?_
 obtain ⟨w6, hw6, h⟩ := bd_e h; refine kf hP (fun hc => (Al2 hA (by rfl) (fun _ _ hw => Amm hA hw) (gd_e hw6 hc))) ?_; cbv
 iterate 4 refine cj ?_
 obtain ⟨w7, hw7, h⟩ := bd_e h; refine kf hP (fun hc => (Amt hA (by rfl) (fun _ _ hw => Amn hA hw) (gd_e hw7 hc))) ?_; cbv
 iterate 2 refine cj ?_
 refine bc h (fun hb h => ?_) fun hb h => ?_
 ·cbv
  refine kj ?_
  exact le h hR
 ·cbv
  refine kj ?_
  obtain ⟨w8, hw8, h⟩ := bd_e h; refine kc hP (Ar5 hA hw8) ?_; cbv
  iterate 10 refine cj ?_
  obtain ⟨w9, hw9, h⟩ := bd_e h; refine kg hP (fun hc => (Ar6 hA (gd_e hw9 hc))) ?_; cbv
  iterate 2 refine cj ?_
  refine bc h (fun hb h => ?_) fun hb h => ?_
  ·cbv
   refine kj ?_
   exact le h hR
  ·cbv
   refine kj ?_
   obtain ⟨w10, hw10, h⟩ := bd_e h; refine kc hP (Ar7 hA hw10) ?_; cbv
   iterate 2 refine kj ?_
   obtain ⟨w11, hw11, h⟩ := bd_e h; refine kc hP (Agw (cap2 := [D.ptr [D.sl TyS.rule x0.1, D.v (Value.string x0.2.1), D.sl TyS.matcher x0.2.2, D.sl TyS.str x0.2.3, D.v (Value.int .i64 x0.2.4), D.v (Value.int .i64 x0.2.5), D.v (Value.int .i64 x0.2.6), D.sl TyS.str x0.2.7, D.v (Value.bool x0.2.8), D.sl TyS.route x0.2.9, D.sl TyS.str x0.3, D.sl TyS.inhibit x0.4, D.sl TyS.hours x0.5]]) hA (by first | exact .inl rfl | exact .inr ⟨_, rfl⟩) (fun _ _ hw => Aps hA hw) hw11) ?_; cbv
   iterate 2 refine cj ?_
   obtain ⟨w12, hw12, h⟩ := bd_e h; refine kg hP (fun hc => (Agw (cap2 := [D.ptr [D.sl TyS.rule x0.1, D.v (Value.string x0.2.1), D.sl TyS.matcher x0.2.2, D.sl TyS.str x0.2.3, D.v (Value.int .i64 x0.2.4), D.v (Value.int .i64 x0.2.5), D.v (Value.int .i64 x0.2.6), D.sl TyS.str x0.2.7, D.v (Value.bool x0.2.8), D.sl TyS.route x0.2.9, D.sl TyS.str x0.3, D.sl TyS.inhibit x0.4, D.sl TyS.hours x0.5]]) hA (by first | exact .inl rfl | exact .inr ⟨_, rfl⟩) (fun _ _ hw => Apr hA hw) (gd_e hw12 hc))) ?_; cbv
   refine cj ?_
   exact le h hR
theorem Ar8 {A : Ar} (hA : A = std) {x0 : Matcher} {r : ByteArray × Int} (h : Ajb A x0 = some r) : PFun cx 157 [Afs x0] (.tu [st r.1, it .i64 r.2]) := by
 refine wF hA cx_ok Tryz.func157 fun P R hP hR => ?_
 cbv; unfold Ajb at h
 iterate 2 refine kj ?_
 obtain ⟨w1, hw1, h⟩ := bd_e h; refine kc hP (Ag6 hA hw1) ?_; cbv
 refine bc h (fun hb h => ?_) fun hb h => ?_
 ·cbv
  refine kj ?_
  cases h; subst hR; exact ey
 ·cbv
  refine kj ?_
  obtain ⟨w2, hw2, h⟩ := bd_e h; refine km hP [] (Ajk hA hw2) ?_; cbv
  refine ⟨by first | exact Afm hA _ | exact ⟨rfl⟩, ?_⟩
  obtain ⟨w3, hw3, h⟩ := bd_e h
  have hw3' := Aq6 A x0.2 (fun x => st x) (ByteArray.mk (Array.mk [])) [(1, ByteArray.mk (Array.mk [61])), (2, ByteArray.mk (Array.mk [33, 61])), (3, ByteArray.mk (Array.mk [61, 126])), (4, ByteArray.mk (Array.mk [33, 126]))]
  rw [Option.some.inj hw3] at hw3'
  refine LookK.one _ _ hw3' ?_
  cbv
  refine kk h fun c4 h => ?_
  refine kk h fun c5 h => ?_
  obtain ⟨w6, hw6, h⟩ := bd_e h; refine kc hP (Akl hA hw6) ?_; cbv
  refine kk h fun c7 h => ?_
  refine kk h fun c8 h => ?_
  refine kj ?_
  cases h; subst hR; exact ey
theorem Am2 {A : Ar} (hA : A = std) {x0 : Int} {r : ByteArray × Int} (h : Agh A x0 = some r) : PFun cx 182 [it .i64 x0] (.tu [st r.1, it .i64 r.2]) := by
 refine wF hA cx_ok Tryz.func182 fun P R hP hR => ?_
 cbv; unfold Agh at h
 iterate 2 refine kj ?_
 iterate 2 refine cj ?_
 refine bc h (fun hb h => ?_) fun hb h => ?_
 ·cbv
  refine kj ?_
  cases h; subst hR; exact ey
 ·cbv
  refine kj ?_
  refine kl h (fun x gh => [(0, it .i64 x.1), (4, .os 4031 gh TyS.byte x.2)]) (fun x gh => [⟨4031, gh, .tok 5 TyS.byte (A.nlen TyS.byte x.2)⟩]) [] ?_
  rintro ⟨n0, out4⟩ gh1 g1 _ _ _ hK1 hQ1 h; cbv
  refine kj ?_
  refine bc h (fun hb h => ?_) fun hb h => ?_
  ·cbv
   refine kj ?_
   refine ⟨by subst hA; simp +contextual [vcm], ?_⟩
   refine and_assoc.2 ?_
   refine kk h fun c1 h => ?_
   refine cj ?_
   refine kk h fun c2 h => ?_
   refine kj ?_
   refine ⟨by subst hA; simp +contextual [vcm], ?_⟩
   cases h; exact hK1 _ _ [(4031, 21, g1.succ)] rfl hdy
  ·cbv
   refine hQ1 _ h _ _ fun h => ?_; cbv
   refine kj ?_
   refine and_assoc.2 ?_
   refine kk h fun c3 h => ?_
   refine cj ?_
   refine kk h fun c4 h => ?_
   cases h; subst hR; exact ey
theorem Ai3 {A : Ar} (hA : A = std) {x0 : List UInt8} {r : List UInt8} (h : Ac4 A x0 = some r) : PFunM cx 193 [.bx 1000 0 0] [⟨1000, 0, .box 129 [.d (.v (.pointer none)), .os 1001 0 TyS.byte x0]⟩, ⟨1001, 0, .tok 5 TyS.byte (A.nlen TyS.byte x0)⟩] (.tu []) [⟨1000, 0, .box 129 [.np 1000 0, .os 2000 1 TyS.byte r]⟩, ⟨2000, 1, .tok 5 TyS.byte (A.nlen TyS.byte r)⟩] := by
 refine PFunM.walkM (fz := fun _ => false) hA cx_ok Tryz.func193 rfl rfl fun P R hP hR => ?_
 cbv; unfold Ac4 at h
 iterate 2 refine kj ?_
 obtain ⟨w1, hw1, h⟩ := bd_e h; refine km hP [(1000, 0), (1001, 0)] (Ast hA hw1) ?_; cbv
 cases h
 refine hR _ _ ⟨[(1001, 0)], ⟨by rfl, ez, by rfl, ez⟩⟩
theorem Ai4 {A : Ar} (hA : A = std) {x0 : List UInt8} {r : List UInt8} (h : Ac5 A x0 = some r) : PFunM cx 193 [.bx 1000 0 0] [⟨1000, 0, .box 129 [.bx 1000 0 0, .os 1001 0 TyS.byte x0]⟩, ⟨1001, 0, .tok 5 TyS.byte (A.nlen TyS.byte x0)⟩] (.tu []) [⟨1000, 0, .box 129 [.np 1000 0, .os 2000 1 TyS.byte r]⟩, ⟨2000, 1, .tok 5 TyS.byte (A.nlen TyS.byte r)⟩] := by
 refine PFunM.walkM (fz := fun _ => false) hA cx_ok Tryz.func193 rfl rfl fun P R hP hR => ?_
 cbv; unfold Ac5 at h
 iterate 2 refine kj ?_
 cases h
 refine hR _ _ ⟨[(1001, 0)], ⟨by rfl, ez, by rfl, ez⟩⟩
theorem Af3 {A : Ar} (hA : A = std) {x0 : List UInt8} {r : List UInt8} (h : Ab0 A x0 = some r) : PFunM cx 193 [.bx 1000 0 0] [⟨1000, 0, .box 129 [.np 1000 0, .os 1001 0 TyS.byte x0]⟩, ⟨1001, 0, .tok 5 TyS.byte (A.nlen TyS.byte x0)⟩] (.tu []) [⟨1000, 0, .box 129 [.np 1000 0, .os 2000 1 TyS.byte r]⟩, ⟨2000, 1, .tok 5 TyS.byte (A.nlen TyS.byte r)⟩] := by
 unfold Ab0 at h
 obtain ⟨a, h1, h⟩ := bd_e h
 obtain ⟨b, h2, h⟩ := bd_e h
 obtain ⟨e, h⟩ := ck_e h
 cases h; subst e
 exact PFunM.np (Ai3 hA h1) (Ai4 hA h2)
theorem Afd {A : Ar} (hA : A = std) {x0 : List UInt8} {x1 : ByteArray} {r : List UInt8} (h : Abj A x0 x1 = some r) : PFunM cx 246 [.bx 1000 0 0, st x1] [⟨1000, 0, .box 129 [.np 1000 0, .os 1001 0 TyS.byte x0]⟩, ⟨1001, 0, .tok 5 TyS.byte (A.nlen TyS.byte x0)⟩] (.tu [it .i64 (A.slen x1), .d (.v .nilIface)]) [⟨1000, 0, .box 129 [.np 1000 0, .os 2000 1 TyS.byte r]⟩, ⟨2000, 1, .tok 5 TyS.byte (A.nlen TyS.byte r)⟩] := by
 refine PFunM.walkM (fz := fun _ => false) hA cx_ok Tryz.func246 rfl rfl fun P R hP hR => ?_
 cbv; unfold Abj at h
 iterate 2 refine kj ?_
 obtain ⟨w1, hw1, h⟩ := bd_e h; refine km hP [(1000, 0), (1001, 0)] (Af3 hA hw1) ?_; cbv
 refine kj ?_
 refine kk h fun c2 h => ?_
 refine kj ?_
 cases h
 refine hR _ _ ⟨[(14, 4)], ⟨by rfl, ez, by rfl, ez⟩⟩
theorem Avs {A : Ar} (hA : A = std) {x0 : List ByteArray} {r : ByteArray × Int} (h : Aij A x0 = some r) : PFun cx 181 [.d (.sl TyS.str x0)] (.tu [st r.1, it .i64 r.2]) := by
 refine PFun.walkF (fz := fun k => k == 131076) hA cx_ok Tryz.func181 rfl rfl rfl fun P R hP hR => ?_
 cbv; unfold Aij at h
 iterate 2 refine kj ?_
 refine bc h (fun hb h => ?_) fun hb h => ?_
 ·cbv
  refine kj ?_
  cases h; subst hR; exact ey
 ·cbv
  iterate 2 refine kj ?_
  refine kl h (fun x _ => [(14, it .i64 x.1)]) (fun x gh => [⟨4031, gh, .tok 5 TyS.byte (A.nlen TyS.byte x.2)⟩, ⟨4, 2, .box 129 [PV.np 4 2, .os 4031 gh TyS.byte x.2]⟩]) [(4031, 65540, 2)] ?_
  rintro ⟨t14, b1_4⟩ gh1 g1 _ _ _ hK1 hQ1 h; cbv
  refine kj ?_
  refine bc h (fun hb h => ?_) fun hb h => ?_
  ·cbv
   refine kj ?_
   refine kk h fun c1 h => ?_
   refine kj ?_
   refine bc h (fun hb h => ?_) fun hb h => ?_
   ·cbv
    refine kj ?_
    refine hQ1 _ h _ _ fun h => ?_; cbv
    cases h; subst hR; exact ey
   ·cbv
    refine kj ?_
    obtain ⟨w2, hw2, h⟩ := bd_e h; refine kc hP (Am2 hA hw2) ?_; cbv
    refine kj ?_
    obtain ⟨w3, hw3, h⟩ := bd_e h; refine km hP [(4, 2), (4031, gh1)] (Afd hA hw3) ?_; cbv
    refine kj ?_
    obtain ⟨w4, hw4, h⟩ := bd_e h; refine km hP [(4, 2), (28, g1.succ.succ.succ.succ)] (Afd hA hw4) ?_; cbv
    refine kj ?_
    cases h; exact hK1 _ _ [(4031, 30, g1.succ.succ.succ.succ.succ)] rfl hdy
  ·cbv
   refine hQ1 _ h _ _ fun h => ?_; cbv
   refine kj ?_
   obtain ⟨w5, hw5, h⟩ := bd_e h; refine km hP [(4, 2), (4031, gh1)] (Ae3 hA hw5) ?_; cbv
   cases h; subst hR; exact ey
theorem Abm {A : Ar} (hA : A = std) {x0 : Bool} {x1 : List ByteArray} {r : ByteArray × Bool} (h : Aa7 A x0 x1 = some r) : PFunM cx 104 [.bx 1000 0 0, .d (.sl TyS.str x1)] [⟨1000, 0, .box 4 [bl x0]⟩] (st r.1) [⟨1000, 0, .box 4 [bl r.2]⟩] := by
 refine PFunM.walkM (fz := fun _ => false) hA cx_ok Tryz.func104 rfl rfl fun P R hP hR => ?_
 cbv; unfold Aa7 at h
 iterate 2 refine kj ?_
 obtain ⟨w1, hw1, h⟩ := bd_e h; refine kc hP (Avs hA hw1) ?_; cbv
 refine kj ?_
 iterate 2 refine cj ?_
 refine kj ?_
 cases h
 refine hR _ _ ⟨[], ⟨by rfl, ez, by rfl, ez⟩⟩
theorem Ahx {A : Ar} (hA : A = std) {x0 : Bool} {x1 : List Matcher} {r : ByteArray × Bool} (h : Aer A x0 x1 = some r) : PFunM cx 180 [.bx 1000 0 0, .d (.sl TyS.matcher x1)] [⟨1000, 0, .box 4 [bl x0]⟩] (st r.1) [⟨1000, 0, .box 4 [bl r.2]⟩] := by
 refine PFunM.walkM (fz := fun _ => false) hA cx_ok Tryz.func180 rfl rfl fun P R hP hR => ?_
 cbv; unfold Aer at h
 iterate 3 refine kj ?_
 refine kl h (fun x gh => [(5, .os 4030 gh TyS.str x.1), (12, it .i64 x.2)]) (fun x gh => [⟨4030, gh, .tok 9 TyS.str (A.nlen TyS.str x.1)⟩, ⟨1000, 0, .box 4 [bl x0]⟩]) [] ?_
 rintro ⟨out5, t12⟩ gh1 g1 _ _ _ hK1 hQ1 h; cbv
 refine kj ?_
 refine bc h (fun hb h => ?_) fun hb h => ?_
 ·cbv
  refine kj ?_
  refine kk h fun c1 h => ?_
  refine kj ?_
  obtain ⟨w2, hw2, h⟩ := bd_e h; refine kc hP (Ar8 hA hw2) ?_; cbv
  refine kj ?_
  refine kk h fun c3 h => ?_
  refine kj ?_
  cases h; exact hK1 _ _ [(4030, 24, g1.succ.succ.succ)] rfl hdy
 ·cbv
  refine hQ1 _ h _ _ fun h => ?_; cbv
  refine kj ?_
  obtain ⟨w4, hw4, h⟩ := bd_e h; refine km hP [(1000, 0)] (Abm hA hw4) ?_; cbv
  cases h
  refine hR _ _ ⟨[], ⟨by rfl, ez, by rfl, ez⟩⟩
theorem Alg {A : Ar} (hA : A = std) {x0 : Bool} {x1 : Inhibit} {r : ByteArray × Bool} (h : Ae1 A x0 x1 = some r) : PFunM cx 103 [.bx 1000 0 0, Aee x1] [⟨1000, 0, .box 4 [bl x0]⟩] (st r.1) [⟨1000, 0, .box 4 [bl r.2]⟩] := by
 refine PFunM.walkM (fz := fun _ => false) hA cx_ok Tryz.func103 rfl rfl fun P R hP hR => ?_
 cbv; unfold Ae1 at h
 iterate 2 refine kj ?_
 obtain ⟨w1, hw1, h⟩ := bd_e h; refine km hP [(1000, 0)] (Ahx hA hw1) ?_; cbv
 obtain ⟨w2, hw2, h⟩ := bd_e h; refine km hP [(1000, 0)] (Ahx hA hw2) ?_; cbv
 obtain ⟨w3, hw3, h⟩ := bd_e h; refine km hP [(1000, 0)] (Abm hA hw3) ?_; cbv
 obtain ⟨w4, hw4, h⟩ := bd_e h; refine km hP [(1000, 0)] (Abm hA hw4) ?_; cbv
 refine kj ?_
 cases h
 refine hR _ _ ⟨[], ⟨by rfl, ez, by rfl, ez⟩⟩
theorem Af4 {A : Ar} (hA : A = std) {x0 : Inhibit} {c0 : Bool} {r : ByteArray × Bool} (h : Ac6 A x0 c0 = some r) : PFunM cx 137 [Aee x0, .bx 1000 0 0] [⟨1000, 0, .box 4 [bl c0]⟩] (st r.1) [⟨1000, 0, .box 4 [bl r.2]⟩] := by
 refine PFunM.walkM (fz := fun _ => false) hA cx_ok Tryz.func137 rfl rfl fun P R hP hR => ?_
 cbv; unfold Ac6 at h
 iterate 2 refine kj ?_
 obtain ⟨w1, hw1, h⟩ := bd_e h; refine km hP [(1000, 0)] (Alg hA hw1) ?_; cbv
 cases h
 refine hR _ _ ⟨[], ⟨by rfl, ez, by rfl, ez⟩⟩
theorem Agz {A : Ar} (hA : A = std) {x0 : List Rule} {r : Int × List Rule} (h : Adi A x0 = some r) : PFunM cx 212 [.d (.sl TyS.rule x0)] [] (.ms 2000 1 TyS.rule 0 r.1) [⟨2000, 1, .arr 36 TyS.rule r.2⟩] := by
 refine PFunM.walkM (fz := fun k => k == 65541 || k == 65543 || k == 65538 || k == 65538 || k == 65538) hA cx_ok Tryz.func212 rfl rfl fun P R hP hR => ?_
 cbv; unfold Adi at h
 iterate 2 refine kj ?_
 obtain ⟨h1, h2⟩ := A0v h
 refine ⟨fun hc => ?_, ?_⟩
 ·have h := h1 hc
  clear h1 h2
  cbv
  refine kj ?_
  cases h
  refine hR _ _ ⟨[(2, 4)], ⟨by rfl, ez, by rfl, ez⟩⟩
 ·have h := h2
  clear h1 h2
  refine kj ?_
  refine kk h fun c1 h => ?_
  cases h
  refine hR _ _ ⟨[(7, 4)], ⟨by rfl, ez, by rfl, ez⟩⟩
theorem Ahy {A : Ar} (hA : A = std) {x0 : Rule} {x1 : Rule} {qc0 : Rule → Option ByteArray} {gc0 : Nat} {capc0 : List D} (hcapc0 : capOK capc0) (hqc0 : ∀ (y0 : Rule) (r : ByteArray), qc0 y0 = some r → PFun cx gc0 ((Agm y0) :: un.uns capc0) (st r)) {r : Int} (h : Aed A x0 x1 qc0 = some r) : PFun cx 214 [Agm x0, Agm x1, .ip [.fun (.func gc0) [] capc0]] (it .i64 r) := by
 rcases hcapc0 with rfl | ⟨dscapc0, rfl⟩
 all_goals
  refine wF hA cx_ok Tryz.func214 fun P R hP hR => ?_
  cbv; unfold Aed at h
  iterate 2 refine kj ?_
  obtain ⟨w1, hw1, h⟩ := bd_e h; refine kc hP (hqc0 _ _ hw1) ?_; cbv
  obtain ⟨w2, hw2, h⟩ := bd_e h; refine kc hP (hqc0 _ _ hw2) ?_; cbv
  obtain ⟨w3, hw3, h⟩ := bd_e h; refine kc hP (Af8 hA hw3) ?_; cbv
  refine kj ?_
  exact le h hR
theorem Abr {A : Ar} (hA : A = std) {x0 : List Rule} {n0 : Int} {x1 : Int} {x2 : Int} {q3 : Rule → Rule → Option Int} {g3 : Nat} {cap3 : List D} (hcap3 : capOK cap3) (hq3 : ∀ (y0 : Rule) (y1 : Rule) (r : Int), q3 y0 y1 = some r → PFun cx g3 ((Agm y0) :: (Agm y1) :: un.uns cap3) (it .i64 r)) {r : List Rule} (h : Aay A x0 n0 x1 x2 q3 = some r) : PFunM cx 294 [.ms 1000 0 TyS.rule 0 n0, it .i64 x1, it .i64 x2, .fn (.func g3) [] (un.uns cap3)] [⟨1000, 0, .arr 36 TyS.rule x0⟩] (.tu []) [⟨1000, 0, .arr 36 TyS.rule r⟩] := by
 rcases hcap3 with rfl | ⟨dscap3, rfl⟩
 all_goals
  refine PFunM.walkM (fz := fun _ => false) hA cx_ok Tryz.func294 rfl rfl fun P R hP hR => ?_
  cbv; unfold Aay at h
  refine kj ?_
  refine kl h (fun x _ => [(8, it .i64 x.1)]) (fun x gh => [⟨1000, 0, .arr 36 TyS.rule x.2⟩]) [] ?_
  rintro ⟨i8, row1000⟩ gh1 g1 _ _ _ hK1 hQ1 h; cbv
  refine kj ?_
  refine bc h (fun hb h => ?_) fun hb h => ?_
  ·cbv
   refine kj ?_
   refine kl h (fun x _ => [(9, it .i64 x.1)]) (fun x gh => [⟨1000, 0, .arr 36 TyS.rule x.2⟩]) [] ?_
   rintro ⟨j9, row1000'⟩ gh2 g2 _ _ _ hK2 hQ2 h; cbv
   refine kj ?_
   iterate 2 refine cj ?_
   refine kk h fun c1 h => ?_
   iterate 2 refine cj ?_
   refine kk h fun c2 h => ?_
   iterate 3 refine cj ?_
   refine kk h fun c3 h => ?_
   iterate 2 refine cj ?_
   refine kk h fun c4 h => ?_
   iterate 3 refine cj ?_
   obtain ⟨w5, hw5, h⟩ := bd_e h; refine kg hP (fun hc => (hq3 _ _ _ (gd_e hw5 hc))) ?_; cbv
   iterate 2 refine cj ?_
   refine kj ?_
   refine bc h (fun hb h => ?_) fun hb h => ?_
   ·cbv
    refine kj ?_
    refine kk h fun c6 h => ?_
    refine kk h fun c7 h => ?_
    refine kk h fun c8 h => ?_
    refine kk h fun c9 h => ?_
    refine ⟨c8, ?_⟩
    refine ⟨c9, ?_⟩
    refine ⟨c6, ?_⟩
    refine kk h fun c10 h => ?_
    iterate 2 refine kj ?_
    cases h; exact hK2 _ _ [] rfl hdy
   ·cbv
    refine hQ2 _ h _ _ fun h => ?_; cbv
    refine kj ?_
    cases h; exact hK1 _ _ [] rfl hdy
  ·cbv
   refine hQ1 _ h _ _ fun h => ?_; cbv
   cases h
   refine hR _ _ ⟨[], ⟨by rfl, ez, by rfl, ez⟩⟩
theorem Af5 {A : Ar} (hA : A = std) {x0 : List Rule} {n0 : Int} {x1 : Int} {q2 : Rule → Rule → Option Int} {g2 : Nat} {cap2 : List D} (hcap2 : capOK cap2) (hq2 : ∀ (y0 : Rule) (y1 : Rule) (r : Int), q2 y0 y1 = some r → PFun cx g2 ((Agm y0) :: (Agm y1) :: un.uns cap2) (it .i64 r)) {r : List Rule} (h : Ab1 A x0 n0 x1 q2 = some r) : PFunM cx 268 [.ms 1000 0 TyS.rule 0 n0, it .i64 x1, .fn (.func g2) [] (un.uns cap2)] [⟨1000, 0, .arr 36 TyS.rule x0⟩] (.tu []) [⟨1000, 0, .arr 36 TyS.rule r⟩] := by
 rcases hcap2 with rfl | ⟨dscap2, rfl⟩
 ·refine PFunM.walkM (fz := fun _ => false) hA cx_ok Tryz.func268 rfl rfl fun P R hP hR => ?_
  cbv; unfold Ab1 at h
  iterate 2 refine kj ?_
  refine kl h (fun x _ => [(7, it .i64 x.1), (8, it .i64 x.2.1)]) (fun x gh => [⟨1000, 0, .arr 36 TyS.rule x.2.2⟩]) [] ?_
  rintro ⟨a7, b8, row1000⟩ gh1 g1 _ _ _ hK1 hQ1 h; cbv
  refine kj ?_
  refine bc h (fun hb h => ?_) fun hb h => ?_
  ·cbv
   refine kj ?_
   obtain ⟨w1, hw1, h⟩ := bd_e h; refine km hP [(1000, 0)] (Abr (cap3 := []) hA (by first | exact .inl rfl | exact .inr ⟨_, rfl⟩) hq2 hw1) ?_; cbv
   iterate 2 refine kj ?_
   cases h; exact hK1 _ _ [] rfl hdy
  ·cbv
   refine hQ1 _ h _ _ fun h => ?_; cbv
   refine kj ?_
   obtain ⟨w2, hw2, h⟩ := bd_e h; refine km hP [(1000, 0)] (Abr (cap3 := []) hA (by first | exact .inl rfl | exact .inr ⟨_, rfl⟩) hq2 hw2) ?_; cbv
   refine kl h (fun x _ => [(6, it .i64 x)]) (fun _ _ => [⟨1000, 0, Cell.arr 36 TyS.rule w2⟩]) [] ?_
   rintro blockSize6 gh2 g2 _ _ _ hK2 hQ2 h; cbv
   refine kj ?_
   refine bc h (fun hb h => ?_) fun hb h => ?_
   ·cbv
    refine kj ?_
    refine kl h (fun x _ => [(7, it .i64 x.1), (8, it .i64 x.2)]) (fun _ _ => [⟨1000, 0, Cell.arr 36 TyS.rule w2⟩]) [] ?_
    rintro ⟨a7', b8'⟩ gh3 g3 _ _ _ hK3 hQ3 h; cbv
    refine kj ?_
    refine bc h (fun hb h => ?_) fun hb h => ?_
    ·cbv
     refine kj ?_
     cases h
    ·cbv
     refine hQ3 _ h _ _ fun h => ?_; cbv
     iterate 2 refine kj ?_
     refine bc h (fun hb h => ?_) fun hb h => ?_
     ·cbv
      refine kj ?_
      cases h
     ·cbv
      refine kj ?_
      cases h; exact hK2 _ _ [] rfl hdy
   ·cbv
    refine hQ2 _ h _ _ fun h => ?_; cbv
    cases h
    refine hR _ _ ⟨[], ⟨by rfl, ez, by rfl, ez⟩⟩
 ·refine PFunM.walkM (fz := fun _ => false) hA cx_ok Tryz.func268 rfl rfl fun P R hP hR => ?_
  cbv; unfold Ab1 at h
  iterate 2 refine kj ?_
  refine kl h (fun x _ => [(7, it .i64 x.1), (8, it .i64 x.2.1)]) (fun x gh => [⟨1000, 0, .arr 36 TyS.rule x.2.2⟩]) [] ?_
  rintro ⟨a7, b8, row1000⟩ gh1 g1 _ _ _ hK1 hQ1 h; cbv
  refine kj ?_
  refine bc h (fun hb h => ?_) fun hb h => ?_
  ·cbv
   refine kj ?_
   obtain ⟨w1, hw1, h⟩ := bd_e h; refine km hP [(1000, 0)] (Abr (cap3 := [D.ptr dscap2]) hA (by first | exact .inl rfl | exact .inr ⟨_, rfl⟩) hq2 hw1) ?_; cbv
   iterate 2 refine kj ?_
   cases h; exact hK1 _ _ [] rfl hdy
  ·cbv
   refine hQ1 _ h _ _ fun h => ?_; cbv
   refine kj ?_
   obtain ⟨w2, hw2, h⟩ := bd_e h; refine km hP [(1000, 0)] (Abr (cap3 := [D.ptr dscap2]) hA (by first | exact .inl rfl | exact .inr ⟨_, rfl⟩) hq2 hw2) ?_; cbv
   refine kl h (fun x _ => [(6, it .i64 x)]) (fun _ _ => [⟨1000, 0, Cell.arr 36 TyS.rule w2⟩]) [] ?_
   rintro blockSize6 gh2 g2 _ _ _ hK2 hQ2 h; cbv
   refine kj ?_
   refine bc h (fun hb h => ?_) fun hb h => ?_
   ·cbv
    refine kj ?_
    refine kl h (fun x _ => [(7, it .i64 x.1), (8, it .i64 x.2)]) (fun _ _ => [⟨1000, 0, Cell.arr 36 TyS.rule w2⟩]) [] ?_
    rintro ⟨a7', b8'⟩ gh3 g3 _ _ _ hK3 hQ3 h; cbv
    refine kj ?_
    refine bc h (fun hb h => ?_) fun hb h => ?_
    ·cbv
     refine kj ?_
     cases h
    ·cbv
     refine hQ3 _ h _ _ fun h => ?_; cbv
     iterate 2 refine kj ?_
     refine bc h (fun hb h => ?_) fun hb h => ?_
     ·cbv
      refine kj ?_
      cases h
     ·cbv
      refine kj ?_
      cases h; exact hK2 _ _ [] rfl hdy
   ·cbv
    refine hQ2 _ h _ _ fun h => ?_; cbv
    cases h
    refine hR _ _ ⟨[], ⟨by rfl, ez, by rfl, ez⟩⟩
theorem Aev {A : Ar} (hA : A = std) {x0 : List Rule} {n0 : Int} {q1 : Rule → Rule → Option Int} {g1 : Nat} {cap1 : List D} (hcap1 : capOK cap1) (hq1 : ∀ (y0 : Rule) (y1 : Rule) (r : Int), q1 y0 y1 = some r → PFun cx g1 ((Agm y0) :: (Agm y1) :: un.uns cap1) (it .i64 r)) {r : List Rule} (h : Abk A x0 n0 q1 = some r) : PFunM cx 213 [.ms 1000 0 TyS.rule 0 n0, .fn (.func g1) [] (un.uns cap1)] [⟨1000, 0, .arr 36 TyS.rule x0⟩] (.tu []) [⟨1000, 0, .arr 36 TyS.rule r⟩] := by
 rcases hcap1 with rfl | ⟨dscap1, rfl⟩
 ·refine PFunM.walkM (fz := fun _ => false) hA cx_ok Tryz.func213 rfl rfl fun P R hP hR => ?_
  cbv; unfold Abk at h
  refine kj ?_
  obtain ⟨w1, hw1, h⟩ := bd_e h; refine km hP [(1000, 0)] (Af5 (cap2 := []) hA (by first | exact .inl rfl | exact .inr ⟨_, rfl⟩) hq1 hw1) ?_; cbv
  cases h
  refine hR _ _ ⟨[], ⟨by rfl, ez, by rfl, ez⟩⟩
 ·refine PFunM.walkM (fz := fun _ => false) hA cx_ok Tryz.func213 rfl rfl fun P R hP hR => ?_
  cbv; unfold Abk at h
  refine kj ?_
  obtain ⟨w1, hw1, h⟩ := bd_e h; refine km hP [(1000, 0)] (Af5 (cap2 := [D.ptr dscap1]) hA (by first | exact .inl rfl | exact .inr ⟨_, rfl⟩) hq1 hw1) ?_; cbv
  cases h
  refine hR _ _ ⟨[], ⟨by rfl, ez, by rfl, ez⟩⟩
theorem Am3 {A : Ar} (hA : A = std) {x0 : List Rule} {q1 : Rule → Option ByteArray} {g1 : Nat} {cap1 : List D} (hcap1 : capOK cap1) (hq1 : ∀ (y0 : Rule) (r : ByteArray), q1 y0 = some r → PFun cx g1 ((Agm y0) :: un.uns cap1) (st r)) {r : List Rule} (h : Ad8 A x0 q1 = some r) : PFun cx 138 [.d (.sl TyS.rule x0), .fn (.func g1) [] (un.uns cap1)] (.d (.sl TyS.rule r)) := by
 rcases hcap1 with rfl | ⟨dscap1, rfl⟩
 ·refine PFun.walkF (fz := fun k => k == 3) hA cx_ok Tryz.func138 rfl rfl rfl fun P R hP hR => ?_
  cbv; unfold Ad8 at h
  iterate 2 refine kj ?_
  obtain ⟨w1, hw1, h⟩ := bd_e h; refine km hP [] (Agz hA hw1) ?_; cbv
  refine kj ?_
  obtain ⟨w2, hw2, h⟩ := bd_e h; refine km hP [(7, 1)] (Aev (cap1 := [D.ptr [D.fun (Fn.func g1) [] []]]) hA (by first | exact .inl rfl | exact .inr ⟨_, rfl⟩) (fun _ _ _ hw => Ahy (capc0 := []) hA (by first | exact .inl rfl | exact .inr ⟨_, rfl⟩) hq1 hw) hw2) ?_; cbv
  refine kj ?_
  refine kk h fun c3 h => ?_
  cases h; subst hR; exact ey
 ·refine PFun.walkF (fz := fun k => k == 3) hA cx_ok Tryz.func138 rfl rfl rfl fun P R hP hR => ?_
  cbv; unfold Ad8 at h
  iterate 2 refine kj ?_
  obtain ⟨w1, hw1, h⟩ := bd_e h; refine km hP [] (Agz hA hw1) ?_; cbv
  refine kj ?_
  obtain ⟨w2, hw2, h⟩ := bd_e h; refine km hP [(7, 1)] (Aev (cap1 := [D.ptr [D.fun (Fn.func g1) [] [D.ptr dscap1]]]) hA (by first | exact .inl rfl | exact .inr ⟨_, rfl⟩) (fun _ _ _ hw => Ahy (capc0 := [D.ptr dscap1]) hA (by first | exact .inl rfl | exact .inr ⟨_, rfl⟩) hq1 hw) hw2) ?_; cbv
  refine kj ?_
  refine kk h fun c3 h => ?_
  cases h; subst hR; exact ey
theorem Afn {A : Ar} (hA : A = std) {x0 : List ByteArray} {r : Int × List ByteArray} (h : Aci A x0 = some r) : PFunM cx 216 [.d (.sl TyS.str x0)] [] (.ms 2000 1 TyS.str 0 r.1) [⟨2000, 1, .arr 9 TyS.str r.2⟩] := by
 refine PFunM.walkM (fz := fun k => k == 65541 || k == 65543 || k == 65538 || k == 65538 || k == 65538) hA cx_ok Tryz.func216 rfl rfl fun P R hP hR => ?_
 cbv; unfold Aci at h
 iterate 2 refine kj ?_
 obtain ⟨h1, h2⟩ := A0v h
 refine ⟨fun hc => ?_, ?_⟩
 ·have h := h1 hc
  clear h1 h2
  cbv
  refine kj ?_
  cases h
  refine hR _ _ ⟨[(2, 4)], ⟨by rfl, ez, by rfl, ez⟩⟩
 ·have h := h2
  clear h1 h2
  refine kj ?_
  refine kk h fun c1 h => ?_
  cases h
  refine hR _ _ ⟨[(7, 4)], ⟨by rfl, ez, by rfl, ez⟩⟩
theorem Ag0 {A : Ar} (hA : A = std) {x0 : ByteArray} {x1 : ByteArray} {qc0 : ByteArray → Option ByteArray} {gc0 : Nat} {capc0 : List D} (hcapc0 : capOK capc0) (hqc0 : ∀ (y0 : ByteArray) (r : ByteArray), qc0 y0 = some r → PFun cx gc0 ((st y0) :: un.uns capc0) (st r)) {r : Int} (h : Adj A x0 x1 qc0 = some r) : PFun cx 218 [st x0, st x1, .ip [.fun (.func gc0) [] capc0]] (it .i64 r) := by
 rcases hcapc0 with rfl | ⟨dscapc0, rfl⟩
 all_goals
  refine wF hA cx_ok Tryz.func218 fun P R hP hR => ?_
  cbv; unfold Adj at h
  iterate 2 refine kj ?_
  obtain ⟨w1, hw1, h⟩ := bd_e h; refine kc hP (hqc0 _ _ hw1) ?_; cbv
  obtain ⟨w2, hw2, h⟩ := bd_e h; refine kc hP (hqc0 _ _ hw2) ?_; cbv
  obtain ⟨w3, hw3, h⟩ := bd_e h; refine kc hP (Af8 hA hw3) ?_; cbv
  refine kj ?_
  exact le h hR
theorem Abe {A : Ar} (hA : A = std) {x0 : List ByteArray} {n0 : Int} {x1 : Int} {x2 : Int} {q3 : ByteArray → ByteArray → Option Int} {g3 : Nat} {cap3 : List D} (hcap3 : capOK cap3) (hq3 : ∀ (y0 : ByteArray) (y1 : ByteArray) (r : Int), q3 y0 y1 = some r → PFun cx g3 ((st y0) :: (st y1) :: un.uns cap3) (it .i64 r)) {r : List ByteArray} (h : Aaq A x0 n0 x1 x2 q3 = some r) : PFunM cx 297 [.ms 1000 0 TyS.str 0 n0, it .i64 x1, it .i64 x2, .fn (.func g3) [] (un.uns cap3)] [⟨1000, 0, .arr 9 TyS.str x0⟩] (.tu []) [⟨1000, 0, .arr 9 TyS.str r⟩] := by
 rcases hcap3 with rfl | ⟨dscap3, rfl⟩
 all_goals
  refine PFunM.walkM (fz := fun _ => false) hA cx_ok Tryz.func297 rfl rfl fun P R hP hR => ?_
  cbv; unfold Aaq at h
  refine kj ?_
  refine kl h (fun x _ => [(8, it .i64 x.1)]) (fun x gh => [⟨1000, 0, .arr 9 TyS.str x.2⟩]) [] ?_
  rintro ⟨i8, row1000⟩ gh1 g1 _ _ _ hK1 hQ1 h; cbv
  refine kj ?_
  refine bc h (fun hb h => ?_) fun hb h => ?_
  ·cbv
   refine kj ?_
   refine kl h (fun x _ => [(9, it .i64 x.1)]) (fun x gh => [⟨1000, 0, .arr 9 TyS.str x.2⟩]) [] ?_
   rintro ⟨j9, row1000'⟩ gh2 g2 _ _ _ hK2 hQ2 h; cbv
   refine kj ?_
   iterate 2 refine cj ?_
   refine kk h fun c1 h => ?_
   iterate 2 refine cj ?_
   refine kk h fun c2 h => ?_
   iterate 3 refine cj ?_
   refine kk h fun c3 h => ?_
   iterate 2 refine cj ?_
   refine kk h fun c4 h => ?_
   iterate 3 refine cj ?_
   obtain ⟨w5, hw5, h⟩ := bd_e h; refine kg hP (fun hc => (hq3 _ _ _ (gd_e hw5 hc))) ?_; cbv
   iterate 2 refine cj ?_
   refine kj ?_
   refine bc h (fun hb h => ?_) fun hb h => ?_
   ·cbv
    refine kj ?_
    refine kk h fun c6 h => ?_
    refine kk h fun c7 h => ?_
    refine kk h fun c8 h => ?_
    refine kk h fun c9 h => ?_
    refine ⟨c8, ?_⟩
    refine ⟨c9, ?_⟩
    refine ⟨c6, ?_⟩
    refine kk h fun c10 h => ?_
    iterate 2 refine kj ?_
    cases h; exact hK2 _ _ [] rfl hdy
   ·cbv
    refine hQ2 _ h _ _ fun h => ?_; cbv
    refine kj ?_
    cases h; exact hK1 _ _ [] rfl hdy
  ·cbv
   refine hQ1 _ h _ _ fun h => ?_; cbv
   cases h
   refine hR _ _ ⟨[], ⟨by rfl, ez, by rfl, ez⟩⟩
theorem Afe {A : Ar} (hA : A = std) {x0 : List ByteArray} {n0 : Int} {x1 : Int} {q2 : ByteArray → ByteArray → Option Int} {g2 : Nat} {cap2 : List D} (hcap2 : capOK cap2) (hq2 : ∀ (y0 : ByteArray) (y1 : ByteArray) (r : Int), q2 y0 y1 = some r → PFun cx g2 ((st y0) :: (st y1) :: un.uns cap2) (it .i64 r)) {r : List ByteArray} (h : Abl A x0 n0 x1 q2 = some r) : PFunM cx 270 [.ms 1000 0 TyS.str 0 n0, it .i64 x1, .fn (.func g2) [] (un.uns cap2)] [⟨1000, 0, .arr 9 TyS.str x0⟩] (.tu []) [⟨1000, 0, .arr 9 TyS.str r⟩] := by
 rcases hcap2 with rfl | ⟨dscap2, rfl⟩
 ·refine PFunM.walkM (fz := fun _ => false) hA cx_ok Tryz.func270 rfl rfl fun P R hP hR => ?_
  cbv; unfold Abl at h
  iterate 2 refine kj ?_
  refine kl h (fun x _ => [(7, it .i64 x.1), (8, it .i64 x.2.1)]) (fun x gh => [⟨1000, 0, .arr 9 TyS.str x.2.2⟩]) [] ?_
  rintro ⟨a7, b8, row1000⟩ gh1 g1 _ _ _ hK1 hQ1 h; cbv
  refine kj ?_
  refine bc h (fun hb h => ?_) fun hb h => ?_
  ·cbv
   refine kj ?_
   obtain ⟨w1, hw1, h⟩ := bd_e h; refine km hP [(1000, 0)] (Abe (cap3 := []) hA (by first | exact .inl rfl | exact .inr ⟨_, rfl⟩) hq2 hw1) ?_; cbv
   iterate 2 refine kj ?_
   cases h; exact hK1 _ _ [] rfl hdy
  ·cbv
   refine hQ1 _ h _ _ fun h => ?_; cbv
   refine kj ?_
   obtain ⟨w2, hw2, h⟩ := bd_e h; refine km hP [(1000, 0)] (Abe (cap3 := []) hA (by first | exact .inl rfl | exact .inr ⟨_, rfl⟩) hq2 hw2) ?_; cbv
   refine kl h (fun x _ => [(6, it .i64 x)]) (fun _ _ => [⟨1000, 0, Cell.arr 9 TyS.str w2⟩]) [] ?_
   rintro blockSize6 gh2 g2 _ _ _ hK2 hQ2 h; cbv
   refine kj ?_
   refine bc h (fun hb h => ?_) fun hb h => ?_
   ·cbv
    refine kj ?_
    refine kl h (fun x _ => [(7, it .i64 x.1), (8, it .i64 x.2)]) (fun _ _ => [⟨1000, 0, Cell.arr 9 TyS.str w2⟩]) [] ?_
    rintro ⟨a7', b8'⟩ gh3 g3 _ _ _ hK3 hQ3 h; cbv
    refine kj ?_
    refine bc h (fun hb h => ?_) fun hb h => ?_
    ·cbv
     refine kj ?_
     cases h
    ·cbv
     refine hQ3 _ h _ _ fun h => ?_; cbv
     iterate 2 refine kj ?_
     refine bc h (fun hb h => ?_) fun hb h => ?_
     ·cbv
      refine kj ?_
      cases h
     ·cbv
      refine kj ?_
      cases h; exact hK2 _ _ [] rfl hdy
   ·cbv
    refine hQ2 _ h _ _ fun h => ?_; cbv
    cases h
    refine hR _ _ ⟨[], ⟨by rfl, ez, by rfl, ez⟩⟩
 ·refine PFunM.walkM (fz := fun _ => false) hA cx_ok Tryz.func270 rfl rfl fun P R hP hR => ?_
  cbv; unfold Abl at h
  iterate 2 refine kj ?_
  refine kl h (fun x _ => [(7, it .i64 x.1), (8, it .i64 x.2.1)]) (fun x gh => [⟨1000, 0, .arr 9 TyS.str x.2.2⟩]) [] ?_
  rintro ⟨a7, b8, row1000⟩ gh1 g1 _ _ _ hK1 hQ1 h; cbv
  refine kj ?_
  refine bc h (fun hb h => ?_) fun hb h => ?_
  ·cbv
   refine kj ?_
   obtain ⟨w1, hw1, h⟩ := bd_e h; refine km hP [(1000, 0)] (Abe (cap3 := [D.ptr dscap2]) hA (by first | exact .inl rfl | exact .inr ⟨_, rfl⟩) hq2 hw1) ?_; cbv
   iterate 2 refine kj ?_
   cases h; exact hK1 _ _ [] rfl hdy
  ·cbv
   refine hQ1 _ h _ _ fun h => ?_; cbv
   refine kj ?_
   obtain ⟨w2, hw2, h⟩ := bd_e h; refine km hP [(1000, 0)] (Abe (cap3 := [D.ptr dscap2]) hA (by first | exact .inl rfl | exact .inr ⟨_, rfl⟩) hq2 hw2) ?_; cbv
   refine kl h (fun x _ => [(6, it .i64 x)]) (fun _ _ => [⟨1000, 0, Cell.arr 9 TyS.str w2⟩]) [] ?_
   rintro blockSize6 gh2 g2 _ _ _ hK2 hQ2 h; cbv
   refine kj ?_
   refine bc h (fun hb h => ?_) fun hb h => ?_
   ·cbv
    refine kj ?_
    refine kl h (fun x _ => [(7, it .i64 x.1), (8, it .i64 x.2)]) (fun _ _ => [⟨1000, 0, Cell.arr 9 TyS.str w2⟩]) [] ?_
    rintro ⟨a7', b8'⟩ gh3 g3 _ _ _ hK3 hQ3 h; cbv
    refine kj ?_
    refine bc h (fun hb h => ?_) fun hb h => ?_
    ·cbv
     refine kj ?_
     cases h
    ·cbv
     refine hQ3 _ h _ _ fun h => ?_; cbv
     iterate 2 refine kj ?_
     refine bc h (fun hb h => ?_) fun hb h => ?_
     ·cbv
      refine kj ?_
      cases h
     ·cbv
      refine kj ?_
      cases h; exact hK2 _ _ [] rfl hdy
   ·cbv
    refine hQ2 _ h _ _ fun h => ?_; cbv
    cases h
    refine hR _ _ ⟨[], ⟨by rfl, ez, by rfl, ez⟩⟩
theorem Ad2 {A : Ar} (hA : A = std) {x0 : List ByteArray} {n0 : Int} {q1 : ByteArray → ByteArray → Option Int} {g1 : Nat} {cap1 : List D} (hcap1 : capOK cap1) (hq1 : ∀ (y0 : ByteArray) (y1 : ByteArray) (r : Int), q1 y0 y1 = some r → PFun cx g1 ((st y0) :: (st y1) :: un.uns cap1) (it .i64 r)) {r : List ByteArray} (h : Aa4 A x0 n0 q1 = some r) : PFunM cx 217 [.ms 1000 0 TyS.str 0 n0, .fn (.func g1) [] (un.uns cap1)] [⟨1000, 0, .arr 9 TyS.str x0⟩] (.tu []) [⟨1000, 0, .arr 9 TyS.str r⟩] := by
 rcases hcap1 with rfl | ⟨dscap1, rfl⟩
 ·refine PFunM.walkM (fz := fun _ => false) hA cx_ok Tryz.func217 rfl rfl fun P R hP hR => ?_
  cbv; unfold Aa4 at h
  refine kj ?_
  obtain ⟨w1, hw1, h⟩ := bd_e h; refine km hP [(1000, 0)] (Afe (cap2 := []) hA (by first | exact .inl rfl | exact .inr ⟨_, rfl⟩) hq1 hw1) ?_; cbv
  cases h
  refine hR _ _ ⟨[], ⟨by rfl, ez, by rfl, ez⟩⟩
 ·refine PFunM.walkM (fz := fun _ => false) hA cx_ok Tryz.func217 rfl rfl fun P R hP hR => ?_
  cbv; unfold Aa4 at h
  refine kj ?_
  obtain ⟨w1, hw1, h⟩ := bd_e h; refine km hP [(1000, 0)] (Afe (cap2 := [D.ptr dscap1]) hA (by first | exact .inl rfl | exact .inr ⟨_, rfl⟩) hq1 hw1) ?_; cbv
  cases h
  refine hR _ _ ⟨[], ⟨by rfl, ez, by rfl, ez⟩⟩
theorem Al3 {A : Ar} (hA : A = std) {x0 : List ByteArray} {q1 : ByteArray → Option ByteArray} {g1 : Nat} {cap1 : List D} (hcap1 : capOK cap1) (hq1 : ∀ (y0 : ByteArray) (r : ByteArray), q1 y0 = some r → PFun cx g1 ((st y0) :: un.uns cap1) (st r)) {r : List ByteArray} (h : Ade A x0 q1 = some r) : PFun cx 139 [.d (.sl TyS.str x0), .fn (.func g1) [] (un.uns cap1)] (.d (.sl TyS.str r)) := by
 rcases hcap1 with rfl | ⟨dscap1, rfl⟩
 ·refine PFun.walkF (fz := fun k => k == 3) hA cx_ok Tryz.func139 rfl rfl rfl fun P R hP hR => ?_
  cbv; unfold Ade at h
  iterate 2 refine kj ?_
  obtain ⟨w1, hw1, h⟩ := bd_e h; refine km hP [] (Afn hA hw1) ?_; cbv
  refine kj ?_
  obtain ⟨w2, hw2, h⟩ := bd_e h; refine km hP [(7, 1)] (Ad2 (cap1 := [D.ptr [D.fun (Fn.func g1) [] []]]) hA (by first | exact .inl rfl | exact .inr ⟨_, rfl⟩) (fun _ _ _ hw => Ag0 (capc0 := []) hA (by first | exact .inl rfl | exact .inr ⟨_, rfl⟩) hq1 hw) hw2) ?_; cbv
  refine kj ?_
  refine kk h fun c3 h => ?_
  cases h; subst hR; exact ey
 ·refine PFun.walkF (fz := fun k => k == 3) hA cx_ok Tryz.func139 rfl rfl rfl fun P R hP hR => ?_
  cbv; unfold Ade at h
  iterate 2 refine kj ?_
  obtain ⟨w1, hw1, h⟩ := bd_e h; refine km hP [] (Afn hA hw1) ?_; cbv
  refine kj ?_
  obtain ⟨w2, hw2, h⟩ := bd_e h; refine km hP [(7, 1)] (Ad2 (cap1 := [D.ptr [D.fun (Fn.func g1) [] [D.ptr dscap1]]]) hA (by first | exact .inl rfl | exact .inr ⟨_, rfl⟩) (fun _ _ _ hw => Ag0 (capc0 := [D.ptr dscap1]) hA (by first | exact .inl rfl | exact .inr ⟨_, rfl⟩) hq1 hw) hw2) ?_; cbv
  refine kj ?_
  refine kk h fun c3 h => ?_
  cases h; subst hR; exact ey
theorem Age {A : Ar} (hA : A = std) {x0 : List Hours} {r : Int × List Hours} (h : Acr A x0 = some r) : PFunM cx 219 [.d (.sl TyS.hours x0)] [] (.ms 2000 1 TyS.hours 0 r.1) [⟨2000, 1, .arr 65 TyS.hours r.2⟩] := by
 refine PFunM.walkM (fz := fun k => k == 65541 || k == 65543 || k == 65538 || k == 65538 || k == 65538) hA cx_ok Tryz.func219 rfl rfl fun P R hP hR => ?_
 cbv; unfold Acr at h
 iterate 2 refine kj ?_
 obtain ⟨h1, h2⟩ := A0v h
 refine ⟨fun hc => ?_, ?_⟩
 ·have h := h1 hc
  clear h1 h2
  cbv
  refine kj ?_
  cases h
  refine hR _ _ ⟨[(2, 4)], ⟨by rfl, ez, by rfl, ez⟩⟩
 ·have h := h2
  clear h1 h2
  refine kj ?_
  refine kk h fun c1 h => ?_
  cases h
  refine hR _ _ ⟨[(7, 4)], ⟨by rfl, ez, by rfl, ez⟩⟩
theorem Ahj {A : Ar} (hA : A = std) {x0 : Hours} {x1 : Hours} {qc0 : Hours → Option ByteArray} {gc0 : Nat} {capc0 : List D} (hcapc0 : capOK capc0) (hqc0 : ∀ (y0 : Hours) (r : ByteArray), qc0 y0 = some r → PFun cx gc0 ((Afc y0) :: un.uns capc0) (st r)) {r : Int} (h : Ady A x0 x1 qc0 = some r) : PFun cx 221 [Afc x0, Afc x1, .ip [.fun (.func gc0) [] capc0]] (it .i64 r) := by
 rcases hcapc0 with rfl | ⟨dscapc0, rfl⟩
 all_goals
  refine wF hA cx_ok Tryz.func221 fun P R hP hR => ?_
  cbv; unfold Ady at h
  iterate 2 refine kj ?_
  obtain ⟨w1, hw1, h⟩ := bd_e h; refine kc hP (hqc0 _ _ hw1) ?_; cbv
  obtain ⟨w2, hw2, h⟩ := bd_e h; refine kc hP (hqc0 _ _ hw2) ?_; cbv
  obtain ⟨w3, hw3, h⟩ := bd_e h; refine kc hP (Af8 hA hw3) ?_; cbv
  refine kj ?_
  exact le h hR
theorem Abn {A : Ar} (hA : A = std) {x0 : List Hours} {n0 : Int} {x1 : Int} {x2 : Int} {q3 : Hours → Hours → Option Int} {g3 : Nat} {cap3 : List D} (hcap3 : capOK cap3) (hq3 : ∀ (y0 : Hours) (y1 : Hours) (r : Int), q3 y0 y1 = some r → PFun cx g3 ((Afc y0) :: (Afc y1) :: un.uns cap3) (it .i64 r)) {r : List Hours} (h : Aas A x0 n0 x1 x2 q3 = some r) : PFunM cx 299 [.ms 1000 0 TyS.hours 0 n0, it .i64 x1, it .i64 x2, .fn (.func g3) [] (un.uns cap3)] [⟨1000, 0, .arr 65 TyS.hours x0⟩] (.tu []) [⟨1000, 0, .arr 65 TyS.hours r⟩] := by
 rcases hcap3 with rfl | ⟨dscap3, rfl⟩
 all_goals
  refine PFunM.walkM (fz := fun _ => false) hA cx_ok Tryz.func299 rfl rfl fun P R hP hR => ?_
  cbv; unfold Aas at h
  refine kj ?_
  refine kl h (fun x _ => [(8, it .i64 x.1)]) (fun x gh => [⟨1000, 0, .arr 65 TyS.hours x.2⟩]) [] ?_
  rintro ⟨i8, row1000⟩ gh1 g1 _ _ _ hK1 hQ1 h; cbv
  refine kj ?_
  refine bc h (fun hb h => ?_) fun hb h => ?_
  ·cbv
   refine kj ?_
   refine kl h (fun x _ => [(9, it .i64 x.1)]) (fun x gh => [⟨1000, 0, .arr 65 TyS.hours x.2⟩]) [] ?_
   rintro ⟨j9, row1000'⟩ gh2 g2 _ _ _ hK2 hQ2 h; cbv
   refine kj ?_
   iterate 2 refine cj ?_
   refine kk h fun c1 h => ?_
   iterate 2 refine cj ?_
   refine kk h fun c2 h => ?_
   iterate 3 refine cj ?_
   refine kk h fun c3 h => ?_
   iterate 2 refine cj ?_
   refine kk h fun c4 h => ?_
   iterate 3 refine cj ?_
   obtain ⟨w5, hw5, h⟩ := bd_e h; refine kg hP (fun hc => (hq3 _ _ _ (gd_e hw5 hc))) ?_; cbv
   iterate 2 refine cj ?_
   refine kj ?_
   refine bc h (fun hb h => ?_) fun hb h => ?_
   ·cbv
    refine kj ?_
    refine kk h fun c6 h => ?_
    refine kk h fun c7 h => ?_
    refine kk h fun c8 h => ?_
    refine kk h fun c9 h => ?_
    refine ⟨c8, ?_⟩
    refine ⟨c9, ?_⟩
    refine ⟨c6, ?_⟩
    refine kk h fun c10 h => ?_
    iterate 2 refine kj ?_
    cases h; exact hK2 _ _ [] rfl hdy
   ·cbv
    refine hQ2 _ h _ _ fun h => ?_; cbv
    refine kj ?_
    cases h; exact hK1 _ _ [] rfl hdy
  ·cbv
   refine hQ1 _ h _ _ fun h => ?_; cbv
   cases h
   refine hR _ _ ⟨[], ⟨by rfl, ez, by rfl, ez⟩⟩
theorem Afo {A : Ar} (hA : A = std) {x0 : List Hours} {n0 : Int} {x1 : Int} {q2 : Hours → Hours → Option Int} {g2 : Nat} {cap2 : List D} (hcap2 : capOK cap2) (hq2 : ∀ (y0 : Hours) (y1 : Hours) (r : Int), q2 y0 y1 = some r → PFun cx g2 ((Afc y0) :: (Afc y1) :: un.uns cap2) (it .i64 r)) {r : List Hours} (h : Abq A x0 n0 x1 q2 = some r) : PFunM cx 271 [.ms 1000 0 TyS.hours 0 n0, it .i64 x1, .fn (.func g2) [] (un.uns cap2)] [⟨1000, 0, .arr 65 TyS.hours x0⟩] (.tu []) [⟨1000, 0, .arr 65 TyS.hours r⟩] := by
 rcases hcap2 with rfl | ⟨dscap2, rfl⟩
 ·refine PFunM.walkM (fz := fun _ => false) hA cx_ok Tryz.func271 rfl rfl fun P R hP hR => ?_
  cbv; unfold Abq at h
  iterate 2 refine kj ?_
  refine kl h (fun x _ => [(7, it .i64 x.1), (8, it .i64 x.2.1)]) (fun x gh => [⟨1000, 0, .arr 65 TyS.hours x.2.2⟩]) [] ?_
  rintro ⟨a7, b8, row1000⟩ gh1 g1 _ _ _ hK1 hQ1 h; cbv
  refine kj ?_
  refine bc h (fun hb h => ?_) fun hb h => ?_
  ·cbv
   refine kj ?_
   obtain ⟨w1, hw1, h⟩ := bd_e h; refine km hP [(1000, 0)] (Abn (cap3 := []) hA (by first | exact .inl rfl | exact .inr ⟨_, rfl⟩) hq2 hw1) ?_; cbv
   iterate 2 refine kj ?_
   cases h; exact hK1 _ _ [] rfl hdy
  ·cbv
   refine hQ1 _ h _ _ fun h => ?_; cbv
   refine kj ?_
   obtain ⟨w2, hw2, h⟩ := bd_e h; refine km hP [(1000, 0)] (Abn (cap3 := []) hA (by first | exact .inl rfl | exact .inr ⟨_, rfl⟩) hq2 hw2) ?_; cbv
   refine kl h (fun x _ => [(6, it .i64 x)]) (fun _ _ => [⟨1000, 0, Cell.arr 65 TyS.hours w2⟩]) [] ?_
   rintro blockSize6 gh2 g2 _ _ _ hK2 hQ2 h; cbv
   refine kj ?_
   refine bc h (fun hb h => ?_) fun hb h => ?_
   ·cbv
    refine kj ?_
    refine kl h (fun x _ => [(7, it .i64 x.1), (8, it .i64 x.2)]) (fun _ _ => [⟨1000, 0, Cell.arr 65 TyS.hours w2⟩]) [] ?_
    rintro ⟨a7', b8'⟩ gh3 g3 _ _ _ hK3 hQ3 h; cbv
    refine kj ?_
    refine bc h (fun hb h => ?_) fun hb h => ?_
    ·cbv
     refine kj ?_
     cases h
    ·cbv
     refine hQ3 _ h _ _ fun h => ?_; cbv
     iterate 2 refine kj ?_
     refine bc h (fun hb h => ?_) fun hb h => ?_
     ·cbv
      refine kj ?_
      cases h
     ·cbv
      refine kj ?_
      cases h; exact hK2 _ _ [] rfl hdy
   ·cbv
    refine hQ2 _ h _ _ fun h => ?_; cbv
    cases h
    refine hR _ _ ⟨[], ⟨by rfl, ez, by rfl, ez⟩⟩
 ·refine PFunM.walkM (fz := fun _ => false) hA cx_ok Tryz.func271 rfl rfl fun P R hP hR => ?_
  cbv; unfold Abq at h
  iterate 2 refine kj ?_
  refine kl h (fun x _ => [(7, it .i64 x.1), (8, it .i64 x.2.1)]) (fun x gh => [⟨1000, 0, .arr 65 TyS.hours x.2.2⟩]) [] ?_
  rintro ⟨a7, b8, row1000⟩ gh1 g1 _ _ _ hK1 hQ1 h; cbv
  refine kj ?_
  refine bc h (fun hb h => ?_) fun hb h => ?_
  ·cbv
   refine kj ?_
   obtain ⟨w1, hw1, h⟩ := bd_e h; refine km hP [(1000, 0)] (Abn (cap3 := [D.ptr dscap2]) hA (by first | exact .inl rfl | exact .inr ⟨_, rfl⟩) hq2 hw1) ?_; cbv
   iterate 2 refine kj ?_
   cases h; exact hK1 _ _ [] rfl hdy
  ·cbv
   refine hQ1 _ h _ _ fun h => ?_; cbv
   refine kj ?_
   obtain ⟨w2, hw2, h⟩ := bd_e h; refine km hP [(1000, 0)] (Abn (cap3 := [D.ptr dscap2]) hA (by first | exact .inl rfl | exact .inr ⟨_, rfl⟩) hq2 hw2) ?_; cbv
   refine kl h (fun x _ => [(6, it .i64 x)]) (fun _ _ => [⟨1000, 0, Cell.arr 65 TyS.hours w2⟩]) [] ?_
   rintro blockSize6 gh2 g2 _ _ _ hK2 hQ2 h; cbv
   refine kj ?_
   refine bc h (fun hb h => ?_) fun hb h => ?_
   ·cbv
    refine kj ?_
    refine kl h (fun x _ => [(7, it .i64 x.1), (8, it .i64 x.2)]) (fun _ _ => [⟨1000, 0, Cell.arr 65 TyS.hours w2⟩]) [] ?_
    rintro ⟨a7', b8'⟩ gh3 g3 _ _ _ hK3 hQ3 h; cbv
    refine kj ?_
    refine bc h (fun hb h => ?_) fun hb h => ?_
    ·cbv
     refine kj ?_
     cases h
    ·cbv
     refine hQ3 _ h _ _ fun h => ?_; cbv
     iterate 2 refine kj ?_
     refine bc h (fun hb h => ?_) fun hb h => ?_
     ·cbv
      refine kj ?_
      cases h
     ·cbv
      refine kj ?_
      cases h; exact hK2 _ _ [] rfl hdy
   ·cbv
    refine hQ2 _ h _ _ fun h => ?_; cbv
    cases h
    refine hR _ _ ⟨[], ⟨by rfl, ez, by rfl, ez⟩⟩
theorem Ael {A : Ar} (hA : A = std) {x0 : List Hours} {n0 : Int} {q1 : Hours → Hours → Option Int} {g1 : Nat} {cap1 : List D} (hcap1 : capOK cap1) (hq1 : ∀ (y0 : Hours) (y1 : Hours) (r : Int), q1 y0 y1 = some r → PFun cx g1 ((Afc y0) :: (Afc y1) :: un.uns cap1) (it .i64 r)) {r : List Hours} (h : Aa8 A x0 n0 q1 = some r) : PFunM cx 220 [.ms 1000 0 TyS.hours 0 n0, .fn (.func g1) [] (un.uns cap1)] [⟨1000, 0, .arr 65 TyS.hours x0⟩] (.tu []) [⟨1000, 0, .arr 65 TyS.hours r⟩] := by
 rcases hcap1 with rfl | ⟨dscap1, rfl⟩
 ·refine PFunM.walkM (fz := fun _ => false) hA cx_ok Tryz.func220 rfl rfl fun P R hP hR => ?_
  cbv; unfold Aa8 at h
  refine kj ?_
  obtain ⟨w1, hw1, h⟩ := bd_e h; refine km hP [(1000, 0)] (Afo (cap2 := []) hA (by first | exact .inl rfl | exact .inr ⟨_, rfl⟩) hq1 hw1) ?_; cbv
  cases h
  refine hR _ _ ⟨[], ⟨by rfl, ez, by rfl, ez⟩⟩
 ·refine PFunM.walkM (fz := fun _ => false) hA cx_ok Tryz.func220 rfl rfl fun P R hP hR => ?_
  cbv; unfold Aa8 at h
  refine kj ?_
  obtain ⟨w1, hw1, h⟩ := bd_e h; refine km hP [(1000, 0)] (Afo (cap2 := [D.ptr dscap1]) hA (by first | exact .inl rfl | exact .inr ⟨_, rfl⟩) hq1 hw1) ?_; cbv
  cases h
  refine hR _ _ ⟨[], ⟨by rfl, ez, by rfl, ez⟩⟩
theorem Amu {A : Ar} (hA : A = std) {x0 : List Hours} {q1 : Hours → Option ByteArray} {g1 : Nat} {cap1 : List D} (hcap1 : capOK cap1) (hq1 : ∀ (y0 : Hours) (r : ByteArray), q1 y0 = some r → PFun cx g1 ((Afc y0) :: un.uns cap1) (st r)) {r : List Hours} (h : Adn A x0 q1 = some r) : PFun cx 140 [.d (.sl TyS.hours x0), .fn (.func g1) [] (un.uns cap1)] (.d (.sl TyS.hours r)) := by
 rcases hcap1 with rfl | ⟨dscap1, rfl⟩
 ·refine PFun.walkF (fz := fun k => k == 3) hA cx_ok Tryz.func140 rfl rfl rfl fun P R hP hR => ?_
  cbv; unfold Adn at h
  iterate 2 refine kj ?_
  obtain ⟨w1, hw1, h⟩ := bd_e h; refine km hP [] (Age hA hw1) ?_; cbv
  refine kj ?_
  obtain ⟨w2, hw2, h⟩ := bd_e h; refine km hP [(7, 1)] (Ael (cap1 := [D.ptr [D.fun (Fn.func g1) [] []]]) hA (by first | exact .inl rfl | exact .inr ⟨_, rfl⟩) (fun _ _ _ hw => Ahj (capc0 := []) hA (by first | exact .inl rfl | exact .inr ⟨_, rfl⟩) hq1 hw) hw2) ?_; cbv
  refine kj ?_
  refine kk h fun c3 h => ?_
  cases h; subst hR; exact ey
 ·refine PFun.walkF (fz := fun k => k == 3) hA cx_ok Tryz.func140 rfl rfl rfl fun P R hP hR => ?_
  cbv; unfold Adn at h
  iterate 2 refine kj ?_
  obtain ⟨w1, hw1, h⟩ := bd_e h; refine km hP [] (Age hA hw1) ?_; cbv
  refine kj ?_
  obtain ⟨w2, hw2, h⟩ := bd_e h; refine km hP [(7, 1)] (Ael (cap1 := [D.ptr [D.fun (Fn.func g1) [] [D.ptr dscap1]]]) hA (by first | exact .inl rfl | exact .inr ⟨_, rfl⟩) (fun _ _ _ hw => Ahj (capc0 := [D.ptr dscap1]) hA (by first | exact .inl rfl | exact .inr ⟨_, rfl⟩) hq1 hw) hw2) ?_; cbv
  refine kj ?_
  refine kk h fun c3 h => ?_
  cases h; subst hR; exact ey
theorem Aic {A : Ar} (hA : A = std) {x0 : List Inhibit} {r : Int × List Inhibit} (h : Ab2 A x0 = some r) : PFunM cx 222 [.d (.sl TyS.inhibit x0)] [] (.ms 2000 1 TyS.inhibit 0 r.1) [⟨2000, 1, .arr 61 TyS.inhibit r.2⟩] := by
 refine PFunM.walkM (fz := fun k => k == 65541 || k == 65543 || k == 65538 || k == 65538 || k == 65538) hA cx_ok Tryz.func222 rfl rfl fun P R hP hR => ?_
 cbv; unfold Ab2 at h
 iterate 2 refine kj ?_
 obtain ⟨h1, h2⟩ := A0v h
 refine ⟨fun hc => ?_, ?_⟩
 ·have h := h1 hc
  clear h1 h2
  cbv
  refine kj ?_
  cases h
  refine hR _ _ ⟨[(2, 4)], ⟨by rfl, ez, by rfl, ez⟩⟩
 ·have h := h2
  clear h1 h2
  refine kj ?_
  refine kk h fun c1 h => ?_
  cases h
  refine hR _ _ ⟨[(7, 4)], ⟨by rfl, ez, by rfl, ez⟩⟩
theorem Akv {A : Ar} (hA : A = std) {x0 : Inhibit} {x1 : Inhibit} {c0 : Bool} {r : Int × Bool} (h : Ac7 A x0 x1 c0 = some r) : PFunM cx 224 [Aee x0, Aee x1, .bx 1000 0 0] [⟨1000, 0, .box 122 [.fn (.func 137) [] [.bx 1001 0 0]]⟩, ⟨1001, 0, .box 4 [bl c0]⟩] (it .i64 r.1) [⟨1000, 0, .box 122 [.fn (.func 137) [] [.bx 1001 0 0]]⟩, ⟨1001, 0, .box 4 [bl r.2]⟩] := by
 refine PFunM.walkM (fz := fun _ => false) hA cx_ok Tryz.func224 rfl rfl fun P R hP hR => ?_
 cbv; unfold Ac7 at h
 iterate 2 refine kj ?_
 obtain ⟨w1, hw1, h⟩ := bd_e h; refine km hP [(1001, 0)] (Af4 hA hw1) ?_; cbv
 obtain ⟨w2, hw2, h⟩ := bd_e h; refine km hP [(1001, 0)] (Af4 hA hw2) ?_; cbv
 obtain ⟨w3, hw3, h⟩ := bd_e h; refine kc hP (Af8 hA hw3) ?_; cbv
 refine kj ?_
 cases h
 refine hR _ _ ⟨[], ⟨by rfl, ez, by rfl, ez⟩⟩
theorem Ad3 {A : Ar} (hA : A = std) {x0 : List Inhibit} {n0 : Int} {x1 : Int} {x2 : Int} {c0 : Bool} {r : List Inhibit × Bool} (h : Aao A x0 n0 x1 x2 c0 = some r) : PFunM cx 301 [.ms 1000 0 TyS.inhibit 0 n0, it .i64 x1, it .i64 x2, .fn (.func 224) [] [.bx 1001 0 0]] [⟨1000, 0, .arr 61 TyS.inhibit x0⟩, ⟨1001, 0, .box 122 [.fn (.func 137) [] [.bx 1002 0 0]]⟩, ⟨1002, 0, .box 4 [bl c0]⟩] (.tu []) [⟨1000, 0, .arr 61 TyS.inhibit r.1⟩, ⟨1001, 0, .box 122 [.fn (.func 137) [] [.bx 1002 0 0]]⟩, ⟨1002, 0, .box 4 [bl r.2]⟩] := by
 refine PFunM.walkM (fz := fun k => k == 196629) hA cx_ok Tryz.func301 rfl rfl fun P R hP hR => ?_
 cbv; unfold Aao at h
 refine kj ?_
 refine kl h (fun x _ => [(8, it .i64 x.1)]) (fun x gh => [⟨1001, 0, .box 122 [PV.fn (Fn.func 137) [] [PV.bx 1002 0 0]]⟩, ⟨1002, 0, .box 4 [bl x.2.1]⟩, ⟨1000, 0, .arr 61 TyS.inhibit x.2.2⟩]) [] ?_
 rintro ⟨i8, b0_1002, row1000⟩ gh1 g1 _ _ _ hK1 hQ1 h; cbv
 refine kj ?_
 refine bc h (fun hb h => ?_) fun hb h => ?_
 ·cbv
  refine kj ?_
  refine kl h (fun x _ => [(9, it .i64 x.1)]) (fun x gh => [⟨1001, 0, .box 122 [PV.fn (Fn.func 137) [] [PV.bx 1002 0 0]]⟩, ⟨1002, 0, .box 4 [bl x.2.1]⟩, ⟨1000, 0, .arr 61 TyS.inhibit x.2.2⟩]) [] ?_
  rintro ⟨j9, b0_1002', row1000'⟩ gh2 g2 _ _ _ hK2 hQ2 h; cbv
  refine kj ?_
  obtain ⟨hb, h⟩ | ⟨hb, h⟩ := br_e h
  ·refine selT hb ?_
   cbv
   refine kk h fun c1 h => ?_
   refine kk h fun c2 h => ?_
   refine kk h fun c3 h => ?_
   refine kk h fun c4 h => ?_
   obtain ⟨w5, hw5, h⟩ := bd_e h; refine km hP [(1001, 0), (1002, 0)] (Akv hA hw5) ?_; cbv
   refine kj ?_
   refine bc h (fun hb h => ?_) fun hb h => ?_
   ·cbv
    refine kj ?_
    refine ⟨c3, ?_⟩
    refine ⟨c4, ?_⟩
    refine ⟨c1, ?_⟩
    refine ⟨c2, ?_⟩
    refine ⟨c1, ?_⟩
    refine ⟨c2, ?_⟩
    refine ⟨c3, ?_⟩
    refine kk h fun c6 h => ?_
    iterate 2 refine kj ?_
    cases h; exact hK2 _ _ [] rfl hdy
   ·cbv
    refine hQ2 _ h _ _ fun h => ?_; cbv
    refine kj ?_
    cases h; exact hK1 _ _ [] rfl hdy
  ·refine selF hb ?_
   cbv
   refine kj ?_
   refine bc h (fun hb h => ?_) fun hb h => ?_
   ·cbv
    refine kj ?_
    refine kk h fun c7 h => ?_
    refine kk h fun c8 h => ?_
    refine kk h fun c9 h => ?_
    refine kk h fun c10 h => ?_
    refine ⟨c9, ?_⟩
    refine ⟨c10, ?_⟩
    refine ⟨c7, ?_⟩
    refine kk h fun c11 h => ?_
    iterate 2 refine kj ?_
    cases h; exact hK2 _ _ [] rfl hdy
   ·cbv
    refine hQ2 _ h _ _ fun h => ?_; cbv
    refine kj ?_
    cases h; exact hK1 _ _ [] rfl hdy
 ·cbv
  refine hQ1 _ h _ _ fun h => ?_; cbv
  cases h
  refine hR _ _ ⟨[], ⟨by rfl, ez, by rfl, ez⟩⟩
theorem Aid {A : Ar} (hA : A = std) {x0 : List Inhibit} {n0 : Int} {x1 : Int} {c0 : Bool} {r : List Inhibit × Bool} (h : Ab3 A x0 n0 x1 c0 = some r) : PFunM cx 272 [.ms 1000 0 TyS.inhibit 0 n0, it .i64 x1, .fn (.func 224) [] [.bx 1001 0 0]] [⟨1000, 0, .arr 61 TyS.inhibit x0⟩, ⟨1001, 0, .box 122 [.fn (.func 137) [] [.bx 1002 0 0]]⟩, ⟨1002, 0, .box 4 [bl c0]⟩] (.tu []) [⟨1000, 0, .arr 61 TyS.inhibit r.1⟩, ⟨1001, 0, .box 122 [.fn (.func 137) [] [.bx 1002 0 0]]⟩, ⟨1002, 0, .box 4 [bl r.2]⟩] := by
 refine PFunM.walkM (fz := fun _ => false) hA cx_ok Tryz.func272 rfl rfl fun P R hP hR => ?_
 cbv; unfold Ab3 at h
 iterate 2 refine kj ?_
 refine kl h (fun x _ => [(7, it .i64 x.1), (8, it .i64 x.2.1)]) (fun x gh => [⟨1001, 0, .box 122 [PV.fn (Fn.func 137) [] [PV.bx 1002 0 0]]⟩, ⟨1002, 0, .box 4 [bl x.2.2.1]⟩, ⟨1000, 0, .arr 61 TyS.inhibit x.2.2.2⟩]) [] ?_
 rintro ⟨a7, b8, b0_1002, row1000⟩ gh1 g1 _ _ _ hK1 hQ1 h; cbv
 refine kj ?_
 refine bc h (fun hb h => ?_) fun hb h => ?_
 ·cbv
  refine kj ?_
  obtain ⟨w1, hw1, h⟩ := bd_e h; refine km hP [(1000, 0), (1001, 0), (1002, 0)] (Ad3 hA hw1) ?_; cbv
  iterate 2 refine kj ?_
  cases h; exact hK1 _ _ [] rfl hdy
 ·cbv
  refine hQ1 _ h _ _ fun h => ?_; cbv
  refine kj ?_
  obtain ⟨w2, hw2, h⟩ := bd_e h; refine km hP [(1000, 0), (1001, 0), (1002, 0)] (Ad3 hA hw2) ?_; cbv
  refine kl h (fun x _ => [(6, it .i64 x)]) (fun x gh => [⟨1001, 0, .box 122 [PV.fn (Fn.func 137) [] [PV.bx 1002 0 0]]⟩, ⟨1002, 0, .box 4 [bl w2.2]⟩, ⟨1000, 0, Cell.arr 61 TyS.inhibit w2.1⟩]) [] ?_
  rintro blockSize6 gh2 g2 _ _ _ hK2 hQ2 h; cbv
  refine kj ?_
  refine bc h (fun hb h => ?_) fun hb h => ?_
  ·cbv
   refine kj ?_
   refine kl h (fun x _ => [(7, it .i64 x.1), (8, it .i64 x.2)]) (fun x gh => [⟨1001, 0, .box 122 [PV.fn (Fn.func 137) [] [PV.bx 1002 0 0]]⟩, ⟨1002, 0, .box 4 [bl w2.2]⟩, ⟨1000, 0, Cell.arr 61 TyS.inhibit w2.1⟩]) [] ?_
   rintro ⟨a7', b8'⟩ gh3 g3 _ _ _ hK3 hQ3 h; cbv
   refine kj ?_
   refine bc h (fun hb h => ?_) fun hb h => ?_
   ·cbv
    refine kj ?_
    cases h
   ·cbv
    refine hQ3 _ h _ _ fun h => ?_; cbv
    iterate 2 refine kj ?_
    refine bc h (fun hb h => ?_) fun hb h => ?_
    ·cbv
     refine kj ?_
     cases h
    ·cbv
     refine kj ?_
     cases h; exact hK2 _ _ [] rfl hdy
  ·cbv
   refine hQ2 _ h _ _ fun h => ?_; cbv
   cases h
   refine hR _ _ ⟨[], ⟨by rfl, ez, by rfl, ez⟩⟩
theorem Agb {A : Ar} (hA : A = std) {x0 : List Inhibit} {n0 : Int} {c0 : Bool} {r : List Inhibit × Bool} (h : Abg A x0 n0 c0 = some r) : PFunM cx 223 [.ms 1000 0 TyS.inhibit 0 n0, .fn (.func 224) [] [.bx 1001 0 0]] [⟨1000, 0, .arr 61 TyS.inhibit x0⟩, ⟨1001, 0, .box 122 [.fn (.func 137) [] [.bx 1002 0 0]]⟩, ⟨1002, 0, .box 4 [bl c0]⟩] (.tu []) [⟨1000, 0, .arr 61 TyS.inhibit r.1⟩, ⟨1001, 0, .box 122 [.fn (.func 137) [] [.bx 1002 0 0]]⟩, ⟨1002, 0, .box 4 [bl r.2]⟩] := by
 refine PFunM.walkM (fz := fun _ => false) hA cx_ok Tryz.func223 rfl rfl fun P R hP hR => ?_
 cbv; unfold Abg at h
 refine kj ?_
 obtain ⟨w1, hw1, h⟩ := bd_e h; refine km hP [(1000, 0), (1001, 0), (1002, 0)] (Aid hA hw1) ?_; cbv
 cases h
 refine hR _ _ ⟨[], ⟨by rfl, ez, by rfl, ez⟩⟩
theorem Alh {A : Ar} (hA : A = std) {x0 : List Inhibit} {c0 : Bool} {r : Int × List Inhibit × Bool} (h : Adz A x0 c0 = some r) : PFunM cx 142 [.d (.sl TyS.inhibit x0), .fn (.func 137) [] [.bx 1000 0 0]] [⟨1000, 0, .box 4 [bl c0]⟩] (.ms 2000 1 TyS.inhibit 0 r.1) [⟨1000, 0, .box 4 [bl r.2.2]⟩, ⟨2000, 1, .arr 61 TyS.inhibit r.2.1⟩] := by
 refine PFunM.walkM (fz := fun _ => false) hA cx_ok Tryz.func142 rfl rfl fun P R hP hR => ?_
 cbv; unfold Adz at h
 iterate 2 refine kj ?_
 obtain ⟨w1, hw1, h⟩ := bd_e h; refine km hP [] (Aic hA hw1) ?_; cbv
 refine kj ?_
 obtain ⟨w2, hw2, h⟩ := bd_e h; refine km hP [(7, 3), (3, 2), (1000, 0)] (Agb hA hw2) ?_; cbv
 refine kj ?_
 cases h
 refine hR _ _ ⟨[(7, 3)], ⟨by rfl, ez, by rfl, ez⟩⟩
theorem Akw {A : Ar} (hA : A = std) {x0 : Inhibit} {x1 : Inhibit} {c0 : Bool} {r : Bool × Bool} (h : Afb A x0 x1 c0 = some r) : PFunM cx 143 [Aee x0, Aee x1, .bx 1000 0 0] [⟨1000, 0, .box 122 [.fn (.func 137) [] [.bx 1001 0 0]]⟩, ⟨1001, 0, .box 4 [bl c0]⟩] (bl r.1) [⟨1000, 0, .box 122 [.fn (.func 137) [] [.bx 1001 0 0]]⟩, ⟨1001, 0, .box 4 [bl r.2]⟩] := by
 refine PFunM.walkM (fz := fun _ => false) hA cx_ok Tryz.func143 rfl rfl fun P R hP hR => ?_
 cbv; unfold Afb at h
 iterate 2 refine kj ?_
 obtain ⟨w1, hw1, h⟩ := bd_e h; refine km hP [(1001, 0)] (Af4 hA hw1) ?_; cbv
 obtain ⟨w2, hw2, h⟩ := bd_e h; refine km hP [(1001, 0)] (Af4 hA hw2) ?_; cbv
 refine kj ?_
 cases h
 refine hR _ _ ⟨[], ⟨by rfl, ez, by rfl, ez⟩⟩
theorem Agx {A : Ar} (hA : A = std) {x0 : List Inhibit} {n0 : Int} {c0 : Bool} {r : Int × Int × List Inhibit × Bool} (h : Aa6 A x0 n0 c0 = some r) : PFunM cx 141 [.ms 1000 0 TyS.inhibit 0 n0, .fn (.func 143) [] [.bx 1001 0 0]] [⟨1000, 0, .arr 61 TyS.inhibit x0⟩, ⟨1001, 0, .box 122 [.fn (.func 137) [] [.bx 1002 0 0]]⟩, ⟨1002, 0, .box 4 [bl c0]⟩] (.ms 1000 0 TyS.inhibit r.1 r.2.1) [⟨1000, 0, .arr 61 TyS.inhibit r.2.2.1⟩, ⟨1001, 0, .box 122 [.fn (.func 137) [] [.bx 1002 0 0]]⟩, ⟨1002, 0, .box 4 [bl r.2.2.2]⟩] := by
 refine PFunM.walkM (fz := fun _ => false) hA cx_ok Tryz.func141 rfl rfl fun P R hP hR => ?_
 cbv; unfold Aa6 at h
 iterate 2 refine kj ?_
 refine bc h (fun hb h => ?_) fun hb h => ?_
 ·cbv
  refine kj ?_
  cases h
  refine hR _ _ ⟨[], ⟨by rfl, ez, by rfl, ez⟩⟩
 ·cbv
  refine kj ?_
  refine kl h (fun x _ => [(5, it .i64 x.1)]) (fun x gh => [⟨1001, 0, .box 122 [PV.fn (Fn.func 137) [] [PV.bx 1002 0 0]]⟩, ⟨1002, 0, .box 4 [bl x.2]⟩, ⟨1000, 0, Cell.arr 61 TyS.inhibit x0⟩]) [] ?_
  rintro ⟨t5, b0_1002⟩ gh1 g1 _ _ _ hK1 hQ1 h; cbv
  refine kj ?_
  refine bc h (fun hb h => ?_) fun hb h => ?_
  ·cbv
   refine kj ?_
   refine kk h fun c1 h => ?_
   refine kk h fun c2 h => ?_
   refine kk h fun c3 h => ?_
   refine kk h fun c4 h => ?_
   obtain ⟨w5, hw5, h⟩ := bd_e h; refine km hP [(1001, 0), (1002, 0)] (Akw hA hw5) ?_; cbv
   refine kj ?_
   refine bc h (fun hb h => ?_) fun hb h => ?_
   ·cbv
    refine kj ?_
    refine kk h fun c6 h => ?_
    refine kj ?_
    refine kl h (fun x _ => [(5, it .i64 x.1), (7, it .i64 x.2.1)]) (fun x gh => [⟨1001, 0, .box 122 [PV.fn (Fn.func 137) [] [PV.bx 1002 0 0]]⟩, ⟨1002, 0, .box 4 [bl x.2.2.1]⟩, ⟨1000, 0, .arr 61 TyS.inhibit x.2.2.2⟩]) [] ?_
    rintro ⟨t5', t7, b0_1002', row1000⟩ gh2 g2 _ _ _ hK2 hQ2 h; cbv
    refine kj ?_
    refine bc h (fun hb h => ?_) fun hb h => ?_
    ·cbv
     refine kj ?_
     refine kk h fun c7 h => ?_
     refine kk h fun c8 h => ?_
     refine kk h fun c9 h => ?_
     refine kk h fun c10 h => ?_
     obtain ⟨w11, hw11, h⟩ := bd_e h; refine km hP [(1001, 0), (1002, 0)] (Akw hA hw11) ?_; cbv
     refine kj ?_
     refine bc h (fun hb h => ?_) fun hb h => ?_
     ·cbv
      refine kj ?_
      refine ⟨c7, ?_⟩
      refine ⟨c8, ?_⟩
      refine kk h fun c12 h => ?_
      refine kk h fun c13 h => ?_
      iterate 2 refine kj ?_
      cases h; exact hK2 _ _ [] rfl hdy
     ·cbv
      refine kj ?_
      cases h; exact hK2 _ _ [] rfl hdy
    ·cbv
     refine hQ2 _ h _ _ fun h => ?_; cbv
     refine kj ?_
     refine kk h fun c14 h => ?_
     refine kk h fun c15 h => ?_
     refine kj ?_
     refine kk h fun c16 h => ?_
     refine hQ1 _ h _ _ fun h => ?_; cbv
     cases h
     refine hR _ _ ⟨[], ⟨by rfl, ez, by rfl, ez⟩⟩
   ·cbv
    refine kj ?_
    cases h; exact hK1 _ _ [] rfl hdy
  ·cbv
   refine hQ1 _ h _ _ fun h => ?_; cbv
   refine kj ?_
   cases h
   refine hR _ _ ⟨[], ⟨by rfl, ez, by rfl, ez⟩⟩
theorem Ag7 {A : Ar} (hA : A = std) {x0 : Config} {r : Config × Int} (h : Ads A x0 = some r) : PFun cx 57 [Ah2 x0] (.tu [Ah2 r.1, it .i64 r.2]) := by
 refine wF hA cx_ok Tryz.func57 fun P R hP hR => ?_
 cbv; unfold Ads at h
 iterate 2 refine kj ?_
 obtain ⟨w1, hw1, h⟩ := bd_e h; refine kc hP (Am1 hA hw1) ?_; cbv
 refine bc h (fun hb h => ?_) fun hb h => ?_
 ·cbv
  refine kj ?_
  cases h; subst hR; exact ey
 ·cbv
  iterate 3 refine kj ?_
  obtain ⟨w2, hw2, h⟩ := bd_e h; refine ke hP (Am3 (cap1 := []) hA (by first | exact .inl rfl | exact .inr ⟨_, rfl⟩) (fun _ _ hw => Amy hA hw) hw2) ?_; cbv
  obtain ⟨w3, hw3, h⟩ := bd_e h; refine ke hP (Al3 (cap1 := []) hA (by first | exact .inl rfl | exact .inr ⟨_, rfl⟩) (fun _ _ hw => Amm hA hw) hw3) ?_; cbv
  obtain ⟨w4, hw4, h⟩ := bd_e h; refine ke hP (Amu (cap1 := []) hA (by first | exact .inl rfl | exact .inr ⟨_, rfl⟩) (fun _ _ hw => Amn hA hw) hw4) ?_; cbv
  iterate 2 refine kj ?_
  obtain ⟨w5, hw5, h⟩ := bd_e h; refine km hP [(4, 2)] (Alh hA hw5) ?_; cbv
  obtain ⟨w6, hw6, h⟩ := bd_e h; refine km hP [(26, 5), (5, 3), (4, 2)] (Agx hA hw6) ?_; cbv
  refine kj ?_
  refine kk h fun c7 h => ?_
  cases h; subst hR; exact ey
theorem Aew {A : Ar} (hA : A = std) {r : Bool} (h : Abt A = some r) : PFun cx 25 [] (bl r) := by
 refine wF hA cx_ok Tryz.func25 fun P R hP hR => ?_
 cbv; unfold Abt at h
 iterate 2 refine kj ?_
 obtain ⟨w1, hw1, h⟩ := bd_e h; refine ke hP (Ag7 hA hw1) ?_; cbv
 refine kj ?_
 iterate 8 refine cj ?_
 refine kk h fun c2 h => ?_
 iterate 5 refine cj ?_
 obtain ⟨w3, hw3, h⟩ := bd_e h; refine kg hP (fun hc => (Am1 hA (gd_e hw3 hc))) ?_; cbv
 refine cj ?_
 exact le h hR
theorem At8 {A : Ar} (hA : A = std) {x0 : List Label} {r : List label_mark} (h : Ake A x0 = some r) : PFun cx 237 [.d (.sl TyS.label x0)] (.d (.sl TyS.mark r)) := by
 refine wF hA cx_ok Tryz.func237 fun P R hP hR => ?_
 cbv; unfold Ake at h
 iterate 3 refine kj ?_
 refine kl h (fun x gh => [(3, .os 4030 gh TyS.mark x.1), (8, it .i64 x.2)]) (fun x gh => [⟨4030, gh, .tok 226 TyS.mark (A.nlen TyS.mark x.1)⟩]) [] ?_
 rintro ⟨out3, t8⟩ gh1 g1 _ _ _ hK1 hQ1 h; cbv
 refine kj ?_
 refine bc h (fun hb h => ?_) fun hb h => ?_
 ·cbv
  refine kj ?_
  refine kk h fun c1 h => ?_
  refine kj ?_
  refine kk h fun c2 h => ?_
  refine kj ?_
  cases h; exact hK1 _ _ [(4030, 15, g1.succ.succ)] rfl hdy
 ·cbv
  refine hQ1 _ h _ _ fun h => ?_; cbv
  refine kj ?_
  cases h; subst hR; exact ey
theorem Aov {A : Ar} (hA : A = std) {x0 : label_mark} {r : ByteArray} (h : Acb A x0 = some r) : PFun cx 238 [Ax0 x0] (st r) := by
 refine wF hA cx_ok Tryz.func238 fun P R hP hR => ?_
 cbv; unfold Acb at h
 iterate 2 refine kj ?_
 refine kk h fun c1 h => ?_
 obtain ⟨w2, hw2, h⟩ := bd_e h; refine kc hP (Aje hA hw2) ?_; cbv
 obtain ⟨w3, hw3, h⟩ := bd_e h; refine kc hP (Aje hA hw3) ?_; cbv
 refine kk h fun c4 h => ?_
 refine kk h fun c5 h => ?_
 refine kj ?_
 exact le h hR
theorem Avt {A : Ar} (hA : A = std) {x0 : List Label} {r : ByteArray × Int} (h : Ahq A x0 = some r) : PFun cx 175 [.d (.sl TyS.label x0)] (.tu [st r.1, it .i64 r.2]) := by
 refine wF hA cx_ok Tryz.func175 fun P R hP hR => ?_
 cbv; unfold Ahq at h
 iterate 2 refine kj ?_
 obtain ⟨w1, hw1, h⟩ := bd_e h; refine kc hP (Afu hA hw1) ?_; cbv
 refine bc h (fun hb h => ?_) fun hb h => ?_
 ·cbv
  refine kj ?_
  cases h; subst hR; exact ey
 ·cbv
  iterate 2 refine kj ?_
  obtain ⟨w2, hw2, h⟩ := bd_e h; refine kc hP (At8 hA hw2) ?_; cbv
  refine kl h (fun x gh => [(4, .os 4030 gh TyS.str x.1), (13, it .i64 x.2)]) (fun x gh => [⟨4030, gh, .tok 9 TyS.str (A.nlen TyS.str x.1)⟩]) [] ?_
  rintro ⟨parts4, t13⟩ gh1 g1 _ _ _ hK1 hQ1 h; cbv
  refine kj ?_
  refine bc h (fun hb h => ?_) fun hb h => ?_
  ·cbv
   refine kj ?_
   refine kk h fun c3 h => ?_
   refine kj ?_
   obtain ⟨w4, hw4, h⟩ := bd_e h; refine kc hP (Aov hA hw4) ?_; cbv
   refine kk h fun c5 h => ?_
   refine kj ?_
   cases h; exact hK1 _ _ [(4030, 21, g1.succ.succ)] rfl hdy
  ·cbv
   refine hQ1 _ h _ _ fun h => ?_; cbv
   refine kj ?_
   obtain ⟨w6, hw6, h⟩ := bd_e h; refine kc hP (Akl hA hw6) ?_; cbv
   refine kk h fun c7 h => ?_
   refine kk h fun c8 h => ?_
   cases h; subst hR; exact ey
theorem Avu {A : Ar} (hA : A = std) {r : Unit} (h : Aln A = some r) : PFun cx 176 [] (.ag [.d (.v (.string (ByteArray.mk (Array.mk [])))), .d (.v .nilFunc), .d (.v (.string (ByteArray.mk (Array.mk [62])))), .d (.v (.func (.func 239) (Array.mk []) (Array.mk []))), .d (.v (.string (ByteArray.mk (Array.mk [62, 61])))), .d (.v (.func (.func 240) (Array.mk []) (Array.mk []))), .d (.v (.string (ByteArray.mk (Array.mk [60])))), .d (.v (.func (.func 241) (Array.mk []) (Array.mk []))), .d (.v (.string (ByteArray.mk (Array.mk [60, 61])))), .d (.v (.func (.func 242) (Array.mk []) (Array.mk []))), .d (.v (.string (ByteArray.mk (Array.mk [61, 61])))), .d (.v (.func (.func 243) (Array.mk []) (Array.mk [])))]) := by
 refine wF hA cx_ok Tryz.func176 fun P R hP hR => ?_
 cbv; unfold Aln at h
 iterate 2 refine kj ?_
 cases h; subst hR; exact ey
theorem At9 {A : Ar} (hA : A = std) {x0 : Rule} {r : (List ByteArray) × Int} (h : Agi A x0 = some r) : PFun cx 101 [Agm x0] (.tu [.d (.sl TyS.str r.1), it .i64 r.2]) := by
 refine wF hA cx_ok Tryz.func101 fun P R hP hR => ?_
 cbv; unfold Agi at h
 iterate 2 refine kj ?_
 obtain ⟨w1, hw1, h⟩ := bd_e h; refine kc hP (Anu hA hw1) ?_; cbv
 refine bc h (fun hb h => ?_) fun hb h => ?_
 ·cbv
  refine kj ?_
  cases h; subst hR; exact ey
 ·cbv
  refine kj ?_
  obtain ⟨w2, hw2, h⟩ := bd_e h; refine kc hP (Avt hA hw2) ?_; cbv
  refine kj ?_
  obtain ⟨w3, hw3, h⟩ := bd_e h; refine kc hP (Avu hA hw3) ?_; cbv
  refine kk h fun c4 h => ?_
  iterate 2 refine kj ?_
  refine kl h (fun x gh => [(6, .os 4030 gh TyS.str x.1), (38, it .i64 x.2)]) (fun x gh => [⟨4030, gh, .tok 9 TyS.str (A.nlen TyS.str x.1)⟩, ⟨1, 0, .box 36 [st x0.1, st x0.2, it .i64 x0.3, it .i64 x0.4, it .i64 x0.5, it .i64 x0.6, it .i64 x0.7, .d (.sl .label x0.8)]⟩, ⟨36, 4, Cell.tok 3 TyS.int (A.nlen TyS.int [x0.4, x0.5, x0.6, x0.7])⟩]) [(4030, 27, 3)] ?_
  rintro ⟨out6, t38⟩ gh1 g1 _ _ _ hK1 hQ1 h; cbv
  refine kj ?_
  refine bc h (fun hb h => ?_) fun hb h => ?_
  ·cbv
   refine kj ?_
   refine kk h fun c5 h => ?_
   refine kj ?_
   obtain ⟨w6, hw6, h⟩ := bd_e h; refine kc hP (Asu hA hw6) ?_; cbv
   refine kk h fun c7 h => ?_
   refine kj ?_
   cases h; exact hK1 _ _ [(4030, 46, g1.succ.succ)] rfl hdy
  ·cbv
   refine hQ1 _ h _ _ fun h => ?_; cbv
   refine kj ?_
   refine kk h fun c8 h => ?_
   cases h; subst hR; exact ey
theorem Aqe {A : Ar} (hA : A = std) {x0 : Int} {r : ByteArray} (h : Ajd A x0 = some r) : PFun cx 247 [it .i64 x0] (st r) := by
 refine wF hA cx_ok Tryz.func247 fun P R hP hR => ?_
 cbv; unfold Ajd at h
 iterate 2 refine kj ?_
 iterate 2 (refine ⟨by subst hA; simp +contextual [vcm], ?_⟩)
 refine and_assoc.2 ?_
 refine kk h fun c1 h => ?_
 refine and_assoc.2 ?_
 refine kk h fun c2 h => ?_
 refine cj ?_
 exact le h hR
theorem Anx {A : Ar} (hA : A = std) {x0 : Int} {r : ByteArray} (h : Afk A x0 = some r) : PFun cx 179 [it .i64 x0] (st r) := by
 refine wF hA cx_ok Tryz.func179 fun P R hP hR => ?_
 cbv; unfold Afk at h
 iterate 2 refine kj ?_
 refine ⟨by subst hA; simp +contextual [vcm], ?_⟩
 obtain ⟨w1, hw1, h⟩ := bd_e h; refine kc hP (Aqe hA hw1) ?_; cbv
 refine kk h fun c2 h => ?_
 refine ⟨by subst hA; simp +contextual [vcm], ?_⟩
 obtain ⟨w3, hw3, h⟩ := bd_e h; refine kc hP (Aqe hA hw3) ?_; cbv
 refine kk h fun c4 h => ?_
 exact le h hR
theorem Avv {A : Ar} (hA : A = std) {x0 : Hours} {r : ByteArray × Int} (h : Ags A x0 = some r) : PFun cx 102 [Afc x0] (.tu [st r.1, it .i64 r.2]) := by
 refine wF hA cx_ok Tryz.func102 fun P R hP hR => ?_
 cbv; unfold Ags at h
 iterate 2 refine kj ?_
 obtain ⟨w1, hw1, h⟩ := bd_e h; refine kc hP (Anv hA hw1) ?_; cbv
 refine bc h (fun hb h => ?_) fun hb h => ?_
 ·cbv
  refine kj ?_
  cases h; subst hR; exact ey
 ·cbv
  iterate 2 refine kj ?_
  refine kl h (fun x gh => [(4, .os 4030 gh TyS.str x.1), (11, it .i64 x.2)]) (fun x gh => [⟨4030, gh, .tok 9 TyS.str (A.nlen TyS.str x.1)⟩, ⟨1, 0, .box 65 [st x0.1, it .i64 x0.2, it .i64 x0.3, it .i64 x0.4]⟩]) [] ?_
  rintro ⟨l4, t11⟩ gh1 g1 _ _ _ hK1 hQ1 h; cbv
  refine kj ?_
  refine bc h (fun hb h => ?_) fun hb h => ?_
  ·cbv
   refine kj ?_
   refine kk h fun c2 h => ?_
   refine kj ?_
   refine kk h fun c3 h => ?_
   refine bc h (fun hb h => ?_) fun hb h => ?_
   ·cbv
    refine kj ?_
    refine kk h fun c4 h => ?_
    refine kj ?_
    cases h; exact hK1 _ _ [(4030, 24, g1.succ.succ.succ)] rfl hdy
   ·cbv
    refine kj ?_
    cases h; exact hK1 _ _ [(4030, 4030, gh1)] rfl hdy
  ·cbv
   refine hQ1 _ h _ _ fun h => ?_; cbv
   refine kj ?_
   obtain ⟨w5, hw5, h⟩ := bd_e h; refine kc hP (Akl hA hw5) ?_; cbv
   refine kk h fun c6 h => ?_
   obtain ⟨w7, hw7, h⟩ := bd_e h; refine kc hP (Anx hA hw7) ?_; cbv
   refine kk h fun c8 h => ?_
   refine kk h fun c9 h => ?_
   obtain ⟨w10, hw10, h⟩ := bd_e h; refine kc hP (Anx hA hw10) ?_; cbv
   refine kk h fun c11 h => ?_
   refine kj ?_
   cases h; subst hR; exact ey
theorem Apt {A : Ar} (hA : A = std) {rf : Bool → Route → Option (ByteArray × Bool)} {x0 : Bool} {x1 : Route} (hqr105 : ∀ (x0 : Bool) (x1 : Route) (r : ByteArray × Bool), rf x0 x1 = some r → PFunM cx 105 [.bx 1000 0 0, Aba x1] [⟨1000, 0, .box 4 [bl x0]⟩] (st r.1) [⟨1000, 0, .box 4 [bl r.2]⟩]) {r : ByteArray × Bool} (h : Ait A rf x0 x1 = some r) : PFunM cx 105 [.bx 1000 0 0, Aba x1] [⟨1000, 0, .box 4 [bl x0]⟩] (st r.1) [⟨1000, 0, .box 4 [bl r.2]⟩] := by
 refine PFunM.walkM (fz := fun _ => false) hA cx_ok Tryz.func105 rfl rfl fun P R hP hR => ?_
 cbv; unfold Ait at h
 iterate 2 refine kj ?_
 obtain ⟨w1, hw1, h⟩ := bd_e h; refine km hP [(1000, 0)] (Ahx hA hw1) ?_; cbv
 obtain ⟨w2, hw2, h⟩ := bd_e h; refine km hP [(1000, 0)] (Abm hA hw2) ?_; cbv
 obtain ⟨w3, hw3, h⟩ := bd_e h; refine km hP [(1000, 0)] (Abm hA hw3) ?_; cbv
 iterate 2 refine kj ?_
 refine kl h (fun x gh => [(5, .os 4030 gh TyS.str x.1), (37, it .i64 x.2)]) (fun x gh => [⟨4030, gh, .tok 9 TyS.str (A.nlen TyS.str x.1)⟩, ⟨1000, 0, .box 4 [bl w3.2]⟩, ⟨3, 2, .box 27 [st x1.1, .d (.sl .matcher x1.2), .d (.sl .str x1.3), it .i64 x1.4, it .i64 x1.5, it .i64 x1.6, .d (.sl .str x1.7), bl x1.8, .d (.sl .route x1.9)]⟩, ⟨35, 4, Cell.tok 3 TyS.int (A.nlen TyS.int [x1.4, x1.5, x1.6])⟩]) [(4030, 28, 3)] ?_
 rintro ⟨t5, t37⟩ gh1 g1 _ _ _ hK1 hQ1 h; cbv
 refine kj ?_
 refine bc h (fun hb h => ?_) fun hb h => ?_
 ·cbv
  refine kj ?_
  refine kk h fun c4 h => ?_
  refine kj ?_
  obtain ⟨w5, hw5, h⟩ := bd_e h; refine kc hP (Am2 hA hw5) ?_; cbv
  refine kj ?_
  refine kk h fun c6 h => ?_
  refine kj ?_
  cases h; exact hK1 _ _ [(4030, 49, g1.succ.succ.succ)] rfl hdy
 ·cbv
  refine hQ1 _ h _ _ fun h => ?_; cbv
  iterate 2 refine kj ?_
  refine bc h (fun hb h => ?_) fun hb h => ?_
  ·cbv
   iterate 3 refine kj ?_
   refine kl h (fun x gh => [(11, .os 4060 gh TyS.str x.1), (56, it .i64 x.2.1)]) (fun x gh => [⟨4060, gh, .tok 9 TyS.str (A.nlen TyS.str x.1)⟩, ⟨1000, 0, .box 4 [bl x.2.2]⟩, ⟨3, 2, .box 27 [st x1.1, .d (.sl .matcher x1.2), .d (.sl .str x1.3), it .i64 x1.4, it .i64 x1.5, it .i64 x1.6, .d (.sl .str x1.7), bl x1.8, .d (.sl .route x1.9)]⟩, ⟨4030, gh1, Cell.tok 9 TyS.str (A.nlen TyS.str t5)⟩, ⟨35, 4, Cell.tok 3 TyS.int (A.nlen TyS.int [x1.4, x1.5, x1.6])⟩]) [] ?_
   rintro ⟨t11, t56, b0_1000⟩ gh2 g2 _ _ _ hK2 hQ2 h; cbv
   refine kj ?_
   refine bc h (fun hb h => ?_) fun hb h => ?_
   ·cbv
    refine kj ?_
    refine kk h fun c7 h => ?_
    refine kj ?_
    obtain ⟨w8, hw8, h⟩ := bd_e h; refine km hP [(1000, 0)] (hqr105 _ _ _ hw8) ?_; cbv
    refine kk h fun c9 h => ?_
    refine kj ?_
    cases h; exact hK2 _ _ [(4060, 65, g2.succ.succ)] rfl hdy
   ·cbv
    refine hQ2 _ h _ _ fun h => ?_; cbv
    refine kj ?_
    obtain ⟨w10, hw10, h⟩ := bd_e h; refine km hP [(1000, 0)] (Abm hA hw10) ?_; cbv
    refine kk h fun c11 h => ?_
    obtain ⟨w12, hw12, h⟩ := bd_e h; refine km hP [(1000, 0)] (Abm hA hw12) ?_; cbv
    cases h
    refine hR _ _ ⟨[], ⟨by rfl, ez, by rfl, ez⟩⟩
  ·cbv
   iterate 2 refine kj ?_
   refine kl h (fun x gh => [(11, .os 4090 gh TyS.str x.1), (56, it .i64 x.2.1)]) (fun x gh => [⟨4090, gh, .tok 9 TyS.str (A.nlen TyS.str x.1)⟩, ⟨1000, 0, .box 4 [bl x.2.2]⟩, ⟨3, 2, .box 27 [st x1.1, .d (.sl .matcher x1.2), .d (.sl .str x1.3), it .i64 x1.4, it .i64 x1.5, it .i64 x1.6, .d (.sl .str x1.7), bl x1.8, .d (.sl .route x1.9)]⟩, ⟨4030, gh1, Cell.tok 9 TyS.str (A.nlen TyS.str t5)⟩, ⟨35, 4, Cell.tok 3 TyS.int (A.nlen TyS.int [x1.4, x1.5, x1.6])⟩]) [] ?_
   rintro ⟨t11, t56, b0_1000⟩ gh3 g3 _ _ _ hK3 hQ3 h; cbv
   refine kj ?_
   refine bc h (fun hb h => ?_) fun hb h => ?_
   ·cbv
    refine kj ?_
    refine kk h fun c13 h => ?_
    refine kj ?_
    obtain ⟨w14, hw14, h⟩ := bd_e h; refine km hP [(1000, 0)] (hqr105 _ _ _ hw14) ?_; cbv
    refine kk h fun c15 h => ?_
    refine kj ?_
    cases h; exact hK3 _ _ [(4090, 65, g3.succ.succ)] rfl hdy
   ·cbv
    refine hQ3 _ h _ _ fun h => ?_; cbv
    refine kj ?_
    obtain ⟨w16, hw16, h⟩ := bd_e h; refine km hP [(1000, 0)] (Abm hA hw16) ?_; cbv
    refine kk h fun c17 h => ?_
    obtain ⟨w18, hw18, h⟩ := bd_e h; refine km hP [(1000, 0)] (Abm hA hw18) ?_; cbv
    cases h
    refine hR _ _ ⟨[], ⟨by rfl, ez, by rfl, ez⟩⟩
theorem Ali {A : Ar} (hA : A = std) : ∀ (n : Nat) (x0 : Bool) (x1 : Route) (r : ByteArray × Bool), Acm A n x0 x1 = some r → PFunM cx 105 [.bx 1000 0 0, Aba x1] [⟨1000, 0, .box 4 [bl x0]⟩] (st r.1) [⟨1000, 0, .box 4 [bl r.2]⟩]
 | 0, _, _, _, h => by cases h
 | n + 1, x0, x1, r, h => Apt hA (fun _ _ _ hh => Ali hA n _ _ _ hh) h
theorem Ar9 {A : Ar} (hA : A = std) {x0 : Bool} {x1 : Route} {r : ByteArray × Bool} (h : Am7 A x0 x1 = some r) : PFunM cx 105 [.bx 1000 0 0, Aba x1] [⟨1000, 0, .box 4 [bl x0]⟩] (st r.1) [⟨1000, 0, .box 4 [bl r.2]⟩] := Ali hA _ _ _ _ h
theorem Ak5 {A : Ar} (hA : A = std) {x0 : Config} {r : ByteArray × Int} (h : Aec A x0 = some r) : PFun cx 26 [Ah2 x0] (.tu [st r.1, it .i64 r.2]) := by
 refine wF hA cx_ok Tryz.func26 fun P R hP hR => ?_
 cbv; unfold Aec at h
 iterate 2 refine kj ?_
 obtain ⟨w1, hw1, h⟩ := bd_e h; refine kc hP (Ag7 hA hw1) ?_; cbv
 refine kj ?_
 refine bc h (fun hb h => ?_) fun hb h => ?_
 ·cbv
  refine kj ?_
  cases h; subst hR; exact ey
 ·cbv
  iterate 3 refine kj ?_
  refine kl h (fun x gh => [(7, .os 4030 gh TyS.str x.1), (32, it .i64 x.2)]) (fun x gh => [⟨4030, gh, .tok 9 TyS.str (A.nlen TyS.str x.1)⟩, ⟨6, 3, .box 4 [bl false]⟩, ⟨4, 1, .box 31 [.d (.sl .rule w1.1.1), st w1.1.2.1, .d (.sl .matcher w1.1.2.2), .d (.sl .str w1.1.2.3), it .i64 w1.1.2.4, it .i64 w1.1.2.5, it .i64 w1.1.2.6, .d (.sl .str w1.1.2.7), bl w1.1.2.8, .d (.sl .route w1.1.2.9), .d (.sl .str w1.1.3), .d (.sl .inhibit w1.1.4), .d (.sl .hours w1.1.5)]⟩, ⟨1, 0, .box 31 [.d (.sl .rule x0.1), st x0.2.1, .d (.sl .matcher x0.2.2), .d (.sl .str x0.2.3), it .i64 x0.2.4, it .i64 x0.2.5, it .i64 x0.2.6, .d (.sl .str x0.2.7), bl x0.2.8, .d (.sl .route x0.2.9), .d (.sl .str x0.3), .d (.sl .inhibit x0.4), .d (.sl .hours x0.5)]⟩]) [] ?_
  rintro ⟨t7, t32⟩ gh1 g1 _ _ _ hK1 hQ1 h; cbv
  refine kj ?_
  refine bc h (fun hb h => ?_) fun hb h => ?_
  ·cbv
   refine kj ?_
   refine kk h fun c2 h => ?_
   refine kj ?_
   obtain ⟨w3, hw3, h⟩ := bd_e h; refine kc hP (At9 hA hw3) ?_; cbv
   refine kj ?_
   refine kk h fun c4 h => ?_
   refine kj ?_
   cases h; exact hK1 _ _ [(4030, 43, g1.succ.succ.succ)] rfl hdy
  ·cbv
   refine hQ1 _ h _ _ fun h => ?_; cbv
   refine kj ?_
   refine kl h (fun x gh => [(8, .os 4060 gh TyS.str x.1), (48, it .i64 x.2)]) (fun x gh => [⟨4060, gh, .tok 9 TyS.str (A.nlen TyS.str x.1)⟩, ⟨6, 3, .box 4 [bl false]⟩, ⟨4, 1, .box 31 [.d (.sl .rule w1.1.1), st w1.1.2.1, .d (.sl .matcher w1.1.2.2), .d (.sl .str w1.1.2.3), it .i64 w1.1.2.4, it .i64 w1.1.2.5, it .i64 w1.1.2.6, .d (.sl .str w1.1.2.7), bl w1.1.2.8, .d (.sl .route w1.1.2.9), .d (.sl .str w1.1.3), .d (.sl .inhibit w1.1.4), .d (.sl .hours w1.1.5)]⟩, ⟨1, 0, .box 31 [.d (.sl .rule x0.1), st x0.2.1, .d (.sl .matcher x0.2.2), .d (.sl .str x0.2.3), it .i64 x0.2.4, it .i64 x0.2.5, it .i64 x0.2.6, .d (.sl .str x0.2.7), bl x0.2.8, .d (.sl .route x0.2.9), .d (.sl .str x0.3), .d (.sl .inhibit x0.4), .d (.sl .hours x0.5)]⟩, ⟨4030, gh1, Cell.tok 9 TyS.str (A.nlen TyS.str t7)⟩]) [] ?_
   rintro ⟨t8, t48⟩ gh2 g2 _ _ _ hK2 hQ2 h; cbv
   refine kj ?_
   refine bc h (fun hb h => ?_) fun hb h => ?_
   ·cbv
    refine kj ?_
    refine kk h fun c5 h => ?_
    refine kj ?_
    obtain ⟨w6, hw6, h⟩ := bd_e h; refine kc hP (Avv hA hw6) ?_; cbv
    refine kj ?_
    refine kk h fun c7 h => ?_
    refine kj ?_
    cases h; exact hK2 _ _ [(4060, 62, g2.succ.succ.succ)] rfl hdy
   ·cbv
    refine hQ2 _ h _ _ fun h => ?_; cbv
    refine kj ?_
    refine kl h (fun x gh => [(9, .os 4090 gh TyS.str x.1), (67, it .i64 x.2.1)]) (fun x gh => [⟨4090, gh, .tok 9 TyS.str (A.nlen TyS.str x.1)⟩, ⟨6, 3, .box 4 [bl x.2.2]⟩, ⟨4, 1, .box 31 [.d (.sl .rule w1.1.1), st w1.1.2.1, .d (.sl .matcher w1.1.2.2), .d (.sl .str w1.1.2.3), it .i64 w1.1.2.4, it .i64 w1.1.2.5, it .i64 w1.1.2.6, .d (.sl .str w1.1.2.7), bl w1.1.2.8, .d (.sl .route w1.1.2.9), .d (.sl .str w1.1.3), .d (.sl .inhibit w1.1.4), .d (.sl .hours w1.1.5)]⟩, ⟨1, 0, .box 31 [.d (.sl .rule x0.1), st x0.2.1, .d (.sl .matcher x0.2.2), .d (.sl .str x0.2.3), it .i64 x0.2.4, it .i64 x0.2.5, it .i64 x0.2.6, .d (.sl .str x0.2.7), bl x0.2.8, .d (.sl .route x0.2.9), .d (.sl .str x0.3), .d (.sl .inhibit x0.4), .d (.sl .hours x0.5)]⟩, ⟨4060, gh2, Cell.tok 9 TyS.str (A.nlen TyS.str t8)⟩, ⟨4030, gh1, Cell.tok 9 TyS.str (A.nlen TyS.str t7)⟩]) [] ?_
    rintro ⟨t9, t67, b0_6⟩ gh3 g3 _ _ _ hK3 hQ3 h; cbv
    refine kj ?_
    refine bc h (fun hb h => ?_) fun hb h => ?_
    ·cbv
     refine kj ?_
     refine kk h fun c8 h => ?_
     refine kj ?_
     obtain ⟨w9, hw9, h⟩ := bd_e h; refine km hP [(6, 3)] (Alg hA hw9) ?_; cbv
     refine kk h fun c10 h => ?_
     refine kj ?_
     cases h; exact hK3 _ _ [(4090, 75, g3.succ.succ)] rfl hdy
    ·cbv
     refine hQ3 _ h _ _ fun h => ?_; cbv
     refine kj ?_
     obtain ⟨w11, hw11, h⟩ := bd_e h; refine km hP [(6, 3)] (Abm hA hw11) ?_; cbv
     obtain ⟨w12, hw12, h⟩ := bd_e h; refine km hP [(6, 3)] (Abm hA hw12) ?_; cbv
     obtain ⟨w13, hw13, h⟩ := bd_e h; refine km hP [(6, 3)] (Abm hA hw13) ?_; cbv
     obtain ⟨w14, hw14, h⟩ := bd_e h; refine km hP [(6, 3)] (Abm hA hw14) ?_; cbv
     obtain ⟨w15, hw15, h⟩ := bd_e h; refine km hP [(6, 3)] (Ar9 hA hw15) ?_; cbv
     obtain ⟨w16, hw16, h⟩ := bd_e h; refine km hP [(6, 3)] (Abm hA hw16) ?_; cbv
     iterate 2 refine kj ?_
     refine bc h (fun hb h => ?_) fun hb h => ?_
     ·cbv
      refine kj ?_
      cases h; subst hR; exact ey
     ·cbv
      refine kj ?_
      cases h; subst hR; exact ey
theorem Avw {A : Ar} (hA : A = std) {r : List Int} (h : Alq A = some r) : PFun cx 191 [] (.d (.ar TyS.u32 r)) := by
 refine wF hA cx_ok Tryz.func191 fun P R hP hR => ?_
 cbv; unfold Alq at h
 iterate 2 refine kj ?_
 refine kk h fun c1 h => ?_
 refine ⟨by subst hA; simp +contextual [vcm], ?_⟩
 refine kk h fun c2 h => ?_
 cases h; subst hR; exact ey
theorem Ak6 {A : Ar} (hA : A = std) {x0 : Int} {x1 : Int} {r : Int} (h : Aeu A x0 x1 = some r) : PFun cx 286 [it .u32 x0, it .i64 x1] (it .u32 r) := by
 refine wF hA cx_ok Tryz.func286 fun P R hP hR => ?_
 cbv; unfold Aeu at h
 iterate 3 refine kj ?_
 refine kk h fun c1 h => ?_
 refine kk h fun c2 h => ?_
 exact le h hR
theorem Acz {A : Ar} (hA : A = std) {x0 : Int} {x1 : Int} {r : Int} (h : Ac8 A x0 x1 = some r) : PFun cx 256 [it .u32 x0, it .i64 x1] (it .u32 r) := by
 refine wF hA cx_ok Tryz.func256 fun P R hP hR => ?_
 cbv; unfold Ac8 at h
 iterate 2 refine kj ?_
 obtain ⟨w1, hw1, h⟩ := bd_e h; refine kc hP (Ak6 hA hw1) ?_; cbv
 exact le h hR
theorem Aua {A : Ar} (hA : A = std) {x0 : ByteArray} {r : List Int} (h : Akf A x0 = some r) : PFun cx 255 [st x0] (.d (.ar TyS.u32 r)) := by
 refine wF hA cx_ok Tryz.func255 fun P R hP hR => ?_
 cbv; unfold Akf at h
 iterate 3 refine kj ?_
 refine kl h (fun x _ => [(9, it .i64 x.1)]) (fun x gh => [⟨3, 1, .arr 235 TyS.u32 x.2⟩, ⟨2, 0, Cell.arr 235 TyS.u32 (A.rep TyS.u32 (Int.ofNat 64) 0)⟩]) [] ?_
 rintro ⟨t9, row3⟩ gh1 g1 _ _ _ hK1 hQ1 h; cbv
 refine kj ?_
 refine bc h (fun hb h => ?_) fun hb h => ?_
 ·cbv
  iterate 2 refine kj ?_
  refine kl h (fun x _ => [(12, it .i64 x.1)]) (fun x gh => [⟨3, 1, .arr 235 TyS.u32 x.2⟩, ⟨2, 0, Cell.arr 235 TyS.u32 (A.rep TyS.u32 (Int.ofNat 64) 0)⟩]) [] ?_
  rintro ⟨t12, row3'⟩ gh2 g2 _ _ _ hK2 hQ2 h; cbv
  refine kj ?_
  refine bc h (fun hb h => ?_) fun hb h => ?_
  ·cbv
   iterate 2 refine kj ?_
   refine kk h fun c1 h => ?_
   refine kk h fun c2 h => ?_
   refine ⟨by subst hA; simp +contextual [vcm], ?_⟩
   refine kk h fun c3 h => ?_
   refine ⟨c1, ?_⟩
   refine ⟨c2, ?_⟩
   iterate 2 refine kj ?_
   cases h; exact hK2 _ _ [] rfl hdy
  ·cbv
   refine hQ2 _ h _ _ fun h => ?_; cbv
   refine kj ?_
   cases h; exact hK1 _ _ [] rfl hdy
 ·cbv
  refine hQ1 _ h _ _ fun h => ?_; cbv
  refine kj ?_
  refine kl h (fun x _ => [(6, it .i64 x.1)]) (fun x gh => [⟨3, 1, .arr 235 TyS.u32 x.2⟩, ⟨2, 0, Cell.arr 235 TyS.u32 (A.rep TyS.u32 (Int.ofNat 64) 0)⟩]) [] ?_
  rintro ⟨t6, row3'⟩ gh3 g3 _ _ _ hK3 hQ3 h; cbv
  refine kj ?_
  refine bc h (fun hb h => ?_) fun hb h => ?_
  ·cbv
   refine kj ?_
   refine kk h fun c4 h => ?_
   refine kk h fun c5 h => ?_
   refine kk h fun c6 h => ?_
   refine kk h fun c7 h => ?_
   iterate 2 refine kj ?_
   obtain ⟨w8, hw8, h⟩ := bd_e h; refine kc hP (Acz hA hw8) ?_; cbv
   obtain ⟨w9, hw9, h⟩ := bd_e h; refine kc hP (Acz hA hw9) ?_; cbv
   refine ⟨by subst hA; simp +contextual [vcm], ?_⟩
   refine kk h fun c10 h => ?_
   refine kk h fun c11 h => ?_
   obtain ⟨w12, hw12, h⟩ := bd_e h; refine kc hP (Acz hA hw12) ?_; cbv
   obtain ⟨w13, hw13, h⟩ := bd_e h; refine kc hP (Acz hA hw13) ?_; cbv
   refine ⟨by subst hA; simp +contextual [vcm], ?_⟩
   refine kk h fun c14 h => ?_
   refine kk h fun c15 h => ?_
   refine kk h fun c16 h => ?_
   refine kk h fun c17 h => ?_
   iterate 2 refine kj ?_
   cases h; exact hK3 _ _ [] rfl hdy
  ·cbv
   refine hQ3 _ h _ _ fun h => ?_; cbv
   refine kj ?_
   refine kk h fun c18 h => ?_
   refine kk h fun c19 h => ?_
   refine ⟨c18, ?_⟩
   refine kk h fun c20 h => ?_
   cases h; subst hR; exact ey
theorem Avx {A : Ar} (hA : A = std) {x0 : List Int} {x1 : ByteArray} {r : List Int} (h : Alr A x0 x1 = some r) : PFun cx 192 [.d (.ar TyS.u32 x0), st x1] (.d (.ar TyS.u32 r)) := by
 refine wF hA cx_ok Tryz.func192 fun P R hP hR => ?_
 cbv; unfold Alr at h
 iterate 2 refine kj ?_
 refine kk h fun c1 h => ?_
 refine kk h fun c2 h => ?_
 refine ⟨c1, ?_⟩
 refine kj ?_
 obtain ⟨w3, hw3, h⟩ := bd_e h; refine kc hP (Aua hA hw3) ?_; cbv
 refine kl h (fun x _ => [(19, it .i64 x.1)]) (fun x gh => [⟨5, 1, .arr 195 TyS.u32 x.2⟩, ⟨4, 0, Cell.arr 195 TyS.u32 (A.rep TyS.u32 (Int.ofNat 8) 0)⟩, ⟨2, 0, Cell.arr 195 TyS.u32 x0⟩]) [] ?_
 rintro ⟨t19, row5⟩ gh1 g1 _ _ _ hK1 hQ1 h; cbv
 refine kj ?_
 refine bc h (fun hb h => ?_) fun hb h => ?_
 ·cbv
  refine kj ?_
  refine kk h fun c4 h => ?_
  refine kk h fun c5 h => ?_
  refine kj ?_
  refine ⟨by subst hA; simp +contextual [vcm], ?_⟩
  refine kk h fun c6 h => ?_
  refine ⟨by subst hA; simp +contextual [vcm], ?_⟩
  refine kk h fun c7 h => ?_
  refine ⟨by subst hA; simp +contextual [vcm], ?_⟩
  refine kk h fun c8 h => ?_
  refine ⟨by subst hA; simp +contextual [vcm], ?_⟩
  refine kk h fun c9 h => ?_
  iterate 2 refine kj ?_
  refine ⟨by subst hA; simp +contextual [vcm], ?_⟩
  refine kk h fun c10 h => ?_
  obtain ⟨w11, hw11, h⟩ := bd_e h; refine kc hP (Acz hA hw11) ?_; cbv
  obtain ⟨w12, hw12, h⟩ := bd_e h; refine kc hP (Acz hA hw12) ?_; cbv
  obtain ⟨w13, hw13, h⟩ := bd_e h; refine kc hP (Acz hA hw13) ?_; cbv
  refine ⟨by subst hA; simp +contextual [vcm], ?_⟩
  refine kk h fun c14 h => ?_
  refine ⟨by subst hA; simp +contextual [vcm], ?_⟩
  refine kk h fun c15 h => ?_
  refine ⟨c4, ?_⟩
  iterate 2 refine kj ?_
  obtain ⟨w16, hw16, h⟩ := bd_e h; refine kc hP (Acz hA hw16) ?_; cbv
  obtain ⟨w17, hw17, h⟩ := bd_e h; refine kc hP (Acz hA hw17) ?_; cbv
  obtain ⟨w18, hw18, h⟩ := bd_e h; refine kc hP (Acz hA hw18) ?_; cbv
  refine kj ?_
  refine kk h fun c19 h => ?_
  refine ⟨c2, ?_⟩
  refine ⟨c19, ?_⟩
  refine kj ?_
  refine ⟨by subst hA; simp +contextual [vcm], ?_⟩
  refine ⟨c19, ?_⟩
  refine ⟨by subst hA; simp +contextual [vcm], ?_⟩
  refine ⟨c19, ?_⟩
  refine kk h fun c20 h => ?_
  refine kk h fun c21 h => ?_
  iterate 2 refine kj ?_
  refine ⟨by subst hA; simp +contextual [vcm], ?_⟩
  refine kk h fun c22 h => ?_
  refine ⟨by subst hA; simp +contextual [vcm], ?_⟩
  refine kk h fun c23 h => ?_
  refine ⟨by subst hA; simp +contextual [vcm], ?_⟩
  refine kk h fun c24 h => ?_
  refine kj ?_
  cases h; exact hK1 _ _ [] rfl hdy
 ·cbv
  refine hQ1 _ h _ _ fun h => ?_; cbv
  refine kj ?_
  refine kl h (fun x _ => [(93, it .i64 x.1)]) (fun x gh => [⟨2, 0, .arr 195 TyS.u32 x.2⟩, ⟨5, 1, Cell.arr 195 TyS.u32 row5⟩, ⟨4, 0, Cell.arr 195 TyS.u32 (A.rep TyS.u32 (Int.ofNat 8) 0)⟩]) [] ?_
  rintro ⟨t93, row2⟩ gh2 g2 _ _ _ hK2 hQ2 h; cbv
  refine kj ?_
  refine bc h (fun hb h => ?_) fun hb h => ?_
  ·cbv
   iterate 2 refine kj ?_
   refine kk h fun c25 h => ?_
   refine kk h fun c26 h => ?_
   refine ⟨c25, ?_⟩
   refine kk h fun c27 h => ?_
   refine ⟨c25, ?_⟩
   refine ⟨c26, ?_⟩
   iterate 2 refine kj ?_
   cases h; exact hK2 _ _ [] rfl hdy
  ·cbv
   refine hQ2 _ h _ _ fun h => ?_; cbv
   refine kj ?_
   refine kk h fun c28 h => ?_
   refine ⟨c2, ?_⟩
   refine ⟨c28, ?_⟩
   refine kk h fun c29 h => ?_
   cases h; subst hR; exact ey
theorem Aef {A : Ar} (hA : A = std) {x0 : List UInt8} {x1 : Int} {r : List UInt8} (h : Aa9 A x0 x1 = some r) : PFunM cx 115 [.bx 1000 0 0, it .u8 x1] [⟨1000, 0, .box 129 [.np 1000 0, .os 1001 0 TyS.byte x0]⟩, ⟨1001, 0, .tok 5 TyS.byte (A.nlen TyS.byte x0)⟩] (.d (.v .nilIface)) [⟨1000, 0, .box 129 [.np 1000 0, .os 2000 1 TyS.byte r]⟩, ⟨2000, 1, .tok 5 TyS.byte (A.nlen TyS.byte r)⟩] := by
 refine PFunM.walkM (fz := fun _ => false) hA cx_ok Tryz.func115 rfl rfl fun P R hP hR => ?_
 cbv; unfold Aa9 at h
 iterate 2 refine kj ?_
 obtain ⟨w1, hw1, h⟩ := bd_e h; refine km hP [(1000, 0), (1001, 0)] (Af3 hA hw1) ?_; cbv
 refine kj ?_
 refine and_assoc.2 ?_
 refine kk h fun c2 h => ?_
 refine cj ?_
 refine kk h fun c3 h => ?_
 refine kj ?_
 cases h
 refine hR _ _ ⟨[(14, 4)], ⟨by rfl, ez, by rfl, ez⟩⟩
theorem Ay0 {A : Ar} (hA : A = std) {x0 : ByteArray} {r : ByteArray} (h : Aox A x0 = some r) : PFun cx 114 [st x0] (st r) := by
 refine PFun.walkF (fz := fun k => k == 131078) hA cx_ok Tryz.func114 rfl rfl rfl fun P R hP hR => ?_
 cbv; unfold Aox at h
 iterate 3 refine kj ?_
 iterate 2 (refine ⟨by subst hA; simp +contextual [vcm], ?_⟩)
 obtain ⟨w1, hw1, h⟩ := bd_e h; refine kc hP (Ap0 hA hw1) ?_; cbv
 refine kk h fun c2 h => ?_
 refine kk h fun c3 h => ?_
 refine kj ?_
 refine kl h (fun x _ => [(0, st x.1), (4, it .i64 x.2)]) (fun _ _ => []) [] ?_
 rintro ⟨s0, i4⟩ gh1 g1 _ _ _ hK1 hQ1 h; cbv
 refine kj ?_
 refine bc h (fun hb h => ?_) fun hb h => ?_
 ·cbv
  refine kj ?_
  refine kk h fun c4 h => ?_
  refine and_assoc.2 ?_
  refine kk h fun c5 h => ?_
  refine cj ?_
  refine kk h fun c6 h => ?_
  refine kj ?_
  cases h; exact hK1 _ _ [] rfl hdy
 ·cbv
  refine hQ1 _ h _ _ fun h => ?_; cbv
  refine kj ?_
  obtain ⟨w7, hw7, h⟩ := bd_e h; refine kc hP (Avw hA hw7) ?_; cbv
  refine kk h fun c8 h => ?_
  refine kk h fun c9 h => ?_
  refine kl h (fun x _ => [(0, st x.1)]) (fun x gh => [⟨5, g1.succ, .arr 195 TyS.u32 x.2⟩]) [] ?_
  rintro ⟨s0', row5⟩ gh2 g2 _ _ _ hK2 hQ2 h; cbv
  refine kj ?_
  refine bc h (fun hb h => ?_) fun hb h => ?_
  ·cbv
   refine kj ?_
   refine kk h fun c10 h => ?_
   refine kk h fun c11 h => ?_
   obtain ⟨w12, hw12, h⟩ := bd_e h; refine kc hP (Avx hA hw12) ?_; cbv
   refine ⟨c10, ?_⟩
   refine kk h fun c13 h => ?_
   iterate 2 refine kj ?_
   refine kk h fun c14 h => ?_
   cases h; exact hK2 _ _ [] rfl hdy
  ·cbv
   refine hQ2 _ h _ _ fun h => ?_; cbv
   iterate 2 refine kj ?_
   refine kk h fun c15 h => ?_
   refine kl h (fun x _ => [(45, it .i64 x.1)]) (fun x gh => [⟨4091, gh, .tok 5 TyS.byte (A.nlen TyS.byte x.2)⟩, ⟨6, g2.succ, .box 129 [PV.np 6 g2.succ, .os 4091 gh TyS.byte x.2]⟩, ⟨5, g1.succ, Cell.arr 195 TyS.u32 row5⟩]) [(4091, 65542, g2.succ)] ?_
   rintro ⟨t45, b1_6⟩ gh3 g3 _ _ _ hK3 hQ3 h; cbv
   refine kj ?_
   refine bc h (fun hb h => ?_) fun hb h => ?_
   ·cbv
    refine kj ?_
    refine kk h fun c16 h => ?_
    refine kk h fun c17 h => ?_
    refine kj ?_
    refine kl h (fun x _ => [(9, it .i64 x.1)]) (fun x gh => [⟨4121, gh, .tok 5 TyS.byte (A.nlen TyS.byte x.2)⟩, ⟨6, g2.succ, .box 129 [PV.np 6 g2.succ, .os 4121 gh TyS.byte x.2]⟩, ⟨5, g1.succ, Cell.arr 195 TyS.u32 row5⟩]) [(4121, 4091, gh3)] ?_
    rintro ⟨i9, b1_6'⟩ gh4 g4 _ _ _ hK4 hQ4 h; cbv
    refine kj ?_
    refine bc h (fun hb h => ?_) fun hb h => ?_
    ·cbv
     refine kj ?_
     refine kk h fun c18 h => ?_
     obtain ⟨w19, hw19, h⟩ := bd_e h; refine km hP [(6, g2.succ), (4121, gh4)] (Aef hA hw19) ?_; cbv
     refine kj ?_
     cases h; exact hK4 _ _ [(4121, 56, g4.succ)] rfl hdy
    ·cbv
     refine hQ4 _ h _ _ fun h => ?_; cbv
     refine kj ?_
     cases h; exact hK3 _ _ [(4091, 4121, gh4)] rfl hdy
   ·cbv
    refine hQ3 _ h _ _ fun h => ?_; cbv
    refine kj ?_
    obtain ⟨w20, hw20, h⟩ := bd_e h; refine km hP [(6, g2.succ), (4091, gh3)] (Ae3 hA hw20) ?_; cbv
    exact le h hR
theorem Axd {A : Ar} (hA : A = std) {x0 : ByteArray} {r : ByteArray} (h : Akg A x0 = some r) : PFun cx 33 [st x0] (st r) := by
 refine PFun.walkF (fz := fun k => k == 131075) hA cx_ok Tryz.func33 rfl rfl rfl fun P R hP hR => ?_
 cbv; unfold Akg at h
 iterate 3 refine kj ?_
 obtain ⟨w1, hw1, h⟩ := bd_e h; refine kc hP (Ay0 hA hw1) ?_; cbv
 refine kk h fun c2 h => ?_
 refine kl h (fun x _ => [(11, it .i64 x.1)]) (fun x gh => [⟨4031, gh, .tok 5 TyS.byte (A.nlen TyS.byte x.2)⟩, ⟨3, 1, .box 129 [PV.np 3 1, .os 4031 gh TyS.byte x.2]⟩]) [(4031, 65539, 1)] ?_
 rintro ⟨t11, b1_3⟩ gh1 g1 _ _ _ hK1 hQ1 h; cbv
 refine kj ?_
 refine bc h (fun hb h => ?_) fun hb h => ?_
 ·cbv
  refine kj ?_
  refine kk h fun c3 h => ?_
  refine kj ?_
  refine ⟨by subst hA; simp +contextual [vcm], ?_⟩
  refine kk h fun c4 h => ?_
  obtain ⟨w5, hw5, h⟩ := bd_e h; refine km hP [(3, 1), (4031, gh1)] (Aef hA hw5) ?_; cbv
  refine kj ?_
  refine kk h fun c6 h => ?_
  obtain ⟨w7, hw7, h⟩ := bd_e h; refine km hP [(3, 1), (18, g1.succ.succ)] (Aef hA hw7) ?_; cbv
  refine kj ?_
  cases h; exact hK1 _ _ [(4031, 22, g1.succ.succ.succ)] rfl hdy
 ·cbv
  refine hQ1 _ h _ _ fun h => ?_; cbv
  refine kj ?_
  obtain ⟨w8, hw8, h⟩ := bd_e h; refine km hP [(3, 1), (4031, gh1)] (Ae3 hA hw8) ?_; cbv
  exact le h hR
theorem Anz {A : Ar} (hA : A = std) {x0 : Config} {r : ByteArray × Int} (h : Ahg A x0 = some r) : PFun cx 27 [Ah2 x0] (.tu [st r.1, it .i64 r.2]) := by
 refine wF hA cx_ok Tryz.func27 fun P R hP hR => ?_
 cbv; unfold Ahg at h
 iterate 2 refine kj ?_
 obtain ⟨w1, hw1, h⟩ := bd_e h; refine kc hP (Ak5 hA hw1) ?_; cbv
 refine kj ?_
 refine bc h (fun hb h => ?_) fun hb h => ?_
 ·cbv
  refine kj ?_
  cases h; subst hR; exact ey
 ·cbv
  refine kj ?_
  obtain ⟨w2, hw2, h⟩ := bd_e h; refine kc hP (Axd hA hw2) ?_; cbv
  cases h; subst hR; exact ey
theorem Aa2 {A : Ar} (hA : A = std) {x0 : List Matcher} {x1 : List Matcher} {q2 : Matcher → Matcher → Option Bool} {g2 : Nat} {cap2 : List PV} (hcap2 : bare.bares cap2 = true) (hq2 : ∀ (y0 : Matcher) (y1 : Matcher) (r : Bool), q2 y0 y1 = some r → PFun cx g2 ((Afs y0) :: (Afs y1) :: cap2) (bl r)) {r : Bool} (h : Aaa A x0 x1 q2 = some r) : PFun cx 71 [.d (.sl TyS.matcher x0), .d (.sl TyS.matcher x1), .fn (.func g2) [] cap2] (bl r) := by
 refine wF hA cx_ok Tryz.func71 fun P R hP hR => ?_
 cbv; unfold Aaa at h
 iterate 2 refine kj ?_
 refine bc h (fun hb h => ?_) fun hb h => ?_
 ·cbv
  refine kj ?_
  exact le h hR
 ·cbv
  refine kj ?_
  refine kl h (fun x _ => [(17, it .i64 x)]) (fun _ _ => []) [] ?_
  rintro t17 gh1 g1 _ _ _ hK1 hQ1 h; cbv
  refine kj ?_
  refine bc h (fun hb h => ?_) fun hb h => ?_
  ·cbv
   refine kj ?_
   refine kk h fun c1 h => ?_
   refine kj ?_
   refine kk h fun c2 h => ?_
   refine kj ?_
   obtain ⟨w3, hw3, h⟩ := bd_e h; refine kc hP (hq2 _ _ _ hw3) ?_ (by first | rfl | simp [bare, bare.bares, hcap2]); cbv
   refine bc h (fun hb h => ?_) fun hb h => ?_
   ·cbv
    refine kj ?_
    refine hQ1 _ h _ _ fun h => ?_; cbv
    exact le h hR
   ·cbv
    refine kj ?_
    cases h; exact hK1 _ _ [] rfl hdy
  ·cbv
   refine hQ1 _ h _ _ fun h => ?_; cbv
   refine kj ?_
   exact le h hR
theorem Abv {A : Ar} (hA : A = std) {x0 : List ByteArray} {x1 : List ByteArray} {r : Bool} (h : Aal A x0 x1 = some r) : PFun cx 73 [.d (.sl TyS.str x0), .d (.sl TyS.str x1)] (bl r) := by
 refine wF hA cx_ok Tryz.func73 fun P R hP hR => ?_
 cbv; unfold Aal at h
 iterate 2 refine kj ?_
 refine bc h (fun hb h => ?_) fun hb h => ?_
 ·cbv
  refine kj ?_
  exact le h hR
 ·cbv
  refine kj ?_
  refine kl h (fun x _ => [(13, it .i64 x)]) (fun _ _ => []) [] ?_
  rintro t13 gh1 g1 _ _ _ hK1 hQ1 h; cbv
  refine kj ?_
  refine bc h (fun hb h => ?_) fun hb h => ?_
  ·cbv
   iterate 2 refine kj ?_
   refine kk h fun c1 h => ?_
   refine kk h fun c2 h => ?_
   refine kj ?_
   refine bc h (fun hb h => ?_) fun hb h => ?_
   ·cbv
    refine kj ?_
    refine hQ1 _ h _ _ fun h => ?_; cbv
    exact le h hR
   ·cbv
    refine kj ?_
    cases h; exact hK1 _ _ [] rfl hdy
  ·cbv
   refine hQ1 _ h _ _ fun h => ?_; cbv
   refine kj ?_
   exact le h hR
theorem Aj6 {A : Ar} (hA : A = std) {x0 : Matcher} {x1 : Matcher} {r : Bool} (h : Aem A x0 x1 = some r) : PFun cx 72 [Afs x0, Afs x1] (bl r) := by
 refine wF hA cx_ok Tryz.func72 fun P R hP hR => ?_
 cbv; unfold Aem at h
 iterate 2 refine kj ?_
 iterate 13 refine cj ?_
 obtain ⟨w1, hw1, h⟩ := bd_e h; refine kg hP (fun hc => (Abv hA (gd_e hw1 hc))) ?_; cbv
 refine cj ?_
 exact le h hR
theorem Aqy {A : Ar} (hA : A = std) {x0 : Inhibit} {x1 : Inhibit} {r : Bool} (h : Agu A x0 x1 = some r) : PFun cx 70 [Aee x0, Aee x1] (bl r) := by
 refine wF hA cx_ok Tryz.func70 fun P R hP hR => ?_
 cbv; unfold Agu at h
 iterate 2 refine kj ?_
 obtain ⟨w1, hw1, h⟩ := bd_e h; refine ke hP (Aa2 hA (by rfl) (fun _ _ _ hw => Aj6 hA hw) hw1) ?_; cbv
 iterate 6 refine cj ?_
 obtain ⟨w2, hw2, h⟩ := bd_e h; refine kf hP (fun hc => (Aa2 hA (by rfl) (fun _ _ _ hw => Aj6 hA hw) (gd_e hw2 hc))) ?_; cbv
 iterate 7 refine cj ?_
 obtain ⟨w3, hw3, h⟩ := bd_e h; refine kg hP (fun hc => (Abv hA (gd_e hw3 hc))) ?_; cbv
 refine cj ?_
 exact le h hR
theorem Agf {A : Ar} (hA : A = std) {x0 : List Rule} {x1 : List Rule} {q2 : Rule → Rule → Option Bool} {g2 : Nat} {cap2 : List PV} (hcap2 : bare.bares cap2 = true) (hq2 : ∀ (y0 : Rule) (y1 : Rule) (r : Bool), q2 y0 y1 = some r → PFun cx g2 ((Agm y0) :: (Agm y1) :: cap2) (bl r)) {r : Bool} (h : Aaz A x0 x1 q2 = some r) : PFun cx 74 [.d (.sl TyS.rule x0), .d (.sl TyS.rule x1), .fn (.func g2) [] cap2] (bl r) := by
 refine wF hA cx_ok Tryz.func74 fun P R hP hR => ?_
 cbv; unfold Aaz at h
 iterate 2 refine kj ?_
 refine bc h (fun hb h => ?_) fun hb h => ?_
 ·cbv
  refine kj ?_
  exact le h hR
 ·cbv
  refine kj ?_
  refine kl h (fun x _ => [(17, it .i64 x)]) (fun _ _ => []) [] ?_
  rintro t17 gh1 g1 _ _ _ hK1 hQ1 h; cbv
  refine kj ?_
  refine bc h (fun hb h => ?_) fun hb h => ?_
  ·cbv
   refine kj ?_
   refine kk h fun c1 h => ?_
   refine kj ?_
   refine kk h fun c2 h => ?_
   refine kj ?_
   obtain ⟨w3, hw3, h⟩ := bd_e h; refine kc hP (hq2 _ _ _ hw3) ?_ (by first | rfl | simp [bare, bare.bares, hcap2]); cbv
   refine bc h (fun hb h => ?_) fun hb h => ?_
   ·cbv
    refine kj ?_
    refine hQ1 _ h _ _ fun h => ?_; cbv
    exact le h hR
   ·cbv
    refine kj ?_
    cases h; exact hK1 _ _ [] rfl hdy
  ·cbv
   refine hQ1 _ h _ _ fun h => ?_; cbv
   refine kj ?_
   exact le h hR
theorem Aj7 {A : Ar} (hA : A = std) {x0 : List Label} {x1 : List Label} {r : Bool} (h : Acs A x0 x1 = some r) : PFun cx 145 [.d (.sl TyS.label x0), .d (.sl TyS.label x1)] (bl r) := by
 refine wF hA cx_ok Tryz.func145 fun P R hP hR => ?_
 cbv; unfold Acs at h
 iterate 2 refine kj ?_
 refine bc h (fun hb h => ?_) fun hb h => ?_
 ·cbv
  refine kj ?_
  exact le h hR
 ·cbv
  refine kj ?_
  refine kl h (fun x _ => [(13, it .i64 x)]) (fun _ _ => []) [] ?_
  rintro t13 gh1 g1 _ _ _ hK1 hQ1 h; cbv
  refine kj ?_
  refine bc h (fun hb h => ?_) fun hb h => ?_
  ·cbv
   iterate 2 refine kj ?_
   refine kk h fun c1 h => ?_
   refine kk h fun c2 h => ?_
   refine kj ?_
   refine bc h (fun hb h => ?_) fun hb h => ?_
   ·cbv
    refine kj ?_
    refine hQ1 _ h _ _ fun h => ?_; cbv
    exact le h hR
   ·cbv
    refine kj ?_
    cases h; exact hK1 _ _ [] rfl hdy
  ·cbv
   refine hQ1 _ h _ _ fun h => ?_; cbv
   refine kj ?_
   exact le h hR
theorem Avy {A : Ar} (hA : A = std) {x0 : Rule} {x1 : Rule} {r : Bool} (h : Aj0 A x0 x1 = some r) : PFun cx 60 [Agm x0, Agm x1] (bl r) := by
 refine wF hA cx_ok Tryz.func60 fun P R hP hR => ?_
 cbv; unfold Aj0 at h
 iterate 2 refine kj ?_
 obtain ⟨w1, hw1, h⟩ := bd_e h; refine kc hP (Aj7 hA hw1) ?_; cbv
 refine kj ?_
 iterate 49 refine cj ?_
 exact le h hR
theorem Aj8 {A : Ar} (hA : A = std) {x0 : List Hours} {x1 : List Hours} {r : Bool} (h : Acu A x0 x1 = some r) : PFun cx 75 [.d (.sl TyS.hours x0), .d (.sl TyS.hours x1)] (bl r) := by
 refine wF hA cx_ok Tryz.func75 fun P R hP hR => ?_
 cbv; unfold Acu at h
 iterate 2 refine kj ?_
 refine bc h (fun hb h => ?_) fun hb h => ?_
 ·cbv
  refine kj ?_
  exact le h hR
 ·cbv
  refine kj ?_
  refine kl h (fun x _ => [(13, it .i64 x)]) (fun _ _ => []) [] ?_
  rintro t13 gh1 g1 _ _ _ hK1 hQ1 h; cbv
  refine kj ?_
  refine bc h (fun hb h => ?_) fun hb h => ?_
  ·cbv
   iterate 2 refine kj ?_
   refine kk h fun c1 h => ?_
   refine kk h fun c2 h => ?_
   refine kj ?_
   refine bc h (fun hb h => ?_) fun hb h => ?_
   ·cbv
    refine kj ?_
    refine hQ1 _ h _ _ fun h => ?_; cbv
    exact le h hR
   ·cbv
    refine kj ?_
    cases h; exact hK1 _ _ [] rfl hdy
  ·cbv
   refine hQ1 _ h _ _ fun h => ?_; cbv
   refine kj ?_
   exact le h hR
theorem Aep {A : Ar} (hA : A = std) {x0 : List Inhibit} {x1 : List Inhibit} {q2 : Inhibit → Inhibit → Option Bool} {g2 : Nat} {cap2 : List PV} (hcap2 : bare.bares cap2 = true) (hq2 : ∀ (y0 : Inhibit) (y1 : Inhibit) (r : Bool), q2 y0 y1 = some r → PFun cx g2 ((Aee y0) :: (Aee y1) :: cap2) (bl r)) {r : Bool} (h : Aae A x0 x1 q2 = some r) : PFun cx 67 [.d (.sl TyS.inhibit x0), .d (.sl TyS.inhibit x1), .fn (.func g2) [] cap2] (bl r) := by
 refine wF hA cx_ok Tryz.func67 fun P R hP hR => ?_
 cbv; unfold Aae at h
 iterate 2 refine kj ?_
 refine bc h (fun hb h => ?_) fun hb h => ?_
 ·cbv
  refine kj ?_
  exact le h hR
 ·cbv
  refine kj ?_
  refine kl h (fun x _ => [(17, it .i64 x)]) (fun _ _ => []) [] ?_
  rintro t17 gh1 g1 _ _ _ hK1 hQ1 h; cbv
  refine kj ?_
  refine bc h (fun hb h => ?_) fun hb h => ?_
  ·cbv
   refine kj ?_
   refine kk h fun c1 h => ?_
   refine kj ?_
   refine kk h fun c2 h => ?_
   refine kj ?_
   obtain ⟨w3, hw3, h⟩ := bd_e h; refine kc hP (hq2 _ _ _ hw3) ?_ (by first | rfl | simp [bare, bare.bares, hcap2]); cbv
   refine bc h (fun hb h => ?_) fun hb h => ?_
   ·cbv
    refine kj ?_
    refine hQ1 _ h _ _ fun h => ?_; cbv
    exact le h hR
   ·cbv
    refine kj ?_
    cases h; exact hK1 _ _ [] rfl hdy
  ·cbv
   refine hQ1 _ h _ _ fun h => ?_; cbv
   refine kj ?_
   exact le h hR
theorem Afg {A : Ar} (hA : A = std) {x0 : List Route} {x1 : List Route} {q2 : Route → Route → Option Bool} {g2 : Nat} {cap2 : List PV} (hcap2 : bare.bares cap2 = true) (hq2 : ∀ (y0 : Route) (y1 : Route) (r : Bool), q2 y0 y1 = some r → PFun cx g2 ((Aba y0) :: (Aba y1) :: cap2) (bl r)) {r : Bool} (h : Aap A x0 x1 q2 = some r) : PFun cx 148 [.d (.sl TyS.route x0), .d (.sl TyS.route x1), .fn (.func g2) [] cap2] (bl r) := by
 refine wF hA cx_ok Tryz.func148 fun P R hP hR => ?_
 cbv; unfold Aap at h
 iterate 2 refine kj ?_
 refine bc h (fun hb h => ?_) fun hb h => ?_
 ·cbv
  refine kj ?_
  exact le h hR
 ·cbv
  refine kj ?_
  refine kl h (fun x _ => [(17, it .i64 x)]) (fun _ _ => []) [] ?_
  rintro t17 gh1 g1 _ _ _ hK1 hQ1 h; cbv
  refine kj ?_
  refine bc h (fun hb h => ?_) fun hb h => ?_
  ·cbv
   refine kj ?_
   refine kk h fun c1 h => ?_
   refine kj ?_
   refine kk h fun c2 h => ?_
   refine kj ?_
   obtain ⟨w3, hw3, h⟩ := bd_e h; refine kc hP (hq2 _ _ _ hw3) ?_ (by first | rfl | simp [bare, bare.bares, hcap2]); cbv
   refine bc h (fun hb h => ?_) fun hb h => ?_
   ·cbv
    refine kj ?_
    refine hQ1 _ h _ _ fun h => ?_; cbv
    exact le h hR
   ·cbv
    refine kj ?_
    cases h; exact hK1 _ _ [] rfl hdy
  ·cbv
   refine hQ1 _ h _ _ fun h => ?_; cbv
   refine kj ?_
   exact le h hR
theorem Aqz {A : Ar} (hA : A = std) {rf : Route → Route → Option Bool} {x0 : Route} {x1 : Route} (hqr69 : ∀ (x0 : Route) (x1 : Route) (r : Bool), rf x0 x1 = some r → PFun cx 69 [Aba x0, Aba x1] (bl r)) {r : Bool} (h : Ajy A rf x0 x1 = some r) : PFun cx 69 [Aba x0, Aba x1] (bl r) := by
 refine wF hA cx_ok Tryz.func69 fun P R hP hR => ?_
 cbv; unfold Ajy at h
 iterate 2 refine kj ?_
 iterate 28 refine cj ?_
 refine kj ?_
 iterate 6 refine cj ?_
 obtain ⟨w1, hw1, h⟩ := bd_e h; refine kf hP (fun hc => (Aa2 hA (by rfl) (fun _ _ _ hw => Aj6 hA hw) (gd_e hw1 hc))) ?_; cbv
 iterate 7 refine cj ?_
 obtain ⟨w2, hw2, h⟩ := bd_e h; refine kg hP (fun hc => (Abv hA (gd_e hw2 hc))) ?_; cbv
 iterate 7 refine cj ?_
 obtain ⟨w3, hw3, h⟩ := bd_e h; refine kg hP (fun hc => (Abv hA (gd_e hw3 hc))) ?_; cbv
 iterate 7 refine cj ?_
 obtain ⟨w4, hw4, h⟩ := bd_e h; refine kf hP (fun hc => (Afg hA (by rfl) hqr69 (gd_e hw4 hc))) ?_; cbv
 refine cj ?_
 exact le h hR
theorem Amo {A : Ar} (hA : A = std) : ∀ (n : Nat) (x0 : Route) (x1 : Route) (r : Bool), Ah1 A n x0 x1 = some r → PFun cx 69 [Aba x0, Aba x1] (bl r)
 | 0, _, _, _, h => by cases h
 | n + 1, x0, x1, r, h => Aqz hA (fun _ _ _ hh => Amo hA n _ _ _ hh) h
theorem Aub {A : Ar} (hA : A = std) {x0 : Route} {x1 : Route} {r : Bool} (h : Aoe A x0 x1 = some r) : PFun cx 69 [Aba x0, Aba x1] (bl r) := Amo hA _ _ _ _ h
theorem Auc {A : Ar} (hA : A = std) {x0 : Config} {x1 : Config} {r : Bool} (h : Akh A x0 x1 = some r) : PFun cx 14 [Ah2 x0, Ah2 x1] (bl r) := by
 refine wF hA cx_ok Tryz.func14 fun P R hP hR => ?_
 cbv; unfold Akh at h
 iterate 2 refine kj ?_
 obtain ⟨w1, hw1, h⟩ := bd_e h; refine kc hP (Ag7 hA hw1) ?_; cbv
 refine kj ?_
 obtain ⟨w2, hw2, h⟩ := bd_e h; refine kc hP (Ag7 hA hw2) ?_; cbv
 iterate 2 refine kj ?_
 obtain ⟨w3, hw3, h⟩ := bd_e h; refine ke hP (Agf hA (by rfl) (fun _ _ _ hw => Avy hA hw) hw3) ?_; cbv
 iterate 6 refine cj ?_
 obtain ⟨w4, hw4, h⟩ := bd_e h; refine kg hP (fun hc => (Abv hA (gd_e hw4 hc))) ?_; cbv
 iterate 7 refine cj ?_
 obtain ⟨w5, hw5, h⟩ := bd_e h; refine kg hP (fun hc => (Aj8 hA (gd_e hw5 hc))) ?_; cbv
 refine cj ?_
 refine kj ?_
 iterate 10 refine cj ?_
 obtain ⟨w6, hw6, h⟩ := bd_e h; refine kf hP (fun hc => (Aep hA (by rfl) (fun _ _ _ hw => Aqy hA hw) (gd_e hw6 hc))) ?_; cbv
 iterate 7 refine cj ?_
 obtain ⟨w7, hw7, h⟩ := bd_e h; refine kg hP (fun hc => (Aub hA (gd_e hw7 hc))) ?_; cbv
 refine cj ?_
 exact le h hR
theorem Ah7 {A : Ar} (hA : A = std) {x0 : Config} {x1 : Config} {r : Bool} (h : Aco A x0 x1 = some r) : PFun cx 9 [Ah2 x0, Ah2 x1] (bl r) := by
 refine wF hA cx_ok Tryz.func9 fun P R hP hR => ?_
 cbv; unfold Aco at h
 iterate 2 refine kj ?_
 obtain ⟨w1, hw1, h⟩ := bd_e h; refine kc hP (Ahi hA hw1) ?_; cbv
 iterate 2 refine cj ?_
 obtain ⟨w2, hw2, h⟩ := bd_e h; refine kg hP (fun hc => (Ahi hA (gd_e hw2 hc))) ?_; cbv
 refine cj ?_
 refine bc h (fun hb h => ?_) fun hb h => ?_
 ·cbv
  refine kj ?_
  obtain ⟨w3, hw3, h⟩ := bd_e h; refine kc hP (Aew hA hw3) ?_; cbv
  exact le h hR
 ·cbv
  refine kj ?_
  obtain ⟨w4, hw4, h⟩ := bd_e h; refine kc hP (Ak5 hA hw4) ?_; cbv
  refine kj ?_
  obtain ⟨w5, hw5, h⟩ := bd_e h; refine kc hP (Ak5 hA hw5) ?_; cbv
  refine kj ?_
  iterate 2 refine cj ?_
  refine bc h (fun hb h => ?_) fun hb h => ?_
  ·cbv
   refine kj ?_
   obtain ⟨w6, hw6, h⟩ := bd_e h; refine kc hP (Aew hA hw6) ?_; cbv
   exact le h hR
  ·cbv
   refine kj ?_
   obtain ⟨w7, hw7, h⟩ := bd_e h; refine kc hP (Anz hA hw7) ?_; cbv
   refine kj ?_
   obtain ⟨w8, hw8, h⟩ := bd_e h; refine kc hP (Anz hA hw8) ?_; cbv
   refine kj ?_
   obtain ⟨w9, hw9, h⟩ := bd_e h; refine kc hP (Aew hA hw9) ?_; cbv
   iterate 6 refine cj ?_
   obtain ⟨w10, hw10, h⟩ := bd_e h; refine kg hP (fun hc => (Auc hA (gd_e hw10 hc))) ?_; cbv
   iterate 13 refine cj ?_
   refine kk h fun c11 h => ?_
   iterate 4 refine cj ?_
   exact le h hR
end Go.PL
