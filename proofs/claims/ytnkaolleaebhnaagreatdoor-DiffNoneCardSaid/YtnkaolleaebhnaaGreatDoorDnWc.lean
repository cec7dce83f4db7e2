/- Texts of this claim: plain laws of what the program's functions compute. No condition of their own. -/
import Derived.Test.YtnkaolleaebhnaaGreatDoorDnWb
namespace Go.PL
set_option linter.unusedSimpArgs false
set_option linter.unusedVariables false
set_option linter.unusedSectionVars false
open Tys (Ty U)
open Enc (sz enc dflt tb ofB toB)
open Dec (dec dok)
set_option maxRecDepth 100000
theorem Aq7 : ∀ (n : Nat) (r : Route) (m : Int), SizeOf.sizeOf r < n → RouteFit r → ∃ v, Abf std n r m = some v
 | 0, r, m, h, _ => absurd h (Nat.not_lt_zero _)
 | n + 1, r, m, h, hf => by
  obtain ⟨_, _, _, _, h5, h6⟩ := Awk hf
  rw [Abf, Adw]
  refine ⟨_, Akp (B := Acv std (Abf std n) r m) (fun i (s : Int) => (s, (i : Int))) r.Routes (fun _ k s => if decide (m < s) = true then (.inr s : Int ⊕ Int) else .inl (std.ar .add .i64 s ((Abf std n k (std.ar .sub .i64 m s)).getD 0))) (fun s => s) (fun i k s hk hi => ?_) (fun s => ?_) 1⟩
  ·unfold Acv
   simp only
   obtain ⟨v, hv⟩ := Aq7 n k (std.ar .sub .i64 m s) (by have := Anr (Aev hk); omega) (h6 k (Aev hk))
   rw [Aam, lssT hi, Abk, ck_t (inbT hi), Abl (t := TyS.route) hk, s_gtr, hv, bd_some, s_add (a := (i : Int)), wrap_succ hi h5]
   cases decide (m < s) <;> rfl
  ·unfold Acv
   simp only
   rw [Aam, lssF, br_false]
   rfl
theorem Aso (c : Config) (h : Acf c) : ∃ b, Acm std c = some b ∧ (b = false → Small c) := by
 unfold Acm
 obtain ⟨v, hv⟩ := Aq7 (SizeOf.sizeOf c.Route + 1) c.Route 40 (Nat.lt_succ_self _) h.2.1
 unfold Afh
 rw [hv, bd_some]
 refine ⟨_, rfl, fun hb => ?_⟩
 simp only [s_lor, s_gtr, Bool.or_eq_false_iff, decide_eq_false_iff_not, s_len] at hb
 exact ⟨by omega, by omega, by omega, by omega⟩
theorem Apb (x y : Inhibit) (h : Ag2 x) : Af4 std x y = some (eqB x y) := by
 unfold Af4
 rw [Agg x.Source y.Source (fun y0 y1 => Ach std y0 y1) (fun a ha b _ => Afz a b (h.1.2 a ha).2.1) h.1.1, bd_some]
 rw [gd_b (fun _ => Agg x.Target y.Target (fun y0 y1 => Ach std y0 y1) (fun a ha b _ => Afz a b (h.2.1.2 a ha).2.1) h.2.1.1), bd_some]
 rw [gd_b (fun _ => Aa5 _ _ h.2.2.1), bd_some]
 refine congrArg some (Alh ?_)
 cases x; cases y
 simp only [s_land, Bool.and_eq_true, Afy, Inhibit.mk.injEq]
 constructor
 ·rintro ⟨⟨h1, _, h2⟩, _, h3⟩; exact ⟨h1, h2, h3⟩
 ·rintro ⟨h1, h2, h3⟩; exact ⟨⟨h1, h1, h2⟩, ⟨h1, h1, h2⟩, h3⟩
def Aj6 : ByteArray := ⟨#[45]⟩
def plusT : ByteArray := ⟨#[43]⟩
def Aku : ByteArray := ⟨#[126]⟩
theorem A2o : (⟨#[]⟩ : ByteArray).toList = [] := by kernel_rfl
theorem tl_of (c : UInt8) : ¬ (⟨#[c]⟩ : ByteArray).toList = [] := fun h => by
 have := ba_eq.1 (h.trans A2o.symm)
 cases this
theorem Azm : ¬ (⟨#[45]⟩ : ByteArray).toList = [] := tl_of _
theorem A2p : ¬ (⟨#[43]⟩ : ByteArray).toList = [] := tl_of _
theorem A3q : ¬ (⟨#[126]⟩ : ByteArray).toList = [] := tl_of _
def flipS (s : ByteArray) : ByteArray := if s = Aj6 then plusT else if s = plusT then Aj6 else s
def flipP (p : ByteArray × ByteArray) : ByteArray × ByteArray := (flipS p.1, p.2)
section
variable {α : Type} (nm : α → ByteArray) (lk : α → α → Bool)
theorem pairs_l (x : α) (a : List α) : pairs2 nm lk (x :: a) [] = (Aj6, nm x) :: pairs2 nm lk a [] := by
 rw [Ae3 nm lk _ _ (by simp), show step2 nm lk (x :: a) [] = ⟨⟨#[45]⟩, nm x, a, []⟩ from rfl, if_neg Azm]; rfl
theorem pairs_r (y : α) (b : List α) : pairs2 nm lk [] (y :: b) = (plusT, nm y) :: pairs2 nm lk [] b := by
 rw [Ae3 nm lk _ _ (by simp), show step2 nm lk [] (y :: b) = ⟨⟨#[43]⟩, nm y, [], b⟩ from rfl, if_neg A2p]; rfl
theorem pairs_lt {x y : α} {a b : List α} (h : std.scmp .lss (nm x) (nm y) = true) : pairs2 nm lk (x :: a) (y :: b) = (Aj6, nm x) :: pairs2 nm lk a (y :: b) := by
 rw [Ae3 nm lk _ _ (by simp), show step2 nm lk (x :: a) (y :: b) = ⟨⟨#[45]⟩, nm x, a, y :: b⟩ from by simp only [step2, h, cond_true], if_neg Azm]; rfl
theorem Aj7 {x y : α} {a b : List α} (h : std.scmp .lss (nm x) (nm y) = false) (h2 : std.scmp .lss (nm y) (nm x) = true) : pairs2 nm lk (x :: a) (y :: b) = (plusT, nm y) :: pairs2 nm lk (x :: a) b := by
 rw [Ae3 nm lk _ _ (by simp), show step2 nm lk (x :: a) (y :: b) = ⟨⟨#[43]⟩, nm y, x :: a, b⟩ from by simp only [step2, h, h2, cond_true, cond_false], if_neg A2p]; rfl
theorem Aj8 {x y : α} {a b : List α} (h : std.scmp .lss (nm x) (nm y) = false) (h2 : std.scmp .lss (nm y) (nm x) = false) (h3 : lk x y = true) : pairs2 nm lk (x :: a) (y :: b) = pairs2 nm lk a b := by
 rw [Ae3 nm lk _ _ (by simp), show step2 nm lk (x :: a) (y :: b) = ⟨⟨#[]⟩, nm x, a, b⟩ from by simp only [step2, h, h2, h3, cond_true, cond_false], if_pos A2o]; rfl
theorem Ak9 {x y : α} {a b : List α} (h : std.scmp .lss (nm x) (nm y) = false) (h2 : std.scmp .lss (nm y) (nm x) = false) (h3 : lk x y = false) : pairs2 nm lk (x :: a) (y :: b) = (Aku, nm x) :: pairs2 nm lk a b := by
 rw [Ae3 nm lk _ _ (by simp), show step2 nm lk (x :: a) (y :: b) = ⟨⟨#[126]⟩, nm x, a, b⟩ from by simp only [step2, h, h2, h3, cond_false], if_neg A3q]; rfl
theorem Ah7 {motive : List α → List α → Prop} (h0 : motive [] []) (hl : ∀ x a, motive a [] → motive (x :: a) []) (hr : ∀ y b, motive [] b → motive [] (y :: b)) (h1 : ∀ x y a b, motive a (y :: b) → motive (x :: a) b → motive a b → motive (x :: a) (y :: b)) : ∀ (n : Nat) (a b : List α), a.length + b.length ≤ n → motive a b
 | _, [], [], _ => h0
 | 0, x :: a, b, h => by simp at h
 | 0, [], y :: b, h => by simp at h
 | n + 1, x :: a, [], h => hl x a (Ah7 h0 hl hr h1 n a [] (by simp at h ⊢; omega))
 | n + 1, [], y :: b, h => hr y b (Ah7 h0 hl hr h1 n [] b (by simp at h ⊢; omega))
 | n + 1, x :: a, y :: b, h => h1 x y a b (Ah7 h0 hl hr h1 n a (y :: b) (by simp at h ⊢; omega)) (Ah7 h0 hl hr h1 n (x :: a) b (by simp at h ⊢; omega)) (Ah7 h0 hl hr h1 n a b (by simp at h ⊢; omega))
theorem pairs_nil (hlk : ∀ x y, lk x y = true ↔ x = y) (a b : List α) : pairs2 nm lk a b = [] ↔ a = b := by
 refine Ah7 (motive := fun a b => pairs2 nm lk a b = [] ↔ a = b) ?_ ?_ ?_ ?_ _ a b (Nat.le_refl _)
 ·simp [pairs2_nil]
 ·intro x a _; rw [pairs_l]; simp
 ·intro y b _; rw [pairs_r]; simp
 ·intro x y a b _ _ ih
  have ne : ∀ {p : ByteArray × ByteArray} {l}, x ≠ y → (p :: l = [] ↔ x :: a = y :: b) := fun hn => ⟨fun h => (by cases h), fun h => absurd (List.cons.inj h).1 hn⟩
  rcases Bool.eq_false_or_eq_true (std.scmp .lss (nm x) (nm y)) with h1 | h1
  ·rw [pairs_lt nm lk h1]
   exact ne fun e => by rw [e, show std.scmp .lss (nm y) (nm y) = false from Am5 _] at h1; cases h1
  ·rcases Bool.eq_false_or_eq_true (std.scmp .lss (nm y) (nm x)) with h2 | h2
   ·rw [Aj7 nm lk h1 h2]
    exact ne fun e => by rw [e, show std.scmp .lss (nm y) (nm y) = false from Am5 _] at h2; cases h2
   ·rcases Bool.eq_false_or_eq_true (lk x y) with h3 | h3
    ·rw [Aj8 nm lk h1 h2 h3, ih, (hlk x y).1 h3]; simp
    ·rw [Ak9 nm lk h1 h2 h3]
     exact ne fun e => by rw [e, (hlk y y).2 rfl] at h3; cases h3
theorem flip_minus : flipS Aj6 = plusT := if_pos rfl
theorem flip_plus : flipS plusT = Aj6 := by unfold flipS; rw [if_neg (by decide), if_pos rfl]
theorem Asp : flipS Aku = Aku := by unfold flipS; rw [if_neg (by decide), if_neg (by decide)]
theorem A0g (hlk : ∀ x y, lk x y = true ↔ x = y) (a b : List α) : pairs2 nm lk b a = (pairs2 nm lk a b).map flipP := by
 refine Ah7 (motive := fun a b => pairs2 nm lk b a = (pairs2 nm lk a b).map flipP) ?_ ?_ ?_ ?_ _ a b (Nat.le_refl _)
 ·rfl
 ·intro x a ih; rw [pairs_l, pairs_r, ih]; simp only [List.map_cons, flipP, flip_minus]
 ·intro y b ih; rw [pairs_r, pairs_l, ih]; simp only [List.map_cons, flipP, flip_plus]
 ·intro x y a b i1 i2 i3
  rcases Bool.eq_false_or_eq_true (std.scmp .lss (nm x) (nm y)) with h1 | h1
  ·rw [pairs_lt nm lk h1, Aj7 nm lk (Aol h1) h1, i1]; simp only [List.map_cons, flipP, flip_minus]
  ·rcases Bool.eq_false_or_eq_true (std.scmp .lss (nm y) (nm x)) with h2 | h2
   ·rw [Aj7 nm lk h1 h2, pairs_lt nm lk h2, i2]; simp only [List.map_cons, flipP, flip_plus]
   ·have hn : nm x = nm y := At0 h1 h2
    rcases Bool.eq_false_or_eq_true (lk x y) with h3 | h3
    ·rw [Aj8 nm lk h1 h2 h3, Aj8 nm lk h2 h1 ((hlk y x).2 ((hlk x y).1 h3).symm), i3]
    ·have h4 : lk y x = false := by
      rcases Bool.eq_false_or_eq_true (lk y x) with h5 | h5
      ·rw [(hlk x y).2 ((hlk y x).1 h5).symm] at h3; cases h3
      ·exact h5
     rw [Ak9 nm lk h1 h2 h3, Ak9 nm lk h2 h1 h4, i3]; simp only [List.map_cons, flipP, Asp, hn]
theorem Awo (a b : List α) : ∀ p ∈ pairs2 nm lk a b, (p.1 = Aj6 ∨ p.1 = plusT ∨ p.1 = Aku) ∧ ∃ x, (x ∈ a ∨ x ∈ b) ∧ p.2 = nm x := by
 refine Ah7 (motive := fun a b => ∀ p ∈ pairs2 nm lk a b, (p.1 = Aj6 ∨ p.1 = plusT ∨ p.1 = Aku) ∧ ∃ x, (x ∈ a ∨ x ∈ b) ∧ p.2 = nm x) ?_ ?_ ?_ ?_ _ a b (Nat.le_refl _)
 ·intro p hp; rw [pairs2_nil] at hp; cases hp
 ·intro x a ih p hp
  rw [pairs_l] at hp
  rcases List.mem_cons.1 hp with rfl | hp
  ·exact ⟨.inl rfl, x, .inl (List.mem_cons_self ..), rfl⟩
  ·obtain ⟨h1, z, hz, h2⟩ := ih p hp
   exact ⟨h1, z, hz.imp (List.mem_cons_of_mem _) id, h2⟩
 ·intro y b ih p hp
  rw [pairs_r] at hp
  rcases List.mem_cons.1 hp with rfl | hp
  ·exact ⟨.inr (.inl rfl), y, .inr (List.mem_cons_self ..), rfl⟩
  ·obtain ⟨h1, z, hz, h2⟩ := ih p hp
   exact ⟨h1, z, hz.imp id (List.mem_cons_of_mem _), h2⟩
 ·intro x y a b i1 i2 i3 p hp
  rcases Bool.eq_false_or_eq_true (std.scmp .lss (nm x) (nm y)) with h1 | h1
  ·rw [pairs_lt nm lk h1] at hp
   rcases List.mem_cons.1 hp with rfl | hp
   ·exact ⟨.inl rfl, x, .inl (List.mem_cons_self ..), rfl⟩
   ·obtain ⟨h1, z, hz, h2⟩ := i1 p hp
    exact ⟨h1, z, hz.imp (List.mem_cons_of_mem _) id, h2⟩
  ·rcases Bool.eq_false_or_eq_true (std.scmp .lss (nm y) (nm x)) with h2 | h2
   ·rw [Aj7 nm lk h1 h2] at hp
    rcases List.mem_cons.1 hp with rfl | hp
    ·exact ⟨.inr (.inl rfl), y, .inr (List.mem_cons_self ..), rfl⟩
    ·obtain ⟨h1, z, hz, h2⟩ := i2 p hp
     exact ⟨h1, z, hz.imp id (List.mem_cons_of_mem _), h2⟩
   ·rcases Bool.eq_false_or_eq_true (lk x y) with h3 | h3
    ·rw [Aj8 nm lk h1 h2 h3] at hp
     obtain ⟨h1, z, hz, h2⟩ := i3 p hp
     exact ⟨h1, z, hz.imp (List.mem_cons_of_mem _) (List.mem_cons_of_mem _), h2⟩
    ·rw [Ak9 nm lk h1 h2 h3] at hp
     rcases List.mem_cons.1 hp with rfl | hp
     ·exact ⟨.inr (.inr rfl), x, .inl (List.mem_cons_self ..), rfl⟩
     ·obtain ⟨h1, z, hz, h2⟩ := i3 p hp
      exact ⟨h1, z, hz.imp (List.mem_cons_of_mem _) (List.mem_cons_of_mem _), h2⟩
theorem Awp (a b : List α) : (pairs2 nm lk a b).length ≤ a.length + b.length := by
 refine Ah7 (motive := fun a b => (pairs2 nm lk a b).length ≤ a.length + b.length) ?_ ?_ ?_ ?_ _ a b (Nat.le_refl _)
 ·exact Nat.zero_le _
 ·intro x a ih; rw [pairs_l]; simp only [List.length_cons] at ih ⊢; omega
 ·intro y b ih; rw [pairs_r]; simp only [List.length_cons] at ih ⊢; omega
 ·intro x y a b i1 i2 i3
  simp only [List.length_cons] at i1 i2 i3 ⊢
  rcases Bool.eq_false_or_eq_true (std.scmp .lss (nm x) (nm y)) with h1 | h1
  ·rw [pairs_lt nm lk h1]; simp only [List.length_cons]; omega
  ·rcases Bool.eq_false_or_eq_true (std.scmp .lss (nm y) (nm x)) with h2 | h2
   ·rw [Aj7 nm lk h1 h2]; simp only [List.length_cons]; omega
   ·rcases Bool.eq_false_or_eq_true (lk x y) with h3 | h3
    ·rw [Aj8 nm lk h1 h2 h3]; omega
    ·rw [Ak9 nm lk h1 h2 h3]; simp only [List.length_cons]; omega
end
end Go.PL
namespace Go.PL
set_option linter.unusedSimpArgs false
set_option linter.unusedVariables false
set_option linter.unusedSectionVars false
open Tys (Ty U)
open Enc (sz enc dflt tb ofB toB)
open Dec (dec dok)
set_option maxRecDepth 100000
def Ag4 {α : Type} (nm : α → ByteArray) (lk : α → α → Bool) (kind : ByteArray) (a b : List α) : List ByteArray := (pairs2 nm lk a b).map (lineT std kind)
theorem A2q {s : ByteArray} (h : s = Aj6 ∨ s = plusT ∨ s = Aku) : s.size = 1 := by rcases h with rfl | rfl | rfl <;> rfl
theorem A3r {α : Type} {lk : α → α → Option Bool} {x y : α} {b : Bool} (h : lk x y = some b) : likeB lk x y = b := by unfold likeB; rw [h]; rfl
theorem Ayp {α : Type} (nm : α → ByteArray) (lk lk' : α → α → Bool) (a b : List α) (h : ∀ x ∈ a, ∀ y ∈ b, lk x y = lk' x y) : pairs2 nm lk a b = pairs2 nm lk' a b := by
 refine Ah7 (motive := fun a b => (∀ x ∈ a, ∀ y ∈ b, lk x y = lk' x y) → pairs2 nm lk a b = pairs2 nm lk' a b) ?_ ?_ ?_ ?_ _ a b (Nat.le_refl _) h
 ·intro _; rfl
 ·intro x a ih h; rw [pairs_l, pairs_l, ih fun _ _ _ hy => by cases hy]
 ·intro y b ih h; rw [pairs_r, pairs_r, ih fun _ hx => by cases hx]
 ·intro x y a b i1 i2 i3 h
  have m := fun {α : Type} {x : α} {l : List α} => List.mem_cons_self (a := x) (l := l)
  have i1 := i1 fun x hx => h x (List.mem_cons_of_mem _ hx)
  have i2 := i2 fun x hx z hz => h x hx z (List.mem_cons_of_mem _ hz)
  have i3 := i3 fun x hx z hz => h x (List.mem_cons_of_mem _ hx) z (List.mem_cons_of_mem _ hz)
  have hxy := h x m y m
  rcases Bool.eq_false_or_eq_true (std.scmp .lss (nm x) (nm y)) with h1 | h1
  ·rw [pairs_lt nm lk h1, pairs_lt nm lk' h1, i1]
  ·rcases Bool.eq_false_or_eq_true (std.scmp .lss (nm y) (nm x)) with h2 | h2
   ·rw [Aj7 nm lk h1 h2, Aj7 nm lk' h1 h2, i2]
   ·rcases Bool.eq_false_or_eq_true (lk x y) with h3 | h3
    ·rw [Aj8 nm lk h1 h2 h3, Aj8 nm lk' h1 h2 (hxy ▸ h3), i3]
    ·rw [Ak9 nm lk h1 h2 h3, Ak9 nm lk' h1 h2 (hxy ▸ h3), i3]
theorem Ala {α : Type} (nm : α → ByteArray) (lk : α → α → Option Bool) (x0 : List ByteArray) (kind : ByteArray) (a b : List α) (hl : ∀ x ∈ a, ∀ y ∈ b, lk x y = some (eqB x y)) (hn : ∀ x, x ∈ a ∨ x ∈ b → (nm x).size ≤ 1000) (hk : kind.size ≤ 1000) (h0 : x0.length ≤ 1000) (ha : a.length ≤ 1000) (hb : b.length ≤ 1000) :
  Agw std nm lk x0 kind a b = some (x0 ++ Ag4 nm eqB kind a b) := by
 have e : pairs2 nm (likeB lk) a b = pairs2 nm eqB a b := Ayp nm _ _ a b fun x hx y hy => A3r (hl x hx y hy)
 unfold Agw Ag4
 rw [e]
 refine (ck_t fun x hx y hy => by rw [hl x hx y hy]; rfl).trans ((ck_t fun p hp => ?_).trans (ck_t fun acc p h => ?_))
 ·obtain ⟨h1, x, hx, h2⟩ := Awo nm eqB a b p hp
  have z1 := A2q h1
  have z2 : p.2.size ≤ 1000 := by rw [h2]; exact hn x hx
  have zs : (⟨#[32]⟩ : ByteArray).size = 1 := rfl
  unfold Avn
  simp only [s_cat, Am0, ByteArray.size_append, zs]
  omega
 ·have := Awp nm eqB a b
  exact ⟨by simp; omega, by simp; omega⟩
theorem Aja {α : Type} (nm : α → ByteArray) (lk : α → α → Bool) (kind : ByteArray) (a b : List α) : (Ag4 nm lk kind a b).length ≤ a.length + b.length := by
 unfold Ag4; rw [List.length_map]; exact Awp nm lk a b
def ruleK : ByteArray := ByteArray.mk (Array.mk [114, 117, 108, 101])
def recvK : ByteArray := ByteArray.mk (Array.mk [114, 101, 99, 101, 105, 118, 101, 114])
def Ao0 : ByteArray := ByteArray.mk (Array.mk [104, 111, 117, 114, 115])
def inhK : ByteArray := ByteArray.mk (Array.mk [126, 32, 105, 110, 104, 105, 98, 105, 116, 115])
def Asq : ByteArray := ByteArray.mk (Array.mk [126, 32, 114, 111, 117, 116, 101])
noncomputable def diffL (x y : Config) : List ByteArray :=
 Ag4 (fun r : Rule => r.1) eqB ruleK x.Rules y.Rules ++ Ag4 (fun s : ByteArray => s) eqB recvK x.Receivers y.Receivers ++ Ag4 (fun h : Hours => h.1) eqB Ao0 x.Hours y.Hours ++ cond (eqB x.Inhibits y.Inhibits) [] [inhK] ++ cond (eqB x.Route y.Route) [] [Asq]
structure NormOK (x : Config) : Prop where
 fit : Acf x
 rules : x.Rules.length ≤ 16 ∧ ∀ r ∈ x.Rules, r.Name.size ≤ 64
 recv : x.Receivers.length ≤ 16 ∧ ∀ r ∈ x.Receivers, r.size ≤ 64
 hours : x.Hours.length ≤ 8 ∧ ∀ r ∈ x.Hours, r.Name.size ≤ 64
theorem Aq8 {s : ByteArray} (h : wordS s = true) : s.size ≤ 64 := by
 simp only [wordS, Bool.and_eq_true, decide_eq_true_eq] at h; exact h.2
theorem At7 {c : Config} (hf : Acf c) (hc : Ac9 c = true) : NormOK (normS c) := by
 have ok := Asn hc
 refine ⟨Azk hf, ⟨by show (sortI _ _).length ≤ 16; rw [Ac4]; exact ok.rules.1, fun r hr => ?_⟩, ⟨by show (sortI _ _).length ≤ 16; rw [Ac4]; exact ok.recv.1, fun r hr => ?_⟩, ⟨by show (sortI _ _).length ≤ 8; rw [Ac4]; exact ok.hours.1, fun r hr => ?_⟩⟩
 ·have := ok.rules.2.1 r ((Afg _ _).mem_iff.1 hr)
  simp only [ruleS, Bool.and_eq_true] at this
  exact Aq8 this.1.1.1.1.1.1.1.1.1.1.1.1
 ·exact Aq8 (ok.recv.2.1 r ((Afg _ _).mem_iff.1 hr))
 ·have := ok.hours.2.1 r ((Afg _ _).mem_iff.1 hr)
  simp only [hourS, Bool.and_eq_true] at this
  exact Aq8 this.1.1.1.1.1.1
theorem Aon (a b : Config) (fa : Acf a) (fb : Acf b) : Amy std a b = some (cond (Ac9 a && Ac9 b) (diffL (normS a) (normS b), 0) ([], 1)) := by
 unfold Amy
 rw [Af7 a fa, bd_some, Af7 b fb, bd_some]
 simp only
 cases ha : Ac9 a with
 | false =>
  rw [show std.or (std.cmp .neq (normE a) 0) (std.cmp .neq (normE b) 0) = true from by
   have : std.cmp .neq (normE a) 0 = true := by unfold normE; rw [ha]; rfl
   rw [this]; rfl, Abk]
  rfl
 | true =>
  cases hb : Ac9 b with
  | false =>
   rw [show std.or (std.cmp .neq (normE a) 0) (std.cmp .neq (normE b) 0) = true from by
    have : std.cmp .neq (normE b) 0 = true := by unfold normE; rw [hb]; rfl
    rw [this, s_lor, Bool.or_true], Abk]
   rfl
  | true =>
   rw [show std.or (std.cmp .neq (normE a) 0) (std.cmp .neq (normE b) 0) = false from by unfold normE; rw [ha, hb]; rfl, br_false]
   rw [show normC a = normS a from by unfold normC; rw [ha]; rfl, show normC b = normS b from by unfold normC; rw [hb]; rfl]
   have na := At7 fa ha
   have nb := At7 fb hb
   generalize normS a = x at na
   generalize normS b = y at nb
   have e1 : Ahb std ruleK x.1 y.1 = some (Ag4 (fun r : Rule => r.1) eqB ruleK x.Rules y.Rules) :=
    Ala _ _ [] ruleK x.Rules y.Rules (fun r hr s _ => Anz r s (na.fit.1.2 r hr).2.2.1) (fun r hr => by
     rcases hr with hr | hr
     ·have := na.rules.2 r hr; omega
     ·have := nb.rules.2 r hr; omega) (by decide) (by simp) (by have := na.rules.1; omega) (by have := nb.rules.1; omega)
   have l1 := Aja (fun r : Rule => r.1) eqB ruleK x.Rules y.Rules
   have r1 := na.rules.1
   have r2 := nb.rules.1
   generalize h1 : Ag4 (fun r : Rule => r.1) eqB ruleK x.Rules y.Rules = L1 at e1 l1
   have e2 : Af0 std L1 recvK x.3 y.3 = some (L1 ++ Ag4 (fun s : ByteArray => s) eqB recvK x.Receivers y.Receivers) :=
    Ala _ _ L1 recvK x.Receivers y.Receivers (fun r hr s _ => by show some (std.scmp .eql r s) = _; rw [A3o]) (fun r hr => by
     rcases hr with hr | hr
     ·have := na.recv.2 r hr; omega
     ·have := nb.recv.2 r hr; omega) (by decide) (by omega) (by have := na.recv.1; omega) (by have := nb.recv.1; omega)
   have l2 := Aja (fun s : ByteArray => s) eqB recvK x.Receivers y.Receivers
   have r3 := na.recv.1
   have r4 := nb.recv.1
   generalize h2 : Ag4 (fun s : ByteArray => s) eqB recvK x.Receivers y.Receivers = L2 at e2 l2
   have e3 : Agj std (L1 ++ L2) Ao0 x.5 y.5 = some (L1 ++ L2 ++ Ag4 (fun h : Hours => h.1) eqB Ao0 x.Hours y.Hours) :=
    Ala _ _ (L1 ++ L2) Ao0 x.Hours y.Hours (fun r hr s _ => by show some _ = _; exact congrArg some (Awi r s)) (fun r hr => by
     rcases hr with hr | hr
     ·have := na.hours.2 r hr; omega
     ·have := nb.hours.2 r hr; omega) (by decide) (by rw [List.length_append]; omega) (by have := na.hours.1; omega) (by have := nb.hours.1; omega)
   have l3 := Aja (fun h : Hours => h.1) eqB Ao0 x.Hours y.Hours
   have r5 := na.hours.1
   have r6 := nb.hours.1
   generalize h3 : Ag4 (fun h : Hours => h.1) eqB Ao0 x.Hours y.Hours = L3 at e3 l3
   have lz : (L1 ++ L2 ++ L3).length ≤ 1000 := by simp only [List.length_append]; omega
   have e4 := Amr x.Inhibits y.Inhibits (fun y0 y1 => Af4 std y0 y1) (fun r hr s _ => Apb r s (na.fit.2.2.2.1.2 r hr)) na.fit.2.2.2.1.1
   have e5 := Ams x.Route y.Route na.fit.2.1
   have cd : (cond (true && true) (diffL x y, (0 : Int)) ([], 1)) = (L1 ++ L2 ++ L3 ++ cond (eqB x.Inhibits y.Inhibits) [] [inhK] ++ cond (eqB x.Route y.Route) [] [Asq], 0) := by
    show (diffL x y, (0 : Int)) = _
    unfold diffL
    rw [h1, h2, h3]
   rw [cd]
   refine (congrArg (fun o => bd o _) e1).trans ((bd_some ..).trans ((congrArg (fun o => bd o _) e2).trans ((bd_some ..).trans ((congrArg (fun o => bd o _) e3).trans ((bd_some ..).trans ?_)))))
   generalize L1 ++ L2 ++ L3 = L at lz
   rw [e4, bd_some]
   have ap : ∀ (L : List ByteArray) s, L.length ≤ 1001 → std.appOk TyS.str 16 L [s] := fun L s h => ⟨by simp; omega, by simp; omega⟩
   cases eqB x.Inhibits y.Inhibits with
   | true =>
    rw [show std.not true = false from rfl, br_false, e5, bd_some]
    cases eqB x.Route y.Route with
    | true => rw [show std.not true = false from rfl, br_false]; simp
    | false => rw [show std.not false = true from rfl, Abk, ck_t (ap _ _ (by omega))]; simp only [cond_true, cond_false, List.append_nil]; rfl
   | false =>
    rw [show std.not false = true from rfl, Abk, ck_t (ap _ _ (by omega)), e5, bd_some]
    cases eqB x.Route y.Route with
    | true => rw [show std.not true = false from rfl, br_false]; simp only [cond_true, cond_false, List.append_nil]; rfl
    | false => rw [show std.not false = true from rfl, Abk, ck_t (ap _ _ (by show (L ++ [_]).length ≤ 1001; rw [List.length_append, List.length_singleton]; omega))]; rfl
end Go.PL
namespace Go.PL
set_option linter.unusedSimpArgs false
set_option linter.unusedVariables false
set_option linter.unusedSectionVars false
open Tys (Ty U)
open Enc (sz enc dflt tb ofB toB)
open Dec (dec dok)
set_option maxRecDepth 100000
def restT (kind name : ByteArray) : ByteArray := (⟨#[32]⟩ : ByteArray) ++ kind ++ ⟨#[32]⟩ ++ name
theorem Awq (kind : ByteArray) (p : ByteArray × ByteArray) : lineT std kind p = p.1 ++ restT kind p.2 := by
 unfold lineT restT
 simp only [s_cat, ByteArray.append_assoc]
theorem At8 (c : UInt8) (R : ByteArray) : std.sget (⟨#[c]⟩ ++ R) 0 = (c.toNat : Int) := by
 show ((((⟨#[c]⟩ ++ R : ByteArray).data.getD 0 0).toNat : Nat) : Int) = _
 rw [ByteArray.data_append, Array.getD_eq_getD_getElem?, Array.getElem?_append_left (by simp)]
 rfl
theorem Awr (c : UInt8) (R : ByteArray) : std.ssub (⟨#[c]⟩ ++ R) 1 (std.slen (⟨#[c]⟩ ++ R)) = R := by
 show (⟨#[c]⟩ ++ R : ByteArray).extract (1 : Int).toNat (((⟨#[c]⟩ ++ R : ByteArray).size : Int)).toNat = R
 apply ByteArray.ext
 rw [ByteArray.data_extract, ByteArray.data_append]
 have : (((⟨#[c]⟩ ++ R : ByteArray).size : Int)).toNat = 1 + R.data.size := by
  rw [ByteArray.size_append]; rfl
 rw [this]
 simp [Array.extract_append]
theorem Am7 (c : UInt8) (R : ByteArray) : (⟨#[c]⟩ ++ R : ByteArray).size = 1 + R.size := by rw [ByteArray.size_append]; rfl
theorem A2r (R : ByteArray) (h : R.size ≤ 100000) : Aaf std (plusT ++ R) = some (Aj6 ++ R) := by
 have z := Am7 43 R
 unfold Aaf plusT
 rw [At8, Awr, ck_t (show std.inb 0 (std.slen (⟨#[43]⟩ ++ R)) from ⟨by decide, by rw [Aml, z]; omega⟩), show std.cmp .eql (((43 : UInt8).toNat : Nat) : Int) 43 = true from rfl, Abk, ck_t (show std.subOk 1 (std.slen (⟨#[43]⟩ ++ R)) (std.slen (⟨#[43]⟩ ++ R)) from ⟨by decide, by rw [Aml, z]; omega, Int.le_refl _⟩), ck_t (show std.catOk (ByteArray.mk (Array.mk [45])) R from by rw [Am0]; show 1 + R.size ≤ _; omega)]
 rfl
theorem A0h (R : ByteArray) (h : R.size ≤ 100000) : Aaf std (Aj6 ++ R) = some (plusT ++ R) := by
 have z := Am7 45 R
 unfold Aaf Aj6
 rw [At8, Awr, ck_t (show std.inb 0 (std.slen (⟨#[45]⟩ ++ R)) from ⟨by decide, by rw [Aml, z]; omega⟩), show std.cmp .eql (((45 : UInt8).toNat : Nat) : Int) 43 = false from rfl, br_false, show std.cmp .eql (((45 : UInt8).toNat : Nat) : Int) 45 = true from rfl, Abk, ck_t (show std.subOk 1 (std.slen (⟨#[45]⟩ ++ R)) (std.slen (⟨#[45]⟩ ++ R)) from ⟨by decide, by rw [Aml, z]; omega, Int.le_refl _⟩), ck_t (show std.catOk (ByteArray.mk (Array.mk [43])) R from by rw [Am0]; show 1 + R.size ≤ _; omega)]
 rfl
theorem Asr (R : ByteArray) : Aaf std (Aku ++ R) = some (Aku ++ R) := by
 have z := Am7 126 R
 unfold Aaf Aku
 rw [At8, ck_t (show std.inb 0 (std.slen (⟨#[126]⟩ ++ R)) from ⟨by decide, by rw [Aml, z]; omega⟩), show std.cmp .eql (((126 : UInt8).toNat : Nat) : Int) 43 = false from rfl, br_false, show std.cmp .eql (((126 : UInt8).toNat : Nat) : Int) 45 = false from rfl, br_false]
noncomputable def turnT (s : ByteArray) : ByteArray := (Aaf std s).getD ⟨#[]⟩
structure TurnOK (s : ByteArray) : Prop where
 turn : Aaf std s = some (turnT s)
 pos : 1 ≤ s.size
theorem An0 {s t : ByteArray} (h : Aaf std s = some t) (hp : 1 ≤ s.size) : TurnOK s ∧ turnT s = t := by
 have e : turnT s = t := by unfold turnT; rw [h]; rfl
 exact ⟨⟨by rw [e]; exact h, hp⟩, e⟩
theorem A2s (kind : ByteArray) (p : ByteArray × ByteArray) (hs : p.1 = Aj6 ∨ p.1 = plusT ∨ p.1 = Aku) (hk : kind.size ≤ 1000) (hn : p.2.size ≤ 1000) : TurnOK (lineT std kind p) ∧ turnT (lineT std kind p) = lineT std kind (flipP p) := by
 have hR : (restT kind p.2).size ≤ 100000 := by
  unfold restT
  simp only [ByteArray.size_append]
  show 1 + kind.size + 1 + p.2.size ≤ _
  omega
 rw [Awq, Awq]
 unfold flipP
 simp only
 rcases hs with h | h | h <;> rw [h]
 ·rw [flip_minus]; exact An0 (A0h _ hR) (by rw [show Aj6 = (⟨#[45]⟩ : ByteArray) from rfl, Am7]; omega)
 ·rw [flip_plus]; exact An0 (A2r _ hR) (by rw [show plusT = (⟨#[43]⟩ : ByteArray) from rfl, Am7]; omega)
 ·rw [Asp]; exact An0 (Asr _) (by rw [show Aku = (⟨#[126]⟩ : ByteArray) from rfl, Am7]; omega)
theorem Aoo {α : Type} (nm : α → ByteArray) (kind : ByteArray) (a b : List α) (hk : kind.size ≤ 1000) (hn : ∀ x, x ∈ a ∨ x ∈ b → (nm x).size ≤ 1000) : (∀ s ∈ Ag4 nm eqB kind a b, TurnOK s) ∧ Ag4 nm eqB kind b a = (Ag4 nm eqB kind a b).map turnT := by
 have hp : ∀ p ∈ pairs2 nm eqB a b, TurnOK (lineT std kind p) ∧ turnT (lineT std kind p) = lineT std kind (flipP p) := fun p hp => by
  obtain ⟨h1, x, hx, h2⟩ := Awo nm eqB a b p hp
  exact A2s kind p h1 hk (by rw [h2]; exact hn x hx)
 unfold Ag4
 refine ⟨fun s hs => ?_, ?_⟩
 ·obtain ⟨p, hp', rfl⟩ := List.mem_map.1 hs
  exact (hp p hp').1
 ·rw [A0g nm eqB (fun x y => Afy) a b, List.map_map, List.map_map]
  exact List.map_congr_left fun p hp' => (hp p hp').2.symm
theorem Ass (s : ByteArray) (R : ByteArray) (h : s = Aku ++ R) : TurnOK s ∧ turnT s = s := by
 subst h
 exact An0 (Asr R) (by rw [show Aku = (⟨#[126]⟩ : ByteArray) from rfl, Am7]; omega)
theorem A2t : TurnOK inhK ∧ turnT inhK = inhK := Ass _ (ByteArray.mk (Array.mk [32, 105, 110, 104, 105, 98, 105, 116, 115])) (by kernel_rfl)
theorem Ayq : TurnOK Asq ∧ turnT Asq = Asq := Ass _ (ByteArray.mk (Array.mk [32, 114, 111, 117, 116, 101])) (by kernel_rfl)
theorem Azn {α : Type} (x y : α) : eqB x y = eqB y x := Alh (by rw [Afy]; exact ⟨fun h => h.symm, fun h => h.symm⟩)
theorem Azo {b : Bool} {k : ByteArray} (h : TurnOK k ∧ turnT k = k) : (∀ s ∈ cond b [] [k], TurnOK s) ∧ cond b [] [k] = (cond b [] [k]).map turnT := by
 cases b with
 | true => exact ⟨fun s hs => (by cases hs), rfl⟩
 | false => exact ⟨fun s hs => by rw [List.mem_singleton.1 hs]; exact h.1, by show [k] = [turnT k]; rw [h.2]⟩
theorem A0i (x y : Config) (nx : NormOK x) (ny : NormOK y) : (∀ s ∈ diffL x y, TurnOK s) ∧ diffL y x = (diffL x y).map turnT := by
 obtain ⟨a1, a2⟩ := Aoo (fun r : Rule => r.1) ruleK x.Rules y.Rules (by decide) (fun r hr => by
  rcases hr with hr | hr
  ·have := nx.rules.2 r hr; omega
  ·have := ny.rules.2 r hr; omega)
 obtain ⟨b1, b2⟩ := Aoo (fun s : ByteArray => s) recvK x.Receivers y.Receivers (by decide) (fun r hr => by
  rcases hr with hr | hr
  ·have := nx.recv.2 r hr; omega
  ·have := ny.recv.2 r hr; omega)
 obtain ⟨c1, c2⟩ := Aoo (fun h : Hours => h.1) Ao0 x.Hours y.Hours (by decide) (fun r hr => by
  rcases hr with hr | hr
  ·have := nx.hours.2 r hr; omega
  ·have := ny.hours.2 r hr; omega)
 obtain ⟨d1, d2⟩ := Azo (b := eqB x.Inhibits y.Inhibits) A2t
 obtain ⟨e1, e2⟩ := Azo (b := eqB x.Route y.Route) Ayq
 unfold diffL
 refine ⟨fun s hs => ?_, ?_⟩
 ·simp only [List.mem_append] at hs
  rcases hs with (((hs | hs) | hs) | hs) | hs
  ·exact a1 s hs
  ·exact b1 s hs
  ·exact c1 s hs
  ·exact d1 s hs
  ·exact e1 s hs
 ·rw [a2, b2, c2, Azn y.Inhibits, Azn y.Route]
  simp only [List.map_append]
  rw [← d2, ← e2]
theorem A2u (x y : Config) : diffL x y = [] ↔ x = y := by
 have l : ∀ {α : Type} (nm : α → ByteArray) kind (a b : List α), Ag4 nm eqB kind a b = [] ↔ a = b := fun nm kind a b => by
  unfold Ag4; rw [List.map_eq_nil_iff]; exact pairs_nil nm eqB (fun x y => Afy) a b
 have c : ∀ {α : Type} (a b : α) (k : ByteArray), cond (eqB a b) [] [k] = [] ↔ a = b := fun a b k => by
  have h := Afy (a := a) (b := b)
  generalize eqB a b = q at h
  cases q with
  | true => exact ⟨fun _ => h.1 rfl, fun _ => rfl⟩
  | false => exact ⟨fun h' => (by cases h'), fun h' => absurd (h.2 h') (by decide)⟩
 unfold diffL
 rw [List.append_eq_nil_iff, List.append_eq_nil_iff, List.append_eq_nil_iff, List.append_eq_nil_iff, l, l, l, c, c]
 cases x; cases y
 simp only [Config.mk.injEq]
 constructor
 ·rintro ⟨⟨⟨⟨h1, h2⟩, h3⟩, h4⟩, h5⟩; exact ⟨h1, h5, h2, h4, h3⟩
 ·rintro ⟨h1, h5, h2, h4, h3⟩; exact ⟨⟨⟨⟨h1, h2⟩, h3⟩, h4⟩, h5⟩
def oneC : Config := ⟨[], ⟨opsT, [], [], 0, 1, 1, [], false, []⟩, [opsT], [], []⟩
def twoC : Config := ⟨[], ⟨opsT, [], [], 0, 1, 1, [], false, []⟩, [devT, opsT], [], []⟩
theorem A3s : Acf oneC := ⟨Ad1, .mk _ (size_le 3 rfl (by omega)) Ad1 Ad1 Ad1 (by simp [oneC]) (fun k hk => by cases hk), ⟨by show 1 ≤ big63; unfold big63; omega, fun x hx => by
 rw [List.mem_singleton.1 hx]; exact size_le 3 rfl (by omega)⟩, Ad1, Ad1⟩
theorem A3t : Acf twoC := ⟨Ad1, .mk _ (size_le 3 rfl (by omega)) Ad1 Ad1 Ad1 (by simp [twoC]) (fun k hk => by cases hk), ⟨by show 2 ≤ big63; unfold big63; omega, fun x hx => by
 rcases List.mem_cons.1 hx with rfl | hx
 ·exact size_le 3 rfl (by omega)
 ·rw [List.mem_singleton.1 hx]; exact size_le 3 rfl (by omega)⟩, Ad1, Ad1⟩
theorem A4m : Ac9 oneC = true := by kernel_rfl
theorem A4n : Ac9 twoC = true := by kernel_rfl
theorem A2v : normS oneC = oneC := by kernel_rfl
theorem A2w : normS twoC = twoC := by kernel_rfl
def devL : ByteArray := ByteArray.mk (Array.mk [43, 32, 114, 101, 99, 101, 105, 118, 101, 114, 32, 100, 101, 118])
theorem A3u : lineT std recvK (plusT, devT) = devL := by kernel_rfl
theorem A0j : diffL oneC twoC = [devL] := by
 have h1 : std.scmp .lss opsT devT = false := by kernel_rfl
 have h2 : std.scmp .lss devT opsT = true := by kernel_rfl
 have h3 : std.scmp .lss opsT opsT = false := by kernel_rfl
 unfold diffL
 rw [show oneC.Rules = [] from rfl, show twoC.Rules = [] from rfl, show oneC.Hours = [] from rfl, show twoC.Hours = [] from rfl, show oneC.Receivers = [opsT] from rfl, show twoC.Receivers = [devT, opsT] from rfl, show eqB oneC.Inhibits twoC.Inhibits = true from At6 _, show eqB oneC.Route twoC.Route = true from At6 _]
 unfold Ag4
 rw [Aj7 (fun s : ByteArray => s) eqB h1 h2, Aj8 (fun s : ByteArray => s) eqB h3 h3 (At6 _), pairs2_nil, pairs2_nil, pairs2_nil]
 simp only [List.map_nil, List.map_cons, List.nil_append, List.append_nil, cond_true, A3u]
theorem Amg : Abt std = some true := by
 have h := Aon oneC twoC A3s A3t
 rw [A4m, A4n, A2v, A2w, A0j] at h
 unfold Abt
 refine (congrArg (fun o => bd o _) (show _ = some (([devL], 0) : List ByteArray × Int) from h)).trans ((bd_some ..).trans ((ck_t (vc_of fun _ => ?_)).trans ?_))
 ·show (0 : Int) ≤ 0 ∧ (0 : Int) < 1
  omega
 ·have e : std.scmp .eql (std.get TyS.str [devL] 0) devL = true := by rw [s_seql]; exact decide_eq_true rfl
  exact congrArg some ((congrArg (fun b => std.and _ b) e).trans rfl)
theorem At9 (a b : Config) (fa : Acf a) (fb : Acf b) : Adc std a b = some true := by
 obtain ⟨w1, h1, _⟩ := Aso a fa
 obtain ⟨w2, h2, _⟩ := Aso b fb
 unfold Adc
 rw [h1, bd_some]
 cases w1 with
 | true => rw [show std.not true = false from rfl, gd_f, bd_some, show std.or true false = true from rfl, Abk, Amg]; rfl
 | false =>
  rw [show std.not false = true from rfl, gd_t, h2, bd_some]
  cases w2 with
  | true => rw [show std.or false true = true from rfl, Abk, Amg]; rfl
  | false =>
   rw [show std.or false false = false from rfl, br_false, Aon a b fa fb, bd_some, Aon b a fb fa, bd_some, Bool.and_comm (Ac9 b)]
   cases hab : (Ac9 a && Ac9 b) with
   | false =>
    simp only [cond_false]
    rw [show std.or (std.cmp .neq 1 0) (std.cmp .neq 1 0) = true from rfl, Abk, Amg]
    rfl
   | true =>
    simp only [cond_true]
    rw [show std.or (std.cmp .neq 0 0) (std.cmp .neq 0 0) = false from rfl, br_false, Arx a b fa fb, bd_some, hab]
    obtain ⟨ha, hb⟩ := Bool.and_eq_true_iff.1 hab
    rw [A2n ha, A2n hb]
    have nx := At7 fa ha
    have ny := At7 fb hb
    generalize normS a = x at nx
    generalize normS b = y at ny
    obtain ⟨tl, tm⟩ := A0i x y nx ny
    have hnil := A2u x y
    have hbound : (diffL x y).length ≤ 1000 := by
     have l1 := Aja (fun r : Rule => r.1) eqB ruleK x.Rules y.Rules
     have l2 := Aja (fun s : ByteArray => s) eqB recvK x.Receivers y.Receivers
     have l3 := Aja (fun h : Hours => h.1) eqB Ao0 x.Hours y.Hours
     have c1 : ∀ (b : Bool) (k : ByteArray), (cond b [] [k]).length ≤ 1 := fun b k => by cases b <;> simp
     have l4 := c1 (eqB x.Inhibits y.Inhibits) inhK
     have l5 := c1 (eqB x.Route y.Route) Asq
     have := nx.rules.1; have := ny.rules.1; have := nx.recv.1; have := ny.recv.1; have := nx.hours.1; have := ny.hours.1
     unfold diffL
     simp only [List.length_append]
     omega
    rw [tm]
    generalize diffL x y = l at tl hnil hbound
    have e1 : std.cmp .eql (std.len TyS.str l) 0 = eqB x y := Alh (by
     rw [← hnil, Aam]
     show ((l.length : Int) == 0) = true ↔ l = []
     rw [beq_iff_eq]
     constructor
     ·intro h; exact List.eq_nil_of_length_eq_zero (by omega)
     ·intro h; rw [h]; rfl)
    have e2 : std.cmp .neq (std.len TyS.str l) (std.len TyS.str (l.map turnT)) = false := by
     rw [A2k, List.length_map]; simp
    have e3 : ∀ b : Bool, std.or (std.not (std.eqb b (true && b))) false = false := fun b => by cases b <;> rfl
    rw [e1, e2, e3, show std.not false = true from rfl, gd_t, Amg, bd_some, show std.or false (std.not true) = false from rfl, br_false]
    have := Akp (B := Ack std (l, 0) (l.map turnT, 0)) (fun i (_ : Unit) => (i : Int)) l (fun _ _ (_ : Unit) => (.inl () : Unit ⊕ Bool)) (fun _ => true) (fun i s u hs hi => by
     obtain ⟨t1, t2⟩ := tl s (Aev hs)
     have hm : (l.map turnT)[i]? = some (turnT s) := by rw [List.getElem?_map, hs]; rfl
     have hne : std.scmp .eql s (ByteArray.mk (Array.mk [])) = false := by
      rw [s_seql]
      refine decide_eq_false fun h => ?_
      rw [h] at t2; exact absurd t2 (by decide)
     unfold Ack
     simp only
     rw [Aam, lssT hi, Abk, ck_t (inbT hi), Abl (t := TyS.str) hs, hne, ck_t (show vc (std.not false) (std.inb (i : Int) (std.len TyS.str (l.map turnT))) from by show std.inb _ _; rw [Aam, List.length_map]; exact inbT hi), show std.not false = true from rfl, gd_t, t1, bd_some, Abl (t := TyS.str) hm, show std.or false (std.scmp .neq (turnT s) (turnT s)) = false from by rw [Avl]; simp, br_false, s_add, wrap_succ hi (by unfold big63; omega)]) (fun _ => by
     unfold Ack
     simp only
     rw [Aam, lssF, br_false]
     rfl) ()
    rw [Azj] at this
    exact this
end Go.PL
