/- Texts of this claim: plain laws of what the program's functions compute. No condition of their own. -/
import Derived.Test.YtnkaolleaebhnaaGreatDoorDlWb
namespace Go.PL
set_option linter.unusedSimpArgs false
set_option linter.unusedVariables false
set_option linter.unusedSectionVars false
open Tys (Ty U)
open Enc (sz enc dflt tb ofB toB)
open Dec (dec dok)
set_option maxRecDepth 100000
theorem Arz : ∀ (n : Nat) (r : Route) (m : Int), SizeOf.sizeOf r < n → RouteFit r → ∃ v, Abh std n r m = some v
 | 0, r, m, h, _ => absurd h (Nat.not_lt_zero _)
 | n + 1, r, m, h, hf => by
  obtain ⟨_, _, _, _, h5, h6⟩ := Ary hf
  rw [Abh, Ads]
  refine ⟨_, Ajy (B := Acp std (Abh std n) r m) (fun i (s : Int) => (s, (i : Int))) r.Routes (fun _ k s => if decide (m < s) = true then (.inr s : Int ⊕ Int) else .inl (std.ar .add .i64 s ((Abh std n k (std.ar .sub .i64 m s)).getD 0))) (fun s => s) (fun i k s hk hi => ?_) (fun s => ?_) 1⟩
  ·unfold Acp
   simp only
   obtain ⟨v, hv⟩ := Arz n k (std.ar .sub .i64 m s) (by have := Amu (Afd hk); omega) (h6 k (Afd hk))
   rw [Aai, lssT hi, Abd, ck_t (inbT hi), Abv (t := TyS.route) hk, s_gtr, hv, bd_some, s_add (a := (i : Int)), wrap_succ hi h5]
   cases decide (m < s) <;> rfl
  ·unfold Acp
   simp only
   rw [Aai, lssF, br_false]
   rfl
theorem A00 (c : Config) (h : Ab8 c) : ∃ b, Adh std c = some b ∧ (b = false → Small c) := by
 unfold Adh
 obtain ⟨v, hv⟩ := Arz (SizeOf.sizeOf c.Route + 1) c.Route 40 (Nat.lt_succ_self _) h.2.1
 unfold Afk
 rw [hv, bd_some]
 refine ⟨_, rfl, fun hb => ?_⟩
 simp only [s_lor, s_gtr, Bool.or_eq_false_iff, decide_eq_false_iff_not, s_len] at hb
 exact ⟨by omega, by omega, by omega, by omega⟩
theorem Ap0 (x y : Inhibit) (h : Ah1 x) : Af7 std x y = some (eqB x y) := by
 unfold Af7
 rw [Akl x.Source y.Source (fun y0 y1 => Aea std y0 y1) (fun a ha b _ => Aj4 a b (h.1.2 a ha).2.1) h.1.1, bd_some]
 rw [gd_b (fun _ => Akl x.Target y.Target (fun y0 y1 => Aea std y0 y1) (fun a ha b _ => Aj4 a b (h.2.1.2 a ha).2.1) h.2.1.1), bd_some]
 rw [gd_b (fun _ => Acj _ _ h.2.2.1), bd_some]
 refine congrArg some (Apl ?_)
 cases x; cases y
 simp only [s_land, Bool.and_eq_true, Aj2, Inhibit.mk.injEq]
 constructor
 ·rintro ⟨⟨h1, _, h2⟩, _, h3⟩; exact ⟨h1, h2, h3⟩
 ·rintro ⟨h1, h2, h3⟩; exact ⟨⟨h1, h1, h2⟩, ⟨h1, h1, h2⟩, h3⟩
def Ar0 : ByteArray := ⟨#[45]⟩
def plusT : ByteArray := ⟨#[43]⟩
def Az4 : ByteArray := ⟨#[126]⟩
theorem A27 : (⟨#[]⟩ : ByteArray).toList = [] := by kernel_rfl
theorem tl_of (c : UInt8) : ¬ (⟨#[c]⟩ : ByteArray).toList = [] := fun h => by
 have := ba_eq.1 (h.trans A27.symm)
 cases this
theorem Az5 : ¬ (⟨#[45]⟩ : ByteArray).toList = [] := tl_of _
theorem A28 : ¬ (⟨#[43]⟩ : ByteArray).toList = [] := tl_of _
theorem A38 : ¬ (⟨#[126]⟩ : ByteArray).toList = [] := tl_of _
def flipS (s : ByteArray) : ByteArray := if s = Ar0 then plusT else if s = plusT then Ar0 else s
def flipP (p : ByteArray × ByteArray) : ByteArray × ByteArray := (flipS p.1, p.2)
section
variable {α : Type} (nm : α → ByteArray) (lk : α → α → Bool)
theorem pairs_l (x : α) (a : List α) : pairs2 nm lk (x :: a) [] = (Ar0, nm x) :: pairs2 nm lk a [] := by
 rw [Ae5 nm lk _ _ (by simp), show step2 nm lk (x :: a) [] = ⟨⟨#[45]⟩, nm x, a, []⟩ from rfl, if_neg Az5]; rfl
theorem pairs_r (y : α) (b : List α) : pairs2 nm lk [] (y :: b) = (plusT, nm y) :: pairs2 nm lk [] b := by
 rw [Ae5 nm lk _ _ (by simp), show step2 nm lk [] (y :: b) = ⟨⟨#[43]⟩, nm y, [], b⟩ from rfl, if_neg A28]; rfl
theorem pairs_lt {x y : α} {a b : List α} (h : std.scmp .lss (nm x) (nm y) = true) : pairs2 nm lk (x :: a) (y :: b) = (Ar0, nm x) :: pairs2 nm lk a (y :: b) := by
 rw [Ae5 nm lk _ _ (by simp), show step2 nm lk (x :: a) (y :: b) = ⟨⟨#[45]⟩, nm x, a, y :: b⟩ from by simp only [step2, h, cond_true], if_neg Az5]; rfl
theorem Aoj {x y : α} {a b : List α} (h : std.scmp .lss (nm x) (nm y) = false) (h2 : std.scmp .lss (nm y) (nm x) = true) : pairs2 nm lk (x :: a) (y :: b) = (plusT, nm y) :: pairs2 nm lk (x :: a) b := by
 rw [Ae5 nm lk _ _ (by simp), show step2 nm lk (x :: a) (y :: b) = ⟨⟨#[43]⟩, nm y, x :: a, b⟩ from by simp only [step2, h, h2, cond_true, cond_false], if_neg A28]; rfl
theorem Aok {x y : α} {a b : List α} (h : std.scmp .lss (nm x) (nm y) = false) (h2 : std.scmp .lss (nm y) (nm x) = false) (h3 : lk x y = true) : pairs2 nm lk (x :: a) (y :: b) = pairs2 nm lk a b := by
 rw [Ae5 nm lk _ _ (by simp), show step2 nm lk (x :: a) (y :: b) = ⟨⟨#[]⟩, nm x, a, b⟩ from by simp only [step2, h, h2, h3, cond_true, cond_false], if_pos A27]; rfl
theorem Ap9 {x y : α} {a b : List α} (h : std.scmp .lss (nm x) (nm y) = false) (h2 : std.scmp .lss (nm y) (nm x) = false) (h3 : lk x y = false) : pairs2 nm lk (x :: a) (y :: b) = (Az4, nm x) :: pairs2 nm lk a b := by
 rw [Ae5 nm lk _ _ (by simp), show step2 nm lk (x :: a) (y :: b) = ⟨⟨#[126]⟩, nm x, a, b⟩ from by simp only [step2, h, h2, h3, cond_false], if_neg A38]; rfl
theorem Ake {motive : List α → List α → Prop} (h0 : motive [] []) (hl : ∀ x a, motive a [] → motive (x :: a) []) (hr : ∀ y b, motive [] b → motive [] (y :: b)) (h1 : ∀ x y a b, motive a (y :: b) → motive (x :: a) b → motive a b → motive (x :: a) (y :: b)) : ∀ (n : Nat) (a b : List α), a.length + b.length ≤ n → motive a b
 | _, [], [], _ => h0
 | 0, x :: a, b, h => by simp at h
 | 0, [], y :: b, h => by simp at h
 | n + 1, x :: a, [], h => hl x a (Ake h0 hl hr h1 n a [] (by simp at h ⊢; omega))
 | n + 1, [], y :: b, h => hr y b (Ake h0 hl hr h1 n [] b (by simp at h ⊢; omega))
 | n + 1, x :: a, y :: b, h => h1 x y a b (Ake h0 hl hr h1 n a (y :: b) (by simp at h ⊢; omega)) (Ake h0 hl hr h1 n (x :: a) b (by simp at h ⊢; omega)) (Ake h0 hl hr h1 n a b (by simp at h ⊢; omega))
theorem A29 (a b : List α) : ∀ p ∈ pairs2 nm lk a b, (p.1 = Ar0 ∨ p.1 = plusT ∨ p.1 = Az4) ∧ ∃ x, (x ∈ a ∨ x ∈ b) ∧ p.2 = nm x := by
 refine Ake (motive := fun a b => ∀ p ∈ pairs2 nm lk a b, (p.1 = Ar0 ∨ p.1 = plusT ∨ p.1 = Az4) ∧ ∃ x, (x ∈ a ∨ x ∈ b) ∧ p.2 = nm x) ?_ ?_ ?_ ?_ _ a b (Nat.le_refl _)
 ·intro p hp; rw [pairs2_nil] at hp; cases hp
 ·intro x a ih p hp
  rw [pairs_l] at hp
  rcases List.mem_cons.1 hp with rfl | hp
  ·exact ⟨.inl rfl, x, .inl (List.mem_cons_self ..), rfl⟩
  ·obtain ⟨h1, z, hz, h2⟩ := ih p hp
   exact ⟨h1, z, hz.imp (List.mem_cons_of_mem _) id, h2⟩
 ·intro y b ih p hp
  rw [pairs_r] at hp
  rcases List.mem_cons.1 hp with rfl | hp
  ·exact ⟨.inr (.inl rfl), y, .inr (List.mem_cons_self ..), rfl⟩
  ·obtain ⟨h1, z, hz, h2⟩ := ih p hp
   exact ⟨h1, z, hz.imp id (List.mem_cons_of_mem _), h2⟩
 ·intro x y a b i1 i2 i3 p hp
  rcases Bool.eq_false_or_eq_true (std.scmp .lss (nm x) (nm y)) with h1 | h1
  ·rw [pairs_lt nm lk h1] at hp
   rcases List.mem_cons.1 hp with rfl | hp
   ·exact ⟨.inl rfl, x, .inl (List.mem_cons_self ..), rfl⟩
   ·obtain ⟨h1, z, hz, h2⟩ := i1 p hp
    exact ⟨h1, z, hz.imp (List.mem_cons_of_mem _) id, h2⟩
  ·rcases Bool.eq_false_or_eq_true (std.scmp .lss (nm y) (nm x)) with h2 | h2
   ·rw [Aoj nm lk h1 h2] at hp
    rcases List.mem_cons.1 hp with rfl | hp
    ·exact ⟨.inr (.inl rfl), y, .inr (List.mem_cons_self ..), rfl⟩
    ·obtain ⟨h1, z, hz, h2⟩ := i2 p hp
     exact ⟨h1, z, hz.imp id (List.mem_cons_of_mem _), h2⟩
   ·rcases Bool.eq_false_or_eq_true (lk x y) with h3 | h3
    ·rw [Aok nm lk h1 h2 h3] at hp
     obtain ⟨h1, z, hz, h2⟩ := i3 p hp
     exact ⟨h1, z, hz.imp (List.mem_cons_of_mem _) (List.mem_cons_of_mem _), h2⟩
    ·rw [Ap9 nm lk h1 h2 h3] at hp
     rcases List.mem_cons.1 hp with rfl | hp
     ·exact ⟨.inr (.inr rfl), x, .inl (List.mem_cons_self ..), rfl⟩
     ·obtain ⟨h1, z, hz, h2⟩ := i3 p hp
      exact ⟨h1, z, hz.imp (List.mem_cons_of_mem _) (List.mem_cons_of_mem _), h2⟩
theorem Aw7 (a b : List α) : (pairs2 nm lk a b).length ≤ a.length + b.length := by
 refine Ake (motive := fun a b => (pairs2 nm lk a b).length ≤ a.length + b.length) ?_ ?_ ?_ ?_ _ a b (Nat.le_refl _)
 ·exact Nat.zero_le _
 ·intro x a ih; rw [pairs_l]; simp only [List.length_cons] at ih ⊢; omega
 ·intro y b ih; rw [pairs_r]; simp only [List.length_cons] at ih ⊢; omega
 ·intro x y a b i1 i2 i3
  simp only [List.length_cons] at i1 i2 i3 ⊢
  rcases Bool.eq_false_or_eq_true (std.scmp .lss (nm x) (nm y)) with h1 | h1
  ·rw [pairs_lt nm lk h1]; simp only [List.length_cons]; omega
  ·rcases Bool.eq_false_or_eq_true (std.scmp .lss (nm y) (nm x)) with h2 | h2
   ·rw [Aoj nm lk h1 h2]; simp only [List.length_cons]; omega
   ·rcases Bool.eq_false_or_eq_true (lk x y) with h3 | h3
    ·rw [Aok nm lk h1 h2 h3]; omega
    ·rw [Ap9 nm lk h1 h2 h3]; simp only [List.length_cons]; omega
end
end Go.PL
namespace Go.PL
set_option linter.unusedSimpArgs false
set_option linter.unusedVariables false
set_option linter.unusedSectionVars false
open Tys (Ty U)
open Enc (sz enc dflt tb ofB toB)
open Dec (dec dok)
set_option maxRecDepth 100000
def Akf {α : Type} (nm : α → ByteArray) (lk : α → α → Bool) (kind : ByteArray) (a b : List α) : List ByteArray := (pairs2 nm lk a b).map (lineT std kind)
theorem A3a {s : ByteArray} (h : s = Ar0 ∨ s = plusT ∨ s = Az4) : s.size = 1 := by rcases h with rfl | rfl | rfl <;> rfl
theorem A39 {α : Type} {lk : α → α → Option Bool} {x y : α} {b : Bool} (h : lk x y = some b) : likeB lk x y = b := by unfold likeB; rw [h]; rfl
theorem Ay5 {α : Type} (nm : α → ByteArray) (lk lk' : α → α → Bool) (a b : List α) (h : ∀ x ∈ a, ∀ y ∈ b, lk x y = lk' x y) : pairs2 nm lk a b = pairs2 nm lk' a b := by
 refine Ake (motive := fun a b => (∀ x ∈ a, ∀ y ∈ b, lk x y = lk' x y) → pairs2 nm lk a b = pairs2 nm lk' a b) ?_ ?_ ?_ ?_ _ a b (Nat.le_refl _) h
 ·intro _; rfl
 ·intro x a ih h; rw [pairs_l, pairs_l, ih fun _ _ _ hy => by cases hy]
 ·intro y b ih h; rw [pairs_r, pairs_r, ih fun _ hx => by cases hx]
 ·intro x y a b i1 i2 i3 h
  have m := fun {α : Type} {x : α} {l : List α} => List.mem_cons_self (a := x) (l := l)
  have i1 := i1 fun x hx => h x (List.mem_cons_of_mem _ hx)
  have i2 := i2 fun x hx z hz => h x hx z (List.mem_cons_of_mem _ hz)
  have i3 := i3 fun x hx z hz => h x (List.mem_cons_of_mem _ hx) z (List.mem_cons_of_mem _ hz)
  have hxy := h x m y m
  rcases Bool.eq_false_or_eq_true (std.scmp .lss (nm x) (nm y)) with h1 | h1
  ·rw [pairs_lt nm lk h1, pairs_lt nm lk' h1, i1]
  ·rcases Bool.eq_false_or_eq_true (std.scmp .lss (nm y) (nm x)) with h2 | h2
   ·rw [Aoj nm lk h1 h2, Aoj nm lk' h1 h2, i2]
   ·rcases Bool.eq_false_or_eq_true (lk x y) with h3 | h3
    ·rw [Aok nm lk h1 h2 h3, Aok nm lk' h1 h2 (hxy ▸ h3), i3]
    ·rw [Ap9 nm lk h1 h2 h3, Ap9 nm lk' h1 h2 (hxy ▸ h3), i3]
theorem All {α : Type} (nm : α → ByteArray) (lk : α → α → Option Bool) (x0 : List ByteArray) (kind : ByteArray) (a b : List α) (hl : ∀ x ∈ a, ∀ y ∈ b, lk x y = some (eqB x y)) (hn : ∀ x, x ∈ a ∨ x ∈ b → (nm x).size ≤ 1000) (hk : kind.size ≤ 1000) (h0 : x0.length ≤ 1000) (ha : a.length ≤ 1000) (hb : b.length ≤ 1000) :
  Agz std nm lk x0 kind a b = some (x0 ++ Akf nm eqB kind a b) := by
 have e : pairs2 nm (likeB lk) a b = pairs2 nm eqB a b := Ay5 nm _ _ a b fun x hx y hy => A39 (hl x hx y hy)
 unfold Agz Akf
 rw [e]
 refine (ck_t fun x hx y hy => by rw [hl x hx y hy]; rfl).trans ((ck_t fun p hp => ?_).trans (ck_t fun acc p h => ?_))
 ·obtain ⟨h1, x, hx, h2⟩ := A29 nm eqB a b p hp
  have z1 := A3a h1
  have z2 : p.2.size ≤ 1000 := by rw [h2]; exact hn x hx
  have zs : (⟨#[32]⟩ : ByteArray).size = 1 := rfl
  unfold Avo
  simp only [s_cat, Aq2, ByteArray.size_append, zs]
  omega
 ·have := Aw7 nm eqB a b
  exact ⟨by simp; omega, by simp; omega⟩
theorem Ao8 {α : Type} (nm : α → ByteArray) (lk : α → α → Bool) (kind : ByteArray) (a b : List α) : (Akf nm lk kind a b).length ≤ a.length + b.length := by
 unfold Akf; rw [List.length_map]; exact Aw7 nm lk a b
def ruleK : ByteArray := ByteArray.mk (Array.mk [114, 117, 108, 101])
def recvK : ByteArray := ByteArray.mk (Array.mk [114, 101, 99, 101, 105, 118, 101, 114])
def Atj : ByteArray := ByteArray.mk (Array.mk [104, 111, 117, 114, 115])
def inhK : ByteArray := ByteArray.mk (Array.mk [126, 32, 105, 110, 104, 105, 98, 105, 116, 115])
def A4o : ByteArray := ByteArray.mk (Array.mk [126, 32, 114, 111, 117, 116, 101])
noncomputable def diffL (x y : Config) : List ByteArray :=
 Akf (fun r : Rule => r.1) eqB ruleK x.Rules y.Rules ++ Akf (fun s : ByteArray => s) eqB recvK x.Receivers y.Receivers ++ Akf (fun h : Hours => h.1) eqB Atj x.Hours y.Hours ++ cond (eqB x.Inhibits y.Inhibits) [] [inhK] ++ cond (eqB x.Route y.Route) [] [A4o]
structure NormOK (x : Config) : Prop where
 fit : Ab8 x
 rules : x.Rules.length ≤ 16 ∧ ∀ r ∈ x.Rules, r.Name.size ≤ 64
 recv : x.Receivers.length ≤ 16 ∧ ∀ r ∈ x.Receivers, r.size ≤ 64
 hours : x.Hours.length ≤ 8 ∧ ∀ r ∈ x.Hours, r.Name.size ≤ 64
theorem Ar1 {s : ByteArray} (h : wordS s = true) : s.size ≤ 64 := by
 simp only [wordS, Bool.and_eq_true, decide_eq_true_eq] at h; exact h.2
theorem A3b {c : Config} (hf : Ab8 c) (hc : Ade c = true) : NormOK (normS c) := by
 have ok := Amy hc
 refine ⟨A37 hf, ⟨by show (sortI _ _).length ≤ 16; rw [Ac0]; exact ok.rules.1, fun r hr => ?_⟩, ⟨by show (sortI _ _).length ≤ 16; rw [Ac0]; exact ok.recv.1, fun r hr => ?_⟩, ⟨by show (sortI _ _).length ≤ 8; rw [Ac0]; exact ok.hours.1, fun r hr => ?_⟩⟩
 ·have := ok.rules.2.1 r ((Afj _ _).mem_iff.1 hr)
  simp only [ruleS, Bool.and_eq_true] at this
  exact Ar1 this.1.1.1.1.1.1.1.1.1.1.1.1
 ·exact Ar1 (ok.recv.2.1 r ((Afj _ _).mem_iff.1 hr))
 ·have := ok.hours.2.1 r ((Afj _ _).mem_iff.1 hr)
  simp only [hourS, Bool.and_eq_true] at this
  exact Ar1 this.1.1.1.1.1.1
theorem A01 (a b : Config) (fa : Ab8 a) (fb : Ab8 b) : Aqp std a b = some (cond (Ade a && Ade b) (diffL (normS a) (normS b), 0) ([], 1)) := by
 unfold Aqp
 rw [Ak3 a fa, bd_some, Ak3 b fb, bd_some]
 simp only
 cases ha : Ade a with
 | false =>
  rw [show std.or (std.cmp .neq (normE a) 0) (std.cmp .neq (normE b) 0) = true from by
   have : std.cmp .neq (normE a) 0 = true := by unfold normE; rw [ha]; rfl
   rw [this]; rfl, Abd]
  rfl
 | true =>
  cases hb : Ade b with
  | false =>
   rw [show std.or (std.cmp .neq (normE a) 0) (std.cmp .neq (normE b) 0) = true from by
    have : std.cmp .neq (normE b) 0 = true := by unfold normE; rw [hb]; rfl
    rw [this, s_lor, Bool.or_true], Abd]
   rfl
  | true =>
   rw [show std.or (std.cmp .neq (normE a) 0) (std.cmp .neq (normE b) 0) = false from by unfold normE; rw [ha, hb]; rfl, br_false]
   rw [show normC a = normS a from by unfold normC; rw [ha]; rfl, show normC b = normS b from by unfold normC; rw [hb]; rfl]
   have na := A3b fa ha
   have nb := A3b fb hb
   generalize normS a = x at na
   generalize normS b = y at nb
   have e1 : Ahc std ruleK x.1 y.1 = some (Akf (fun r : Rule => r.1) eqB ruleK x.Rules y.Rules) :=
    All _ _ [] ruleK x.Rules y.Rules (fun r hr s _ => Auw r s (na.fit.1.2 r hr).2.2.1) (fun r hr => by
     rcases hr with hr | hr
     ·have := na.rules.2 r hr; omega
     ·have := nb.rules.2 r hr; omega) (by decide) (by simp) (by have := na.rules.1; omega) (by have := nb.rules.1; omega)
   have l1 := Ao8 (fun r : Rule => r.1) eqB ruleK x.Rules y.Rules
   have r1 := na.rules.1
   have r2 := nb.rules.1
   generalize h1 : Akf (fun r : Rule => r.1) eqB ruleK x.Rules y.Rules = L1 at e1 l1
   have e2 : Af3 std L1 recvK x.3 y.3 = some (L1 ++ Akf (fun s : ByteArray => s) eqB recvK x.Receivers y.Receivers) :=
    All _ _ L1 recvK x.Receivers y.Receivers (fun r hr s _ => by show some (std.scmp .eql r s) = _; rw [A36]) (fun r hr => by
     rcases hr with hr | hr
     ·have := na.recv.2 r hr; omega
     ·have := nb.recv.2 r hr; omega) (by decide) (by omega) (by have := na.recv.1; omega) (by have := nb.recv.1; omega)
   have l2 := Ao8 (fun s : ByteArray => s) eqB recvK x.Receivers y.Receivers
   have r3 := na.recv.1
   have r4 := nb.recv.1
   generalize h2 : Akf (fun s : ByteArray => s) eqB recvK x.Receivers y.Receivers = L2 at e2 l2
   have e3 : Agm std (L1 ++ L2) Atj x.5 y.5 = some (L1 ++ L2 ++ Akf (fun h : Hours => h.1) eqB Atj x.Hours y.Hours) :=
    All _ _ (L1 ++ L2) Atj x.Hours y.Hours (fun r hr s _ => by show some _ = _; exact congrArg some (A25 r s)) (fun r hr => by
     rcases hr with hr | hr
     ·have := na.hours.2 r hr; omega
     ·have := nb.hours.2 r hr; omega) (by decide) (by rw [List.length_append]; omega) (by have := na.hours.1; omega) (by have := nb.hours.1; omega)
   have l3 := Ao8 (fun h : Hours => h.1) eqB Atj x.Hours y.Hours
   have r5 := na.hours.1
   have r6 := nb.hours.1
   generalize h3 : Akf (fun h : Hours => h.1) eqB Atj x.Hours y.Hours = L3 at e3 l3
   have lz : (L1 ++ L2 ++ L3).length ≤ 1000 := by simp only [List.length_append]; omega
   have e4 := Asp x.Inhibits y.Inhibits (fun y0 y1 => Af7 std y0 y1) (fun r hr s _ => Ap0 r s (na.fit.2.2.2.1.2 r hr)) na.fit.2.2.2.1.1
   have e5 := Asq x.Route y.Route na.fit.2.1
   have cd : (cond (true && true) (diffL x y, (0 : Int)) ([], 1)) = (L1 ++ L2 ++ L3 ++ cond (eqB x.Inhibits y.Inhibits) [] [inhK] ++ cond (eqB x.Route y.Route) [] [A4o], 0) := by
    show (diffL x y, (0 : Int)) = _
    unfold diffL
    rw [h1, h2, h3]
   rw [cd]
   refine (congrArg (fun o => bd o _) e1).trans ((bd_some ..).trans ((congrArg (fun o => bd o _) e2).trans ((bd_some ..).trans ((congrArg (fun o => bd o _) e3).trans ((bd_some ..).trans ?_)))))
   generalize L1 ++ L2 ++ L3 = L at lz
   rw [e4, bd_some]
   have ap : ∀ (L : List ByteArray) s, L.length ≤ 1001 → std.appOk TyS.str 16 L [s] := fun L s h => ⟨by simp; omega, by simp; omega⟩
   cases eqB x.Inhibits y.Inhibits with
   | true =>
    rw [show std.not true = false from rfl, br_false, e5, bd_some]
    cases eqB x.Route y.Route with
    | true => rw [show std.not true = false from rfl, br_false]; simp
    | false => rw [show std.not false = true from rfl, Abd, ck_t (ap _ _ (by omega))]; simp only [cond_true, cond_false, List.append_nil]; rfl
   | false =>
    rw [show std.not false = true from rfl, Abd, ck_t (ap _ _ (by omega)), e5, bd_some]
    cases eqB x.Route y.Route with
    | true => rw [show std.not true = false from rfl, br_false]; simp only [cond_true, cond_false, List.append_nil]; rfl
    | false => rw [show std.not false = true from rfl, Abd, ck_t (ap _ _ (by show (L ++ [_]).length ≤ 1001; rw [List.length_append, List.length_singleton]; omega))]; rfl
end Go.PL
namespace Go.PL
set_option linter.unusedSimpArgs false
set_option linter.unusedVariables false
set_option linter.unusedSectionVars false
open Tys (Ty U)
open Enc (sz enc dflt tb ofB toB)
open Dec (dec dok)
set_option maxRecDepth 100000
def restT (kind name : ByteArray) : ByteArray := (⟨#[32]⟩ : ByteArray) ++ kind ++ ⟨#[32]⟩ ++ name
def oneC : Config := ⟨[], ⟨opsT, [], [], 0, 1, 1, [], false, []⟩, [opsT], [], []⟩
def twoC : Config := ⟨[], ⟨opsT, [], [], 0, 1, 1, [], false, []⟩, [devT, opsT], [], []⟩
theorem A4a : Ab8 oneC := ⟨Aft, .mk _ (size_le 3 rfl (by omega)) Aft Aft Aft (by simp [oneC]) (fun k hk => by cases hk), ⟨by show 1 ≤ big63; unfold big63; omega, fun x hx => by
 rw [List.mem_singleton.1 hx]; exact size_le 3 rfl (by omega)⟩, Aft, Aft⟩
theorem A4b : Ab8 twoC := ⟨Aft, .mk _ (size_le 3 rfl (by omega)) Aft Aft Aft (by simp [twoC]) (fun k hk => by cases hk), ⟨by show 2 ≤ big63; unfold big63; omega, fun x hx => by
 rcases List.mem_cons.1 hx with rfl | hx
 ·exact size_le 3 rfl (by omega)
 ·rw [List.mem_singleton.1 hx]; exact size_le 3 rfl (by omega)⟩, Aft, Aft⟩
theorem A5a : Ade oneC = true := by kernel_rfl
theorem A5b : Ade twoC = true := by kernel_rfl
theorem A3c : normS oneC = oneC := by kernel_rfl
theorem A3d : normS twoC = twoC := by kernel_rfl
def devL : ByteArray := ByteArray.mk (Array.mk [43, 32, 114, 101, 99, 101, 105, 118, 101, 114, 32, 100, 101, 118])
theorem A4c : lineT std recvK (plusT, devT) = devL := by kernel_rfl
theorem A02 : diffL oneC twoC = [devL] := by
 have h1 : std.scmp .lss opsT devT = false := by kernel_rfl
 have h2 : std.scmp .lss devT opsT = true := by kernel_rfl
 have h3 : std.scmp .lss opsT opsT = false := by kernel_rfl
 unfold diffL
 rw [show oneC.Rules = [] from rfl, show twoC.Rules = [] from rfl, show oneC.Hours = [] from rfl, show twoC.Hours = [] from rfl, show oneC.Receivers = [opsT] from rfl, show twoC.Receivers = [devT, opsT] from rfl, show eqB oneC.Inhibits twoC.Inhibits = true from Auv _, show eqB oneC.Route twoC.Route = true from Auv _]
 unfold Akf
 rw [Aoj (fun s : ByteArray => s) eqB h1 h2, Aok (fun s : ByteArray => s) eqB h3 h3 (Auv _), pairs2_nil, pairs2_nil, pairs2_nil]
 simp only [List.map_nil, List.map_cons, List.nil_append, List.append_nil, cond_true, A4c]
theorem Ao9 : Acc std = some true := by
 have h := A01 oneC twoC A4a A4b
 rw [A5a, A5b, A3c, A3d, A02] at h
 unfold Acc
 refine (congrArg (fun o => bd o _) (show _ = some (([devL], 0) : List ByteArray × Int) from h)).trans ((bd_some ..).trans ((ck_t (vc_of fun _ => ?_)).trans ?_))
 ·show (0 : Int) ≤ 0 ∧ (0 : Int) < 1
  omega
 ·have e : std.scmp .eql (std.get TyS.str [devL] 0) devL = true := by rw [s_seql]; exact decide_eq_true rfl
  exact congrArg some ((congrArg (fun b => std.and _ b) e).trans rfl)
end Go.PL
namespace Go.PL
set_option linter.unusedSimpArgs false
set_option linter.unusedVariables false
set_option linter.unusedSectionVars false
open Tys (Ty U)
open Enc (sz enc dflt tb ofB toB)
open Dec (dec dok)
set_option maxRecDepth 100000
def A4p (m : Matcher) : Bool := decide ((textS m).size ≤ 200)
def shortS (l : List Matcher) : Bool := l.all A4p
theorem Aj5 (l : List Matcher) (hf : fitL Aew l) (h : Ad3 l = true) : Afz std l = some (shortS l) := by
 unfold Afz
 simp only [Ad3, Bool.and_eq_true, List.all_eq_true] at h
 rw [Ai2 l (fun m => !A4p m) _ (fun m hm => by
  unfold Ah7
  rw [Amm m (hf.2 m hm) (h.1 m hm), bd_some]
  simp only
  rw [s_gtr, As1, Amh]
  show some (!decide (((textS m).size : Int) ≤ ((200 : Nat) : Int))) = _
  rw [leN]; rfl) hf.1, bd_some, s_not, Aj0, Bool.not_not]
 rfl
def flatS : Nat → Route → Bool
 | 0, _ => false
 | d + 1, r => shortS r.Match && r.Routes.all (flatS d)
theorem Alv : ∀ (n : Nat) (r : Route) (d e : Nat), SizeOf.sizeOf r < n → RouteFit r → Afe e r = true → d ≤ 100 → Af9 std n r (d : Int) = some (flatS d r)
 | 0, r, d, e, h, _, _, _ => by omega
 | n + 1, r, d, e, h, hf, hs, hd => by
  obtain ⟨e, rfl⟩ := A0w hs
  have hk := Ah2 hs
  have h1 : oneS r = true := by simp only [Afe, Bool.and_eq_true] at hs; exact hs.1
  have hm : Ad3 r.Match = true := by
   simp only [oneS, Bool.and_eq_true] at h1
   exact h1.1.1.1.1.1.1.2
  obtain ⟨_, f2, _, _, f5, f6⟩ := Ary hf
  rw [Af9, Aje]
  cases d with
  | zero => rfl
  | succ d =>
   rw [show std.cmp .gtr ((d + 1 : Nat) : Int) 0 = true by rw [s_gtr]; exact decide_eq_true (by omega), gd_t, Aj5 r.Match f2 hm, bd_some, s_land, Bool.true_and]
   have e1 : Aan std r.9 (fun y0 => Ahh std (Af9 std n) y0 ((d + 1 : Nat) : Int)) = some (r.Routes.any fun k => !flatS d k) := Am9 r.Routes (fun k => !flatS d k) _ (fun k hk' => by
    unfold Ahh
    rw [show std.ar .sub .i64 ((d + 1 : Nat) : Int) 1 = (d : Int) by rw [s_sub, w64 (by omega)]; omega, Alv n k d e (by have := Amu hk'; omega) (f6 k hk') (hk.2 k hk') (by omega), bd_some, s_not]) f5
   rw [gd_b (fun _ => e1), bd_some, s_land, s_not, Aj0]
   simp only [flatS]
   cases shortS r.Match <;> simp
theorem Asr (r : Route) (d e : Nat) (hf : RouteFit r) (hs : Afe e r = true) (hd : d ≤ 100) : Ann std r (d : Int) = some (flatS d r) := Alv _ r d e (Nat.lt_succ_self _) hf hs hd
def bareC (c : Config) : Config := ⟨[], c.Route, c.Receivers, c.Inhibits, c.Hours⟩
theorem A4d {c : Config} (h : Ab8 c) : Ab8 (bareC c) := ⟨Aft, h.2.1, h.2.2.1, h.2.2.2.1, h.2.2.2.2⟩
def Az6 (x : Inhibit) : Bool := shortS x.Source && shortS x.Target
def holdsA (c : Config) : Bool := Ade (bareC c) && (flatS 3 c.Route && c.Inhibits.all Az6)
theorem Amp (c : Config) (h : Ab8 c) : Af0 std c = some (holdsA c) := by
 unfold Af0 Ak9
 rw [bd_some]
 show (bd (Adi std (bareC c)) fun w2 => _) = _
 rw [Aef _ (A4d h), bd_some]
 unfold holdsA
 cases hb : Ade (bareC c) with
 | false => rfl
 | true =>
  have ok := Amy hb
  have ht : Afe 4 c.Route = true := by
   have := ok.top
   simp only [topS, Bool.and_eq_true] at this
   exact this.1.1.1
  have hi : ∀ x ∈ c.Inhibits, Afs x = true := ok.inh.2
  rw [gd_t, show (3 : Int) = ((3 : Nat) : Int) from rfl, Asr c.Route 3 4 h.2.1 ht (by omega), bd_some, s_land, Bool.true_and, Bool.true_and]
  have e1 : Aaf std c.4 (fun y0 => Agk std y0) = some (c.Inhibits.any fun x => !Az6 x) := Alt c.Inhibits (fun x => !Az6 x) _ (fun x hx => by
   have hx1 := hi x hx
   simp only [Afs, Bool.and_eq_true] at hx1
   have hxf := h.2.2.2.1.2 x hx
   unfold Agk Az6
   rw [Aj5 x.1 hxf.1 hx1.2.1.2, bd_some, gd_b (fun _ => Aj5 x.2 hxf.2.1 hx1.2.2), bd_some]
   simp only [s_lor, s_not]
   cases shortS x.1 <;> cases shortS x.2 <;> rfl) h.2.2.2.1.1
  rw [gd_b (fun _ => e1), bd_some, s_land, s_not, Aj0]
  cases flatS 3 c.Route <;> simp
def oddS (x : Label) : Bool := Lib.contains (bytes x.Value) [59] || Lib.hasSuffix (bytes x.Value) [32]
theorem Ass (x : Label) (h : x.Value.size ≤ 64) : Agw std x = some (oddS x) := by
 unfold Agw oddS strings_Contains strings_HasSuffix
 rw [ck_t (by omega), bd_some, ck_t (by omega), gd_b (fun _ => rfl), bd_some]
 simp only [s_lor, s_not]
 show some (Lib.contains (bytes x.Value) [59] || (!Lib.contains (bytes x.Value) [59] && Lib.hasSuffix (bytes x.Value) [32])) = _
 cases Lib.contains (bytes x.Value) [59] <;> rfl
def oddR (r : Rule) : Bool := r.Labels.any oddS
def six (c : Config) (a b d : Bool) : List WhyW := [WhyW.mk (ByteArray.mk (Array.mk [114, 111, 117, 116, 101, 115])) (std.cmp .gtr (std.len TyS.route c.2.9) 0), WhyW.mk (ByteArray.mk (Array.mk [103, 114, 111, 117, 112])) (std.cmp .gtr (std.len TyS.str c.2.3) 0), WhyW.mk (ByteArray.mk (Array.mk [105, 110, 104, 105, 98, 105, 116])) (std.cmp .gtr (std.len TyS.inhibit c.4) 0), WhyW.mk (ByteArray.mk (Array.mk [102, 111, 114])) a, WhyW.mk (ByteArray.mk (Array.mk [107, 101, 101, 112])) b, WhyW.mk (ByteArray.mk (Array.mk [108, 97, 98, 101, 108])) d]
def saidW (l : List WhyW) : List ByteArray := (l.filter (·.is)).map (·.word)
def whyS (c : Config) : List ByteArray := saidW (six c (c.Rules.any fun r => r.For != 0) (c.Rules.any fun r => r.Keep != 0) (c.Rules.any oddR))
theorem A5c (l : List WhyW) : (saidW l).length ≤ l.length := by
 unfold saidW
 rw [List.length_map]; exact List.length_filter_le ..
theorem A4e (B : List ByteArray × Int → Option ((List ByteArray × Int) ⊕ List ByteArray)) (xs : List WhyW) (hl : xs.length ≤ 100)
  (hB : ∀ out i, B (out, i) = br (std.cmp .lss i (std.len TyS.whyw xs)) (ck (std.inb i (std.len TyS.whyw xs)) <| br (std.get TyS.whyw xs i).2 (ck (std.appOk TyS.str 16 out [(std.get TyS.whyw xs i).1]) <| some (.inl (std.app TyS.str out [(std.get TyS.whyw xs i).1], std.ar .add .i64 i 1))) (some (.inl (out, std.ar .add .i64 i 1)))) (rt (some out))) : Loop B ([], 0) = some (saidW xs) := by
 have := Ajy (B := B) (fun i (_ : Unit) => (saidW (xs.take i), (i : Int))) xs (fun _ _ (_ : Unit) => (.inl () : Unit ⊕ List ByteArray)) (fun _ => saidW xs) (fun i x u hx hi => by
  rw [hB, Aai, lssT hi, Abd, ck_t (inbT hi), Abv (t := TyS.whyw) hx, s_add, wrap_succ hi (by unfold big63; omega), take_snoc hx]
  have h1 := A5c (xs.take i)
  rw [List.length_take] at h1
  unfold saidW at h1 ⊢
  rw [List.filter_append, List.map_append]
  cases hx2 : x.2 with
  | true =>
   rw [Abd, ck_t (show std.appOk TyS.str 16 _ [x.1] from ⟨by simp only [List.length_singleton]; omega, by simp only [List.length_singleton]; omega⟩)]
   simp [hx2]
  | false => simp [br_false, hx2]) (fun _ => by
  rw [hB, Aai, lssF, br_false, List.take_length]
  rfl) ()
 rw [Az3] at this
 exact this
theorem Aw8 {c : Config} (h : Ade c = true) : ∀ r ∈ c.Rules, labelsS r.Labels = true ∧ r.Labels.length ≤ 4 := fun r hr => by
 have := (Amy h).rules.2.1 r hr
 simp only [ruleS, Bool.and_eq_true, decide_eq_true_eq] at this
 exact ⟨this.1.2, this.1.1.2⟩
theorem Ang (c : Config) (hf : Ab8 c) : Ahw std c = some (cond (Ade c) (whyS c) []) := by
 unfold Ahw
 rw [Aef c hf, bd_some]
 cases hp : Ade c with
 | false => rfl
 | true =>
  have hl := Aw8 hp
  have e1 : ∀ (p : Rule → Bool) (q : Rule → Option Bool), (∀ r ∈ c.Rules, q r = some (p r)) → Ae4 std q c = some (c.Rules.any p) := fun p q hq => by
   unfold Ae4
   rw [Alh c.1 p q hq hf.1.1, bd_some]
  rw [s_not, Bool.not_true, br_false, e1 (fun r => r.For != 0) (fun y0 => Ajc std y0) (fun r _ => rfl), bd_some, e1 (fun r => r.Keep != 0) (fun y0 => Ajd std y0) (fun r _ => rfl), bd_some, e1 oddR (fun y0 => Ahg std y0) (fun r hr => by
   unfold Ahg
   obtain ⟨h1, h2⟩ := hl r hr
   have hm := labelsS_mem h1
   have : Abl std r.8 (fun y0 => Agw std y0) = some (r.Labels.any oddS) := by
    have h3 : Aa9 std r.8 (fun y0 => Agw std y0) = some (fnd r.Labels oddS) := Are r.Labels oddS _ (fun x hx => Ass x (by
     have := hm x hx
     simp only [An9, As6, Bool.and_eq_true, decide_eq_true_eq] at this
     exact this.2.2)) (by unfold big63; omega)
    unfold Abl
    rw [h3, bd_some, s_geq, Ahk]
   rw [this, bd_some]
   rfl), bd_some]
  exact A4e (Am7 std c _ _ _) (six c _ _ _) (by show 6 ≤ 100; omega) (fun out i => rfl)
def Aw9 (c : Config) : Bool := Ade c && decide ((whyS c).length = 0)
theorem Ap1 (c : Config) (hf : Ab8 c) : Ahi std c = some (Aw9 c) := by
 unfold Ahi Aw9
 rw [Aef c hf, bd_some, Ang c hf]
 cases hp : Ade c with
 | false => rfl
 | true =>
  rw [gd_t, bd_some, cond_true]
  have : std.cmp .eql (std.len TyS.str (whyS c)) 0 = decide ((whyS c).length = 0) := by rw [Aai, s_eql, Bool.eq_iff_iff]; simp
  rw [this]; rfl
end Go.PL
namespace Go.PL
set_option linter.unusedSimpArgs false
set_option linter.unusedVariables false
set_option linter.unusedSectionVars false
open Tys (Ty U)
open Enc (sz enc dflt tb ofB toB)
open Dec (dec dok)
set_option maxRecDepth 100000
theorem Anu (l : List Rule) (hf : fitL Arh l) : ∃ b, Adg std l = some b := by
 unfold Adg
 refine ⟨_, Ajy (B := Af8 std l) (fun i (_ : Unit) => (i : Int)) l (fun i r (_ : Unit) => bif ((!ruleS r || (r.7 != 1)) || (l.take i).any fun y => decide (y.1 = r.1)) then (.inr false : Unit ⊕ Bool) else .inl ()) (fun _ => std.and (std.cmp .geq (std.len TyS.rule l) 1) (std.cmp .leq (std.len TyS.rule l) 16)) (fun i r u hr hi => ?_) (fun _ => ?_) ()⟩
 ·unfold Af8
  simp only
  have hb : i ≤ big63 := by have := hf.1; omega
  have hsub : std.lsub TyS.rule l 0 (i : Int) = l.take i := by show (l.take ((i : Int)).toNat).drop 0 = _; simp
  have hc : Aal std (l.take i) (fun y0 => Afc std y0 r) = some ((l.take i).any fun y => decide (y.1 = r.1)) := Alh (l.take i) _ _ (fun y _ => by unfold Afc; rw [s_seql]) (by rw [List.length_take]; omega)
  rw [Aai, lssT hi, Abd, ck_t (inbT hi), Abv (t := TyS.rule) hr, Anc r (hf.2 r (Afd hr)), bd_some, hsub, hc, ck_t (vc_of fun _ => ⟨by decide, by omega, by show (i : Int) ≤ (l.length : Int); omega⟩), s_neq, s_not, s_lor, s_add, wrap_succ hi hf.1]
  cases ruleS r <;> cases (r.7 != 1) <;> cases ((l.take i).any fun y => decide (y.1 = r.1)) <;> rfl
 ·unfold Af8
  simp only
  rw [Aai, lssF, br_false]
  rfl
def lossP (rules : Bool) (routes : Bool) : List ByteArray := (bif rules then [ByteArray.mk (Array.mk [114, 117, 108, 101, 115])] else []) ++ bif routes then [ByteArray.mk (Array.mk [114, 111, 117, 116, 101, 115])] else []
theorem A3e (c : Config) (hf : Ab8 c) (hc : Ade c = true) (p : Bool) (hp : Adg std c.Rules = some p) : Aip std c 1 = some (lossP (decide (0 < c.Rules.length) && !p) (!holdsA c), 0) := by
 unfold Aip
 have hg : std.cmp .gtr (std.len TyS.rule c.1) 0 = decide (0 < c.Rules.length) := by
  rw [Aai]; show decide _ = decide _
  rw [Bool.eq_iff_iff, decide_eq_true_eq, decide_eq_true_eq]; show (c.Rules.length : Int) > 0 ↔ _; omega
 rw [Aef c hf, bd_some, hc, show std.not true = false from rfl, br_false, show std.cmp .eql 1 2 = false from rfl, br_false, show std.cmp .eql 1 1 = true from rfl, Abd, hg, show Adg std c.1 = some p from hp, Amp c hf]
 cases decide (0 < c.Rules.length) <;> cases p <;> cases holdsA c <;> rfl
theorem A4f (c : Config) (hf : Ab8 c) (hc : Ade c = true) : Aip std c 2 = some (whyS c, 0) := by
 unfold Aip
 rw [Aef c hf, bd_some, hc, show std.not true = false from rfl, br_false, show std.cmp .eql 2 2 = true from rfl, Abd, Ang c hf, bd_some, hc, cond_true]
theorem Aux (c : Config) (hf : Ab8 c) : Ac7 std c = some true := by
 obtain ⟨w1, h1, _⟩ := A00 c hf
 unfold Ac7
 rw [h1, bd_some]
 cases w1 with
 | true => rw [show std.not true = false from rfl, gd_f, bd_some, show std.or true (std.not false) = true from rfl, Abd, Ao9]; rfl
 | false =>
  rw [show std.not false = true from rfl, gd_t, Aef c hf, bd_some]
  cases hc : Ade c with
  | false => rw [show std.or false (std.not false) = true from rfl, Abd, Ao9]; rfl
  | true =>
   obtain ⟨p, hp⟩ := Anu c.Rules hf.1
   have he : std.cmp .eql (std.len TyS.rule c.1) 0 = decide (c.Rules.length = 0) := by
    rw [Aai]; show ((c.Rules.length : Int) == 0) = _
    rw [Bool.eq_iff_iff, beq_iff_eq, decide_eq_true_eq]; omega
   have hn : std.cmp .eql (std.len TyS.str (whyS c)) 0 = Aw9 c := by
    unfold Aw9
    rw [hc, Bool.true_and, Aai]; show (((whyS c).length : Int) == 0) = _
    rw [Bool.eq_iff_iff, beq_iff_eq, decide_eq_true_eq]; omega
   have hz : decide (0 < c.Rules.length) = !decide (c.Rules.length = 0) := by
    cases h : c.Rules.length <;> simp
   rw [show std.or false (std.not true) = false from rfl, br_false, A3e c hf hc p hp, bd_some, A4f c hf hc, bd_some, Amp c hf, bd_some, he, show Adg std c.1 = some p from hp, Ao9, Ap1 c hf]
   simp only
   rw [hn, hz]
   cases decide (c.Rules.length = 0) <;> cases p <;> cases holdsA c <;> cases Aw9 c <;> rfl
end Go.PL
