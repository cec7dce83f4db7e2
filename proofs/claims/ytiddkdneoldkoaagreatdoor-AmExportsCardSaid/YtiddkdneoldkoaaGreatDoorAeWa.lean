/- Texts of this claim: plain laws of what the program's functions compute. No condition of their own. -/
import Derived.Test.YtiddkdneoldkoaaGreatDoorAeLc
import Derived.Test.YtiddkdneoldkoaaGreatDoorAeFu
namespace Go.PL
set_option linter.unusedSimpArgs false
set_option linter.unusedVariables false
set_option linter.unusedSectionVars false
open Tys (Ty U)
open Enc (sz enc dflt tb ofB toB)
open Dec (dec dok)
variable [Tys] [Enc] [Dec]
abbrev big63 : Nat := 9223372036854775807
def runL {α σ ε : Type} (step : Nat → α → σ → σ ⊕ ε) (fin : σ → ε) : Nat → List α → σ → ε
 | _, [], s => fin s
 | i, x :: xs, s => match step i x s with
  | .inl s' => runL step fin (i + 1) xs s'
  | .inr e => e
theorem Aii {S ε α σ : Type} {B : S → Option (S ⊕ ε)} (enc : Nat → σ → S) (xs : List α) (step : Nat → α → σ → σ ⊕ ε) (fin : σ → ε) (I : Nat → σ → Prop)
  (h1 : ∀ i x s, xs[i]? = some x → I i s → (∀ s', step i x s = .inl s' → B (enc i s) = some (.inl (enc (i + 1) s')) ∧ I (i + 1) s') ∧ ∀ e, step i x s = .inr e → B (enc i s) = some (.inr e))
  (h2 : ∀ s, I xs.length s → B (enc xs.length s) = some (.inr (fin s))) (i0 : Nat) (hi0 : i0 ≤ xs.length) (s0 : σ) (h0 : I i0 s0) : Loop B (enc i0 s0) = some (runL step fin i0 (xs.drop i0) s0) := by
 have key : ∀ (n i : Nat) (s : σ), i + n = xs.length → I i s → Loop B (enc i s) = some (runL step fin i (xs.drop i) s) := by
  intro n
  induction n with
  | zero =>
   intro i s hi hI
   obtain rfl : i = xs.length := by omega
   rw [Adq, h2 s hI, List.drop_length]
   rfl
  | succ n ih =>
   intro i s hi hI
   have hl : i < xs.length := by omega
   have hx : xs[i]? = some xs[i] := List.getElem?_eq_getElem hl
   rw [List.drop_eq_getElem_cons hl, Adq]
   simp only [runL]
   cases hs : step i xs[i] s with
   | inl s' =>
    obtain ⟨h3, h4⟩ := (h1 i xs[i] s hx hI).1 s' hs
    rw [h3]
    exact ih (i + 1) s' (by omega) h4
   | inr e =>
    rw [(h1 i xs[i] s hx hI).2 e hs]
 exact key (xs.length - i0) i0 s0 (by omega) h0
theorem Ary {S ε α σ : Type} {B : S → Option (S ⊕ ε)} (enc : Nat → σ → S) (xs : List α) (step : Nat → α → σ → σ ⊕ ε) (fin : σ → ε) (I : Nat → σ → Prop)
  (h1 : ∀ i x s, xs[i]? = some x → I i s → (∀ s', step i x s = .inl s' → B (enc i s) = some (.inl (enc (i + 1) s')) ∧ I (i + 1) s') ∧ ∀ e, step i x s = .inr e → B (enc i s) = some (.inr e))
  (h2 : ∀ s, I xs.length s → B (enc xs.length s) = some (.inr (fin s))) (s0 : σ) (h0 : I 0 s0) : Loop B (enc 0 s0) = some (runL step fin 0 xs s0) := by
 have := Aii enc xs step fin I h1 h2 0 (Nat.zero_le _) s0 h0
 rwa [List.drop_zero] at this
theorem Ach {S ε α σ : Type} {B : S → Option (S ⊕ ε)} (enc : Nat → σ → S) (xs : List α) (step : Nat → α → σ → σ ⊕ ε) (fin : σ → ε)
  (h1 : ∀ i x s, xs[i]? = some x → i < xs.length → B (enc i s) = some (match step i x s with | .inl s' => .inl (enc (i + 1) s') | .inr e => .inr e))
  (h2 : ∀ s, B (enc xs.length s) = some (.inr (fin s))) (s0 : σ) : Loop B (enc 0 s0) = some (runL step fin 0 xs s0) :=
 Ary enc xs step fin (fun _ _ => True) (fun i x s hx _ => by
  have hi : i < xs.length := by
   rcases Nat.lt_or_ge i xs.length with h | h
   ·exact h
   ·rw [List.getElem?_eq_none h] at hx; cases hx
  have := h1 i x s hx hi
  exact ⟨fun s' h => ⟨by rw [this, h], trivial⟩, fun e h => by rw [this, h]⟩) (fun s _ => h2 s) s0 trivial
theorem wrap_succ {i n : Nat} (h : i < n) (hn : n ≤ big63) : IntKind.i64.wrap ((i : Int) + 1) = ((i + 1 : Nat) : Int) := by
 rw [w64 (by unfold big63 at hn; omega)]; rfl
theorem lssT {i n : Nat} (h : i < n) : std.cmp .lss (i : Int) (n : Int) = true := decide_eq_true (by omega)
theorem lssF {n : Nat} : std.cmp .lss (n : Int) (n : Int) = false := decide_eq_false (by omega)
theorem inbT {i n : Nat} (h : i < n) : std.inb (i : Int) (n : Int) := ⟨by omega, by omega⟩
theorem leN {a b : Nat} : decide ((a : Int) ≤ (b : Int)) = decide (a ≤ b) := by rw [Bool.eq_iff_iff]; simp
theorem Aab {t : Ty} (xs : List (U t)) : std.len t xs = ((xs.length : Nat) : Int) := rfl
theorem get_at {α : Type} {xs : List α} {i : Nat} {x d : α} (h : xs[i]? = some x) : xs.getD i d = x := by
 rw [List.getD_eq_getElem?_getD, h]; rfl
def fnd {α : Type} (xs : List α) (p : α → Bool) : Int := match xs.findIdx? p with
 | some j => (j : Int)
 | none => -1
theorem Bbc {α : Type} (p : α → Bool) (xs : List α) : ∀ i : Nat, runL (fun (i : Nat) x (_ : Unit) => if p x then .inr (i : Int) else .inl ()) (fun _ => (-1 : Int)) i xs () = match xs.findIdx? p with | some j => ((i + j : Nat) : Int) | none => -1 := by
 induction xs with
 | nil => intro i; rfl
 | cons x xs ih =>
  intro i
  simp only [runL, List.findIdx?_cons]
  cases p x with
  | true => simp
  | false =>
   simp only [Bool.false_eq_true, if_false]
   rw [ih (i + 1)]
   cases xs.findIdx? p with
   | none => rfl
   | some j => simp only [Option.map_some]; congr 1; omega
theorem Ak5 {t : Ty} (xs : List (U t)) (p : U t → Bool) (q : U t → Option Bool) (hq : ∀ x ∈ xs, q x = some (p x)) (hl : xs.length ≤ big63) :
  Loop (fun t8 => br (std.cmp .lss t8 (std.len t xs)) (ck (std.inb t8 (std.len t xs)) <| bd (q (std.get t xs t8)) fun w => br w (rt (some t8)) (some (.inl (std.ar .add .i64 t8 1)))) (rt (some (-1)))) 0 = some (fnd xs p) := by
 have := Ach (B := fun t8 => br (std.cmp .lss t8 (std.len t xs)) (ck (std.inb t8 (std.len t xs)) <| bd (q (std.get t xs t8)) fun w => br w (rt (some t8)) (some (.inl (std.ar .add .i64 t8 1)))) (rt (some (-1)))) (fun i (_ : Unit) => (i : Int)) xs (fun (i : Nat) x (_ : Unit) => if p x then .inr (i : Int) else .inl ()) (fun _ => (-1 : Int)) (fun i x s hx hi => by
  have h1 : std.cmp .lss (i : Int) (std.len t xs) = true := by simp; omega
  rw [h1]
  simp only [br]
  rw [ck_t (by simp; omega), s_get, Int.toNat_natCast, get_at hx, hq x (List.mem_of_getElem? hx), bd_some]
  cases p x with
  | true => simp [br, rt]
  | false => simp only [br, s_add, wrap_succ hi hl, Bool.false_eq_true, if_false]) (fun s => by
  have h1 : std.cmp .lss ((xs.length : Nat) : Int) (std.len t xs) = false := by simp
  rw [h1]; rfl) ()
 rw [show ((0 : Int)) = ((0 : Nat) : Int) from rfl, this, Bbc]
 unfold fnd
 cases xs.findIdx? p <;> simp
theorem Al7 {α : Type} (p : α → Bool) (xs : List α) : decide ((0 : Int) ≤ fnd xs p) = xs.any p := by
 unfold fnd
 cases h : xs.findIdx? p with
 | none =>
  rw [List.findIdx?_eq_none_iff] at h
  have : xs.any p = false := by simpa using h
  rw [this]; rfl
 | some j =>
  have : (xs.findIdx? p).isSome = xs.any p := by rw [List.findIdx?_isSome]
  rw [h] at this
  rw [← this]; simp
end Go.PL
namespace Go.PL
set_option linter.unusedSimpArgs false
set_option linter.unusedVariables false
set_option linter.unusedSectionVars false
open Tys (Ty U)
open Enc (sz enc dflt tb ofB toB)
open Dec (dec dok)
set_option maxRecDepth 100000
theorem A9n (xs : List Rule) (p : Rule → Bool) (q : Rule → Option Bool) (hq : ∀ x ∈ xs, q x = some (p x)) (hl : xs.length ≤ big63) : Ae9 std xs q = some (fnd xs p) := Ak5 (t := TyS.rule) xs p q hq hl
theorem A26 (xs : List Rule) (p : Rule → Bool) (q : Rule → Option Bool) (hq : ∀ x ∈ xs, q x = some (p x)) (hl : xs.length ≤ big63) : Acs std xs q = some (xs.any p) := by
 unfold Acs
 rw [A9n xs p q hq hl, bd_some, s_geq, Al7]
theorem Bbd (xs : List Def) (p : Def → Bool) (q : Def → Option Bool) (hq : ∀ x ∈ xs, q x = some (p x)) (hl : xs.length ≤ big63) : Agi std xs q = some (fnd xs p) := Ak5 (t := TyS.dfn) xs p q hq hl
theorem A5c (xs : List Def) (p : Def → Bool) (q : Def → Option Bool) (hq : ∀ x ∈ xs, q x = some (p x)) (hl : xs.length ≤ big63) : Adc std xs q = some (xs.any p) := by
 unfold Adc
 rw [Bbd xs p q hq hl, bd_some, s_geq, Al7]
theorem A5d (xs : List ByteArray) (p : ByteArray → Bool) (q : ByteArray → Option Bool) (hq : ∀ x ∈ xs, q x = some (p x)) (hl : xs.length ≤ big63) : Adx std xs q = some (fnd xs p) := Ak5 (t := TyS.str) xs p q hq hl
theorem Ate (xs : List ByteArray) (p : ByteArray → Bool) (q : ByteArray → Option Bool) (hq : ∀ x ∈ xs, q x = some (p x)) (hl : xs.length ≤ big63) : Aa6 std xs q = some (xs.any p) := by
 unfold Aa6
 rw [A5d xs p q hq hl, bd_some, s_geq, Al7]
theorem A7h (xs : List Label) (p : Label → Bool) (q : Label → Option Bool) (hq : ∀ x ∈ xs, q x = some (p x)) (hl : xs.length ≤ big63) : Ad9 std xs q = some (fnd xs p) := Ak5 (t := TyS.label) xs p q hq hl
theorem A27 (xs : List Inhibit) (p : Inhibit → Bool) (q : Inhibit → Option Bool) (hq : ∀ x ∈ xs, q x = some (p x)) (hl : xs.length ≤ big63) : Adb std xs q = some (fnd xs p) := Ak5 (t := TyS.inhibit) xs p q hq hl
theorem Asj (xs : List Inhibit) (p : Inhibit → Bool) (q : Inhibit → Option Bool) (hq : ∀ x ∈ xs, q x = some (p x)) (hl : xs.length ≤ big63) : Aap std xs q = some (xs.any p) := by
 unfold Aap
 rw [A27 xs p q hq hl, bd_some, s_geq, Al7]
theorem A28 (xs : List Matcher) (p : Matcher → Bool) (q : Matcher → Option Bool) (hq : ∀ x ∈ xs, q x = some (p x)) (hl : xs.length ≤ big63) : Ada std xs q = some (fnd xs p) := Ak5 (t := TyS.matcher) xs p q hq hl
theorem An7 (xs : List Matcher) (p : Matcher → Bool) (q : Matcher → Option Bool) (hq : ∀ x ∈ xs, q x = some (p x)) (hl : xs.length ≤ big63) : Aao std xs q = some (xs.any p) := by
 unfold Aao
 rw [A28 xs p q hq hl, bd_some, s_geq, Al7]
theorem A7i (xs : List Hours) (p : Hours → Bool) (q : Hours → Option Bool) (hq : ∀ x ∈ xs, q x = some (p x)) (hl : xs.length ≤ big63) : Aea std xs q = some (fnd xs p) := Ak5 (t := TyS.hours) xs p q hq hl
theorem At8 (xs : List Hours) (p : Hours → Bool) (q : Hours → Option Bool) (hq : ∀ x ∈ xs, q x = some (p x)) (hl : xs.length ≤ big63) : Abi std xs q = some (xs.any p) := by
 unfold Abi
 rw [A7i xs p q hq hl, bd_some, s_geq, Al7]
theorem Bbe (xs : List Int) (p : Int → Bool) (q : Int → Option Bool) (hq : ∀ x ∈ xs, q x = some (p x)) (hl : xs.length ≤ big63) : Agk std xs q = some (fnd xs p) := Ak5 (t := TyS.int) xs p q hq hl
theorem A5e (xs : List Int) (p : Int → Bool) (q : Int → Option Bool) (hq : ∀ x ∈ xs, q x = some (p x)) (hl : xs.length ≤ big63) : Add std xs q = some (xs.any p) := by
 unfold Add
 rw [Bbe xs p q hq hl, bd_some, s_geq, Al7]
theorem A7j (xs : List Route) (p : Route → Bool) (q : Route → Option Bool) (hq : ∀ x ∈ xs, q x = some (p x)) (hl : xs.length ≤ big63) : Aeb std xs q = some (fnd xs p) := Ak5 (t := TyS.route) xs p q hq hl
theorem At9 (xs : List Route) (p : Route → Bool) (q : Route → Option Bool) (hq : ∀ x ∈ xs, q x = some (p x)) (hl : xs.length ≤ big63) : Aax std xs q = some (xs.any p) := by
 unfold Aax
 rw [A7j xs p q hq hl, bd_some, s_geq, Al7]
theorem A9o (xs : List UInt8) (p : UInt8 → Bool) (q : Int → Option Bool) (hq : ∀ x ∈ xs, q (x.toNat : Int) = some (p x)) (hl : xs.length ≤ big63) : Ae8 std xs q = some (fnd xs p) := Ak5 (t := TyS.byte) xs p (fun b => q (b.toNat : Int)) hq hl
theorem Ahl (xs : List UInt8) (p : UInt8 → Bool) (q : Int → Option Bool) (hq : ∀ x ∈ xs, q (x.toNat : Int) = some (p x)) (hl : xs.length ≤ big63) : Aaa std xs q = some (xs.any p) := by
 unfold Aaa
 rw [A9o xs p q hq hl, bd_some, s_geq, Al7]
theorem Avj (s : ByteArray) : std.s2b s = s.data.toList := by
 show s.data.toList.map Enc.ofB = _
 exact List.map_id _
theorem Bcs (xs : List Rule) (k : Int) (p : Rule → Bool) (q : Rule → Option Bool) (hq : (xs.length : Int) ≤ k → ∀ x ∈ xs, q x = some (p x)) (hk : k ≤ big63) : Ag2 std xs k q = some (decide ((xs.length : Int) ≤ k) && xs.all p) := by
 unfold Ag2
 rw [show std.cmp .leq (std.len TyS.rule xs) k = decide ((xs.length : Int) ≤ k) from rfl]
 by_cases h : (xs.length : Int) ≤ k
 ·rw [decide_eq_true h, gd_t, A26 xs (fun x => !p x) _ (fun x hx => by unfold Aju; rw [hq h x hx]; rfl) (by unfold big63 at hk ⊢; omega), bd_some]
  rw [List.all_eq_not_any_not]
  rfl
 ·rw [decide_eq_false h, gd_f, bd_some]
  rfl
theorem Awo (xs : List ByteArray) (k : Int) (p : ByteArray → Bool) (q : ByteArray → Option Bool) (hq : (xs.length : Int) ≤ k → ∀ x ∈ xs, q x = some (p x)) (hk : k ≤ big63) : Adh std xs k q = some (decide ((xs.length : Int) ≤ k) && xs.all p) := by
 unfold Adh
 rw [show std.cmp .leq (std.len TyS.str xs) k = decide ((xs.length : Int) ≤ k) from rfl]
 by_cases h : (xs.length : Int) ≤ k
 ·rw [decide_eq_true h, gd_t, Ate xs (fun x => !p x) _ (fun x hx => by unfold Ah9; rw [hq h x hx]; rfl) (by unfold big63 at hk ⊢; omega), bd_some]
  rw [List.all_eq_not_any_not]
  rfl
 ·rw [decide_eq_false h, gd_f, bd_some]
  rfl
theorem A7k (xs : List Inhibit) (k : Int) (p : Inhibit → Bool) (q : Inhibit → Option Bool) (hq : (xs.length : Int) ≤ k → ∀ x ∈ xs, q x = some (p x)) (hk : k ≤ big63) : Aek std xs k q = some (decide ((xs.length : Int) ≤ k) && xs.all p) := by
 unfold Aek
 rw [show std.cmp .leq (std.len TyS.inhibit xs) k = decide ((xs.length : Int) ≤ k) from rfl]
 by_cases h : (xs.length : Int) ≤ k
 ·rw [decide_eq_true h, gd_t, Asj xs (fun x => !p x) _ (fun x hx => by unfold Ahw; rw [hq h x hx]; rfl) (by unfold big63 at hk ⊢; omega), bd_some]
  rw [List.all_eq_not_any_not]
  rfl
 ·rw [decide_eq_false h, gd_f, bd_some]
  rfl
theorem A7l (xs : List Matcher) (k : Int) (p : Matcher → Bool) (q : Matcher → Option Bool) (hq : (xs.length : Int) ≤ k → ∀ x ∈ xs, q x = some (p x)) (hk : k ≤ big63) : Ace std xs k q = some (decide ((xs.length : Int) ≤ k) && xs.all p) := by
 unfold Ace
 rw [show std.cmp .leq (std.len TyS.matcher xs) k = decide ((xs.length : Int) ≤ k) from rfl]
 by_cases h : (xs.length : Int) ≤ k
 ·rw [decide_eq_true h, gd_t, An7 xs (fun x => !p x) _ (fun x hx => by unfold Ahx; rw [hq h x hx]; rfl) (by unfold big63 at hk ⊢; omega), bd_some]
  rw [List.all_eq_not_any_not]
  rfl
 ·rw [decide_eq_false h, gd_f, bd_some]
  rfl
theorem Bbf (xs : List Hours) (k : Int) (p : Hours → Bool) (q : Hours → Option Bool) (hq : (xs.length : Int) ≤ k → ∀ x ∈ xs, q x = some (p x)) (hk : k ≤ big63) : Agq std xs k q = some (decide ((xs.length : Int) ≤ k) && xs.all p) := by
 unfold Agq
 rw [show std.cmp .leq (std.len TyS.hours xs) k = decide ((xs.length : Int) ≤ k) from rfl]
 by_cases h : (xs.length : Int) ≤ k
 ·rw [decide_eq_true h, gd_t, At8 xs (fun x => !p x) _ (fun x hx => by unfold Ai7; rw [hq h x hx]; rfl) (by unfold big63 at hk ⊢; omega), bd_some]
  rw [List.all_eq_not_any_not]
  rfl
 ·rw [decide_eq_false h, gd_f, bd_some]
  rfl
end Go.PL
namespace Go.PL
set_option linter.unusedSimpArgs false
set_option linter.unusedVariables false
set_option linter.unusedSectionVars false
open Tys (Ty U)
open Enc (sz enc dflt tb ofB toB)
open Dec (dec dok)
set_option maxRecDepth 100000
def allI {α : Type} (p : Nat → α → Bool) : Nat → List α → Bool
 | _, [] => true
 | i, x :: xs => p i x && allI p (i + 1) xs
theorem A8q {α : Type} (p : Nat → α → Bool) (fin : Bool) (xs : List α) : ∀ i, runL (fun i x (_ : Unit) => if p i x then .inl () else .inr false) (fun _ => fin) i xs () = (allI p i xs && fin) := by
 induction xs with
 | nil => intro i; rfl
 | cons x xs ih =>
  intro i
  simp only [runL, allI]
  cases p i x with
  | true => simpa using ih (i + 1)
  | false => rfl
theorem Arz {S α : Type} {B : S → Option (S ⊕ Bool)} (enc : Nat → S) (xs : List α) (p : Nat → α → Bool) (fin : Bool)
  (h1 : ∀ i x, xs[i]? = some x → i < xs.length → B (enc i) = some (if p i x then .inl (enc (i + 1)) else .inr false)) (h2 : B (enc xs.length) = some (.inr fin)) : Loop B (enc 0) = some (allI p 0 xs && fin) := by
 have := Ach (fun i (_ : Unit) => enc i) xs (fun i x (_ : Unit) => if p i x then .inl () else .inr false) (fun _ => fin) (fun i x s hx hi => by
  rw [h1 i x hx hi]
  cases p i x <;> rfl) (fun _ => h2) ()
 rw [this, A8q]
theorem br_true {α : Type} {t f : Option α} : br true t f = t := rfl
theorem br_false {α : Type} {t f : Option α} : br false t f = f := rfl
abbrev bytes (s : ByteArray) : List UInt8 := s.data.toList
theorem Apj {s : ByteArray} {i : Nat} {c : UInt8} (h : (bytes s)[i]? = some c) : std.sget s (i : Int) = (c.toNat : Int) := by
 rw [Bd2, Int.toNat_natCast]
 have : s.data.getD i 0 = c := by
  rw [Array.getD_eq_getD_getElem?, ← Array.getElem?_toList, h]; rfl
 rw [this]
theorem Aae (s : ByteArray) : (bytes s).length = s.size := Array.length_toList
theorem Atf (s : ByteArray) : std.slen s = ((bytes s).length : Int) := by rw [s_slen, Aae]
def inC (lo hi : Nat) (c : UInt8) : Bool := decide (lo ≤ c.toNat) && decide (c.toNat ≤ hi)
def lowC (c : UInt8) : Bool := inC 97 122 c
def upC (c : UInt8) : Bool := inC 65 90 c
def digC (c : UInt8) : Bool := inC 48 57 c
def barC (c : UInt8) : Bool := inC 95 95 c
def letC (c : UInt8) : Bool := lowC c || upC c || barC c
def wordC (c : UInt8) : Bool := lowC c || digC c || barC c
def wordS (s : ByteArray) : Bool := (bytes s).all wordC && decide (1 ≤ s.size) && decide (s.size ≤ 64)
def nameP (i : Nat) (c : UInt8) : Bool := letC c || decide (0 < i) && digC c
def nameS (s : ByteArray) : Bool := allI nameP 0 (bytes s) && decide (1 ≤ s.size) && decide (s.size ≤ 64)
def plainC (c : UInt8) : Bool := inC 32 126 c
def Ay6 (s : ByteArray) : Bool := (bytes s).all plainC && decide (1 ≤ s.size) && decide (s.size ≤ 64)
theorem Aix (s : ByteArray) : decide (s ≠ ByteArray.mk (Array.mk [])) = decide (1 ≤ s.size) := by
 rw [Bool.eq_iff_iff]
 simp only [decide_eq_true_eq]
 constructor
 ·intro h
  rcases Nat.eq_zero_or_pos s.size with h0 | h0
  ·exfalso; apply h
   cases s with
   | mk d => congr 1; exact Array.eq_empty_of_size_eq_zero h0
  ·exact h0
 ·rintro h rfl; exact absurd h (by decide)
theorem Avk (s : ByteArray) : Alj std s = some (wordS s) := by
 unfold Alj
 have h0 : std.and (std.scmp .neq s (ByteArray.mk (Array.mk []))) (std.cmp .leq (std.slen s) 64) = (decide (1 ≤ s.size) && decide (s.size ≤ 64)) := by
  rw [s_land, Avh, Aix, s_leq, s_slen]; congr 1; exact leN (b := 64)
 rw [h0]
 unfold wordS
 by_cases h : (decide (1 ≤ s.size) && decide (s.size ≤ 64)) = true
 ·rw [h, gd_t, Avj, Ahl _ (fun c => !wordC c) _ (fun c _ => by
   unfold Ali
   simp only [s_land, s_lor, s_lss, s_gtr, s_neq]
   congr 1
   rw [Bool.eq_iff_iff]
   simp [wordC, lowC, digC, barC, inC]
   omega) (by simp at h; rw [Aae]; unfold big63; omega), bd_some, s_land, s_not, Bool.true_and]
  rw [Bool.and_assoc, h, Bool.and_true, List.all_eq_not_any_not]
 ·simp only [Bool.not_eq_true] at h
  rw [h, gd_f, bd_some, s_land, Bool.false_and, Bool.and_assoc, h, Bool.and_false]
theorem Ay7 (c : UInt8) : Ane std (c.toNat : Int) = some (letC c) := by
 unfold Ane
 congr 1
 rw [Bool.eq_iff_iff]
 simp [letC, lowC, upC, barC, inC]
 omega
theorem A29 (s : ByteArray) (hs : s.size ≤ big63) : Aq4 std s = some (nameS s) := by
 unfold Aq4
 have := Arz (B := Aok std s) (fun i => (false, (i : Int))) (bytes s) nameP (decide (1 ≤ s.size) && decide (s.size ≤ 64)) (fun i c hc hi => by
  unfold Aok
  simp only
  rw [Atf, Apj hc, lssT hi, br_true, ck_t (inbT hi), Ay7, bd_some]
  rw [s_add, wrap_succ hi (by rw [Aae]; exact hs)]
  have e : std.and (std.not (letC c)) (std.or (std.or (std.cmp .eql (i : Int) 0) (std.cmp .lss (c.toNat : Int) 48)) (std.cmp .gtr (c.toNat : Int) 57)) = !nameP i c := by
   rw [Bool.eq_iff_iff]
   simp [nameP, digC, inC]
   omega
  rw [e]
  cases nameP i c <;> rfl) (by
  unfold Aok
  simp only
  rw [Atf, lssF, br_false, s_land, Avh, Aix, s_leq, Aae, show decide ((s.size : Int) ≤ 64) = decide (s.size ≤ 64) from leN (b := 64)]
  rfl)
 rw [show ((0 : Int)) = ((0 : Nat) : Int) from rfl, this]
 unfold nameS
 rw [Bool.and_assoc]
theorem A0n (s : ByteArray) : Ao7 std s = some (Ay6 s) := by
 unfold Ao7
 have h0 : std.and (std.scmp .neq s (ByteArray.mk (Array.mk []))) (std.cmp .leq (std.slen s) 64) = (decide (1 ≤ s.size) && decide (s.size ≤ 64)) := by
  rw [s_land, Avh, Aix, s_leq, s_slen]; congr 1; exact leN (b := 64)
 rw [h0]
 unfold Ay6
 by_cases h : (decide (1 ≤ s.size) && decide (s.size ≤ 64)) = true
 ·rw [h, gd_t, Avj, Ahl _ (fun c => !plainC c) _ (fun c _ => by
   unfold Aol
   congr 1
   rw [Bool.eq_iff_iff]
   simp [plainC, inC]
   omega) (by simp at h; rw [Aae]; unfold big63; omega), bd_some, s_land, s_not, Bool.true_and]
  rw [Bool.and_assoc, h, Bool.and_true, List.all_eq_not_any_not]
 ·simp only [Bool.not_eq_true] at h
  rw [h, gd_f, bd_some, s_land, Bool.false_and, Bool.and_assoc, h, Bool.and_false]
end Go.PL
namespace Go.PL
set_option linter.unusedSimpArgs false
set_option linter.unusedVariables false
set_option linter.unusedSectionVars false
open Tys (Ty U)
open Enc (sz enc dflt tb ofB toB)
open Dec (dec dok)
set_option maxRecDepth 100000
theorem Ahm {α : Type} (p : α → Bool) (xs : List α) : ∀ i, allI (fun _ x => p x) i xs = xs.all p := by
 induction xs with
 | nil => intro i; rfl
 | cons x xs ih => intro i; simp only [allI, List.all_cons, ih]
theorem Loop_bytes {S : Type} {B : S → Option (S ⊕ Bool)} (enc : Int → S) (s : ByteArray) (hs : s.size ≤ big63) (p : Nat → UInt8 → Bool) (fin : Bool)
  (step : Int → Option (S ⊕ Bool)) (out : Option Bool)
  (hB : ∀ i, B (enc i) = br (std.cmp .lss i (std.slen s)) (ck (std.inb i (std.slen s)) (step i)) (rt out))
  (h1 : ∀ (i : Nat) (c : UInt8), (bytes s)[i]? = some c → i < s.size → step i = some (if p i c then .inl (enc (std.ar .add .i64 i 1)) else .inr false)) (h2 : out = some fin) : Loop B (enc 0) = some (allI p 0 (bytes s) && fin) := by
 have := Arz (B := B) (fun i => enc (i : Int)) (bytes s) p fin (fun i c hc hi => by
  have hi' : i < s.size := by rw [← Aae]; exact hi
  rw [hB, Atf, lssT hi, br_true, ck_t (inbT hi), h1 i c hc hi', s_add, wrap_succ hi' hs]) (by
  rw [hB, Atf, lssF, br_false, h2]
  rfl)
 exact this
theorem fin_size (s : ByteArray) (n : Nat) : std.and (std.cmp .gtr (std.slen s) 0) (std.cmp .leq (std.slen s) (n : Int)) = (decide (1 ≤ s.size) && decide (s.size ≤ n)) := by
 rw [s_land, s_gtr, s_leq, s_slen, leN]
 congr 1
 rw [Bool.eq_iff_iff]; simp; omega
theorem Ams (s : ByteArray) (hs : s.size ≤ big63) : Aag std s = some (wordS s) := by
 unfold Aag
 rw [Loop_bytes (fun i => (false, i)) s hs (fun _ c => wordC c) (decide (1 ≤ s.size) && decide (s.size ≤ 64)) _ _ (fun i => rfl) (fun i c hc hi => by
  rw [Apj hc]
  have e : std.and (std.and (std.or (std.cmp .lss (c.toNat : Int) 97) (std.cmp .gtr (c.toNat : Int) 122)) (std.or (std.cmp .lss (c.toNat : Int) 48) (std.cmp .gtr (c.toNat : Int) 57))) (std.cmp .neq (c.toNat : Int) 95) = !wordC c := by
   rw [Bool.eq_iff_iff]; simp [wordC, lowC, digC, barC, inC]; omega
  rw [e]; cases wordC c <;> rfl) (congrArg some (fin_size s 64)), Ahm]
 unfold wordS
 rw [Bool.and_assoc]
theorem Ar0 (s : ByteArray) (hs : s.size ≤ big63) : Aa8 std s = some (nameS s) := by
 unfold Aa8
 rw [Loop_bytes (fun i => (false, i)) s hs nameP (decide (1 ≤ s.size) && decide (s.size ≤ 64)) _ _ (fun i => rfl) (fun i c hc hi => by
  rw [Apj hc]
  have e : ∀ x : Bool, std.and (std.not (std.or (std.or (std.and (std.cmp .geq (c.toNat : Int) 97) (std.cmp .leq (c.toNat : Int) 122)) (std.and (std.cmp .geq (c.toNat : Int) 65) (std.cmp .leq (c.toNat : Int) 90))) (std.cmp .eql (c.toNat : Int) 95))) (std.or (std.or (std.cmp .eql (i : Int) 0) (std.cmp .lss (c.toNat : Int) 48)) (std.cmp .gtr (c.toNat : Int) 57)) = !nameP i c := by
   intro x
   rw [Bool.eq_iff_iff]; simp [nameP, letC, lowC, upC, digC, barC, inC]; omega
  rw [e true]; cases nameP i c <;> rfl) (congrArg some (fin_size s 64))]
 unfold nameS
 rw [Bool.and_assoc]
theorem vc_of {b : Bool} {p : Prop} (h : b = true → p) : vc b p := by
 cases b with
 | true => exact h rfl
 | false => exact True.intro
theorem ref_Value_eq (s : ByteArray) (hs : s.size ≤ big63) : Aeq std s = some (Ay6 s) := by
 unfold Aeq
 rw [Loop_bytes (B := Ake std s) (fun i => i) s hs (fun _ c => plainC c) (decide (1 ≤ s.size) && decide (s.size ≤ 64)) _ _ (fun i => rfl) (fun i c hc hi => by
  rw [ck_t (vc_of fun _ => by rw [s_slen]; exact inbT hi), Apj hc]
  have e : std.or (std.cmp .lss (c.toNat : Int) 32) (std.cmp .gtr (c.toNat : Int) 126) = !plainC c := by
   rw [Bool.eq_iff_iff]; simp [plainC, inC]; omega
  rw [e]; cases plainC c <;> rfl) (congrArg some (fin_size s 64)), Ahm]
 unfold Ay6
 rw [Bool.and_assoc]
def lessS (a b : ByteArray) : Bool := std.scmp .lss a b
theorem Bd5 (a b : ByteArray) : std.scmp .geq a b = !lessS a b := rfl
def ordP {α : Type} (may : α → Bool) (key : α → ByteArray) (xs : List α) (i : Nat) (x : α) : Bool := may x && (decide (i = 0) || match xs[i - 1]? with | some y => lessS (key y) (key x) | none => false)
theorem prevI {i : Nat} (h : 0 < i) (hi : i ≤ big63) : std.ar .sub .i64 (i : Int) 1 = ((i - 1 : Nat) : Int) := by
 rw [s_sub, w64 (by unfold big63 at hi; omega)]; omega
theorem Al8 {α : Type} {xs : List α} {i : Nat} (h : i < xs.length) : ∃ x, xs[i]? = some x := ⟨xs[i], List.getElem?_eq_getElem h⟩
theorem Ae2 {α : Type} {xs : List α} {i : Nat} {x : α} (h : xs[i]? = some x) : i < xs.length := by
 rcases Nat.lt_or_ge i xs.length with h1 | h1
 ·exact h1
 ·rw [List.getElem?_eq_none h1] at h; cases h
theorem Aai {t : Ty} {xs : List (U t)} {i : Nat} {x : U t} (h : xs[i]? = some x) : std.get t xs (i : Int) = x := by
 rw [s_get, Int.toNat_natCast, get_at h]
theorem Ack {S : Type} {t : Ty} {B : S → Option (S ⊕ Bool)} (enc : Int → S) (xs : List (U t)) (hl : xs.length ≤ big63) (p : Nat → U t → Bool) (fin : Bool)
  (step : Int → Option (S ⊕ Bool)) (out : Option Bool)
  (hB : ∀ i, B (enc i) = br (std.cmp .lss i (std.len t xs)) (ck (std.inb i (std.len t xs)) (step i)) (rt out))
  (h1 : ∀ (i : Nat) (x : U t), xs[i]? = some x → i < xs.length → step i = some (if p i x then .inl (enc (std.ar .add .i64 i 1)) else .inr false)) (h2 : allI p 0 xs = true → out = some fin) (h3 : allI p 0 xs = false → ∃ v, out = some v) : Loop B (enc 0) = some (allI p 0 xs && fin) := by
 cases hA : allI p 0 xs with
 | true =>
  have := Arz (B := B) (fun i => enc (i : Int)) xs p fin (fun i c hc hi => by
   rw [hB, Aab, lssT hi, br_true, ck_t (inbT hi), h1 i c hc hi, s_add, wrap_succ hi hl]) (by
   rw [hB, Aab, lssF, br_false, h2 hA]
   rfl)
  rw [hA] at this
  exact this
 | false =>
  obtain ⟨v, hv⟩ := h3 hA
  have := Arz (B := B) (fun i => enc (i : Int)) xs p v (fun i c hc hi => by
   rw [hB, Aab, lssT hi, br_true, ck_t (inbT hi), h1 i c hc hi, s_add, wrap_succ hi hl]) (by
   rw [hB, Aab, lssF, br_false, hv]
   rfl)
  rw [hA] at this
  exact this
theorem Ans {S : Type} {t : Ty} (xs : List (U t)) (q : U t → Option Bool) (may : U t → Bool) (key : U t → ByteArray) (hl : xs.length ≤ big63) (e : Int → S) (i : Nat) (x : U t) (hx : xs[i]? = some x) (hq : q x = some (may x)) :
  (bd (q (std.get t xs i)) fun w2 => ck (vc (std.and (std.not (std.not w2)) (std.cmp .gtr (i : Int) 0)) (std.inb (std.ar .sub .i64 i 1) (std.len t xs))) <| br (std.or (std.not w2) (std.and (std.cmp .gtr (i : Int) 0) (std.scmp .geq (key (std.get t xs (std.ar .sub .i64 i 1))) (key (std.get t xs i))))) (rt (some false)) (some (.inl (e (std.ar .add .i64 i 1))))) =
   some (if ordP may key xs i x then (.inl (e (std.ar .add .i64 i 1)) : S ⊕ Bool) else .inr false) := by
 have hi := Ae2 hx
 rw [Aai hx, hq, bd_some]
 have hc : std.cmp .gtr (i : Int) 0 = decide (0 < i) := by rw [s_gtr, Bool.eq_iff_iff]; simp
 rw [hc]
 rcases Nat.eq_zero_or_pos i with rfl | h0
 ·rw [ck_t (vc_of fun h => by simp at h)]
  simp only [ordP]
  cases may x <;> simp [br, rt]
 ·obtain ⟨y, hy⟩ := Al8 (xs := xs) (i := i - 1) (by omega)
  rw [prevI h0 (by omega), ck_t (vc_of fun _ => by rw [Aab]; exact inbT (by omega)), Aai hy, Bd5]
  simp only [ordP, hy, decide_eq_true h0]
  have : decide (i = 0) = false := decide_eq_false (by omega)
  rw [this]
  cases may x <;> cases lessS (key y) (key x) <;> simp [br, rt]
theorem A5f (a b : ByteArray) (ha : a.size ≤ big63) (i : Nat) : Afy std a b (false, (i : Int)) =
  match (bytes a)[i]?, (bytes b)[i]? with
  | some x, some y => if x = y then some (.inl (false, ((i + 1 : Nat) : Int))) else some (.inr (decide (x < y)))
  | _, _ => some (.inr (decide (a.size < b.size))) := by
 unfold Afy
 simp only
 have out : ∀ l r : Bool, (l && r) = false → br (std.and l r) (ck (std.inb (i : Int) (std.slen a)) <| ck (std.inb (i : Int) (std.slen b)) <| br (std.cmp .neq (std.sget a i) (std.sget b i)) (rt (some (std.cmp .lss (std.sget a i) (std.sget b i)))) (some (.inl (false, std.ar .add .i64 (i : Int) 1)))) (rt (some (std.cmp .lss (std.slen a) (std.slen b)))) = some (.inr (decide (a.size < b.size))) := by
  intro l r h
  rw [s_land, h, br_false, s_lss, s_slen, s_slen]
  simp only [rt]
  congr 2
  rw [Bool.eq_iff_iff]; simp
 cases hx : (bytes a)[i]? with
 | none =>
  have h1 : a.size ≤ i := by rw [← Aae]; exact List.getElem?_eq_none_iff.1 hx
  exact out _ _ (by rw [s_lss, s_slen, decide_eq_false (by omega), Bool.false_and])
 | some x =>
  have hia := Ae2 hx
  cases hy : (bytes b)[i]? with
  | none =>
   have h1 : b.size ≤ i := by rw [← Aae]; exact List.getElem?_eq_none_iff.1 hy
   exact out _ _ (by rw [show std.cmp .lss (i : Int) (std.slen b) = false from decide_eq_false (by rw [s_slen]; omega), Bool.and_false])
  | some y =>
   have hib := Ae2 hy
   rw [Atf a, Atf b, lssT hia, lssT hib, s_land, Bool.true_and, br_true, ck_t (inbT hia), ck_t (inbT hib), Apj hx, Apj hy, s_neq, s_lss, s_add, wrap_succ hia (by rw [Aae]; exact ha)]
   by_cases h : x = y
   ·subst h; simp [br_false]
   ·have h4 : ((x.toNat : Int) != (y.toNat : Int)) = true := by
     rw [bne_iff_ne]; intro h5; exact h (UInt8.toNat_inj.1 (by omega))
    rw [h4, br_true]
    simp only [rt, if_neg h]
    congr 2
    rw [Bool.eq_iff_iff]
    simp only [decide_eq_true_eq, UInt8.lt_iff_toNat_lt]
    omega
theorem Aux (a b : ByteArray) (ha : a.size ≤ big63) : Aa9 std a b = some (lessS a b) := by
 unfold Aa9
 have key : ∀ (n i : Nat), i + n = a.size → Loop (Afy std a b) (false, (i : Int)) = some (Op.bytesLess ((bytes a).drop i) ((bytes b).drop i)) := by
  intro n
  induction n with
  | zero =>
   intro i hi
   have hx : (bytes a)[i]? = none := List.getElem?_eq_none (by rw [Aae]; omega)
   rw [Adq, A5f a b ha, hx]
   simp only
   rw [List.drop_eq_nil_of_le (by rw [Aae]; omega)]
   cases h : (bytes b).drop i with
   | nil =>
    have := List.drop_eq_nil_iff.1 h
    rw [Aae] at this
    rw [decide_eq_false (by omega)]; rfl
   | cons y r =>
    have : i < (bytes b).length := by
     rcases Nat.lt_or_ge i (bytes b).length with h1 | h1
     ·exact h1
     ·rw [List.drop_eq_nil_of_le h1] at h; cases h
    rw [Aae] at this
    rw [decide_eq_true (by omega)]; rfl
  | succ n ih =>
   intro i hi
   obtain ⟨x, hx, _, hd, _⟩ := i_at (xs := bytes a) (i := i) (by rw [Aae]; omega)
   rw [Adq, A5f a b ha, hx, hd]
   cases hy : (bytes b)[i]? with
   | none =>
    have h1 : (bytes b).length ≤ i := List.getElem?_eq_none_iff.1 hy
    rw [List.drop_eq_nil_of_le h1]
    rw [Aae] at h1
    simp only
    rw [decide_eq_false (by omega)]; rfl
   | some y =>
    obtain ⟨y', hy', _, hd', _⟩ := i_at (xs := bytes b) (i := i) (Ae2 hy)
    rw [hy] at hy'; cases hy'
    rw [hd']
    simp only
    by_cases h : x = y
    ·rw [if_pos h]
     simp only
     rw [ih (i + 1) (by omega)]
     subst h
     simp [Op.bytesLess]
    ·rw [if_neg h]
     simp only
     simp [Op.bytesLess, h]
 have := key a.size 0 (by omega)
 rw [List.drop_zero, List.drop_zero] at this
 refine this.trans ?_
 show some _ = some (Op.bytesLess a.toList b.toList)
 rw [ByteArray.toList_eq, ByteArray.toList_eq]
end Go.PL
namespace Go.PL
set_option linter.unusedSimpArgs false
set_option linter.unusedVariables false
set_option linter.unusedSectionVars false
open Tys (Ty U)
open Enc (sz enc dflt tb ofB toB)
open Dec (dec dok)
set_option maxRecDepth 100000
abbrev fitS (s : ByteArray) : Prop := s.size ≤ big63
def fitL {α : Type} (P : α → Prop) (xs : List α) : Prop := xs.length ≤ big63 ∧ ∀ x ∈ xs, P x
def Avl (x : Label) : Prop := fitS x.Name ∧ fitS x.Value
def Afs (m : Matcher) : Prop := fitS m.Name ∧ fitL fitS m.Words
def Avm (h : Hours) : Prop := fitS h.Name
def Awp (r : Rule) : Prop := fitS r.Name ∧ fitS r.Metric ∧ fitL Avl r.Labels
def Alr (x : Inhibit) : Prop := fitL Afs x.Source ∧ fitL Afs x.Target ∧ fitL fitS x.Equal
theorem Abv {α : Type} {xs : List α} {i : Nat} {x : α} (h : xs[i]? = some x) : x ∈ xs := List.mem_of_getElem? h
theorem gd_of {α : Type} {d : α} {c : Bool} {t : Option α} {v : α} (h : c = true → t = some v) : gd d c t = some (cond c v d) := by
 cases c with
 | true => exact h rfl
 | false => rfl
theorem gd_b {c : Bool} {t : Option Bool} {v : Bool} (h : c = true → t = some v) : gd false c t = some (c && v) := by
 cases c with
 | true => exact h rfl
 | false => rfl
/-! ### labels -/
def Asl (x : Label) : Bool := nameS x.Name && Ay6 x.Value
def labelsS (xs : List Label) : Bool := allI (ordP Asl (·.Name) xs) 0 xs && decide (xs.length ≤ 8)
theorem A5g (x : Label) (h : fitS x.Name) : Aq5 std x = some (Asl x) := by
 unfold Aq5
 rw [A29 _ h, bd_some, A0n, gd_b (fun _ => rfl), bd_some]
 unfold Asl
 cases nameS x.Name <;> rfl
theorem Ale {t : Ty} (xs : List (U t)) (n : Nat) : std.cmp .leq (std.len t xs) (n : Int) = decide (xs.length ≤ n) := by rw [s_leq, Aab, leN]
theorem Aua (xs : List Label) (h : fitL Avl xs) : Agp std xs = some (labelsS xs) := by
 unfold Agp
 exact Ack (t := TyS.label) (B := At7 std xs) (fun i => i) xs h.1 (ordP Asl (·.Name) xs) (decide (xs.length ≤ 8)) _ _ (fun i => rfl)
  (fun i x hx hi => Ans (t := TyS.label) xs (Aq5 std) Asl (·.Name) h.1 (fun i => i) i x hx (A5g x (h.2 x (Abv hx)).1)) (fun _ => congrArg some (Ale (t := TyS.label) xs 8)) (fun _ => ⟨_, rfl⟩)
theorem A3a {S : Type} {t : Ty} (xs : List (U t)) (q : U t → Option Bool) (may : U t → Bool) (key : U t → ByteArray) (hl : xs.length ≤ big63) (hk : ∀ x ∈ xs, fitS (key x)) (e : Int → S) (i : Nat) (x : U t) (hx : xs[i]? = some x) (hq : q x = some (may x)) :
  (bd (q (std.get t xs i)) fun w2 => ck (vc (std.and (std.not (std.not w2)) (std.cmp .gtr (i : Int) 0)) (std.inb (std.ar .sub .i64 i 1) (std.len t xs))) <| bd (gd false (std.and (std.not (std.not w2)) (std.cmp .gtr (i : Int) 0)) (Aa9 std (key (std.get t xs (std.ar .sub .i64 i 1))) (key (std.get t xs i)))) fun w4 => br (std.or (std.not w2) (std.and (std.cmp .gtr (i : Int) 0) (std.not w4))) (rt (some false)) (some (.inl (e (std.ar .add .i64 i 1))))) =
   some (if ordP may key xs i x then (.inl (e (std.ar .add .i64 i 1)) : S ⊕ Bool) else .inr false) := by
 have hi := Ae2 hx
 rw [Aai hx, hq, bd_some]
 have hc : std.cmp .gtr (i : Int) 0 = decide (0 < i) := by rw [s_gtr, Bool.eq_iff_iff]; simp
 rw [hc]
 rcases Nat.eq_zero_or_pos i with rfl | h0
 ·rw [ck_t (vc_of fun h => by simp at h)]
  simp only [ordP]
  cases may x <;> simp [br, rt, gd, bd]
 ·obtain ⟨y, hy⟩ := Al8 (xs := xs) (i := i - 1) (by omega)
  rw [prevI h0 (by omega), ck_t (vc_of fun _ => by rw [Aab]; exact inbT (by omega)), Aai hy, Aux _ _ (hk y (Abv hy))]
  simp only [ordP, hy, decide_eq_true h0]
  have : decide (i = 0) = false := decide_eq_false (by omega)
  rw [this]
  cases may x <;> cases lessS (key y) (key x) <;> simp [br, rt, gd, bd]
theorem A3b (xs : List Label) (h : fitL Avl xs) : Adk std xs = some (labelsS xs) := by
 unfold Adk
 refine Ack (t := TyS.label) (B := Akf std xs) (fun i => i) xs h.1 (ordP Asl (·.Name) xs) (decide (xs.length ≤ 8)) _ _ (fun i => rfl) (fun i x hx hi => ?_) (fun _ => congrArg some (Ale (t := TyS.label) xs 8)) (fun _ => ⟨_, rfl⟩)
 have hx' := h.2 x (Abv hx)
 refine Eq.trans ?_ (A3a (t := TyS.label) xs (fun x => some (Asl x)) Asl (·.Name) h.1 (fun y hy => (h.2 y hy).1) (fun i => i) i x hx rfl)
 have hg : std.get TyS.label xs (i : Int) = x := Aai (t := TyS.label) hx
 rw [hg, Ar0 _ hx'.1, bd_some, ref_Value_eq _ hx'.2, gd_b (fun _ => rfl), bd_some, bd_some]
 unfold Asl
 cases nameS x.Name <;> rfl
theorem A5h (xs : List Label) (s : ByteArray) (h : xs.length ≤ big63) : As7 std xs s = some (match xs.find? (fun l => decide (l.Name = s)) with | some l => l.Value | none => ⟨#[]⟩) := by
 unfold As7
 rw [A7h xs (fun l => decide (l.Name = s)) (fun y0 => Ao9 std y0 s) (fun x _ => by unfold Ao9; rw [s_seql]) h, bd_some]
 unfold fnd
 cases hf : xs.findIdx? (fun l => decide (l.Name = s)) with
 | none =>
  have : xs.find? (fun l => decide (l.Name = s)) = none := by
   rw [List.findIdx?_eq_none_iff] at hf
   rw [List.find?_eq_none]; intro x hx; rw [hf x hx]; simp
  rw [this]; rfl
 | some j =>
  obtain ⟨hj, hp, hn⟩ := List.findIdx?_eq_some_iff_getElem.1 hf
  have : xs.find? (fun l => decide (l.Name = s)) = some xs[j] := by
   rw [List.find?_eq_some_iff_getElem]
   exact ⟨hp, j, hj, rfl, fun k hk => by have := hn k hk; simpa using this⟩
  rw [this]
  simp only
  have e : std.cmp .lss (j : Int) 0 = false := by rw [s_lss]; exact decide_eq_false (by omega)
  rw [e, br_false, Aab, ck_t (inbT hj), Aai (t := TyS.label) (List.getElem?_eq_getElem hj)]
/-! ### words of blocks -/
theorem Atg (s : ByteArray) : Ala std [⟨s, [], []⟩] = some (wordS s) := by
 unfold Ala
 have h0 : std.cmp .leq (std.len TyS.dfn [⟨s, [], []⟩]) 64 = true := rfl
 rw [h0, gd_t, A5c [⟨s, [], []⟩] (fun _ => !wordS s) _ (fun x hx => by
  obtain rfl := List.mem_singleton.1 hx
  unfold Aom Avd
  have : Loop (As6 std ⟨s, [], []⟩) 0 = some (wordS s) := by
   rw [Adq]
   unfold As6
   simp only
   have h1 : std.cmp .lss 0 (std.len TyS.str []) = false := by decide
   rw [h1, br_false, Avk, bd_some, Ate [] (fun _ => false) _ (fun x hx => by cases hx) (by decide), gd_b (fun _ => rfl), bd_some]
   have h2 : std.cmp .leq (std.len TyS.str []) 64 = true := by decide
   have h3 : std.cmp .eql (std.len TyS.str []) (std.len TyS.str []) = true := by decide
   rw [h2, h3]
   cases wordS s <;> rfl
  rw [this]
  rfl) (by simp [big63]), bd_some]
 cases wordS s <;> rfl
theorem Avn (s : ByteArray) : Aou std s = some (wordS s) := by unfold Aou; rw [Atg]; rfl
theorem A0o (s : ByteArray) : Amk std s = some (wordS s) := by unfold Amk; rw [Atg]; rfl
theorem Aub (s : ByteArray) : Amm std s = some (wordS s) := by unfold Amm; rw [Atg]; rfl
end Go.PL
namespace Go.PL
set_option linter.unusedSimpArgs false
set_option linter.unusedVariables false
set_option linter.unusedSectionVars false
open Tys (Ty U)
open Enc (sz enc dflt tb ofB toB)
open Dec (dec dok)
set_option maxRecDepth 100000
/-! ### rules -/
def timeS (n : Int) : Bool := decide (0 ≤ n) && decide (n ≤ 1099511627776)
def Avo : ByteArray := ByteArray.mk (Array.mk [97, 108, 101, 114, 116])
def A3c (xs : List Label) : Bool := xs.all fun l => !decide (l.Name = Avo)
def ruleS (r : Rule) : Bool := wordS r.Name && wordS r.Metric && decide (1 ≤ r.How) && decide (r.How ≤ 5) && timeS r.For && timeS r.Keep && decide (1 ≤ r.Tries) && decide (r.Tries ≤ 10) && decide (-1099511627776 ≤ r.Limit) && decide (r.Limit ≤ 1099511627776) && decide (r.Labels.length ≤ 4) && labelsS r.Labels && A3c r.Labels
theorem Avp (n : Int) : Aq6 std n = some (timeS n) := rfl
theorem Ax4 {α : Type} {p : Nat → α → Bool} {xs : List α} : ∀ {i : Nat}, allI p i xs = true → ∀ x ∈ xs, ∃ j, p j x = true := by
 induction xs with
 | nil => intro i _ x hx; cases hx
 | cons y ys ih =>
  intro i h x hx
  simp only [allI, Bool.and_eq_true] at h
  rcases List.mem_cons.1 hx with rfl | hx
  ·exact ⟨i, h.1⟩
  ·exact ih h.2 x hx
theorem labelsS_mem {xs : List Label} (h : labelsS xs = true) : ∀ x ∈ xs, Asl x = true := by
 intro x hx
 simp only [labelsS, Bool.and_eq_true] at h
 obtain ⟨j, hj⟩ := Ax4 h.1 x hx
 simp only [ordP, Bool.and_eq_true] at hj
 exact hj.1
theorem Bbg {xs : List Label} (h : labelsS xs = true) : decide ((match xs.find? (fun l => decide (l.Name = Avo)) with | some l => l.Value | none => ⟨#[]⟩) = ByteArray.mk (Array.mk [])) = A3c xs := by
 unfold A3c
 cases hf : xs.find? (fun l => decide (l.Name = Avo)) with
 | none =>
  rw [List.find?_eq_none] at hf
  have : (xs.all fun l => !decide (l.Name = Avo)) = true := by
   rw [List.all_eq_true]; intro x hx; have := hf x hx; simpa using this
  rw [this]; rfl
 | some l =>
  have hm := List.mem_of_find?_eq_some hf
  have hp := List.find?_some hf
  have : (xs.all fun l => !decide (l.Name = Avo)) = false := by
   rw [Bool.eq_false_iff]; intro h2
   rw [List.all_eq_true] at h2
   have := h2 l hm
   rw [hp] at this; cases this
  rw [this]
  have hl := labelsS_mem h l hm
  simp only [Asl, Ay6, Bool.and_eq_true, decide_eq_true_eq] at hl
  apply decide_eq_false
  intro e
  have h1 : l.Value.size = 0 := by
   have : l.Value = ByteArray.mk (Array.mk []) := e
   rw [this]; rfl
  omega
theorem A0p (r : Rule) (h : Awp r) : Amj std r = some (ruleS r) := by
 unfold Amj
 rw [Avn, bd_some, gd_b (fun _ => Avn _), bd_some, Avp, bd_some, gd_b (fun _ => Avp _), bd_some]
 rw [gd_b (fun _ => Aua _ h.2.2), bd_some, gd_of (fun _ => A5h _ _ h.2.2.1), bd_some]
 simp only [s_land, s_geq, s_leq, s_seql]
 congr 1
 rw [show decide (((std.len TyS.label r.Labels : Int)) ≤ 4) = decide (r.Labels.length ≤ 4) from leN (b := 4)]
 unfold ruleS
 cases h1 : wordS r.Name <;> cases h2 : wordS r.Metric <;> cases h3 : timeS r.For <;> cases h4 : timeS r.Keep <;> simp only [Bool.true_and, Bool.false_and, Bool.and_false, Bool.and_true]
 generalize hg : (decide (1 ≤ r.How) && decide (r.How ≤ 5) && (decide (1 ≤ r.Tries) && decide (r.Tries ≤ 10)) && decide (-1099511627776 ≤ r.Limit) && decide (r.Limit ≤ 1099511627776) && decide (r.Labels.length ≤ 4)) = g
 have hg2 : (decide (1 ≤ r.How) && decide (r.How ≤ 5) && decide (1 ≤ r.Tries) && decide (r.Tries ≤ 10) && decide (-1099511627776 ≤ r.Limit) && decide (r.Limit ≤ 1099511627776) && decide (r.Labels.length ≤ 4)) = g := by rw [← hg]; simp only [Bool.and_assoc]
 rw [hg2]
 cases g with
 | false => rfl
 | true =>
  cases h5 : labelsS r.Labels with
  | false => rfl
  | true =>
   simp only [Bool.true_and, cond_true]
   exact Bbg h5
theorem A5i (n : Int) : Adw std n = some (timeS n) := rfl
theorem Ais (a b : Int) : decide (a < b) = !decide (b ≤ a) := by rw [Bool.eq_iff_iff]; simp
theorem A7m (r : Rule) (h : Awp r) : Aer std r = some (ruleS r) := by
 have hout : ∀ (B : Option Bool), B = (bd (Aag std r.1) fun w2 =>
    bd (gd false (std.not (std.not w2)) (Aag std r.2)) fun w3 =>
    br (std.or (std.or (std.or (std.or (std.or (std.not w2) (std.not w3)) (std.cmp .lss r.3 1)) (std.cmp .gtr r.3 5)) (std.cmp .lss r.7 1)) (std.cmp .gtr r.7 10)) (
     some false
    ) (
     br (std.or (std.cmp .lss r.4 (-1099511627776)) (std.cmp .gtr r.4 1099511627776)) (
      some false
     ) (
      bd (Adw std r.5) fun w4 =>
      bd (gd false (w4) (Adw std r.6)) fun w5 =>
      bd (gd false (std.and (std.and w4 w5) (std.cmp .leq (std.len TyS.label r.8) 4)) (Adk std r.8)) fun w6 =>
      some (std.and (std.and (std.and w4 w5) (std.cmp .leq (std.len TyS.label r.8) 4)) w6)
     )
    )) → B = some (wordS r.Name && wordS r.Metric && decide (1 ≤ r.How) && decide (r.How ≤ 5) && timeS r.For && timeS r.Keep && decide (1 ≤ r.Tries) && decide (r.Tries ≤ 10) && decide (-1099511627776 ≤ r.Limit) && decide (r.Limit ≤ 1099511627776) && decide (r.Labels.length ≤ 4) && labelsS r.Labels) := by
  rintro _ rfl
  rw [Ams _ h.1, bd_some, gd_b (fun _ => Ams _ h.2.1), bd_some, A5i, bd_some, gd_b (fun _ => A5i _), bd_some, gd_b (fun _ => A3b _ h.2.2), bd_some]
  simp only [s_land, s_lor, s_not, s_leq, s_lss, s_gtr, Ais, show decide (((std.len TyS.label r.Labels : Int)) ≤ 4) = decide (r.Labels.length ≤ 4) from leN (b := 4)]
  generalize decide (1 ≤ r.How) = a1
  generalize decide (r.How ≤ 5) = a2
  generalize decide (1 ≤ r.Tries) = a3
  generalize decide (r.Tries ≤ 10) = a4
  generalize decide (-1099511627776 ≤ r.Limit) = a5
  generalize decide (r.Limit ≤ 1099511627776) = a6
  generalize decide (r.Labels.length ≤ 4) = a7
  generalize labelsS r.Labels = a8
  generalize timeS r.For = a9
  generalize timeS r.Keep = a10
  cases wordS r.Name
  ·rfl
  cases wordS r.Metric
  ·rfl
  cases a1
  ·rfl
  cases a2
  ·rfl
  cases a3
  ·cases a9 <;> cases a10 <;> rfl
  cases a4
  ·cases a9 <;> cases a10 <;> rfl
  cases a5
  ·cases a9 <;> cases a10 <;> rfl
  cases a6
  ·cases a9 <;> cases a10 <;> rfl
  cases a9
  ·rfl
  cases a10
  ·rfl
  cases a7
  ·rfl
  rfl
 unfold Aer
 have hout' := hout _ rfl
 have := Ack (t := TyS.label) (B := Akg std r) (fun i => i) r.Labels h.2.2.1 (fun _ l => !decide (l.Name = Avo)) _ (fun i => br (std.scmp .eql (std.get TyS.label r.8 i).1 (ByteArray.mk (Array.mk [97, 108, 101, 114, 116]))) (rt (some false)) (some (.inl (std.ar .add .i64 i 1)))) _ (fun i => rfl)
  (fun i x hx hi => by
   rw [Aai (t := TyS.label) hx, s_seql]
   show br (decide (x.Name = Avo)) _ _ = _
   cases decide (x.Name = Avo) <;> rfl) (fun _ => hout') (fun _ => ⟨_, hout'⟩)
 refine this.trans ?_
 have e : allI (fun _ (l : Label) => !decide (l.Name = Avo)) 0 r.Labels = A3c r.Labels := Ahm _ _ _
 exact congrArg some ((congrArg (fun b => b && _) e).trans (Bool.and_comm _ _))
/-! ### hours -/
def hourS (h : Hours) : Bool := wordS h.Name && decide (1 ≤ h.Days) && decide (h.Days ≤ 127) && decide (0 ≤ h.From) && decide (h.From ≤ 1439) && decide (h.From < h.To) && decide (h.To ≤ 1440)
theorem Aqt (h : Hours) : Ajl std h = some (hourS h) := by
 have hw := Avk h.Name
 have e : Ajl std h = bd (Alj std h.Name) fun w => some (std.and (std.and (std.and (std.and (std.and (std.and w (std.cmp .geq h.2 1)) (std.cmp .leq h.2 127)) (std.cmp .geq h.3 0)) (std.cmp .lss h.3 1440)) (std.cmp .gtr h.4 h.3)) (std.cmp .leq h.4 1440)) := by
  unfold Ajl Alj
  show bd (gd false _ (Aaa std (std.s2b h.1) fun y0 => Ali std y0)) _ = _
  cases (gd false (std.and (std.scmp .neq h.1 (ByteArray.mk (Array.mk []))) (std.cmp .leq (std.slen h.1) 64)) (Aaa std (std.s2b h.1) fun y0 => Ali std y0)) <;> rfl
 rw [e, hw, bd_some]
 unfold hourS
 congr 1
 simp only [s_land, s_geq, s_leq, s_gtr, s_lss]
 congr 3
 rw [Bool.eq_iff_iff]; simp; omega
theorem A7n (h : Hours) (hf : Avm h) : Aes std h = some (hourS h) := by
 unfold Aes
 rw [Ams _ hf, bd_some]
 rfl
end Go.PL
namespace Go.PL
set_option linter.unusedSimpArgs false
set_option linter.unusedVariables false
set_option linter.unusedSectionVars false
open Tys (Ty U)
open Enc (sz enc dflt tb ofB toB)
open Dec (dec dok)
set_option maxRecDepth 100000
def mwC (c : UInt8) : Bool := lowC c || upC c || digC c || barC c || inC 45 47 c || inC 58 58 c
def Apk (s : ByteArray) : Bool := (bytes s).all mwC && decide (s.size ≤ 64)
theorem Bbh (l : List UInt8) (c : UInt8) : (0 : Int) ≤ Lib.indexByte l c ↔ l.contains c = true := by
 induction l with
 | nil => simp [Lib.indexByte]
 | cons b l ih =>
  have hg := Lib.indexByte_ge l c
  simp only [Lib.indexByte, List.contains_cons]
  by_cases h : b = c
  ·subst h; simp
  ·have h1 : (b == c) = false := by simpa using h
   have h2 : (c == b) = false := by simpa using fun e : c = b => h e.symm
   rw [h1, h2, Bool.false_or, ← ih]
   by_cases h3 : Lib.indexByte l c = -1
   ·simp [h3]
   ·have h4 : (Lib.indexByte l c == -1) = false := by simpa using h3
    rw [h4]
    simp
    omega
theorem index_ge (l : List UInt8) (c : UInt8) : decide ((0 : Int) ≤ Lib.indexByte l c) = l.contains c := by
 rw [Bool.eq_iff_iff, decide_eq_true_eq, Bbh]
theorem Bbi (c : UInt8) : ((c.toNat : Int)).toNat.toUInt8 = c := by
 rw [Int.toNat_natCast]
 exact UInt8.ofNat_toNat
theorem eqC (c : UInt8) (n : UInt8) : (c == n) = decide (c.toNat = n.toNat) := by
 rw [Bool.eq_iff_iff]; simp [← UInt8.toNat_inj]
theorem Bct (c : UInt8) : Alz std (c.toNat : Int) = some (mwC c) := by
 unfold Alz
 have h0 : std.or (std.or (std.and (std.cmp .geq (c.toNat : Int) 97) (std.cmp .leq (c.toNat : Int) 122)) (std.and (std.cmp .geq (c.toNat : Int) 65) (std.cmp .leq (c.toNat : Int) 90))) (std.and (std.cmp .geq (c.toNat : Int) 48) (std.cmp .leq (c.toNat : Int) 57)) = (lowC c || upC c || digC c) := by
  rw [Bool.eq_iff_iff]; simp [lowC, upC, digC, inC]; omega
 rw [h0]
 have h1 : strings_IndexByte std (ByteArray.mk (Array.mk [95, 45, 46, 47, 58])) (c.toNat : Int) = some (Lib.indexByte [95, 45, 46, 47, 58] c) := by
  unfold strings_IndexByte; rw [Bbi]
 have h2 : [95, 45, 46, 47, 58].contains c = (barC c || inC 45 47 c || inC 58 58 c) := by
  simp only [List.contains_cons, eqC, List.contains_nil]
  rw [Bool.eq_iff_iff]; simp [barC, inC]; omega
 rw [h1]
 unfold mwC
 cases h : (lowC c || upC c || digC c) with
 | true => rfl
 | false =>
  simp only [s_not, Bool.not_false, gd_t, bd_some, s_geq, index_ge, h2, s_lor, Bool.false_or]
theorem Ath (s : ByteArray) : Ah7 std s = some (Apk s) := by
 unfold Ah7
 rw [show std.cmp .leq (std.slen s) 64 = decide (s.size ≤ 64) by rw [s_leq, s_slen]; exact leN (b := 64)]
 unfold Apk
 by_cases h : s.size ≤ 64
 ·rw [decide_eq_true h, gd_t, Avj, Ahl _ (fun c => !mwC c) _ (fun c _ => by
   unfold Amw; rw [Bct]; rfl) (by rw [Aae]; unfold big63; omega), bd_some, Bool.and_true, List.all_eq_not_any_not]
  rfl
 ·rw [decide_eq_false h, gd_f, bd_some, Bool.and_false]; rfl
theorem A5j (s : ByteArray) (hs : fitS s) : Afi std s = some (Apk s) := by
 unfold Afi
 rw [Loop_bytes (fun i => (false, i)) s hs (fun _ c => mwC c) (decide (s.size ≤ 64)) _ _ (fun i => rfl) (fun i c hc hi => by
  rw [Apj hc]
  have e : std.and (std.and (std.and (std.and (std.and (std.not (std.or (std.or (std.and (std.cmp .geq (c.toNat : Int) 97) (std.cmp .leq (c.toNat : Int) 122)) (std.and (std.cmp .geq (c.toNat : Int) 65) (std.cmp .leq (c.toNat : Int) 90))) (std.and (std.cmp .geq (c.toNat : Int) 48) (std.cmp .leq (c.toNat : Int) 57)))) (std.cmp .neq (c.toNat : Int) 95)) (std.cmp .neq (c.toNat : Int) 45)) (std.cmp .neq (c.toNat : Int) 46)) (std.cmp .neq (c.toNat : Int) 47)) (std.cmp .neq (c.toNat : Int) 58) = !mwC c := by
   rw [Bool.eq_iff_iff]; simp [mwC, lowC, upC, digC, barC, inC]; omega
  rw [e]; cases mwC c <;> rfl) (congrArg some (by rw [s_leq, s_slen]; exact leN (b := 64))), Ahm]
 rfl
theorem Ar1 (s : ByteArray) (hs : fitS s) : Agp std [⟨s, ByteArray.mk (Array.mk [120])⟩] = some (nameS s) := by
 rw [Aua _ ⟨by simp [big63], fun x hx => by obtain rfl := List.mem_singleton.1 hx; exact ⟨hs, by show (1 : Nat) ≤ big63; simp [big63]⟩⟩]
 have hv : Ay6 (ByteArray.mk (Array.mk [120])) = true := by decide
 simp only [labelsS, allI, ordP, Asl, hv, Bool.and_true, decide_true, Bool.true_or, List.length_singleton]
 rw [show decide (1 ≤ 8) = true from rfl, Bool.and_true]
def Ay8 (may : ByteArray → Bool) (xs : List ByteArray) : Bool := allI (ordP may (fun x => x) xs) 0 xs
def Adr (m : Matcher) : Bool := Ay8 Apk m.Words && (nameS m.Name && decide (1 ≤ m.How) && decide (m.How ≤ 4) && decide (1 ≤ m.Words.length) && decide (m.Words.length ≤ 8) && (decide (2 < m.How) || decide (m.Words.length = 1)))
theorem A8r (n : Int) : (lookI std n [(1, ByteArray.mk (Array.mk [61])), (2, ByteArray.mk (Array.mk [33, 61])), (3, ByteArray.mk (Array.mk [61, 126])), (4, ByteArray.mk (Array.mk [33, 126]))] (ByteArray.mk (Array.mk []))).2 = (decide (1 ≤ n) && decide (n ≤ 4)) := by
 simp only [lookI, s_eql]
 by_cases h1 : n = 1
 ·subst h1; rfl
 by_cases h2 : n = 2
 ·subst h2; rfl
 by_cases h3 : n = 3
 ·subst h3; rfl
 by_cases h4 : n = 4
 ·subst h4; rfl
 rw [beq_false_of_ne h1, beq_false_of_ne h2, beq_false_of_ne h3, beq_false_of_ne h4]
 simp only
 rw [eq_comm, Bool.and_eq_false_iff]
 simp only [decide_eq_false_iff_not]
 omega
theorem An8 (m : Matcher) (h : Afs m) : Aej std m = some (Adr m) := by
 have hge : std.cmp .geq (std.len TyS.str m.Words) 1 = decide (1 ≤ m.Words.length) := by rw [s_geq, Aab]; exact leN (a := 1)
 have hle : std.cmp .leq (std.len TyS.str m.Words) 8 = decide (m.Words.length ≤ 8) := Ale (t := TyS.str) m.Words 8
 have hle1 : std.cmp .leq (std.len TyS.str m.Words) 1 = decide (m.Words.length ≤ 1) := Ale (t := TyS.str) m.Words 1
 unfold Aej Adr
 rw [s_gtr]
 by_cases h2 : 2 < m.How
 ·rw [decide_eq_true h2, br_true, Bool.true_or, Bool.and_true]
  refine Ack (t := TyS.str) (B := Asg std m) (fun i => i) m.Words h.2.1 (ordP Apk (fun x => x) m.Words) _ _ _ (fun i => rfl)
   (fun i x hx hi => Ans (t := TyS.str) m.Words (Ah7 std) Apk (fun x => x) h.2.1 (fun i => i) i x hx (Ath x)) (fun _ => ?_) (fun _ => ?_)
  all_goals
   have hout : (bd (Afv std) fun w4 =>
    bd (some (lookI std m.2 [(1, ByteArray.mk (Array.mk [61])), (2, ByteArray.mk (Array.mk [33, 61])), (3, ByteArray.mk (Array.mk [61, 126])), (4, ByteArray.mk (Array.mk [33, 126]))] (ByteArray.mk (Array.mk [])))) fun w5 =>
    bd (gd false (w5.2) (Agp std [Label.mk m.1 (ByteArray.mk (Array.mk [120]))])) fun w6 =>
    some (std.and (std.and (std.and w5.2 w6) (std.cmp .geq (std.len TyS.str m.3) 1)) (std.cmp .leq (std.len TyS.str m.3) 8))) = some (nameS m.Name && decide (1 ≤ m.How) && decide (m.How ≤ 4) && decide (1 ≤ m.Words.length) && decide (m.Words.length ≤ 8)) := by
    unfold Afv
    rw [bd_some, bd_some, Ar1 _ h.1, gd_b (fun _ => rfl), bd_some, A8r, hge, hle]
    simp only [s_land]
    cases decide (1 ≤ m.How) <;> cases decide (m.How ≤ 4) <;> cases nameS m.Name <;> rfl
  ·exact hout
  ·exact ⟨_, hout⟩
 ·rw [decide_eq_false h2, br_false, Bool.false_or]
  refine Ack (t := TyS.str) (B := Ash std m) (fun i => i) m.Words h.2.1 (ordP Apk (fun x => x) m.Words) _ _ _ (fun i => rfl)
   (fun i x hx hi => Ans (t := TyS.str) m.Words (Ah7 std) Apk (fun x => x) h.2.1 (fun i => i) i x hx (Ath x)) (fun _ => ?_) (fun _ => ?_)
  all_goals
   have hout : (bd (Afv std) fun w4 =>
    bd (some (lookI std m.2 [(1, ByteArray.mk (Array.mk [61])), (2, ByteArray.mk (Array.mk [33, 61])), (3, ByteArray.mk (Array.mk [61, 126])), (4, ByteArray.mk (Array.mk [33, 126]))] (ByteArray.mk (Array.mk [])))) fun w5 =>
    bd (gd false (w5.2) (Agp std [Label.mk m.1 (ByteArray.mk (Array.mk [120]))])) fun w6 =>
    some (std.and (std.and (std.and w5.2 w6) (std.cmp .geq (std.len TyS.str m.3) 1)) (std.cmp .leq (std.len TyS.str m.3) 1))) = some (nameS m.Name && decide (1 ≤ m.How) && decide (m.How ≤ 4) && decide (1 ≤ m.Words.length) && decide (m.Words.length ≤ 8) && decide (m.Words.length = 1)) := by
    unfold Afv
    rw [bd_some, bd_some, Ar1 _ h.1, gd_b (fun _ => rfl), bd_some, A8r, hge, hle1]
    simp only [s_land]
    have e : (decide (1 ≤ m.Words.length) && decide (m.Words.length ≤ 1)) = (decide (1 ≤ m.Words.length) && decide (m.Words.length ≤ 8) && decide (m.Words.length = 1)) := by
     rw [Bool.eq_iff_iff]; simp only [Bool.and_eq_true, decide_eq_true_eq]; omega
    simp only [Bool.and_assoc] at e ⊢
    rw [e]
    cases decide (1 ≤ m.How) <;> cases decide (m.How ≤ 4) <;> cases nameS m.Name <;> rfl
  ·exact hout
  ·exact ⟨_, hout⟩
theorem Auc (m : Matcher) (h : Afs m) : Abs std m = some (Adr m) := by
 unfold Abs Adr
 have hle : std.cmp .gtr (std.len TyS.str m.Words) 8 = !decide (m.Words.length ≤ 8) := by rw [s_gtr, Ais, Aab]; congr 1; exact leN (b := 8)
 have hge : std.cmp .lss (std.len TyS.str m.Words) 1 = !decide (1 ≤ m.Words.length) := by rw [s_lss, Ais, Aab]; congr 1; exact leN (a := 1)
 have he : std.cmp .eql (std.len TyS.str m.Words) 1 = decide (m.Words.length = 1) := by rw [s_eql, Aab, Bool.eq_iff_iff]; simp; omega
 have hout : (bd (Aa8 std m.1) fun w5 =>
    br (std.or (std.or (std.or (std.or (std.not w5) (std.cmp .lss m.2 1)) (std.cmp .gtr m.2 4)) (std.cmp .lss (std.len TyS.str m.3) 1)) (std.cmp .gtr (std.len TyS.str m.3) 8)) (
     some false
    ) (
     some (std.or (std.cmp .gtr m.2 2) (std.cmp .eql (std.len TyS.str m.3) 1))
    )) = some (nameS m.Name && decide (1 ≤ m.How) && decide (m.How ≤ 4) && decide (1 ≤ m.Words.length) && decide (m.Words.length ≤ 8) && (decide (2 < m.How) || decide (m.Words.length = 1))) := by
  rw [Ar0 _ h.1, bd_some, hle, hge, he]
  simp only [s_lor, s_not, s_lss, s_gtr, Ais]
  cases nameS m.Name <;> cases decide (1 ≤ m.How) <;> cases decide (m.How ≤ 4) <;> cases decide (1 ≤ m.Words.length) <;> cases decide (m.Words.length ≤ 8) <;> rfl
 exact Ack (t := TyS.str) (B := Akh std m) (fun i => i) m.Words h.2.1 (ordP Apk (fun x => x) m.Words) _ _ _ (fun i => rfl)
  (fun i x hx hi => by
   refine Eq.trans ?_ (A3a (t := TyS.str) m.Words (fun x => some (Apk x)) Apk (fun x => x) h.2.1 (fun y hy => h.2.2 y hy) (fun i => i) i x hx rfl)
   have hg : std.get TyS.str m.Words (i : Int) = x := Aai (t := TyS.str) hx
   rw [hg, A5j _ (h.2.2 x (Abv hx))]) (fun _ => hout) (fun _ => ⟨_, hout⟩)
def Aav (xs : List Matcher) : Bool := xs.all Adr && decide (xs.length ≤ 8)
theorem Ati (xs : List Matcher) (h : fitL Afs xs) : Aba std xs = some (Aav xs) := by
 unfold Aba Aav
 have hout : some (std.cmp .leq (std.len TyS.matcher xs) 8) = some (decide (xs.length ≤ 8)) := congrArg some (Ale (t := TyS.matcher) xs 8)
 have := Ack (t := TyS.matcher) (B := Air std xs) (fun i => i) xs h.1 (fun _ x => Adr x) _ (fun i => bd (Abs std (std.get TyS.matcher xs i)) fun w2 => br (std.not w2) (rt (some false)) (some (.inl (std.ar .add .i64 i 1)))) _ (fun i => rfl)
  (fun i x hx hi => by
   rw [Aai (t := TyS.matcher) hx, Auc _ (h.2 x (Abv hx)), bd_some]
   cases Adr x <;> rfl) (fun _ => hout) (fun _ => ⟨_, hout⟩)
 exact this.trans (congrArg (fun b => some (b && _)) (Ahm Adr xs 0))
theorem Apl (xs : List Matcher) (h : fitL Afs xs) : Ace std xs 8 (fun y0 => Aej std y0) = some (Aav xs) := by
 rw [A7l xs 8 Adr _ (fun _ x hx => An8 x (h.2 x hx)) (by decide)]
 unfold Aav
 rw [Bool.and_comm]
 congr 2
 exact leN (b := 8)
def Aa4 (x : Inhibit) : Bool := Ay8 nameS x.Equal && (decide (0 < x.Source.length) && decide (0 < x.Target.length) && decide (x.Equal.length ≤ 8) && Aav x.Source && Aav x.Target)
theorem Avq (x : Inhibit) (h : Alr x) : Ahz std x = some (Aa4 x) := by
 unfold Ahz Aa4
 have g1 : std.cmp .gtr (std.len TyS.matcher x.Source) 0 = decide (0 < x.Source.length) := by rw [s_gtr, Aab, Bool.eq_iff_iff]; simp
 have g2 : std.cmp .gtr (std.len TyS.matcher x.Target) 0 = decide (0 < x.Target.length) := by rw [s_gtr, Aab, Bool.eq_iff_iff]; simp
 have g3 : std.cmp .leq (std.len TyS.str x.Equal) 8 = decide (x.Equal.length ≤ 8) := Ale (t := TyS.str) x.Equal 8
 have hout : (bd (gd false (std.and (std.and (std.cmp .gtr (std.len TyS.matcher x.1) 0) (std.cmp .gtr (std.len TyS.matcher x.2) 0)) (std.cmp .leq (std.len TyS.str x.3) 8)) (Ace std x.1 8 fun y0 => Aej std y0)) fun w4 =>
    bd (gd false (std.and (std.and (std.and (std.cmp .gtr (std.len TyS.matcher x.1) 0) (std.cmp .gtr (std.len TyS.matcher x.2) 0)) (std.cmp .leq (std.len TyS.str x.3) 8)) w4) (Ace std x.2 8 fun y0 => Aej std y0)) fun w5 =>
    some (std.and (std.and (std.and (std.and (std.cmp .gtr (std.len TyS.matcher x.1) 0) (std.cmp .gtr (std.len TyS.matcher x.2) 0)) (std.cmp .leq (std.len TyS.str x.3) 8)) w4) w5)) = some (decide (0 < x.Source.length) && decide (0 < x.Target.length) && decide (x.Equal.length ≤ 8) && Aav x.Source && Aav x.Target) := by
  rw [g1, g2, g3, gd_b (fun _ => Apl _ h.1), bd_some, gd_b (fun _ => Apl _ h.2.1), bd_some]
  simp only [s_land]
  cases decide (0 < x.Source.length) <;> cases decide (0 < x.Target.length) <;> cases decide (x.Equal.length ≤ 8) <;> cases Aav x.Source <;> rfl
 exact Ack (t := TyS.str) (B := Ap7 std x) (fun i => i) x.Equal h.2.2.1 (ordP nameS (fun x => x) x.Equal) _ _ _ (fun i => rfl)
  (fun i y hy hi => by
   refine Eq.trans ?_ (Ans (t := TyS.str) x.Equal (fun y => some (nameS y)) nameS (fun x => x) h.2.2.1 (fun i => i) i y hy rfl)
   have hg : std.get TyS.str x.Equal (i : Int) = y := Aai (t := TyS.str) hy
   rw [hg, Ar1 _ (h.2.2.2 y (Abv hy))]) (fun _ => hout) (fun _ => ⟨_, hout⟩)
theorem A0q (x : Inhibit) (h : Alr x) : Acx std x = some (Aa4 x) := by
 unfold Acx Aa4
 have g1 : std.cmp .gtr (std.len TyS.matcher x.Source) 0 = decide (0 < x.Source.length) := by rw [s_gtr, Aab, Bool.eq_iff_iff]; simp
 have g2 : std.cmp .gtr (std.len TyS.matcher x.Target) 0 = decide (0 < x.Target.length) := by rw [s_gtr, Aab, Bool.eq_iff_iff]; simp
 have g3 : std.cmp .leq (std.len TyS.str x.Equal) 8 = decide (x.Equal.length ≤ 8) := Ale (t := TyS.str) x.Equal 8
 have hout : (bd (gd false (std.and (std.and (std.cmp .gtr (std.len TyS.matcher x.1) 0) (std.cmp .gtr (std.len TyS.matcher x.2) 0)) (std.cmp .leq (std.len TyS.str x.3) 8)) (Aba std x.1)) fun w5 =>
    bd (gd false (std.and (std.and (std.and (std.cmp .gtr (std.len TyS.matcher x.1) 0) (std.cmp .gtr (std.len TyS.matcher x.2) 0)) (std.cmp .leq (std.len TyS.str x.3) 8)) w5) (Aba std x.2)) fun w6 =>
    some (std.and (std.and (std.and (std.and (std.cmp .gtr (std.len TyS.matcher x.1) 0) (std.cmp .gtr (std.len TyS.matcher x.2) 0)) (std.cmp .leq (std.len TyS.str x.3) 8)) w5) w6)) = some (decide (0 < x.Source.length) && decide (0 < x.Target.length) && decide (x.Equal.length ≤ 8) && Aav x.Source && Aav x.Target) := by
  rw [g1, g2, g3, gd_b (fun _ => Ati _ h.1), bd_some, gd_b (fun _ => Ati _ h.2.1), bd_some]
  simp only [s_land]
  cases decide (0 < x.Source.length) <;> cases decide (0 < x.Target.length) <;> cases decide (x.Equal.length ≤ 8) <;> cases Aav x.Source <;> rfl
 exact Ack (t := TyS.str) (B := Ajb std x) (fun i => i) x.Equal h.2.2.1 (ordP nameS (fun x => x) x.Equal) _ _ _ (fun i => rfl)
  (fun i y hy hi => by
   refine Eq.trans ?_ (A3a (t := TyS.str) x.Equal (fun y => some (nameS y)) nameS (fun x => x) h.2.2.1 (fun y hy => h.2.2.2 y hy) (fun i => i) i y hy rfl)
   have hg : std.get TyS.str x.Equal (i : Int) = y := Aai (t := TyS.str) hy
   rw [hg, Ar0 _ (h.2.2.2 y (Abv hy))]) (fun _ => hout) (fun _ => ⟨_, hout⟩)
end Go.PL
namespace Go.PL
set_option linter.unusedSimpArgs false
set_option linter.unusedVariables false
set_option linter.unusedSectionVars false
open Tys (Ty U)
open Enc (sz enc dflt tb ofB toB)
open Dec (dec dok)
set_option maxRecDepth 100000
inductive RouteFit : Route → Prop where
 | mk (r : Route) (h1 : fitS r.Receiver) (h2 : fitL Afs r.Match) (h3 : fitL fitS r.By) (h4 : fitL fitS r.Mute) (h5 : r.Routes.length ≤ big63) (h6 : ∀ k ∈ r.Routes, RouteFit k) : RouteFit r
theorem Am4 {r k : Route} (h : k ∈ r.Routes) : SizeOf.sizeOf k < SizeOf.sizeOf r := by
 have := List.sizeOf_lt_of_mem h
 cases r
 simp only [Route.mk.sizeOf_spec] at this ⊢
 omega
theorem Bcu {α : Type} (a b : Nat → α → Bool) (xs : List α) : ∀ i, allI (fun i x => a i x && b i x) i xs = (allI a i xs && allI b i xs) := by
 induction xs with
 | nil => intro i; rfl
 | cons x xs ih =>
  intro i
  simp only [allI, ih]
  cases a i x <;> cases b i x <;> cases allI a (i + 1) xs <;> rfl
def ascP (xs : List ByteArray) (i : Nat) (x : ByteArray) : Bool := decide (i = 0) || match xs[i - 1]? with | some y => lessS y x | none => false
def ascS (xs : List ByteArray) : Bool := allI (ascP xs) 0 xs
theorem Ay9 (may : ByteArray → Bool) (xs : List ByteArray) : Ay8 may xs = (xs.all may && ascS xs) := by
 have e : ∀ i x, ordP may (fun x => x) xs i x = (may x && ascP xs i x) := fun i x => by
  unfold ordP ascP
  cases xs[i - 1]? <;> rfl
 have : Ay8 may xs = allI (fun i x => may x && ascP xs i x) 0 xs := congrArg (fun p => allI p 0 xs) (funext fun i => funext fun x => e i x)
 rw [this, Bcu (fun _ x => may x), Ahm]
 rfl
def Ap9 (may : ByteArray → Bool) (xs : List ByteArray) : Bool := Ay8 may xs && decide (xs.length ≤ 8)
theorem Ard (xs : List ByteArray) (h : fitL fitS xs) (q : ByteArray → Option Bool) (may : ByteArray → Bool) (hq : ∀ x ∈ xs, q x = some (may x)) : Ait std xs q = some (Ap9 may xs) := by
 unfold Ait Ap9
 have hout : some (std.cmp .leq (std.len TyS.str xs) 8) = some (decide (xs.length ≤ 8)) := congrArg some (Ale (t := TyS.str) xs 8)
 exact Ack (t := TyS.str) (B := Aq7 std xs q) (fun i => (false, i)) xs h.1 (ordP may (fun x => x) xs) _ _ _ (fun i => rfl)
  (fun i x hx hi => Ans (t := TyS.str) xs q may (fun x => x) h.1 (fun i => (false, i)) i x hx (hq x (Abv hx))) (fun _ => hout) (fun _ => ⟨_, hout⟩)
theorem A0r (s : ByteArray) (h : fitS s) : Apa std s = some (nameS s) := by
 unfold Apa; rw [Ar1 s h]; rfl
theorem Aud (xs : List ByteArray) (h : fitL fitS xs) : Abe std xs = some (ascS xs && decide (xs.length ≤ 8)) := by
 unfold Abe
 have hout : std.cmp .leq (std.len TyS.str xs) 8 = decide (xs.length ≤ 8) := Ale (t := TyS.str) xs 8
 cases xs with
 | nil => rw [Adq]; rfl
 | cons x0 ys =>
  have := Aii (B := Ac3 std (x0 :: ys)) (fun i (_ : Unit) => (i : Int)) (x0 :: ys) (fun i x (_ : Unit) => if ascP (x0 :: ys) i x then .inl () else .inr false) (fun _ => decide ((x0 :: ys).length ≤ 8)) (fun i _ => 1 ≤ i)
   (fun i x s hx hI => by
    have hi := Ae2 hx
    have hB : Ac3 std (x0 :: ys) (i : Int) = some (if ascP (x0 :: ys) i x then .inl ((i + 1 : Nat) : Int) else .inr false) := by
     obtain ⟨y, hy⟩ := Al8 (xs := x0 :: ys) (i := i - 1) (by omega)
     have h8 := h.1
     unfold Ac3
     simp only
     rw [Aab, lssT hi, br_true, prevI hI (by omega), ck_t (inbT (by omega)), ck_t (inbT hi), Aai (t := TyS.str) hy, Aai (t := TyS.str) hx, Aux _ _ (h.2 y (Abv hy)), bd_some, s_add, wrap_succ hi h8]
     have e : ascP (x0 :: ys) i x = lessS y x := by
      unfold ascP
      rw [hy, decide_eq_false (by omega), Bool.false_or]
     rw [e]
     cases lessS y x <;> rfl
    rw [hB]
    refine ⟨fun s' hs => ?_, fun e hs => ?_⟩
    ·cases hp : ascP (x0 :: ys) i x with
     | true => exact ⟨rfl, by omega⟩
     | false => rw [hp] at hs; cases hs
    ·cases hp : ascP (x0 :: ys) i x with
     | true => rw [hp] at hs; cases hs
     | false => rw [hp] at hs; cases hs; rfl)
   (fun s hI => by
    unfold Ac3
    simp only
    rw [Aab, lssF, br_false, ← Aab (t := TyS.str), hout]
    rfl) 1 (by simp) () (Nat.le_refl 1)
  refine this.trans ?_
  rw [A8q]
  simp only [ascS, allI, List.drop_succ_cons, List.drop_zero]
  rfl
def fromS (lo n : Int) : Bool := decide (lo ≤ n) && decide (n ≤ 1099511627776)
theorem Atj (lo : Int) (l : List Int) (h : l.length ≤ big63) : All std lo l = some (l.all (fromS lo)) := by
 unfold All
 rw [A5e l (fun n => !fromS lo n) (fun y0 => Akw std y0 lo) (fun x _ => by
  unfold Akw
  congr 1
  simp only [s_lor, s_lss, s_gtr, Ais, fromS]
  cases decide (lo ≤ x) <;> cases decide (x ≤ 1099511627776) <;> rfl) h, bd_some, List.all_eq_not_any_not]
 rfl
def oneS (r : Route) : Bool := wordS r.Receiver && Aav r.Match && decide (r.Routes.length ≤ 16) && Ap9 nameS r.By && Ap9 wordS r.Mute && fromS 0 r.Wait && fromS 1 r.Every && fromS 1 r.Repeat
def Ab1 : Nat → Route → Bool
 | 0, _ => false
 | d + 1, r => oneS r && r.Routes.all (Ab1 d)
theorem Aij {α : Type} (p : α → Bool) (xs : List α) : (xs.any fun x => !p x) = !xs.all p := by
 rw [List.all_eq_not_any_not]; simp
theorem Awq {t : Ty} (xs : List (U t)) (n : Nat) : std.cmp .gtr (std.len t xs) (n : Int) = !decide (xs.length ≤ n) := by rw [s_gtr, Ais, Aab, leN]
theorem Avr : ∀ (n : Nat) (r : Route) (d : Nat), SizeOf.sizeOf r < n → RouteFit r → d ≤ 100 → Alm std n r (d : Int) = some (Ab1 d r)
 | 0, r, d, h, _, _ => by omega
 | n + 1, r, d, h, hf, hd => by
  obtain ⟨_, h1, h2, h3, h4, h5, h6⟩ := hf
  show Anh std (Alm std n) r (d : Int) = _
  unfold Anh
  have hz : std.cmp .eql (d : Int) 0 = decide (d = 0) := by rw [s_eql, Bool.eq_iff_iff]; simp
  rw [hz, gd_b (fun _ => Aub _), bd_some]
  have g8 : std.cmp .gtr (std.len TyS.matcher r.Match) 8 = !decide (r.Match.length ≤ 8) := Awq (t := TyS.matcher) r.Match 8
  have g16 : std.cmp .gtr (std.len TyS.route r.Routes) 16 = !decide (r.Routes.length ≤ 16) := Awq (t := TyS.route) r.Routes 16
  rw [g8, g16]
  rw [gd_b (fun _ => An7 r.Match (fun m => !Adr m) (fun y0 => Anf std y0) (fun m hm => by unfold Anf; rw [An8 m (h2.2 m hm)]; rfl) h2.1), bd_some, Aij]
  rw [Ard r.By h3 _ nameS (fun x hx => A0r x (h3.2 x hx)), bd_some, gd_b (fun _ => Ard r.Mute h4 _ wordS (fun x hx => Aub x)), bd_some]
  rw [gd_b (fun _ => Atj 0 [r.Wait] (by simp [big63])), bd_some, gd_b (fun _ => Atj 1 [r.Every, r.Repeat] (by simp [big63])), bd_some]
  cases d with
  | zero => rfl
  | succ d =>
   have e1 : std.ar .sub .i64 ((d + 1 : Nat) : Int) 1 = (d : Int) := by rw [prevI (by omega) (by unfold big63; omega)]; rfl
   rw [At9 r.Routes (fun k => !Ab1 d k) (fun y0 => Ang std (Alm std n) y0 ((d + 1 : Nat) : Int)) (fun k hk => by
    unfold Ang
    rw [e1, Avr n k d (by have := Am4 hk; omega) (h6 k hk) (by omega)]
    rfl) h5, bd_some, Aij]
   simp only [Ab1, oneS, Aav, List.all_cons, List.all_nil, Bool.and_true, s_not, s_lor, Nat.succ_ne_zero, decide_false, Bool.not_false, Bool.true_and, Bool.false_or]
   generalize wordS r.Receiver = b1
   generalize decide (r.Match.length ≤ 8) = b2
   generalize r.Match.all Adr = b3
   generalize decide (r.Routes.length ≤ 16) = b4
   generalize Ap9 nameS r.By = b5
   generalize Ap9 wordS r.Mute = b6
   generalize fromS 0 r.Wait = b7
   generalize fromS 1 r.Every = b8
   generalize fromS 1 r.Repeat = b9
   generalize r.Routes.all (Ab1 d) = b10
   cases b1
   ·rfl
   cases b2
   ·cases b3 <;> rfl
   cases b3
   ·rfl
   cases b4
   ·rfl
   cases b5
   ·rfl
   cases b6
   ·rfl
   cases b7
   ·rfl
   cases b8
   ·rfl
   cases b9
   ·rfl
   cases b10 <;> rfl
theorem Aza (r : Route) (h : RouteFit r) : Ani std r = some (Ab1 4 r) := by
 unfold Ani Awh
 have := Avr (SizeOf.sizeOf r + 1) r 4 (by omega) h (by omega)
 rw [show ((4 : Int)) = ((4 : Nat) : Int) from rfl, this]
 rfl
theorem Auy (n lo : Int) : Ab5 std n lo = some (fromS lo n) := rfl
theorem A9p (r : Route) (hf : RouteFit r) : Ahg std r = some (oneS r) := by
 obtain ⟨_, h1, h2, h3, h4, h5, h6⟩ := hf
 have g8 : std.cmp .leq (std.len TyS.matcher r.Match) 8 = decide (r.Match.length ≤ 8) := Ale (t := TyS.matcher) r.Match 8
 have g16 : std.cmp .leq (std.len TyS.route r.Routes) 16 = decide (r.Routes.length ≤ 16) := Ale (t := TyS.route) r.Routes 16
 have hout : (bd (Aag std r.1) fun w7 =>
    bd (gd false (std.and w7 (std.cmp .leq (std.len TyS.matcher r.2) 8)) (Abe std r.3)) fun w8 =>
    bd (gd false (std.and (std.and w7 (std.cmp .leq (std.len TyS.matcher r.2) 8)) w8) (Abe std r.7)) fun w9 =>
    bd (gd false (std.and (std.and (std.and w7 (std.cmp .leq (std.len TyS.matcher r.2) 8)) w8) w9) (Ab5 std r.4 0)) fun w10 =>
    bd (gd false (std.and (std.and (std.and (std.and w7 (std.cmp .leq (std.len TyS.matcher r.2) 8)) w8) w9) w10) (Ab5 std r.5 1)) fun w11 =>
    bd (gd false (std.and (std.and (std.and (std.and (std.and w7 (std.cmp .leq (std.len TyS.matcher r.2) 8)) w8) w9) w10) w11) (Ab5 std r.6 1)) fun w12 =>
    some (std.and (std.and (std.and (std.and (std.and (std.and (std.and w7 (std.cmp .leq (std.len TyS.matcher r.2) 8)) w8) w9) w10) w11) w12) (std.cmp .leq (std.len TyS.route r.9) 16))) =
   some (wordS r.Receiver && decide (r.Match.length ≤ 8) && (ascS r.By && decide (r.By.length ≤ 8)) && (ascS r.Mute && decide (r.Mute.length ≤ 8)) && fromS 0 r.Wait && fromS 1 r.Every && fromS 1 r.Repeat && decide (r.Routes.length ≤ 16)) := by
  rw [Ams _ h1, bd_some, g8, g16, gd_b (fun _ => Aud _ h3), bd_some, gd_b (fun _ => Aud _ h4), bd_some, gd_b (fun _ => Auy _ _), bd_some, gd_b (fun _ => Auy _ _), bd_some, gd_b (fun _ => Auy _ _), bd_some]
  simp only [s_land]
  cases wordS r.Receiver
  ·rfl
  cases decide (r.Match.length ≤ 8)
  ·rfl
  cases (ascS r.By && decide (r.By.length ≤ 8))
  ·rfl
  cases (ascS r.Mute && decide (r.Mute.length ≤ 8))
  ·rfl
  cases fromS 0 r.Wait
  ·rfl
  cases fromS 1 r.Every <;> rfl
 have l1 := Ack (t := TyS.str) (B := Alo std r) (fun i => i) r.Mute h4.1 (fun _ x => wordS x) _ (fun i => bd (Aag std (std.get TyS.str r.7 i)) fun w6 => br (std.not w6) (rt (some false)) (some (.inl (std.ar .add .i64 i 1)))) _ (fun i => rfl)
  (fun i x hx hi => by
   rw [Aai (t := TyS.str) hx, Ams _ (h4.2 x (Abv hx)), bd_some]
   cases wordS x <;> rfl) (fun _ => hout) (fun _ => ⟨_, hout⟩)
 have l2 := Ack (t := TyS.str) (B := Alp std r) (fun i => i) r.By h3.1 (fun _ x => nameS x) _ (fun i => bd (Aa8 std (std.get TyS.str r.3 i)) fun w6 => br (std.not w6) (rt (some false)) (some (.inl (std.ar .add .i64 i 1)))) _ (fun i => rfl)
  (fun i x hx hi => by
   rw [Aai (t := TyS.str) hx, Ar0 _ (h3.2 x (Abv hx)), bd_some]
   cases nameS x <;> rfl) (fun _ => l1) (fun _ => ⟨_, l1⟩)
 have l3 := Ack (t := TyS.matcher) (B := Alq std r) (fun i => i) r.Match h2.1 (fun _ x => Adr x) _ (fun i => bd (Abs std (std.get TyS.matcher r.2 i)) fun w6 => br (std.not w6) (rt (some false)) (some (.inl (std.ar .add .i64 i 1)))) _ (fun i => rfl)
  (fun i x hx hi => by
   rw [Aai (t := TyS.matcher) hx, Auc _ (h2.2 x (Abv hx)), bd_some]
   cases Adr x <;> rfl) (fun _ => l2) (fun _ => ⟨_, l2⟩)
 refine l3.trans ?_
 have a1 : allI (fun _ x => wordS x) 0 r.Mute = r.Mute.all wordS := Ahm _ _ _
 have a2 : allI (fun _ x => nameS x) 0 r.By = r.By.all nameS := Ahm _ _ _
 have a3 : allI (fun _ x => Adr x) 0 r.Match = r.Match.all Adr := Ahm _ _ _
 refine congrArg some ?_
 refine (congr (congrArg and a3) (congr (congrArg and a2) (congr (congrArg and a1) rfl))).trans ?_
 unfold oneS Aav Ap9
 rw [Ay9, Ay9]
 generalize r.Match.all Adr = b1
 generalize r.By.all nameS = b2
 generalize r.Mute.all wordS = b3
 generalize wordS r.Receiver = b4
 generalize decide (r.Match.length ≤ 8) = b5
 generalize ascS r.By = b6
 generalize decide (r.By.length ≤ 8) = b7
 generalize ascS r.Mute = b8
 generalize decide (r.Mute.length ≤ 8) = b9
 generalize fromS 0 r.Wait = b10
 generalize fromS 1 r.Every = b11
 generalize fromS 1 r.Repeat = b12
 generalize decide (r.Routes.length ≤ 16) = b13
 cases b4
 ·simp
 cases b5
 ·simp
 cases b1
 ·simp
 cases b2
 ·simp
 cases b3
 ·simp
 cases b6
 ·simp
 cases b7
 ·simp
 cases b8
 ·simp
 cases b9
 ·simp
 cases b10
 ·simp
 cases b11
 ·simp
 cases b12
 ·simp
 cases b13 <;> rfl
theorem A06 : ∀ (n : Nat) (r : Route) (d : Nat), SizeOf.sizeOf r < n → RouteFit r → d ≤ 100 → Abt std n r (d : Int) = some (Ab1 d r)
 | 0, r, d, h, _, _ => by omega
 | n + 1, r, d, h, hf, hd => by
  have hf' := hf
  obtain ⟨_, h1, h2, h3, h4, h5, h6⟩ := hf
  show Aet std (Abt std n) r (d : Int) = _
  unfold Aet
  have hz : std.cmp .eql (d : Int) 0 = decide (d = 0) := by rw [s_eql, Bool.eq_iff_iff]; simp
  rw [hz, gd_b (fun _ => A9p r hf'), bd_some]
  cases d with
  | zero => rfl
  | succ d =>
   have e1 : std.ar .sub .i64 ((d + 1 : Nat) : Int) 1 = (d : Int) := by rw [prevI (by omega) (by unfold big63; omega)]; rfl
   have l1 := Ack (t := TyS.route) (B := Ahb std (Abt std n) r ((d + 1 : Nat) : Int)) (fun i => i) r.Routes h5 (fun _ k => Ab1 d k) true (fun i => bd (Abt std n (std.get TyS.route r.9 i) (std.ar .sub .i64 ((d + 1 : Nat) : Int) 1)) fun w3 => br (std.not w3) (rt (some false)) (some (.inl (std.ar .add .i64 i 1)))) _ (fun i => rfl)
    (fun i x hx hi => by
     rw [Aai (t := TyS.route) hx, e1, A06 n x d (by have := Am4 (Abv hx); omega) (h6 x (Abv hx)) (by omega), bd_some]
     cases Ab1 d x <;> rfl) (fun _ => rfl) (fun _ => ⟨_, rfl⟩)
   have a1 : allI (fun _ k => Ab1 d k) 0 r.Routes = r.Routes.all (Ab1 d) := Ahm _ _ _
   have l2 := l1.trans (congrArg (fun b => some (b && true)) a1)
   have l3 : Loop (Ahb std (Abt std n) r ((d + 1 : Nat) : Int)) 0 = some (r.Routes.all (Ab1 d) && true) := l2
   rw [l3]
   simp only [Ab1, s_not, s_lor, Nat.succ_ne_zero, decide_false, Bool.not_false, Bool.true_and, Bool.false_or, Bool.and_true]
   cases oneS r <;> rfl
theorem A5k (r : Route) (h : RouteFit r) : Adm std r = some (Ab1 4 r) := by
 unfold Adm Ajo
 have := A06 (SizeOf.sizeOf r + 1) r 4 (by omega) h (by omega)
 rw [show ((4 : Int)) = ((4 : Nat) : Int) from rfl, this]
 rfl
end Go.PL
namespace Go.PL
set_option linter.unusedSimpArgs false
set_option linter.unusedVariables false
set_option linter.unusedSectionVars false
open Tys (Ty U)
open Enc (sz enc dflt tb ofB toB)
open Dec (dec dok)
set_option maxRecDepth 100000
def allD : Nat → Route → List Route
 | 0, r => [r]
 | d + 1, r => r :: (r.Routes.map (allD d)).flatten
theorem Aft {d : Nat} {r : Route} (h : Ab1 (d + 1) r = true) : r.Routes.length ≤ 16 ∧ ∀ k ∈ r.Routes, Ab1 d k = true := by
 simp only [Ab1, oneS, Bool.and_eq_true, decide_eq_true_eq, List.all_eq_true] at h
 exact ⟨h.1.1.1.1.1.1.2, h.2⟩
theorem Atw {d : Nat} {r : Route} (h : Ab1 d r = true) : ∃ e, d = e + 1 := by
 cases d with
 | zero => cases h
 | succ e => exact ⟨e, rfl⟩
theorem A07 {α : Type} (m : Nat) : ∀ (l : List (List α)), (∀ x ∈ l, x.length ≤ m) → l.flatten.length ≤ l.length * m
 | [], _ => by simp
 | x :: l, h => by
  have h1 := h x (List.mem_cons_self ..)
  have h2 := A07 m l fun y hy => h y (List.mem_cons_of_mem _ hy)
  simp only [List.flatten_cons, List.length_append, List.length_cons, Nat.succ_mul]
  omega
theorem Azb : ∀ (d : Nat) (r : Route), Ab1 d r = true → (allD d r).length ≤ 17 ^ d
 | 0, r, h => by cases h
 | d + 1, r, h => by
  obtain ⟨h1, h2⟩ := Aft h
  have h3 := A07 (17 ^ d) (r.Routes.map (allD d)) (by
   intro x hx
   obtain ⟨k, hk, rfl⟩ := List.mem_map.1 hx
   exact Azb d k (h2 k hk))
  simp only [allD, List.length_cons]
  rw [List.length_map] at h3
  have h4 : r.Routes.length * 17 ^ d ≤ 16 * 17 ^ d := Nat.mul_le_mul_right _ h1
  have h5 : 0 < 17 ^ d := Nat.pow_pos (by decide)
  rw [Nat.pow_succ]
  omega
theorem pow17 {d : Nat} (h : d ≤ 4) : 17 ^ d ≤ 83521 := by
 have : d = 0 ∨ d = 1 ∨ d = 2 ∨ d = 3 ∨ d = 4 := by omega
 rcases this with rfl | rfl | rfl | rfl | rfl <;> decide
theorem Al9 {α β : Type} (f : α → List β) {xs : List α} {i : Nat} {x : α} (h : xs[i]? = some x) : ((xs.take (i + 1)).map f).flatten = ((xs.take i).map f).flatten ++ f x := by
 have hi := Ae2 h
 rw [List.take_add_one, h]
 simp
theorem Avs {α β : Type} (f : α → List β) (xs : List α) (i : Nat) : ((xs.take i).map f).flatten.length ≤ (xs.map f).flatten.length := by
 have : (xs.map f).flatten = ((xs.take i).map f).flatten ++ ((xs.drop i).map f).flatten := by
  rw [← List.flatten_append, ← List.map_append, List.take_append_drop]
 rw [this, List.length_append]
 omega
theorem Are : ∀ (n : Nat) (r : Route) (d : Nat), SizeOf.sizeOf r < n → Ab1 d r = true → d ≤ 4 → Aiu std n r = some ((allD d r).length : Int)
 | 0, r, d, h, _, _ => by omega
 | n + 1, r, 0, h, hs, hd => by cases hs
 | n + 1, r, d + 1, h, hs, hd => by
  obtain ⟨h1, h2⟩ := Aft hs
  have hle := Azb (d + 1) r hs
  have hp := pow17 hd
  show Akx std (Aiu std n) r = _
  unfold Akx
  have hl : r.Routes.length ≤ big63 := by unfold big63; omega
  have := Ary (B := Ajw std (Aiu std n) r) (fun i (m : Nat) => ((m : Int), (i : Int))) r.Routes (fun i k m => (.inl (m + (allD d k).length) : Nat ⊕ Int)) (fun m => (m : Int)) (fun i m => m = 1 + ((r.Routes.take i).map (allD d)).flatten.length)
   (fun i k m hk hm => by
    have hi := Ae2 hk
    have hpart := Avs (allD d) r.Routes (i + 1)
    rw [Al9 _ hk, List.length_append] at hpart
    have htot : (allD (d + 1) r).length = 1 + (r.Routes.map (allD d)).flatten.length := by simp only [allD, List.length_cons]; omega
    refine ⟨fun m' hm' => ?_, fun e he => by cases he⟩
    cases hm'
    refine ⟨?_, by rw [Al9 _ hk, List.length_append]; omega⟩
    unfold Ajw
    simp only
    rw [Aab, lssT hi, br_true, ck_t (inbT hi), Aai (t := TyS.route) hk, Are n k d (by have := Am4 (Abv hk); omega) (h2 k (Abv hk)) (by omega), bd_some, s_add, s_add, wrap_succ hi hl, w64 (by omega)]
    rfl)
   (fun m hm => by
    unfold Ajw
    simp only
    rw [Aab, lssF, br_false]
    rfl) 1 (by simp)
  refine this.trans ?_
  congr 1
  have key : ∀ (xs : List Route) (i m : Nat), runL (fun i k m => (.inl (m + (allD d k).length) : Nat ⊕ Int)) (fun m => (m : Int)) i xs m = ((m + (xs.map (allD d)).flatten.length : Nat) : Int) := by
   intro xs
   induction xs with
   | nil => intro i m; simp [runL]
   | cons x xs ih => intro i m; simp only [runL, ih, List.map_cons, List.flatten_cons, List.length_append]; congr 1; omega
  rw [key]
  simp only [allD, List.length_cons]
  congr 1
  omega
theorem routes_Count_eq (r : Route) (h : Ab1 4 r = true) : As8 std r = some ((allD 4 r).length : Int) := Are _ r 4 (by omega) h (by omega)
theorem Bbj (r : Route) : Route.mk r.1 r.2 r.3 r.4 r.5 r.6 r.7 r.8 r.9 = r := by cases r; rfl
theorem Aw4 : ∀ (n : Nat) (r : Route) (d : Nat), SizeOf.sizeOf r < n → Ab1 d r = true → d ≤ 4 → Adn std n r = some (allD d r)
 | 0, r, d, h, _, _ => by omega
 | n + 1, r, 0, h, hs, hd => by cases hs
 | n + 1, r, d + 1, h, hs, hd => by
  obtain ⟨h1, h2⟩ := Aft hs
  have hle := Azb (d + 1) r hs
  have hp := pow17 hd
  show Aeu std (Adn std n) r = _
  unfold Aeu
  rw [Bbj]
  have hl : r.Routes.length ≤ big63 := by unfold big63; omega
  have := Ary (B := Afd std (Adn std n) r) (fun i (m : List Route) => (m, (i : Int))) r.Routes (fun i k m => (.inl (m ++ allD d k) : List Route ⊕ List Route)) (fun m => m) (fun i m => m.length = 1 + ((r.Routes.take i).map (allD d)).flatten.length)
   (fun i k m hk hm => by
    have hi := Ae2 hk
    have hpart := Avs (allD d) r.Routes (i + 1)
    rw [Al9 _ hk, List.length_append] at hpart
    have htot : (allD (d + 1) r).length = 1 + (r.Routes.map (allD d)).flatten.length := by simp only [allD, List.length_cons]; omega
    refine ⟨fun m' hm' => ?_, fun e he => by cases he⟩
    cases hm'
    refine ⟨?_, by rw [Al9 _ hk, List.length_append, List.length_append]; omega⟩
    unfold Afd
    simp only
    rw [Aab, lssT hi, br_true, ck_t (inbT hi), Aai (t := TyS.route) hk, Aw4 n k d (by have := Am4 (Abv hk); omega) (h2 k (Abv hk)) (by omega), bd_some, ck_t (show std.appOk TyS.route 144 m (allD d k) from ⟨by omega, by omega⟩), s_add, wrap_succ hi hl]
    rfl)
   (fun m hm => by
    unfold Afd
    simp only
    rw [Aab, lssF, br_false]
    rfl) [r] (by simp)
  refine this.trans ?_
  congr 1
  have key : ∀ (xs : List Route) (i : Nat) (m : List Route), runL (fun i k m => (.inl (m ++ allD d k) : List Route ⊕ List Route)) (fun m => m) i xs m = m ++ (xs.map (allD d)).flatten := by
   intro xs
   induction xs with
   | nil => intro i m; simp [runL]
   | cons x xs ih => intro i m; simp only [runL, ih, List.map_cons, List.flatten_cons, List.append_assoc]
  rw [key]
  rfl
theorem ref_All_eq (r : Route) (h : Ab1 4 r = true) : Ahh std r = some (allD 4 r) := Aw4 _ r 4 (by omega) h (by omega)
end Go.PL
namespace Go.PL
set_option linter.unusedSimpArgs false
set_option linter.unusedVariables false
set_option linter.unusedSectionVars false
open Tys (Ty U)
open Enc (sz enc dflt tb ofB toB)
open Dec (dec dok)
set_option maxRecDepth 100000
theorem Bdp (xs : List ByteArray) (s : ByteArray) (h : xs.length ≤ big63) : Ads std xs s = some (fnd xs fun y => decide (s = y)) := by
 unfold Ads
 refine Eq.trans ?_ (Ak5 (t := TyS.str) xs (fun y => decide (s = y)) (fun y => some (decide (s = y))) (fun _ _ => rfl) h)
 refine congrArg (fun B => Loop B 0) (funext fun i => ?_)
 unfold Aio
 dsimp only
 rw [s_seql]
 rfl
theorem Awr (xs : List ByteArray) (s : ByteArray) (h : xs.length ≤ big63) : Aam std xs s = some (xs.any fun y => decide (s = y)) := by
 unfold Aam
 rw [Bdp xs s h, bd_some, s_geq, Al7]
def Alf (c : List ByteArray) (x : ByteArray) : List ByteArray := if (c.any fun y => decide (x = y)) = true then c else c ++ [x]
theorem A08 (c : List ByteArray) (x : ByteArray) : (Alf c x).length ≤ c.length + 1 := by
 unfold Alf; split
 ·omega
 ·simp
theorem Azc : ∀ (l c : List ByteArray), (l.foldl Alf c).length ≤ c.length + l.length
 | [], c => by simp
 | x :: l, c => by
  have h1 := Azc l (Alf c x)
  have h2 := A08 c x
  simp only [List.foldl_cons, List.length_cons]
  omega
def gatherL (ofr : Route → List ByteArray) (l : List Route) (c : List ByteArray) : List ByteArray := l.foldl (fun c r => (ofr r).foldl Alf c) c
theorem A09 (ofr : Route → List ByteArray) : ∀ (l : List Route) (c : List ByteArray), (∀ k ∈ l, (ofr k).length ≤ 16) → (gatherL ofr l c).length ≤ c.length + 16 * l.length
 | [], c, _ => by simp [gatherL]
 | k :: l, c, h => by
  have h1 := A09 ofr l ((ofr k).foldl Alf c) fun k hk => h k (List.mem_cons_of_mem _ hk)
  have h2 := Azc (ofr k) c
  have h3 := h k (List.mem_cons_self ..)
  simp only [gatherL, List.foldl_cons, List.length_cons] at h1 ⊢
  omega
theorem gatherL_append (ofr : Route → List ByteArray) (a b : List Route) (c : List ByteArray) : gatherL ofr (a ++ b) c = gatherL ofr b (gatherL ofr a c) := List.foldl_append ..
theorem Azd (q : Route → Option (List ByteArray)) (ofr : Route → List ByteArray) : ∀ (n : Nat) (r : Route) (d : Nat) (c : List ByteArray), SizeOf.sizeOf r < n → Ab1 d r = true → d ≤ 4 → (∀ k ∈ allD d r, q k = some (ofr k) ∧ (ofr k).length ≤ 16) →
  c.length + 16 * (allD d r).length ≤ 1000000000 → Abn std q n r c = some (gatherL ofr (allD d r) c)
 | 0, r, d, c, h, _, _, _, _ => by omega
 | n + 1, r, 0, c, h, hs, hd, _, _ => by cases hs
 | n + 1, r, d + 1, c, h, hs, hd, hq, hc => by
  obtain ⟨h1, h2⟩ := Aft hs
  obtain ⟨hq0, hl0⟩ := hq r (by simp [allD])
  have htot : (allD (d + 1) r).length = 1 + (r.Routes.map (allD d)).flatten.length := by simp only [allD, List.length_cons]; omega
  show Ac5 std (Abn std q n) r q c = _
  unfold Ac5
  rw [hq0, bd_some]
  have hlr : r.Routes.length ≤ big63 := by unfold big63; omega
  have hlo : (ofr r).length ≤ big63 := by unfold big63; omega
  -- those within it
  have inner : ∀ c1 : List ByteArray, c1.length ≤ c.length + 16 → Loop (Ade std (Abn std q n) r) (((0 : Nat) : Int), c1) = some (gatherL ofr ((r.Routes.map (allD d)).flatten) c1) := by
   intro c1 hc1
   have := Ary (B := Ade std (Abn std q n) r) (fun i (m : List ByteArray) => ((i : Int), m)) r.Routes (fun i k m => (.inl (gatherL ofr (allD d k) m) : List ByteArray ⊕ List ByteArray)) (fun m => m) (fun i m => m.length ≤ c1.length + 16 * ((r.Routes.take i).map (allD d)).flatten.length)
    (fun i k m hk hm => by
     have hi := Ae2 hk
     have hpart := Avs (allD d) r.Routes (i + 1)
     rw [Al9 _ hk, List.length_append] at hpart
     have hmem : ∀ y ∈ allD d k, y ∈ allD (d + 1) r := fun y hy => by
      simp only [allD, List.mem_cons, List.mem_flatten, List.mem_map]
      exact .inr ⟨_, ⟨k, Abv hk, rfl⟩, hy⟩
     have hle := A09 ofr (allD d k) m fun y hy => (hq y (hmem y hy)).2
     refine ⟨fun m' hm' => ?_, fun e he => by cases he⟩
     cases hm'
     refine ⟨?_, by rw [Al9 _ hk, List.length_append]; omega⟩
     unfold Ade
     simp only
     rw [Aab, lssT hi, br_true, ck_t (inbT hi), Aai (t := TyS.route) hk, Azd q ofr n k d m (by have := Am4 (Abv hk); omega) (h2 k (Abv hk)) (by omega) (fun y hy => hq y (hmem y hy)) (by omega), bd_some, s_add, wrap_succ hi hlr])
    (fun m hm => by
     unfold Ade
     simp only
     rw [Aab, lssF, br_false]
     rfl) c1 (by simp)
   refine this.trans ?_
   congr 1
   have key : ∀ (xs : List Route) (i : Nat) (m : List ByteArray), runL (fun i k m => (.inl (gatherL ofr (allD d k) m) : List ByteArray ⊕ List ByteArray)) (fun m => m) i xs m = gatherL ofr ((xs.map (allD d)).flatten) m := by
    intro xs
    induction xs with
    | nil => intro i m; simp [runL, gatherL]
    | cons x xs ih => intro i m; simp only [runL, ih, List.map_cons, List.flatten_cons, gatherL_append]
   exact key _ _ _
  have := Ary (B := Ael std (Abn std q n) r (ofr r)) (fun i (m : List ByteArray) => ((i : Int), m)) (ofr r) (fun i x m => (.inl (Alf m x) : List ByteArray ⊕ List ByteArray)) (fun m => gatherL ofr ((r.Routes.map (allD d)).flatten) m) (fun i m => m.length ≤ c.length + i)
   (fun i x m hx hm => by
    have hi := Ae2 hx
    have hle := A08 m x
    refine ⟨fun m' hm' => ?_, fun e he => by cases he⟩
    cases hm'
    refine ⟨?_, by omega⟩
    unfold Ael
    simp only
    rw [Aab, lssT hi, br_true, ck_t (inbT hi), Aai (t := TyS.str) hx, Awr m x (by unfold big63; omega), bd_some, s_add, wrap_succ hi hlo]
    unfold Alf
    cases hc : (m.any fun y => decide (x = y)) with
    | true => rfl
    | false =>
     rw [s_not, Bool.not_false, br_true, ck_t (show std.appOk TyS.str 16 m [x] from ⟨by simp; omega, by simp; omega⟩)]
     rfl)
   (fun m hm => by
    unfold Ael
    simp only
    rw [Aab, lssF, br_false]
    have hin := inner m (by omega)
    show rt (Loop _ _) = _
    rw [show ((0 : Int), m) = (((0 : Nat) : Int), m) from rfl, hin]
    rfl) c (by simp)
  refine this.trans ?_
  congr 1
  have key : ∀ (xs : List ByteArray) (i : Nat) (m : List ByteArray), runL (fun i x m => (.inl (Alf m x) : List ByteArray ⊕ List ByteArray)) (fun m => gatherL ofr ((r.Routes.map (allD d)).flatten) m) i xs m = gatherL ofr ((r.Routes.map (allD d)).flatten) (xs.foldl Alf m) := by
   intro xs
   induction xs with
   | nil => intro i m; rfl
   | cons x xs ih => intro i m; simp only [runL, ih, List.foldl_cons]
  rw [key]
  rfl
theorem Names_eq (r : Route) (hs : Ab1 4 r = true) : Anj std r = some (gatherL (fun k => [k.Receiver]) (allD 4 r) [], gatherL (·.Mute) (allD 4 r) []) := by
 have hle := Azb 4 r hs
 have hp := pow17 (d := 4) (by omega)
 have hmute : ∀ (d : Nat) (r : Route), Ab1 d r = true → ∀ k ∈ allD d r, k.Mute.length ≤ 8 := by
  intro d
  induction d with
  | zero => intro r h; cases h
  | succ d ih =>
   intro r h k hk
   have h0 := h
   obtain ⟨h1, h2⟩ := Aft h
   simp only [allD, List.mem_cons, List.mem_flatten, List.mem_map] at hk
   rcases hk with rfl | ⟨_, ⟨x, hx, rfl⟩, hk⟩
   ·simp only [Ab1, oneS, Ap9, Bool.and_eq_true, decide_eq_true_eq] at h0
    exact h0.1.1.1.1.2.2
   ·exact ih x (h2 x hx) k hk
 unfold Anj Ae6 Aiz
 rw [Azd (fun y0 => Amy std y0) (fun k => [k.Receiver]) _ r 4 [] (by omega) hs (by omega) (fun k _ => ⟨rfl, by simp⟩) (by simp; omega), bd_some, bd_some]
 rw [Azd (fun y0 => Amz std y0) (·.Mute) _ r 4 [] (by omega) hs (by omega) (fun k hk => ⟨rfl, by have := hmute 4 r hs k hk; omega⟩) (by simp; omega), bd_some, bd_some]
end Go.PL
namespace Go.PL
set_option linter.unusedSimpArgs false
set_option linter.unusedVariables false
set_option linter.unusedSectionVars false
open Tys (Ty U)
open Enc (sz enc dflt tb ofB toB)
open Dec (dec dok)
set_option maxRecDepth 100000
def hasS (l : List ByteArray) (s : ByteArray) : Bool := l.any fun y => decide (y = s)
def onceP (names : List ByteArray) (i : Nat) (s : ByteArray) : Bool := !hasS (names.take i) s
def onceS (names : List ByteArray) : Bool := allI (onceP names) 0 names
def setL (l : List ByteArray) : List (ByteArray × Bool) := l.map fun s => (s, true)
theorem A3d (l : List ByteArray) (s : ByteArray) : (lookS std s (setL l) false).1 = hasS l s := by
 induction l with
 | nil => rfl
 | cons x l ih =>
  simp only [setL, List.map_cons, lookS, s_seql, hasS, List.any_cons]
  by_cases h : s = x
  ·rw [decide_eq_true h, decide_eq_true h.symm]; rfl
  ·rw [decide_eq_false h, decide_eq_false fun e => h e.symm, Bool.false_or]; exact ih
theorem Aze (l : List ByteArray) (s : ByteArray) (h : hasS l s = false) : FreshK std true (.string s) (std.mesB (setL l)) := by
 refine ⟨?_⟩
 show A4u std true (.string s) ((setL l).map _)
 induction l with
 | nil => exact True.intro
 | cons x l ih =>
  simp only [hasS, List.any_cons, Bool.or_eq_false_iff, decide_eq_false_iff_not] at h
  refine ⟨?_, ih h.2⟩
  show std.scmp .eql s x = false
  rw [s_seql]
  exact decide_eq_false fun e => h.1 e.symm
theorem take_snoc {α : Type} {l : List α} {i : Nat} {x : α} (h : l[i]? = some x) : l.take (i + 1) = l.take i ++ [x] := by rw [List.take_add_one, h]; rfl
theorem A3e (l : List ByteArray) (s : ByteArray) : setL l ++ [(s, true)] = setL (l ++ [s]) := by simp [setL]
theorem A7o (xs : List Rule) (q : Rule → Option ByteArray) (ofx : Rule → ByteArray) (hq : ∀ x, q x = some (ofx x)) (hl : xs.length ≤ big63) : Agj std xs q = some (onceS (xs.map ofx)) := by
 unfold Agj
 have := Arz (B := Ahe std xs q) (fun i => ((i : Int), setL ((xs.map ofx).take i))) (xs.map ofx) (onceP (xs.map ofx)) true (fun i s hs hi => by
  rw [List.length_map] at hi
  obtain ⟨x, hx⟩ := Al8 hi
  have hsx : s = ofx x := by rw [List.getElem?_map, hx] at hs; exact (Option.some.inj hs).symm
  unfold Ahe
  simp only
  rw [Aab, lssT hi, br_true, ck_t (inbT hi), Aai (t := TyS.rule) hx, hq x, bd_some, bd_some, A3d, ← hsx]
  unfold onceP
  cases hh : hasS ((xs.map ofx).take i) s with
  | true => rfl
  | false =>
   rw [br_false, bd_some, ck_t (Aze _ _ hh), s_add, wrap_succ hi hl, A3e, ← take_snoc hs]
   rfl) (by
  unfold Ahe
  simp only
  rw [List.length_map, Aab, lssF, br_false]
  rfl)
 rw [Bool.and_true] at this
 exact this
theorem A3f (xs : List ByteArray) (q : ByteArray → Option ByteArray) (ofx : ByteArray → ByteArray) (hq : ∀ x, q x = some (ofx x)) (hl : xs.length ≤ big63) : Ae5 std xs q = some (onceS (xs.map ofx)) := by
 unfold Ae5
 have := Arz (B := Agu std xs q) (fun i => ((i : Int), setL ((xs.map ofx).take i))) (xs.map ofx) (onceP (xs.map ofx)) true (fun i s hs hi => by
  rw [List.length_map] at hi
  obtain ⟨x, hx⟩ := Al8 hi
  have hsx : s = ofx x := by rw [List.getElem?_map, hx] at hs; exact (Option.some.inj hs).symm
  unfold Agu
  simp only
  rw [Aab, lssT hi, br_true, ck_t (inbT hi), Aai (t := TyS.str) hx, hq x, bd_some, bd_some, A3d, ← hsx]
  unfold onceP
  cases hh : hasS ((xs.map ofx).take i) s with
  | true => rfl
  | false =>
   rw [br_false, bd_some, ck_t (Aze _ _ hh), s_add, wrap_succ hi hl, A3e, ← take_snoc hs]
   rfl) (by
  unfold Agu
  simp only
  rw [List.length_map, Aab, lssF, br_false]
  rfl)
 rw [Bool.and_true] at this
 exact this
theorem A5l (xs : List Hours) (q : Hours → Option ByteArray) (ofx : Hours → ByteArray) (hq : ∀ x, q x = some (ofx x)) (hl : xs.length ≤ big63) : Afo std xs q = some (onceS (xs.map ofx)) := by
 unfold Afo
 have := Arz (B := Ag6 std xs q) (fun i => ((i : Int), setL ((xs.map ofx).take i))) (xs.map ofx) (onceP (xs.map ofx)) true (fun i s hs hi => by
  rw [List.length_map] at hi
  obtain ⟨x, hx⟩ := Al8 hi
  have hsx : s = ofx x := by rw [List.getElem?_map, hx] at hs; exact (Option.some.inj hs).symm
  unfold Ag6
  simp only
  rw [Aab, lssT hi, br_true, ck_t (inbT hi), Aai (t := TyS.hours) hx, hq x, bd_some, bd_some, A3d, ← hsx]
  unfold onceP
  cases hh : hasS ((xs.map ofx).take i) s with
  | true => rfl
  | false =>
   rw [br_false, bd_some, ck_t (Aze _ _ hh), s_add, wrap_succ hi hl, A3e, ← take_snoc hs]
   rfl) (by
  unfold Ag6
  simp only
  rw [List.length_map, Aab, lssF, br_false]
  rfl)
 rw [Bool.and_true] at this
 exact this
theorem Atx (l : List ByteArray) (s : ByteArray) (h : l.length ≤ big63) : Acg std l s = some (hasS l s) := by
 unfold Acg
 have := Ach (B := Agm std l s) (fun i (_ : Unit) => (i : Int)) l (fun _ x (_ : Unit) => if decide (x = s) then (.inr true : Unit ⊕ Bool) else .inl ()) (fun _ => false) (fun i x u hx hi => by
  unfold Agm
  simp only
  rw [Aab, lssT hi, br_true, ck_t (inbT hi), Aai (t := TyS.str) hx, s_seql, s_add, wrap_succ hi h]
  cases decide (x = s) <;> rfl) (fun _ => by
  unfold Agm
  simp only
  rw [Aab, lssF]
  rfl) ()
 refine this.trans ?_
 congr 1
 have key : ∀ (xs : List ByteArray) (i : Nat), runL (fun _ x (_ : Unit) => if decide (x = s) then (.inr true : Unit ⊕ Bool) else .inl ()) (fun _ => false) i xs () = hasS xs s := by
  intro xs
  induction xs with
  | nil => intro i; rfl
  | cons x xs ih =>
   intro i
   simp only [runL, hasS, List.any_cons]
   cases decide (x = s) with
   | true => rfl
   | false => simpa [hasS] using ih (i + 1)
 exact key l 0
theorem Auz (l : List ByteArray) (h : l.length ≤ big63) : Acy std l = some (onceS l) := by
 unfold Acy
 have := Ack (t := TyS.str) (B := Aky std l) (fun i => i) l h (onceP l) true _ _ (fun i => rfl) (fun i x hx hi => by
  have e : std.lsub TyS.str l 0 (i : Int) = l.take i := by rw [Avi]; simp
  rw [ck_t (show std.subOk 0 (i : Int) (std.len TyS.str l) from ⟨by omega, by omega, by rw [Aab]; omega⟩), e, Aai (t := TyS.str) hx, Atx _ _ (by rw [List.length_take]; omega), bd_some]
  unfold onceP
  cases hasS (l.take i) x <;> rfl) (fun _ => rfl) (fun _ => ⟨_, rfl⟩)
 rw [Bool.and_true] at this
 exact this
end Go.PL
namespace Go.PL
set_option linter.unusedSimpArgs false
set_option linter.unusedVariables false
set_option linter.unusedSectionVars false
open Tys (Ty U)
open Enc (sz enc dflt tb ofB toB)
open Dec (dec dok)
set_option maxRecDepth 100000
def Ad3 (c : Config) : Prop := fitL Awp c.Rules ∧ RouteFit c.Route ∧ fitL fitS c.Receivers ∧ fitL Alr c.Inhibits ∧ fitL Avm c.Hours
def Ahn (c : Config) : List ByteArray := c.Hours.map (·.Name)
def Arf (c : Config) : List ByteArray := c.Rules.map (·.Name)
def Aw5 (c : Config) : Bool := decide (c.Rules.length ≤ 16) && c.Rules.all ruleS && onceS (Arf c)
def Aty (c : Config) : Bool := decide (c.Receivers.length ≤ 16) && c.Receivers.all wordS && onceS c.Receivers
def Ant (c : Config) : Bool := decide (c.Inhibits.length ≤ 8) && c.Inhibits.all Aa4
def Avt (c : Config) : Bool := decide (c.Hours.length ≤ 8) && c.Hours.all hourS && onceS (Ahn c)
def Azf (c : Config) : Bool := (allD 4 c.Route).all fun r => hasS c.Receivers r.Receiver && r.Mute.all (hasS (Ahn c))
def topS (c : Config) : Bool := Ab1 4 c.Route && decide (c.Route.Match.length = 0) && !c.Route.On && decide ((allD 4 c.Route).length ≤ 32)
def Ai1 (c : Config) : Bool := Aw5 c && Aty c && Ant c && Avt c && topS c && Azf c
theorem A5m (l : List ByteArray) (s : ByteArray) : (l.any fun y => decide (s = y)) = hasS l s := by
 unfold hasS
 congr 1
 funext y
 rw [Bool.eq_iff_iff]
 simp only [decide_eq_true_eq]
 exact ⟨fun h => h.symm, fun h => h.symm⟩
theorem A7p (p : ByteArray → Bool) (c : List ByteArray) (x : ByteArray) : (Alf c x).all p = (c.all p && p x) := by
 unfold Alf
 split
 ·rename_i h
  rw [List.any_eq_true] at h
  obtain ⟨y, hy, he⟩ := h
  have he : x = y := by simpa using he
  cases hc : c.all p with
  | false => rfl
  | true =>
   rw [List.all_eq_true] at hc
   rw [he, hc y hy]; rfl
 ·simp
theorem A1a (p : ByteArray → Bool) : ∀ (l c : List ByteArray), (l.foldl Alf c).all p = (c.all p && l.all p)
 | [], c => by simp
 | x :: l, c => by rw [List.foldl_cons, A1a p l, A7p, List.all_cons, Bool.and_assoc]
theorem Au0 (p : ByteArray → Bool) (ofr : Route → List ByteArray) : ∀ (l : List Route) (c : List ByteArray), (gatherL ofr l c).all p = (c.all p && l.all fun r => (ofr r).all p)
 | [], c => by simp [gatherL]
 | r :: l, c => by
  have := Au0 p ofr l ((ofr r).foldl Alf c)
  simp only [gatherL, List.foldl_cons] at this ⊢
  rw [this, A1a, List.all_cons, Bool.and_assoc]
theorem Au1 (ofr : Route → List ByteArray) (m : Nat) : ∀ (l : List Route) (c : List ByteArray), (∀ k ∈ l, (ofr k).length ≤ m) → (gatherL ofr l c).length ≤ c.length + m * l.length
 | [], c, _ => by simp [gatherL]
 | k :: l, c, h => by
  have h1 := Au1 ofr m l ((ofr k).foldl Alf c) fun k hk => h k (List.mem_cons_of_mem _ hk)
  have h2 := Azc (ofr k) c
  have h3 := h k (List.mem_cons_self ..)
  simp only [gatherL, List.foldl_cons, List.length_cons, Nat.mul_succ] at h1 ⊢
  omega
theorem A7q : ∀ (d : Nat) (r : Route), Ab1 d r = true → ∀ k ∈ allD d r, k.Mute.length ≤ 8
 | 0, r, h => by cases h
 | d + 1, r, h => by
  intro k hk
  have h0 := h
  obtain ⟨h1, h2⟩ := Aft h
  simp only [allD, List.mem_cons, List.mem_flatten, List.mem_map] at hk
  rcases hk with rfl | ⟨_, ⟨x, hx, rfl⟩, hk⟩
  ·simp only [Ab1, oneS, Ap9, Bool.and_eq_true, decide_eq_true_eq] at h0
   exact h0.1.1.1.1.2.2
  ·exact A7q d x (h2 x hx) k hk
theorem Bbk (c : Config) (h : Ad3 c) (s : ByteArray) : Aiv std s c = some (hasS (Ahn c) s) := by
 unfold Aiv
 rw [At8 c.Hours (fun h => decide (h.Name = s)) (fun y0 => Aip std y0 s) (fun x _ => by unfold Aip; rw [s_seql]) h.2.2.2.2.1, bd_some]
 unfold hasS Ahn
 rw [List.any_map]
 rfl
theorem Bbl (c : Config) (h : Ad3 c) (s : ByteArray) : Aiw std s c = some (hasS c.Receivers s) := by
 unfold Aiw
 rw [Awr c.Receivers s h.2.2.1.1, bd_some, A5m]
theorem decI (a b : Nat) : decide ((a : Int) ≤ (b : Int)) = decide (a ≤ b) := leN
theorem Atk (c : Config) (h : Ad3 c) : Ajm std c = some (Ai1 c) := by
 obtain ⟨hR, hT, hV, hI, hH⟩ := id h
 have a1 : Ag2 std c.Rules 16 (fun y0 => Amj std y0) = some (decide (c.Rules.length ≤ 16) && c.Rules.all ruleS) := by
  rw [Bcs c.Rules 16 ruleS _ (fun _ x hx => A0p x (hR.2 x hx)) (by decide)]; congr 2; exact decI _ 16
 have a2 : Adh std c.Receivers 16 (fun y0 => Amk std y0) = some (decide (c.Receivers.length ≤ 16) && c.Receivers.all wordS) := by
  rw [Awo c.Receivers 16 wordS _ (fun _ x hx => A0o x) (by decide)]; congr 2; exact decI _ 16
 have a3 : Aek std c.Inhibits 8 (fun y0 => Ahz std y0) = some (Ant c) := by
  rw [A7k c.Inhibits 8 Aa4 _ (fun _ x hx => Avq x (hI.2 x hx)) (by decide)]; unfold Ant; congr 2; exact decI _ 8
 have a4 : Agq std c.Hours 8 (fun y0 => Ajl std y0) = some (decide (c.Hours.length ≤ 8) && c.Hours.all hourS) := by
  rw [Bbf c.Hours 8 hourS _ (fun _ x hx => Aqt x) (by decide)]; congr 2; exact decI _ 8
 have a5 : Agj std c.Rules (fun y0 => Alk std y0) = some (onceS (Arf c)) := A7o c.Rules _ (·.Name) (fun _ => rfl) hR.1
 have a6 : Ae5 std c.Receivers (fun y0 => Aia std y0) = some (onceS c.Receivers) := by
  have := A3f c.Receivers (fun y0 => Aia std y0) (fun x => x) (fun _ => rfl) hV.1
  rw [List.map_id'] at this
  exact this
 have a7 : Afo std c.Hours (fun y0 => Ajv std y0) = some (onceS (Ahn c)) := A5l c.Hours _ (·.Name) (fun _ => rfl) hH.1
 have conf : Ai1 c = (decide (c.Rules.length ≤ 16) && c.Rules.all ruleS && (decide (c.Receivers.length ≤ 16) && c.Receivers.all wordS) && Ant c && (decide (c.Hours.length ≤ 8) && c.Hours.all hourS) && onceS (Arf c) && onceS c.Receivers && onceS (Ahn c) && topS c && Azf c) := by
  unfold Ai1 Aw5 Aty Avt
  generalize decide (c.Rules.length ≤ 16) = x1
  generalize c.Rules.all ruleS = x2
  generalize decide (c.Receivers.length ≤ 16) = x3
  generalize c.Receivers.all wordS = x4
  generalize decide (c.Hours.length ≤ 8) = x5
  generalize c.Hours.all hourS = x6
  generalize onceS (Arf c) = x7
  generalize onceS c.Receivers = x8
  generalize onceS (Ahn c) = x9
  generalize Ant c = x10
  cases x1
  ·simp
  cases x2
  ·simp
  cases x3
  ·simp
  cases x4
  ·simp
  cases x5
  ·simp
  cases x6
  ·simp
  cases x7
  ·simp
  cases x8
  ·simp
  cases x9
  ·simp
  cases x10 <;> simp
 rw [conf]
 unfold Ajm
 rw [a1, bd_some]
 generalize (decide (c.Rules.length ≤ 16) && c.Rules.all ruleS) = b1
 cases b1
 ·rfl
 rw [gd_t, a2, bd_some]
 generalize (decide (c.Receivers.length ≤ 16) && c.Receivers.all wordS) = b2
 cases b2
 ·rfl
 rw [show std.and true true = true from rfl, gd_t, a3, bd_some]
 generalize Ant c = b3
 cases b3
 ·rfl
 rw [show std.and true true = true from rfl, gd_t, a4, bd_some]
 generalize (decide (c.Hours.length ≤ 8) && c.Hours.all hourS) = b4
 cases b4
 ·rfl
 rw [show std.not (std.not (std.and true true)) = true from rfl, gd_t, a5, bd_some]
 generalize onceS (Arf c) = b5
 cases b5
 ·rfl
 rw [show std.not (std.or (std.not (std.and true true)) (std.not true)) = true from rfl, gd_t, a6, bd_some]
 generalize onceS c.Receivers = b6
 cases b6
 ·rfl
 rw [show std.not (std.or (std.or (std.not (std.and true true)) (std.not true)) (std.not true)) = true from rfl, gd_t, a7, bd_some]
 generalize onceS (Ahn c) = b7
 cases b7
 ·rfl
 rw [show std.or (std.or (std.or (std.not (std.and true true)) (std.not true)) (std.not true)) (std.not true) = false from rfl, br_false, Aza c.Route hT, bd_some]
 have g0 : std.cmp .gtr (std.len TyS.matcher c.Route.Match) 0 = !decide (c.Route.Match.length = 0) := by
  rw [s_gtr, Ais, Aab, Bool.eq_iff_iff]; simp
 rw [g0]
 simp only [Bool.true_and]
 unfold topS
 cases hr : Ab1 4 c.Route
 ·rfl
 generalize decide (c.Route.Match.length = 0) = b8
 cases b8
 ·rfl
 generalize c.Route.On = b9
 rcases Bool.eq_false_or_eq_true b9 with rfl | rfl
 ·rfl
 rw [show std.not (std.or (std.or (std.not true) (!true)) false) = true from rfl, gd_t, routes_Count_eq _ hr, bd_some]
 rw [show std.or (std.or (std.or (std.not true) (!true)) false) (std.cmp .gtr ((allD 4 c.Route).length : Int) 32) = !decide ((allD 4 c.Route).length ≤ 32) by
  rw [s_gtr, Ais, show decide (((allD 4 c.Route).length : Int) ≤ 32) = decide ((allD 4 c.Route).length ≤ 32) from decI _ 32]; rfl]
 rcases Nat.lt_or_ge 32 (allD 4 c.Route).length with h32 | h32
 ·rw [decide_eq_false (by omega)]; rfl
 rw [decide_eq_true h32, Bool.not_true, br_false, Names_eq _ hr, bd_some]
 have l1 := Au1 (fun k => [k.Receiver]) 1 (allD 4 c.Route) [] (fun k _ => by simp)
 have l2 := Au1 (·.Mute) 8 (allD 4 c.Route) [] (A7q 4 c.Route hr)
 rw [Awo _ 32 (hasS c.Receivers) (fun y0 => Aiw std y0 c) (fun _ x _ => Bbl c h x) (by decide), bd_some]
 rw [show decide (((gatherL (fun k => [k.Receiver]) (allD 4 c.Route) []).length : Int) ≤ 32) = true from decide_eq_true (by simp at l1; omega), Bool.true_and, Au0]
 rw [gd_b (fun _ => Awo _ 256 (hasS (Ahn c)) (fun y0 => Aiv std y0 c) (fun _ x _ => Bbk c h x) (by decide)), bd_some]
 rw [show decide (((gatherL (·.Mute) (allD 4 c.Route) []).length : Int) ≤ 256) = true from decide_eq_true (by simp at l2; omega), Bool.true_and, Au0]
 simp only [List.all_nil, Bool.true_and, List.all_cons, Bool.and_true, s_land, Bool.not_false]
 unfold Azf
 congr 1
 rw [show (fun r : Route => hasS c.Receivers r.Receiver && r.Mute.all (hasS (Ahn c))) = fun r => (hasS c.Receivers r.Receiver && r.Mute.all (hasS (Ahn c))) from rfl]
 have key : ∀ (l : List Route) (f g : Route → Bool), (l.all f && (l.all f && l.all g)) = l.all fun r => f r && g r := by
  intro l f g
  induction l with
  | nil => rfl
  | cons x l ih =>
   simp only [List.all_cons]
   rw [← ih]
   cases f x <;> cases g x <;> cases l.all f <;> cases l.all g <;> rfl
 exact key _ _ _
end Go.PL
namespace Go.PL
set_option linter.unusedSimpArgs false
set_option linter.unusedVariables false
set_option linter.unusedSectionVars false
open Tys (Ty U)
open Enc (sz enc dflt tb ofB toB)
open Dec (dec dok)
set_option maxRecDepth 100000
theorem Atz {α ε : Type} (p : α → Bool) (bad fin : ε) : ∀ (xs : List α) (i : Nat), runL (fun _ x (_ : Unit) => if p x then (.inl () : Unit ⊕ ε) else .inr bad) (fun _ => fin) i xs () = cond (xs.all p) fin bad
 | [], i => rfl
 | x :: xs, i => by
  simp only [runL, List.all_cons]
  rcases Bool.eq_false_or_eq_true (p x) with hp | hp
  ·rw [if_pos hp, hp, Bool.true_and]
   exact Atz p bad fin xs (i + 1)
  ·rw [if_neg (by rw [hp]; simp), hp]
   rfl
theorem Aw6 (xs : List Rule) (h : fitL Awp xs) (hs : xs.length ≤ 1000) : Adl std xs = some (cond (xs.all ruleS) (xs.map (·.Name), decide (xs.length ≤ 16) && onceS (xs.map (·.Name))) ([], false)) := by
 unfold Adl
 have := Ach (B := Afb std xs) (fun i (_ : Unit) => ((xs.take i).map (·.Name), (i : Int))) xs (fun _ x (_ : Unit) => if ruleS x then (.inl () : Unit ⊕ (List ByteArray × Bool)) else .inr ([], false)) (fun _ => (xs.map (·.Name), decide (xs.length ≤ 16) && onceS (xs.map (·.Name)))) (fun i x u hx hi => by
  unfold Afb
  simp only
  rw [Aab, lssT hi, br_true, ck_t (inbT hi), Aai (t := TyS.rule) hx, A7m x (h.2 x (Abv hx)), bd_some]
  cases ruleS x with
  | false => rfl
  | true =>
   rw [s_not, Bool.not_true, br_false, ck_t (show std.appOk TyS.str 16 ((xs.take i).map (·.Name)) [x.Name] from ⟨by simp; omega, by simp; omega⟩), s_add, wrap_succ hi h.1, take_snoc hx, List.map_append]
   rfl) (fun _ => by
  unfold Afb
  simp only
  rw [Aab, lssF, br_false, List.take_length, gd_b (fun _ => Auz _ (by rw [List.length_map]; exact h.1)), bd_some, ← Aab (t := TyS.rule), show std.cmp .leq (std.len TyS.rule xs) 16 = decide (xs.length ≤ 16) from Ale (t := TyS.rule) xs 16]
  cases decide (xs.length ≤ 16) <;> rfl) ()
 refine this.trans (congrArg some ?_)
 exact Atz ruleS _ _ xs 0
theorem Aw7 (xs : List Hours) (h : fitL Avm xs) (hs : xs.length ≤ 1000) : Abd std xs = some (cond (xs.all hourS) (xs.map (·.Name), decide (xs.length ≤ 8) && onceS (xs.map (·.Name))) ([], false)) := by
 unfold Abd
 have := Ach (B := Afc std xs) (fun i (_ : Unit) => ((xs.take i).map (·.Name), (i : Int))) xs (fun _ x (_ : Unit) => if hourS x then (.inl () : Unit ⊕ (List ByteArray × Bool)) else .inr ([], false)) (fun _ => (xs.map (·.Name), decide (xs.length ≤ 8) && onceS (xs.map (·.Name)))) (fun i x u hx hi => by
  unfold Afc
  simp only
  rw [Aab, lssT hi, br_true, ck_t (inbT hi), Aai (t := TyS.hours) hx, A7n x (h.2 x (Abv hx)), bd_some]
  cases hourS x with
  | false => rfl
  | true =>
   rw [s_not, Bool.not_true, br_false, ck_t (show std.appOk TyS.str 16 ((xs.take i).map (·.Name)) [x.Name] from ⟨by simp; omega, by simp; omega⟩), s_add, wrap_succ hi h.1, take_snoc hx, List.map_append]
   rfl) (fun _ => by
  unfold Afc
  simp only
  rw [Aab, lssF, br_false, List.take_length, gd_b (fun _ => Auz _ (by rw [List.length_map]; exact h.1)), bd_some, ← Aab (t := TyS.hours), show std.cmp .leq (std.len TyS.hours xs) 8 = decide (xs.length ≤ 8) from Ale (t := TyS.hours) xs 8]
  cases decide (xs.length ≤ 8) <;> rfl) ()
 refine this.trans (congrArg some ?_)
 exact Atz hourS _ _ xs 0
end Go.PL
namespace Go.PL
set_option linter.unusedSimpArgs false
set_option linter.unusedVariables false
set_option linter.unusedSectionVars false
open Tys (Ty U)
open Enc (sz enc dflt tb ofB toB)
open Dec (dec dok)
set_option maxRecDepth 100000
theorem Bbm (w2 : List ByteArray × Bool) (w9 : List Route) (i : Nat) (r : Route) (hr : w9[i]? = some r) (hw : w2.1.length ≤ big63) (hm : r.Mute.length ≤ big63) (h9 : w9.length ≤ big63) :
  Loop (Adu std w2 w9 (i : Int)) 0 = some (cond (r.Mute.all (hasS w2.1)) (.inl ((i + 1 : Nat) : Int)) (.inr false)) := by
 have := Ach (B := Adu std w2 w9 (i : Int)) (fun j (_ : Unit) => (j : Int)) r.Mute (fun _ x (_ : Unit) => if hasS w2.1 x then (.inl () : Unit ⊕ (Int ⊕ Bool)) else .inr (.inr false)) (fun _ => .inl ((i + 1 : Nat) : Int)) (fun j x u hx hj => by
  unfold Adu
  simp only
  rw [Aai (t := TyS.route) hr, Aab, lssT hj, br_true, ck_t (inbT hj), Aai (t := TyS.str) hx, Atx _ _ hw, bd_some, s_add, wrap_succ hj hm]
  cases hasS w2.1 x <;> rfl) (fun _ => by
  unfold Adu
  simp only
  rw [Aai (t := TyS.route) hr, Aab, lssF, br_false, s_add, wrap_succ (Ae2 hr) h9]
  rfl) ()
 exact this.trans (congrArg some (Atz (hasS w2.1) _ _ r.Mute 0))
theorem A9q (c : Config) (w2 : List ByteArray × Bool) (w9 : List Route) (hw : w2.1.length ≤ big63) (hv : c.Receivers.length ≤ big63) (h9 : w9.length ≤ big63) (hm : ∀ r ∈ w9, r.Mute.length ≤ big63) :
  Loop (Afe std c w2 w9) 0 = some ((w9.all fun r => hasS c.Receivers r.Receiver && r.Mute.all (hasS w2.1)) && decide (w9.length ≤ 32)) := by
 have hout : some (std.cmp .leq (std.len TyS.route w9) 32) = some (decide (w9.length ≤ 32)) := congrArg some (Ale (t := TyS.route) w9 32)
 have := Ack (t := TyS.route) (B := Afe std c w2 w9) (fun i => i) w9 h9 (fun _ r => hasS c.Receivers r.Receiver && r.Mute.all (hasS w2.1)) _ _ _ (fun i => rfl) (fun i r hr hi => by
  rw [Aai (t := TyS.route) hr, Atx _ _ hv, bd_some]
  cases h : hasS c.Receivers r.Receiver with
  | false => rfl
  | true =>
   rw [s_not, Bool.not_true, br_false, Bbm w2 w9 i r hr hw (hm r (Abv hr)) h9, s_add, wrap_succ hi h9, Bool.true_and]
   cases r.Mute.all (hasS w2.1) <;> rfl) (fun _ => hout) (fun _ => ⟨_, hout⟩)
 have a1 : allI (fun _ (r : Route) => hasS c.Receivers r.Receiver && r.Mute.all (hasS w2.1)) 0 w9 = w9.all fun r => hasS c.Receivers r.Receiver && r.Mute.all (hasS w2.1) := Ahm _ _ _
 exact this.trans (congrArg (fun b => some (b && _)) a1)
theorem A3g (c : Config) (h : Ad3 c) (hr : c.Rules.length ≤ 1000) (hh : c.Hours.length ≤ 1000) : Ado std c = some (Ai1 c) := by
 obtain ⟨hR, hT, hV, hI, hH⟩ := id h
 unfold Ado
 rw [Aw6 c.Rules hR hr, bd_some, Aw7 c.Hours hH hh, bd_some, gd_b (fun _ => Auz _ hV.1), bd_some]
 have g16 : std.cmp .gtr (std.len TyS.str c.Receivers) 16 = !decide (c.Receivers.length ≤ 16) := Awq (t := TyS.str) c.Receivers 16
 have g8 : std.cmp .gtr (std.len TyS.inhibit c.Inhibits) 8 = !decide (c.Inhibits.length ≤ 8) := Awq (t := TyS.inhibit) c.Inhibits 8
 rw [g16, g8]
 have c1 : (cond (c.Rules.all ruleS) (c.Rules.map (·.Name), decide (c.Rules.length ≤ 16) && onceS (c.Rules.map (·.Name))) ([], false)).2 = Aw5 c := by
  unfold Aw5 Arf
  cases c.Rules.all ruleS <;> simp
 have c2 : (cond (c.Hours.all hourS) (c.Hours.map (·.Name), decide (c.Hours.length ≤ 8) && onceS (c.Hours.map (·.Name))) ([], false)).2 = Avt c := by
  unfold Avt Ahn
  cases c.Hours.all hourS <;> simp
 rw [c1, c2]
 have conf : Ai1 c = (Aw5 c && Avt c && decide (c.Receivers.length ≤ 16) && onceS c.Receivers && decide (c.Inhibits.length ≤ 8) && (c.Receivers.all wordS && (c.Inhibits.all Aa4 && (topS c && Azf c)))) := by
  unfold Ai1 Aty Ant
  generalize Aw5 c = x1
  generalize Avt c = x2
  generalize decide (c.Receivers.length ≤ 16) = x3
  generalize onceS c.Receivers = x4
  generalize decide (c.Inhibits.length ≤ 8) = x5
  generalize c.Receivers.all wordS = x6
  cases x1
  ·simp
  cases x2
  ·simp
  cases x3
  ·simp
  cases x4
  ·simp
  cases x5
  ·simp
  cases x6
  ·simp
  simp [Bool.and_assoc]
 rw [conf]
 cases hb1 : Aw5 c
 ·rfl
 cases hb2 : Avt c
 ·rfl
 cases decide (c.Receivers.length ≤ 16)
 ·rfl
 cases onceS c.Receivers
 ·rfl
 cases decide (c.Inhibits.length ≤ 8)
 ·rfl
 have hnames : (cond (c.Hours.all hourS) (c.Hours.map (·.Name), decide (c.Hours.length ≤ 8) && onceS (c.Hours.map (·.Name))) ([], false)).1 = Ahn c := by
  unfold Avt at hb2
  simp only [Bool.and_eq_true] at hb2
  rw [hb2.1.2]; rfl
 generalize (cond (c.Hours.all hourS) (c.Hours.map (·.Name), decide (c.Hours.length ≤ 8) && onceS (c.Hours.map (·.Name))) ([], false) : List ByteArray × Bool) = w2 at hnames
 have hnl : w2.1.length ≤ big63 := by rw [hnames]; unfold Ahn; rw [List.length_map]; exact hH.1
 have g0 : std.cmp .gtr (std.len TyS.matcher c.Route.Match) 0 = !decide (c.Route.Match.length = 0) := by
  rw [s_gtr, Ais, Aab, Bool.eq_iff_iff]; simp
 have hout : (bd (Adm std c.2) fun w8 =>
    br (std.or (std.or (std.not w8) (std.cmp .gtr (std.len TyS.matcher c.2.2) 0)) c.2.8) (
     some false
    ) (
     bd (Ahh std c.2) fun w9 =>
     Loop (Afe std c w2 w9) 0
    )) = some (topS c && Azf c) := by
  rw [A5k c.Route hT, bd_some, g0]
  unfold topS
  cases hr : Ab1 4 c.Route
  ·rfl
  generalize decide (c.Route.Match.length = 0) = b8
  cases b8
  ·rfl
  generalize c.Route.On = b9
  rcases Bool.eq_false_or_eq_true b9 with rfl | rfl
  ·rfl
  have hle := Azb 4 c.Route hr
  have hp := pow17 (d := 4) (by omega)
  rw [show std.or (std.or (std.not true) (!true)) false = false from rfl, br_false, ref_All_eq _ hr, bd_some, A9q c w2 (allD 4 c.Route) hnl hV.1 (by unfold big63; omega) (fun r hr' => by have := A7q 4 c.Route hr r hr'; unfold big63; omega), hnames]
  unfold Azf
  rw [Bool.and_comm]
  rfl
 have l3 := Ack (t := TyS.inhibit) (B := Aki std c w2) (fun i => i) c.Inhibits hI.1 (fun _ x => Aa4 x) _ (fun i => bd (Acx std (std.get TyS.inhibit c.4 i)) fun w7 => br (std.not w7) (rt (some false)) (some (.inl (std.ar .add .i64 i 1)))) _ (fun i => rfl)
  (fun i x hx hi => by
   rw [Aai (t := TyS.inhibit) hx, A0q _ (hI.2 x (Abv hx)), bd_some]
   cases Aa4 x <;> rfl) (fun _ => hout) (fun _ => ⟨_, hout⟩)
 have l4 := Ack (t := TyS.str) (B := Akj std c w2) (fun i => i) c.Receivers hV.1 (fun _ x => wordS x) _ (fun i => bd (Aag std (std.get TyS.str c.3 i)) fun w7 => br (std.not w7) (rt (some false)) (some (.inl (std.ar .add .i64 i 1)))) _ (fun i => rfl)
  (fun i x hx hi => by
   rw [Aai (t := TyS.str) hx, Ams _ (hV.2 x (Abv hx)), bd_some]
   cases wordS x <;> rfl) (fun _ => l3) (fun _ => ⟨_, l3⟩)
 have a3 : allI (fun _ x => Aa4 x) 0 c.Inhibits = c.Inhibits.all Aa4 := Ahm _ _ _
 have a4 : allI (fun _ x => wordS x) 0 c.Receivers = c.Receivers.all wordS := Ahm _ _ _
 have l5 := l4.trans (congrArg some (congr (congrArg and a4) (congr (congrArg and a3) rfl)))
 simp only [Bool.true_and]
 exact l5
end Go.PL
