/- Texts of this claim: plain laws of what the program's functions compute. No condition of their own. -/
import Derived.Test.YtnkaolleaebhnaaGreatDoorDlLd
import Derived.Test.YtnkaolleaebhnaaGreatDoorDlFu
namespace Go.PL
set_option linter.unusedSimpArgs false
set_option linter.unusedVariables false
set_option linter.unusedSectionVars false
open Tys (Ty U)
open Enc (sz enc dflt tb ofB toB)
open Dec (dec dok)
variable [Tys] [Enc] [Dec]
abbrev big63 : Nat := 9223372036854775807
def runL {α σ ε : Type} (step : Nat → α → σ → σ ⊕ ε) (fin : σ → ε) : Nat → List α → σ → ε
 | _, [], s => fin s
 | i, x :: xs, s => match step i x s with
  | .inl s' => runL step fin (i + 1) xs s'
  | .inr e => e
theorem Aga {S ε α σ : Type} {B : S → Option (S ⊕ ε)} (enc : Nat → σ → S) (xs : List α) (step : Nat → α → σ → σ ⊕ ε) (fin : σ → ε) (I : Nat → σ → Prop)
  (h1 : ∀ i x s, xs[i]? = some x → I i s → (∀ s', step i x s = .inl s' → B (enc i s) = some (.inl (enc (i + 1) s')) ∧ I (i + 1) s') ∧ ∀ e, step i x s = .inr e → B (enc i s) = some (.inr e))
  (h2 : ∀ s, I xs.length s → B (enc xs.length s) = some (.inr (fin s))) (i0 : Nat) (hi0 : i0 ≤ xs.length) (s0 : σ) (h0 : I i0 s0) : Loop B (enc i0 s0) = some (runL step fin i0 (xs.drop i0) s0) := by
 have key : ∀ (n i : Nat) (s : σ), i + n = xs.length → I i s → Loop B (enc i s) = some (runL step fin i (xs.drop i) s) := by
  intro n
  induction n with
  | zero =>
   intro i s hi hI
   obtain rfl : i = xs.length := by omega
   rw [Ado, h2 s hI, List.drop_length]
   rfl
  | succ n ih =>
   intro i s hi hI
   have hl : i < xs.length := by omega
   have hx : xs[i]? = some xs[i] := List.getElem?_eq_getElem hl
   rw [List.drop_eq_getElem_cons hl, Ado]
   simp only [runL]
   cases hs : step i xs[i] s with
   | inl s' =>
    obtain ⟨h3, h4⟩ := (h1 i xs[i] s hx hI).1 s' hs
    rw [h3]
    exact ih (i + 1) s' (by omega) h4
   | inr e =>
    rw [(h1 i xs[i] s hx hI).2 e hs]
 exact key (xs.length - i0) i0 s0 (by omega) h0
theorem Ap5 {S ε α σ : Type} {B : S → Option (S ⊕ ε)} (enc : Nat → σ → S) (xs : List α) (step : Nat → α → σ → σ ⊕ ε) (fin : σ → ε) (I : Nat → σ → Prop)
  (h1 : ∀ i x s, xs[i]? = some x → I i s → (∀ s', step i x s = .inl s' → B (enc i s) = some (.inl (enc (i + 1) s')) ∧ I (i + 1) s') ∧ ∀ e, step i x s = .inr e → B (enc i s) = some (.inr e))
  (h2 : ∀ s, I xs.length s → B (enc xs.length s) = some (.inr (fin s))) (s0 : σ) (h0 : I 0 s0) : Loop B (enc 0 s0) = some (runL step fin 0 xs s0) := by
 have := Aga enc xs step fin I h1 h2 0 (Nat.zero_le _) s0 h0
 rwa [List.drop_zero] at this
theorem Ajy {S ε α σ : Type} {B : S → Option (S ⊕ ε)} (enc : Nat → σ → S) (xs : List α) (step : Nat → α → σ → σ ⊕ ε) (fin : σ → ε)
  (h1 : ∀ i x s, xs[i]? = some x → i < xs.length → B (enc i s) = some (match step i x s with | .inl s' => .inl (enc (i + 1) s') | .inr e => .inr e))
  (h2 : ∀ s, B (enc xs.length s) = some (.inr (fin s))) (s0 : σ) : Loop B (enc 0 s0) = some (runL step fin 0 xs s0) :=
 Ap5 enc xs step fin (fun _ _ => True) (fun i x s hx _ => by
  have hi : i < xs.length := by
   rcases Nat.lt_or_ge i xs.length with h | h
   ·exact h
   ·rw [List.getElem?_eq_none h] at hx; cases hx
  have := h1 i x s hx hi
  exact ⟨fun s' h => ⟨by rw [this, h], trivial⟩, fun e h => by rw [this, h]⟩) (fun s _ => h2 s) s0 trivial
theorem wrap_succ {i n : Nat} (h : i < n) (hn : n ≤ big63) : IntKind.i64.wrap ((i : Int) + 1) = ((i + 1 : Nat) : Int) := by
 rw [w64 (by unfold big63 at hn; omega)]; rfl
theorem lssT {i n : Nat} (h : i < n) : std.cmp .lss (i : Int) (n : Int) = true := decide_eq_true (by omega)
theorem lssF {n : Nat} : std.cmp .lss (n : Int) (n : Int) = false := decide_eq_false (by omega)
theorem inbT {i n : Nat} (h : i < n) : std.inb (i : Int) (n : Int) := ⟨by omega, by omega⟩
theorem leN {a b : Nat} : decide ((a : Int) ≤ (b : Int)) = decide (a ≤ b) := by rw [Bool.eq_iff_iff]; simp
theorem Aai {t : Ty} (xs : List (U t)) : std.len t xs = ((xs.length : Nat) : Int) := rfl
theorem get_at {α : Type} {xs : List α} {i : Nat} {x d : α} (h : xs[i]? = some x) : xs.getD i d = x := by
 rw [List.getD_eq_getElem?_getD, h]; rfl
def fnd {α : Type} (xs : List α) (p : α → Bool) : Int := match xs.findIdx? p with
 | some j => (j : Int)
 | none => -1
theorem A2e {α : Type} (p : α → Bool) (xs : List α) : ∀ i : Nat, runL (fun (i : Nat) x (_ : Unit) => if p x then .inr (i : Int) else .inl ()) (fun _ => (-1 : Int)) i xs () = match xs.findIdx? p with | some j => ((i + j : Nat) : Int) | none => -1 := by
 induction xs with
 | nil => intro i; rfl
 | cons x xs ih =>
  intro i
  simp only [runL, List.findIdx?_cons]
  cases p x with
  | true => simp
  | false =>
   simp only [Bool.false_eq_true, if_false]
   rw [ih (i + 1)]
   cases xs.findIdx? p with
   | none => rfl
   | some j => simp only [Option.map_some]; congr 1; omega
theorem Ahj {t : Ty} (xs : List (U t)) (p : U t → Bool) (q : U t → Option Bool) (hq : ∀ x ∈ xs, q x = some (p x)) (hl : xs.length ≤ big63) :
  Loop (fun t8 => br (std.cmp .lss t8 (std.len t xs)) (ck (std.inb t8 (std.len t xs)) <| bd (q (std.get t xs t8)) fun w => br w (rt (some t8)) (some (.inl (std.ar .add .i64 t8 1)))) (rt (some (-1)))) 0 = some (fnd xs p) := by
 have := Ajy (B := fun t8 => br (std.cmp .lss t8 (std.len t xs)) (ck (std.inb t8 (std.len t xs)) <| bd (q (std.get t xs t8)) fun w => br w (rt (some t8)) (some (.inl (std.ar .add .i64 t8 1)))) (rt (some (-1)))) (fun i (_ : Unit) => (i : Int)) xs (fun (i : Nat) x (_ : Unit) => if p x then .inr (i : Int) else .inl ()) (fun _ => (-1 : Int)) (fun i x s hx hi => by
  have h1 : std.cmp .lss (i : Int) (std.len t xs) = true := by simp; omega
  rw [h1]
  simp only [br]
  rw [ck_t (by simp; omega), s_get, Int.toNat_natCast, get_at hx, hq x (List.mem_of_getElem? hx), bd_some]
  cases p x with
  | true => simp [br, rt]
  | false => simp only [br, s_add, wrap_succ hi hl, Bool.false_eq_true, if_false]) (fun s => by
  have h1 : std.cmp .lss ((xs.length : Nat) : Int) (std.len t xs) = false := by simp
  rw [h1]; rfl) ()
 rw [show ((0 : Int)) = ((0 : Nat) : Int) from rfl, this, A2e]
 unfold fnd
 cases xs.findIdx? p <;> simp
theorem Ahk {α : Type} (p : α → Bool) (xs : List α) : decide ((0 : Int) ≤ fnd xs p) = xs.any p := by
 unfold fnd
 cases h : xs.findIdx? p with
 | none =>
  rw [List.findIdx?_eq_none_iff] at h
  have : xs.any p = false := by simpa using h
  rw [this]; rfl
 | some j =>
  have : (xs.findIdx? p).isSome = xs.any p := by rw [List.findIdx?_isSome]
  rw [h] at this
  rw [← this]; simp
end Go.PL
namespace Go.PL
set_option linter.unusedSimpArgs false
set_option linter.unusedVariables false
set_option linter.unusedSectionVars false
open Tys (Ty U)
open Enc (sz enc dflt tb ofB toB)
open Dec (dec dok)
set_option maxRecDepth 100000
theorem A0u (xs : List Rule) (p : Rule → Bool) (q : Rule → Option Bool) (hq : ∀ x ∈ xs, q x = some (p x)) (hl : xs.length ≤ big63) : Ac5 std xs q = some (fnd xs p) := Ahj (t := TyS.rule) xs p q hq hl
theorem Alh (xs : List Rule) (p : Rule → Bool) (q : Rule → Option Bool) (hq : ∀ x ∈ xs, q x = some (p x)) (hl : xs.length ≤ big63) : Aal std xs q = some (xs.any p) := by
 unfold Aal
 rw [A0u xs p q hq hl, bd_some, s_geq, Ahk]
theorem A2f (xs : List Def) (p : Def → Bool) (q : Def → Option Bool) (hq : ∀ x ∈ xs, q x = some (p x)) (hl : xs.length ≤ big63) : Adt std xs q = some (fnd xs p) := Ahj (t := TyS.dfn) xs p q hq hl
theorem Awl (xs : List Def) (p : Def → Bool) (q : Def → Option Bool) (hq : ∀ x ∈ xs, q x = some (p x)) (hl : xs.length ≤ big63) : Ab3 std xs q = some (xs.any p) := by
 unfold Ab3
 rw [A2f xs p q hq hl, bd_some, s_geq, Ahk]
theorem Awm (xs : List ByteArray) (p : ByteArray → Bool) (q : ByteArray → Option Bool) (hq : ∀ x ∈ xs, q x = some (p x)) (hl : xs.length ≤ big63) : Acf std xs q = some (fnd xs p) := Ahj (t := TyS.str) xs p q hq hl
theorem Amf (xs : List ByteArray) (p : ByteArray → Bool) (q : ByteArray → Option Bool) (hq : ∀ x ∈ xs, q x = some (p x)) (hl : xs.length ≤ big63) : Aas std xs q = some (xs.any p) := by
 unfold Aas
 rw [Awm xs p q hq hl, bd_some, s_geq, Ahk]
theorem Are (xs : List Label) (p : Label → Bool) (q : Label → Option Bool) (hq : ∀ x ∈ xs, q x = some (p x)) (hl : xs.length ≤ big63) : Aa9 std xs q = some (fnd xs p) := Ahj (t := TyS.label) xs p q hq hl
theorem Aue (xs : List Inhibit) (p : Inhibit → Bool) (q : Inhibit → Option Bool) (hq : ∀ x ∈ xs, q x = some (p x)) (hl : xs.length ≤ big63) : Ab1 std xs q = some (fnd xs p) := Ahj (t := TyS.inhibit) xs p q hq hl
theorem Alt (xs : List Inhibit) (p : Inhibit → Bool) (q : Inhibit → Option Bool) (hq : ∀ x ∈ xs, q x = some (p x)) (hl : xs.length ≤ big63) : Aaf std xs q = some (xs.any p) := by
 unfold Aaf
 rw [Aue xs p q hq hl, bd_some, s_geq, Ahk]
theorem Auf (xs : List Matcher) (p : Matcher → Bool) (q : Matcher → Option Bool) (hq : ∀ x ∈ xs, q x = some (p x)) (hl : xs.length ≤ big63) : Ab2 std xs q = some (fnd xs p) := Ahj (t := TyS.matcher) xs p q hq hl
theorem Ai2 (xs : List Matcher) (p : Matcher → Bool) (q : Matcher → Option Bool) (hq : ∀ x ∈ xs, q x = some (p x)) (hl : xs.length ≤ big63) : Aag std xs q = some (xs.any p) := by
 unfold Aag
 rw [Auf xs p q hq hl, bd_some, s_geq, Ahk]
theorem Ayr (xs : List Hours) (p : Hours → Bool) (q : Hours → Option Bool) (hq : ∀ x ∈ xs, q x = some (p x)) (hl : xs.length ≤ big63) : Acm std xs q = some (fnd xs p) := Ahj (t := TyS.hours) xs p q hq hl
theorem Am8 (xs : List Hours) (p : Hours → Bool) (q : Hours → Option Bool) (hq : ∀ x ∈ xs, q x = some (p x)) (hl : xs.length ≤ big63) : Aaz std xs q = some (xs.any p) := by
 unfold Aaz
 rw [Ayr xs p q hq hl, bd_some, s_geq, Ahk]
theorem A2g (xs : List Int) (p : Int → Bool) (q : Int → Option Bool) (hq : ∀ x ∈ xs, q x = some (p x)) (hl : xs.length ≤ big63) : Adw std xs q = some (fnd xs p) := Ahj (t := TyS.int) xs p q hq hl
theorem Awn (xs : List Int) (p : Int → Bool) (q : Int → Option Bool) (hq : ∀ x ∈ xs, q x = some (p x)) (hl : xs.length ≤ big63) : Ab4 std xs q = some (xs.any p) := by
 unfold Ab4
 rw [A2g xs p q hq hl, bd_some, s_geq, Ahk]
theorem Ays (xs : List Route) (p : Route → Bool) (q : Route → Option Bool) (hq : ∀ x ∈ xs, q x = some (p x)) (hl : xs.length ≤ big63) : Acn std xs q = some (fnd xs p) := Ahj (t := TyS.route) xs p q hq hl
theorem Am9 (xs : List Route) (p : Route → Bool) (q : Route → Option Bool) (hq : ∀ x ∈ xs, q x = some (p x)) (hl : xs.length ≤ big63) : Aan std xs q = some (xs.any p) := by
 unfold Aan
 rw [Ays xs p q hq hl, bd_some, s_geq, Ahk]
theorem A0v (xs : List UInt8) (p : UInt8 → Bool) (q : Int → Option Bool) (hq : ∀ x ∈ xs, q (x.toNat : Int) = some (p x)) (hl : xs.length ≤ big63) : Ac6 std xs q = some (fnd xs p) := Ahj (t := TyS.byte) xs p (fun b => q (b.toNat : Int)) hq hl
theorem Ali (xs : List UInt8) (p : UInt8 → Bool) (q : Int → Option Bool) (hq : ∀ x ∈ xs, q (x.toNat : Int) = some (p x)) (hl : xs.length ≤ big63) : Aab std xs q = some (xs.any p) := by
 unfold Aab
 rw [A0v xs p q hq hl, bd_some, s_geq, Ahk]
theorem Azu (s : ByteArray) : std.s2b s = s.data.toList := by
 show s.data.toList.map Enc.ofB = _
 exact List.map_id _
theorem A3y (xs : List Rule) (k : Int) (p : Rule → Bool) (q : Rule → Option Bool) (hq : (xs.length : Int) ≤ k → ∀ x ∈ xs, q x = some (p x)) (hk : k ≤ big63) : Aee std xs k q = some (decide ((xs.length : Int) ≤ k) && xs.all p) := by
 unfold Aee
 rw [show std.cmp .leq (std.len TyS.rule xs) k = decide ((xs.length : Int) ≤ k) from rfl]
 by_cases h : (xs.length : Int) ≤ k
 ·rw [decide_eq_true h, gd_t, Alh xs (fun x => !p x) _ (fun x hx => by unfold Af4; rw [hq h x hx]; rfl) (by unfold big63 at hk ⊢; omega), bd_some]
  rw [List.all_eq_not_any_not]
  rfl
 ·rw [decide_eq_false h, gd_f, bd_some]
  rfl
theorem Ao3 (xs : List ByteArray) (k : Int) (p : ByteArray → Bool) (q : ByteArray → Option Bool) (hq : (xs.length : Int) ≤ k → ∀ x ∈ xs, q x = some (p x)) (hk : k ≤ big63) : Acb std xs k q = some (decide ((xs.length : Int) ≤ k) && xs.all p) := by
 unfold Acb
 rw [show std.cmp .leq (std.len TyS.str xs) k = decide ((xs.length : Int) ≤ k) from rfl]
 by_cases h : (xs.length : Int) ≤ k
 ·rw [decide_eq_true h, gd_t, Amf xs (fun x => !p x) _ (fun x hx => by unfold Ae1; rw [hq h x hx]; rfl) (by unfold big63 at hk ⊢; omega), bd_some]
  rw [List.all_eq_not_any_not]
  rfl
 ·rw [decide_eq_false h, gd_f, bd_some]
  rfl
theorem Ayt (xs : List Inhibit) (k : Int) (p : Inhibit → Bool) (q : Inhibit → Option Bool) (hq : (xs.length : Int) ≤ k → ∀ x ∈ xs, q x = some (p x)) (hk : k ≤ big63) : Acr std xs k q = some (decide ((xs.length : Int) ≤ k) && xs.all p) := by
 unfold Acr
 rw [show std.cmp .leq (std.len TyS.inhibit xs) k = decide ((xs.length : Int) ≤ k) from rfl]
 by_cases h : (xs.length : Int) ≤ k
 ·rw [decide_eq_true h, gd_t, Alt xs (fun x => !p x) _ (fun x hx => by unfold Aem; rw [hq h x hx]; rfl) (by unfold big63 at hk ⊢; omega), bd_some]
  rw [List.all_eq_not_any_not]
  rfl
 ·rw [decide_eq_false h, gd_f, bd_some]
  rfl
theorem Ayu (xs : List Matcher) (k : Int) (p : Matcher → Bool) (q : Matcher → Option Bool) (hq : (xs.length : Int) ≤ k → ∀ x ∈ xs, q x = some (p x)) (hk : k ≤ big63) : Abn std xs k q = some (decide ((xs.length : Int) ≤ k) && xs.all p) := by
 unfold Abn
 rw [show std.cmp .leq (std.len TyS.matcher xs) k = decide ((xs.length : Int) ≤ k) from rfl]
 by_cases h : (xs.length : Int) ≤ k
 ·rw [decide_eq_true h, gd_t, Ai2 xs (fun x => !p x) _ (fun x hx => by unfold Aen; rw [hq h x hx]; rfl) (by unfold big63 at hk ⊢; omega), bd_some]
  rw [List.all_eq_not_any_not]
  rfl
 ·rw [decide_eq_false h, gd_f, bd_some]
  rfl
theorem A2h (xs : List Hours) (k : Int) (p : Hours → Bool) (q : Hours → Option Bool) (hq : (xs.length : Int) ≤ k → ∀ x ∈ xs, q x = some (p x)) (hk : k ≤ big63) : Adz std xs k q = some (decide ((xs.length : Int) ≤ k) && xs.all p) := by
 unfold Adz
 rw [show std.cmp .leq (std.len TyS.hours xs) k = decide ((xs.length : Int) ≤ k) from rfl]
 by_cases h : (xs.length : Int) ≤ k
 ·rw [decide_eq_true h, gd_t, Am8 xs (fun x => !p x) _ (fun x hx => by unfold Afo; rw [hq h x hx]; rfl) (by unfold big63 at hk ⊢; omega), bd_some]
  rw [List.all_eq_not_any_not]
  rfl
 ·rw [decide_eq_false h, gd_f, bd_some]
  rfl
end Go.PL
namespace Go.PL
set_option linter.unusedSimpArgs false
set_option linter.unusedVariables false
set_option linter.unusedSectionVars false
open Tys (Ty U)
open Enc (sz enc dflt tb ofB toB)
open Dec (dec dok)
set_option maxRecDepth 100000
def allI {α : Type} (p : Nat → α → Bool) : Nat → List α → Bool
 | _, [] => true
 | i, x :: xs => p i x && allI p (i + 1) xs
theorem A3z {α : Type} (p : Nat → α → Bool) (fin : Bool) (xs : List α) : ∀ i, runL (fun i x (_ : Unit) => if p i x then .inl () else .inr false) (fun _ => fin) i xs () = (allI p i xs && fin) := by
 induction xs with
 | nil => intro i; rfl
 | cons x xs ih =>
  intro i
  simp only [runL, allI]
  cases p i x with
  | true => simpa using ih (i + 1)
  | false => rfl
theorem Amt {S α : Type} {B : S → Option (S ⊕ Bool)} (enc : Nat → S) (xs : List α) (p : Nat → α → Bool) (fin : Bool)
  (h1 : ∀ i x, xs[i]? = some x → i < xs.length → B (enc i) = some (if p i x then .inl (enc (i + 1)) else .inr false)) (h2 : B (enc xs.length) = some (.inr fin)) : Loop B (enc 0) = some (allI p 0 xs && fin) := by
 have := Ajy (fun i (_ : Unit) => enc i) xs (fun i x (_ : Unit) => if p i x then .inl () else .inr false) (fun _ => fin) (fun i x s hx hi => by
  rw [h1 i x hx hi]
  cases p i x <;> rfl) (fun _ => h2) ()
 rw [this, A3z]
theorem Abd {α : Type} {t f : Option α} : br true t f = t := rfl
theorem br_false {α : Type} {t f : Option α} : br false t f = f := rfl
abbrev bytes (s : ByteArray) : List UInt8 := s.data.toList
theorem A42 {s : ByteArray} {i : Nat} {c : UInt8} (h : (bytes s)[i]? = some c) : std.sget s (i : Int) = (c.toNat : Int) := by
 rw [A5i, Int.toNat_natCast]
 have : s.data.getD i 0 = c := by
  rw [Array.getD_eq_getD_getElem?, ← Array.getElem?_toList, h]; rfl
 rw [this]
theorem Aek (s : ByteArray) : (bytes s).length = s.size := Array.length_toList
theorem A2i (s : ByteArray) : std.slen s = ((bytes s).length : Int) := by rw [As1, Aek]
def inC (lo hi : Nat) (c : UInt8) : Bool := decide (lo ≤ c.toNat) && decide (c.toNat ≤ hi)
def lowC (c : UInt8) : Bool := inC 97 122 c
def upC (c : UInt8) : Bool := inC 65 90 c
def digC (c : UInt8) : Bool := inC 48 57 c
def barC (c : UInt8) : Bool := inC 95 95 c
def letC (c : UInt8) : Bool := lowC c || upC c || barC c
def wordC (c : UInt8) : Bool := lowC c || digC c || barC c
def wordS (s : ByteArray) : Bool := (bytes s).all wordC && decide (1 ≤ s.size) && decide (s.size ≤ 64)
def nameP (i : Nat) (c : UInt8) : Bool := letC c || decide (0 < i) && digC c
def nameS (s : ByteArray) : Bool := allI nameP 0 (bytes s) && decide (1 ≤ s.size) && decide (s.size ≤ 64)
def A2j (c : UInt8) : Bool := inC 32 126 c
def As6 (s : ByteArray) : Bool := (bytes s).all A2j && decide (1 ≤ s.size) && decide (s.size ≤ 64)
theorem Ao4 (s : ByteArray) : decide (s ≠ ByteArray.mk (Array.mk [])) = decide (1 ≤ s.size) := by
 rw [Bool.eq_iff_iff]
 simp only [decide_eq_true_eq]
 constructor
 ·intro h
  rcases Nat.eq_zero_or_pos s.size with h0 | h0
  ·exfalso; apply h
   cases s with
   | mk d => congr 1; exact Array.eq_empty_of_size_eq_zero h0
  ·exact h0
 ·rintro h rfl; exact absurd h (by decide)
theorem An8 (s : ByteArray) : Ag1 std s = some (wordS s) := by
 unfold Ag1
 have h0 : std.and (std.scmp .neq s (ByteArray.mk (Array.mk []))) (std.cmp .leq (std.slen s) 64) = (decide (1 ≤ s.size) && decide (s.size ≤ 64)) := by
  rw [s_land, Azo, Ao4, s_leq, As1]; congr 1; exact leN (b := 64)
 rw [h0]
 unfold wordS
 by_cases h : (decide (1 ≤ s.size) && decide (s.size ≤ 64)) = true
 ·rw [h, gd_t, Azu, Ali _ (fun c => !wordC c) _ (fun c _ => by
   unfold Ag0
   simp only [s_land, s_lor, s_lss, s_gtr, s_neq]
   congr 1
   rw [Bool.eq_iff_iff]
   simp [wordC, lowC, digC, barC, inC]
   omega) (by simp at h; rw [Aek]; unfold big63; omega), bd_some, s_land, s_not, Bool.true_and]
  rw [Bool.and_assoc, h, Bool.and_true, List.all_eq_not_any_not]
 ·simp only [Bool.not_eq_true] at h
  rw [h, gd_f, bd_some, s_land, Bool.false_and, Bool.and_assoc, h, Bool.and_false]
theorem Arf (c : UInt8) : Aih std (c.toNat : Int) = some (letC c) := by
 unfold Aih
 congr 1
 rw [Bool.eq_iff_iff]
 simp [letC, lowC, upC, barC, inC]
 omega
theorem Aug (s : ByteArray) (hs : s.size ≤ big63) : Akt std s = some (nameS s) := by
 unfold Akt
 have := Amt (B := Ai7 std s) (fun i => (false, (i : Int))) (bytes s) nameP (decide (1 ≤ s.size) && decide (s.size ≤ 64)) (fun i c hc hi => by
  unfold Ai7
  simp only
  rw [A2i, A42 hc, lssT hi, Abd, ck_t (inbT hi), Arf, bd_some]
  rw [s_add, wrap_succ hi (by rw [Aek]; exact hs)]
  have e : std.and (std.not (letC c)) (std.or (std.or (std.cmp .eql (i : Int) 0) (std.cmp .lss (c.toNat : Int) 48)) (std.cmp .gtr (c.toNat : Int) 57)) = !nameP i c := by
   rw [Bool.eq_iff_iff]
   simp [nameP, digC, inC]
   omega
  rw [e]
  cases nameP i c <;> rfl) (by
  unfold Ai7
  simp only
  rw [A2i, lssF, br_false, s_land, Azo, Ao4, s_leq, Aek, show decide ((s.size : Int) ≤ 64) = decide (s.size ≤ 64) from leN (b := 64)]
  rfl)
 rw [show ((0 : Int)) = ((0 : Nat) : Int) from rfl, this]
 unfold nameS
 rw [Bool.and_assoc]
theorem Asj (s : ByteArray) : Ajq std s = some (As6 s) := by
 unfold Ajq
 have h0 : std.and (std.scmp .neq s (ByteArray.mk (Array.mk []))) (std.cmp .leq (std.slen s) 64) = (decide (1 ≤ s.size) && decide (s.size ≤ 64)) := by
  rw [s_land, Azo, Ao4, s_leq, As1]; congr 1; exact leN (b := 64)
 rw [h0]
 unfold As6
 by_cases h : (decide (1 ≤ s.size) && decide (s.size ≤ 64)) = true
 ·rw [h, gd_t, Azu, Ali _ (fun c => !A2j c) _ (fun c _ => by
   unfold Ai8
   congr 1
   rw [Bool.eq_iff_iff]
   simp [A2j, inC]
   omega) (by simp at h; rw [Aek]; unfold big63; omega), bd_some, s_land, s_not, Bool.true_and]
  rw [Bool.and_assoc, h, Bool.and_true, List.all_eq_not_any_not]
 ·simp only [Bool.not_eq_true] at h
  rw [h, gd_f, bd_some, s_land, Bool.false_and, Bool.and_assoc, h, Bool.and_false]
end Go.PL
namespace Go.PL
set_option linter.unusedSimpArgs false
set_option linter.unusedVariables false
set_option linter.unusedSectionVars false
open Tys (Ty U)
open Enc (sz enc dflt tb ofB toB)
open Dec (dec dok)
set_option maxRecDepth 100000
theorem A30 {α : Type} (p : α → Bool) (xs : List α) : ∀ i, allI (fun _ x => p x) i xs = xs.all p := by
 induction xs with
 | nil => intro i; rfl
 | cons x xs ih => intro i; simp only [allI, List.all_cons, ih]
theorem vc_of {b : Bool} {p : Prop} (h : b = true → p) : vc b p := by
 cases b with
 | true => exact h rfl
 | false => exact True.intro
def lessS (a b : ByteArray) : Bool := std.scmp .lss a b
theorem A5m (a b : ByteArray) : std.scmp .geq a b = !lessS a b := rfl
def ordP {α : Type} (may : α → Bool) (key : α → ByteArray) (xs : List α) (i : Nat) (x : α) : Bool := may x && (decide (i = 0) || match xs[i - 1]? with | some y => lessS (key y) (key x) | none => false)
theorem prevI {i : Nat} (h : 0 < i) (hi : i ≤ big63) : std.ar .sub .i64 (i : Int) 1 = ((i - 1 : Nat) : Int) := by
 rw [s_sub, w64 (by unfold big63 at hi; omega)]; omega
theorem Alj {α : Type} {xs : List α} {i : Nat} (h : i < xs.length) : ∃ x, xs[i]? = some x := ⟨xs[i], List.getElem?_eq_getElem h⟩
theorem Ah9 {α : Type} {xs : List α} {i : Nat} {x : α} (h : xs[i]? = some x) : i < xs.length := by
 rcases Nat.lt_or_ge i xs.length with h1 | h1
 ·exact h1
 ·rw [List.getElem?_eq_none h1] at h; cases h
theorem Abv {t : Ty} {xs : List (U t)} {i : Nat} {x : U t} (h : xs[i]? = some x) : std.get t xs (i : Int) = x := by
 rw [s_get, Int.toNat_natCast, get_at h]
theorem Ajg {S : Type} {t : Ty} {B : S → Option (S ⊕ Bool)} (enc : Int → S) (xs : List (U t)) (hl : xs.length ≤ big63) (p : Nat → U t → Bool) (fin : Bool)
  (step : Int → Option (S ⊕ Bool)) (out : Option Bool)
  (hB : ∀ i, B (enc i) = br (std.cmp .lss i (std.len t xs)) (ck (std.inb i (std.len t xs)) (step i)) (rt out))
  (h1 : ∀ (i : Nat) (x : U t), xs[i]? = some x → i < xs.length → step i = some (if p i x then .inl (enc (std.ar .add .i64 i 1)) else .inr false)) (h2 : allI p 0 xs = true → out = some fin) (h3 : allI p 0 xs = false → ∃ v, out = some v) : Loop B (enc 0) = some (allI p 0 xs && fin) := by
 cases hA : allI p 0 xs with
 | true =>
  have := Amt (B := B) (fun i => enc (i : Int)) xs p fin (fun i c hc hi => by
   rw [hB, Aai, lssT hi, Abd, ck_t (inbT hi), h1 i c hc hi, s_add, wrap_succ hi hl]) (by
   rw [hB, Aai, lssF, br_false, h2 hA]
   rfl)
  rw [hA] at this
  exact this
 | false =>
  obtain ⟨v, hv⟩ := h3 hA
  have := Amt (B := B) (fun i => enc (i : Int)) xs p v (fun i c hc hi => by
   rw [hB, Aai, lssT hi, Abd, ck_t (inbT hi), h1 i c hc hi, s_add, wrap_succ hi hl]) (by
   rw [hB, Aai, lssF, br_false, hv]
   rfl)
  rw [hA] at this
  exact this
theorem Aiq {S : Type} {t : Ty} (xs : List (U t)) (q : U t → Option Bool) (may : U t → Bool) (key : U t → ByteArray) (hl : xs.length ≤ big63) (e : Int → S) (i : Nat) (x : U t) (hx : xs[i]? = some x) (hq : q x = some (may x)) :
  (bd (q (std.get t xs i)) fun w2 => ck (vc (std.and (std.not (std.not w2)) (std.cmp .gtr (i : Int) 0)) (std.inb (std.ar .sub .i64 i 1) (std.len t xs))) <| br (std.or (std.not w2) (std.and (std.cmp .gtr (i : Int) 0) (std.scmp .geq (key (std.get t xs (std.ar .sub .i64 i 1))) (key (std.get t xs i))))) (rt (some false)) (some (.inl (e (std.ar .add .i64 i 1))))) =
   some (if ordP may key xs i x then (.inl (e (std.ar .add .i64 i 1)) : S ⊕ Bool) else .inr false) := by
 have hi := Ah9 hx
 rw [Abv hx, hq, bd_some]
 have hc : std.cmp .gtr (i : Int) 0 = decide (0 < i) := by rw [s_gtr, Bool.eq_iff_iff]; simp
 rw [hc]
 rcases Nat.eq_zero_or_pos i with rfl | h0
 ·rw [ck_t (vc_of fun h => by simp at h)]
  simp only [ordP]
  cases may x <;> simp [br, rt]
 ·obtain ⟨y, hy⟩ := Alj (xs := xs) (i := i - 1) (by omega)
  rw [prevI h0 (by omega), ck_t (vc_of fun _ => by rw [Aai]; exact inbT (by omega)), Abv hy, A5m]
  simp only [ordP, hy, decide_eq_true h0]
  have : decide (i = 0) = false := decide_eq_false (by omega)
  rw [this]
  cases may x <;> cases lessS (key y) (key x) <;> simp [br, rt]
end Go.PL
namespace Go.PL
set_option linter.unusedSimpArgs false
set_option linter.unusedVariables false
set_option linter.unusedSectionVars false
open Tys (Ty U)
open Enc (sz enc dflt tb ofB toB)
open Dec (dec dok)
set_option maxRecDepth 100000
abbrev fitS (s : ByteArray) : Prop := s.size ≤ big63
def fitL {α : Type} (P : α → Prop) (xs : List α) : Prop := xs.length ≤ big63 ∧ ∀ x ∈ xs, P x
def Ap6 (x : Label) : Prop := fitS x.Name ∧ fitS x.Value
def Aew (m : Matcher) : Prop := fitS m.Name ∧ fitL fitS m.Words
def Auh (h : Hours) : Prop := fitS h.Name
def Arh (r : Rule) : Prop := fitS r.Name ∧ fitS r.Metric ∧ fitL Ap6 r.Labels
def Ah1 (x : Inhibit) : Prop := fitL Aew x.Source ∧ fitL Aew x.Target ∧ fitL fitS x.Equal
theorem Afd {α : Type} {xs : List α} {i : Nat} {x : α} (h : xs[i]? = some x) : x ∈ xs := List.mem_of_getElem? h
theorem gd_of {α : Type} {d : α} {c : Bool} {t : Option α} {v : α} (h : c = true → t = some v) : gd d c t = some (cond c v d) := by
 cases c with
 | true => exact h rfl
 | false => rfl
theorem gd_b {c : Bool} {t : Option Bool} {v : Bool} (h : c = true → t = some v) : gd false c t = some (c && v) := by
 cases c with
 | true => exact h rfl
 | false => rfl
/-! ### labels -/
def An9 (x : Label) : Bool := nameS x.Name && As6 x.Value
def labelsS (xs : List Label) : Bool := allI (ordP An9 (·.Name) xs) 0 xs && decide (xs.length ≤ 8)
theorem Awo (x : Label) (h : fitS x.Name) : Aku std x = some (An9 x) := by
 unfold Aku
 rw [Aug _ h, bd_some, Asj, gd_b (fun _ => rfl), bd_some]
 unfold An9
 cases nameS x.Name <;> rfl
theorem Ari {t : Ty} (xs : List (U t)) (n : Nat) : std.cmp .leq (std.len t xs) (n : Int) = decide (xs.length ≤ n) := by rw [s_leq, Aai, leN]
theorem Ana (xs : List Label) (h : fitL Ap6 xs) : Ady std xs = some (labelsS xs) := by
 unfold Ady
 exact Ajg (t := TyS.label) (B := Am6 std xs) (fun i => i) xs h.1 (ordP An9 (·.Name) xs) (decide (xs.length ≤ 8)) _ _ (fun i => rfl)
  (fun i x hx hi => Aiq (t := TyS.label) xs (Aku std) An9 (·.Name) h.1 (fun i => i) i x hx (Awo x (h.2 x (Afd hx)).1)) (fun _ => congrArg some (Ari (t := TyS.label) xs 8)) (fun _ => ⟨_, rfl⟩)
theorem Awp (xs : List Label) (s : ByteArray) (h : xs.length ≤ big63) : Al7 std xs s = some (match xs.find? (fun l => decide (l.Name = s)) with | some l => l.Value | none => ⟨#[]⟩) := by
 unfold Al7
 rw [Are xs (fun l => decide (l.Name = s)) (fun y0 => Ajr std y0 s) (fun x _ => by unfold Ajr; rw [s_seql]) h, bd_some]
 unfold fnd
 cases hf : xs.findIdx? (fun l => decide (l.Name = s)) with
 | none =>
  have : xs.find? (fun l => decide (l.Name = s)) = none := by
   rw [List.findIdx?_eq_none_iff] at hf
   rw [List.find?_eq_none]; intro x hx; rw [hf x hx]; simp
  rw [this]; rfl
 | some j =>
  obtain ⟨hj, hp, hn⟩ := List.findIdx?_eq_some_iff_getElem.1 hf
  have : xs.find? (fun l => decide (l.Name = s)) = some xs[j] := by
   rw [List.find?_eq_some_iff_getElem]
   exact ⟨hp, j, hj, rfl, fun k hk => by have := hn k hk; simpa using this⟩
  rw [this]
  simp only
  have e : std.cmp .lss (j : Int) 0 = false := by rw [s_lss]; exact decide_eq_false (by omega)
  rw [e, br_false, Aai, ck_t (inbT hj), Abv (t := TyS.label) (List.getElem?_eq_getElem hj)]
/-! ### words of blocks -/
theorem Amg (s : ByteArray) : Agq std [⟨s, [], []⟩] = some (wordS s) := by
 unfold Agq
 have h0 : std.cmp .leq (std.len TyS.dfn [⟨s, [], []⟩]) 64 = true := rfl
 rw [h0, gd_t, Awl [⟨s, [], []⟩] (fun _ => !wordS s) _ (fun x hx => by
  obtain rfl := List.mem_singleton.1 hx
  unfold Ai6 An2
  have : Loop (Al6 std ⟨s, [], []⟩) 0 = some (wordS s) := by
   rw [Ado]
   unfold Al6
   simp only
   have h1 : std.cmp .lss 0 (std.len TyS.str []) = false := by decide
   rw [h1, br_false, An8, bd_some, Amf [] (fun _ => false) _ (fun x hx => by cases hx) (by decide), gd_b (fun _ => rfl), bd_some]
   have h2 : std.cmp .leq (std.len TyS.str []) 64 = true := by decide
   have h3 : std.cmp .eql (std.len TyS.str []) (std.len TyS.str []) = true := by decide
   rw [h2, h3]
   cases wordS s <;> rfl
  rw [this]
  rfl) (by simp [big63]), bd_some]
 cases wordS s <;> rfl
theorem Aoa (s : ByteArray) : Ajf std s = some (wordS s) := by unfold Ajf; rw [Amg]; rfl
theorem Asl (s : ByteArray) : Ahr std s = some (wordS s) := by unfold Ahr; rw [Amg]; rfl
theorem Anb (s : ByteArray) : Aht std s = some (wordS s) := by unfold Aht; rw [Amg]; rfl
end Go.PL
namespace Go.PL
set_option linter.unusedSimpArgs false
set_option linter.unusedVariables false
set_option linter.unusedSectionVars false
open Tys (Ty U)
open Enc (sz enc dflt tb ofB toB)
open Dec (dec dok)
set_option maxRecDepth 100000
/-! ### rules -/
def timeS (n : Int) : Bool := decide (0 ≤ n) && decide (n ≤ 1099511627776)
def Awq : ByteArray := ByteArray.mk (Array.mk [97, 108, 101, 114, 116])
def Ayv (xs : List Label) : Bool := xs.all fun l => !decide (l.Name = Awq)
def ruleS (r : Rule) : Bool := wordS r.Name && wordS r.Metric && decide (1 ≤ r.How) && decide (r.How ≤ 5) && timeS r.For && timeS r.Keep && decide (1 ≤ r.Tries) && decide (r.Tries ≤ 10) && decide (-1099511627776 ≤ r.Limit) && decide (r.Limit ≤ 1099511627776) && decide (r.Labels.length ≤ 4) && labelsS r.Labels && Ayv r.Labels
theorem Aob (n : Int) : Aks std n = some (timeS n) := rfl
theorem A31 {α : Type} {p : Nat → α → Bool} {xs : List α} : ∀ {i : Nat}, allI p i xs = true → ∀ x ∈ xs, ∃ j, p j x = true := by
 induction xs with
 | nil => intro i _ x hx; cases hx
 | cons y ys ih =>
  intro i h x hx
  simp only [allI, Bool.and_eq_true] at h
  rcases List.mem_cons.1 hx with rfl | hx
  ·exact ⟨i, h.1⟩
  ·exact ih h.2 x hx
theorem labelsS_mem {xs : List Label} (h : labelsS xs = true) : ∀ x ∈ xs, An9 x = true := by
 intro x hx
 simp only [labelsS, Bool.and_eq_true] at h
 obtain ⟨j, hj⟩ := A31 h.1 x hx
 simp only [ordP, Bool.and_eq_true] at hj
 exact hj.1
theorem A2k {xs : List Label} (h : labelsS xs = true) : decide ((match xs.find? (fun l => decide (l.Name = Awq)) with | some l => l.Value | none => ⟨#[]⟩) = ByteArray.mk (Array.mk [])) = Ayv xs := by
 unfold Ayv
 cases hf : xs.find? (fun l => decide (l.Name = Awq)) with
 | none =>
  rw [List.find?_eq_none] at hf
  have : (xs.all fun l => !decide (l.Name = Awq)) = true := by
   rw [List.all_eq_true]; intro x hx; have := hf x hx; simpa using this
  rw [this]; rfl
 | some l =>
  have hm := List.mem_of_find?_eq_some hf
  have hp := List.find?_some hf
  have : (xs.all fun l => !decide (l.Name = Awq)) = false := by
   rw [Bool.eq_false_iff]; intro h2
   rw [List.all_eq_true] at h2
   have := h2 l hm
   rw [hp] at this; cases this
  rw [this]
  have hl := labelsS_mem h l hm
  simp only [An9, As6, Bool.and_eq_true, decide_eq_true_eq] at hl
  apply decide_eq_false
  intro e
  have h1 : l.Value.size = 0 := by
   have : l.Value = ByteArray.mk (Array.mk []) := e
   rw [this]; rfl
  omega
theorem Anc (r : Rule) (h : Arh r) : Agr std r = some (ruleS r) := by
 unfold Agr
 rw [Aoa, bd_some, gd_b (fun _ => Aoa _), bd_some, Aob, bd_some, gd_b (fun _ => Aob _), bd_some]
 rw [gd_b (fun _ => Ana _ h.2.2), bd_some, gd_of (fun _ => Awp _ _ h.2.2.1), bd_some]
 simp only [s_land, s_geq, s_leq, s_seql]
 congr 1
 rw [show decide (((std.len TyS.label r.Labels : Int)) ≤ 4) = decide (r.Labels.length ≤ 4) from leN (b := 4)]
 unfold ruleS
 cases h1 : wordS r.Name <;> cases h2 : wordS r.Metric <;> cases h3 : timeS r.For <;> cases h4 : timeS r.Keep <;> simp only [Bool.true_and, Bool.false_and, Bool.and_false, Bool.and_true]
 generalize hg : (decide (1 ≤ r.How) && decide (r.How ≤ 5) && (decide (1 ≤ r.Tries) && decide (r.Tries ≤ 10)) && decide (-1099511627776 ≤ r.Limit) && decide (r.Limit ≤ 1099511627776) && decide (r.Labels.length ≤ 4)) = g
 have hg2 : (decide (1 ≤ r.How) && decide (r.How ≤ 5) && decide (1 ≤ r.Tries) && decide (r.Tries ≤ 10) && decide (-1099511627776 ≤ r.Limit) && decide (r.Limit ≤ 1099511627776) && decide (r.Labels.length ≤ 4)) = g := by rw [← hg]; simp only [Bool.and_assoc]
 rw [hg2]
 cases g with
 | false => rfl
 | true =>
  cases h5 : labelsS r.Labels with
  | false => rfl
  | true =>
   simp only [Bool.true_and, cond_true]
   exact A2k h5
theorem Amh (a b : Int) : decide (a < b) = !decide (b ≤ a) := by rw [Bool.eq_iff_iff]; simp
/-! ### hours -/
def hourS (h : Hours) : Bool := wordS h.Name && decide (1 ≤ h.Days) && decide (h.Days ≤ 127) && decide (0 ≤ h.From) && decide (h.From ≤ 1439) && decide (h.From < h.To) && decide (h.To ≤ 1440)
theorem Asm (h : Hours) : Agu std h = some (hourS h) := by
 have hw := An8 h.Name
 have e : Agu std h = bd (Ag1 std h.Name) fun w => some (std.and (std.and (std.and (std.and (std.and (std.and w (std.cmp .geq h.2 1)) (std.cmp .leq h.2 127)) (std.cmp .geq h.3 0)) (std.cmp .lss h.3 1440)) (std.cmp .gtr h.4 h.3)) (std.cmp .leq h.4 1440)) := by
  unfold Agu Ag1
  show bd (gd false _ (Aab std (std.s2b h.1) fun y0 => Ag0 std y0)) _ = _
  cases (gd false (std.and (std.scmp .neq h.1 (ByteArray.mk (Array.mk []))) (std.cmp .leq (std.slen h.1) 64)) (Aab std (std.s2b h.1) fun y0 => Ag0 std y0)) <;> rfl
 rw [e, hw, bd_some]
 unfold hourS
 congr 1
 simp only [s_land, s_geq, s_leq, s_gtr, s_lss]
 congr 3
 rw [Bool.eq_iff_iff]; simp; omega
end Go.PL
namespace Go.PL
set_option linter.unusedSimpArgs false
set_option linter.unusedVariables false
set_option linter.unusedSectionVars false
open Tys (Ty U)
open Enc (sz enc dflt tb ofB toB)
open Dec (dec dok)
set_option maxRecDepth 100000
def mwC (c : UInt8) : Bool := lowC c || upC c || digC c || barC c || inC 45 47 c || inC 58 58 c
def Apg (s : ByteArray) : Bool := (bytes s).all mwC && decide (s.size ≤ 64)
theorem A2l (l : List UInt8) (c : UInt8) : (0 : Int) ≤ Lib.indexByte l c ↔ l.contains c = true := by
 induction l with
 | nil => simp [Lib.indexByte]
 | cons b l ih =>
  have hg := Lib.indexByte_ge l c
  simp only [Lib.indexByte, List.contains_cons]
  by_cases h : b = c
  ·subst h; simp
  ·have h1 : (b == c) = false := by simpa using h
   have h2 : (c == b) = false := by simpa using fun e : c = b => h e.symm
   rw [h1, h2, Bool.false_or, ← ih]
   by_cases h3 : Lib.indexByte l c = -1
   ·simp [h3]
   ·have h4 : (Lib.indexByte l c == -1) = false := by simpa using h3
    rw [h4]
    simp
    omega
theorem index_ge (l : List UInt8) (c : UInt8) : decide ((0 : Int) ≤ Lib.indexByte l c) = l.contains c := by
 rw [Bool.eq_iff_iff, decide_eq_true_eq, A2l]
theorem A43 (c : UInt8) : ((c.toNat : Int)).toNat.toUInt8 = c := by
 rw [Int.toNat_natCast]
 exact UInt8.ofNat_toNat
theorem eqC (c : UInt8) (n : UInt8) : (c == n) = decide (c.toNat = n.toNat) := by
 rw [Bool.eq_iff_iff]; simp [← UInt8.toNat_inj]
theorem A32 (c : UInt8) : Ahe std (c.toNat : Int) = some (mwC c) := by
 unfold Ahe
 have h0 : std.or (std.or (std.and (std.cmp .geq (c.toNat : Int) 97) (std.cmp .leq (c.toNat : Int) 122)) (std.and (std.cmp .geq (c.toNat : Int) 65) (std.cmp .leq (c.toNat : Int) 90))) (std.and (std.cmp .geq (c.toNat : Int) 48) (std.cmp .leq (c.toNat : Int) 57)) = (lowC c || upC c || digC c) := by
  rw [Bool.eq_iff_iff]; simp [lowC, upC, digC, inC]; omega
 rw [h0]
 have h1 : strings_IndexByte std (ByteArray.mk (Array.mk [95, 45, 46, 47, 58])) (c.toNat : Int) = some (Lib.indexByte [95, 45, 46, 47, 58] c) := by
  unfold strings_IndexByte; rw [A43]
 have h2 : [95, 45, 46, 47, 58].contains c = (barC c || inC 45 47 c || inC 58 58 c) := by
  simp only [List.contains_cons, eqC, List.contains_nil]
  rw [Bool.eq_iff_iff]; simp [barC, inC]; omega
 rw [h1]
 unfold mwC
 cases h : (lowC c || upC c || digC c) with
 | true => rfl
 | false =>
  simp only [s_not, Bool.not_false, gd_t, bd_some, s_geq, index_ge, h2, s_lor, Bool.false_or]
theorem Ami (s : ByteArray) : Aez std s = some (Apg s) := by
 unfold Aez
 rw [show std.cmp .leq (std.slen s) 64 = decide (s.size ≤ 64) by rw [s_leq, As1]; exact leN (b := 64)]
 unfold Apg
 by_cases h : s.size ≤ 64
 ·rw [decide_eq_true h, gd_t, Azu, Ali _ (fun c => !mwC c) _ (fun c _ => by
   unfold Ah3; rw [A32]; rfl) (by rw [Aek]; unfold big63; omega), bd_some, Bool.and_true, List.all_eq_not_any_not]
  rfl
 ·rw [decide_eq_false h, gd_f, bd_some, Bool.and_false]; rfl
theorem Alk (s : ByteArray) (hs : fitS s) : Ady std [⟨s, ByteArray.mk (Array.mk [120])⟩] = some (nameS s) := by
 rw [Ana _ ⟨by simp [big63], fun x hx => by obtain rfl := List.mem_singleton.1 hx; exact ⟨hs, by show (1 : Nat) ≤ big63; simp [big63]⟩⟩]
 have hv : As6 (ByteArray.mk (Array.mk [120])) = true := by decide
 simp only [labelsS, allI, ordP, An9, hv, Bool.and_true, decide_true, Bool.true_or, List.length_singleton]
 rw [show decide (1 ≤ 8) = true from rfl, Bool.and_true]
def As7 (may : ByteArray → Bool) (xs : List ByteArray) : Bool := allI (ordP may (fun x => x) xs) 0 xs
def Aia (m : Matcher) : Bool := As7 Apg m.Words && (nameS m.Name && decide (1 ≤ m.How) && decide (m.How ≤ 4) && decide (1 ≤ m.Words.length) && decide (m.Words.length ≤ 8) && (decide (2 < m.How) || decide (m.Words.length = 1)))
theorem Azv (n : Int) : (lookI std n [(1, ByteArray.mk (Array.mk [61])), (2, ByteArray.mk (Array.mk [33, 61])), (3, ByteArray.mk (Array.mk [61, 126])), (4, ByteArray.mk (Array.mk [33, 126]))] (ByteArray.mk (Array.mk []))).2 = (decide (1 ≤ n) && decide (n ≤ 4)) := by
 simp only [lookI, s_eql]
 by_cases h1 : n = 1
 ·subst h1; rfl
 by_cases h2 : n = 2
 ·subst h2; rfl
 by_cases h3 : n = 3
 ·subst h3; rfl
 by_cases h4 : n = 4
 ·subst h4; rfl
 rw [beq_false_of_ne h1, beq_false_of_ne h2, beq_false_of_ne h3, beq_false_of_ne h4]
 simp only
 rw [eq_comm, Bool.and_eq_false_iff]
 simp only [decide_eq_false_iff_not]
 omega
theorem Ai3 (m : Matcher) (h : Aew m) : Acs std m = some (Aia m) := by
 have hge : std.cmp .geq (std.len TyS.str m.Words) 1 = decide (1 ≤ m.Words.length) := by rw [s_geq, Aai]; exact leN (a := 1)
 have hle : std.cmp .leq (std.len TyS.str m.Words) 8 = decide (m.Words.length ≤ 8) := Ari (t := TyS.str) m.Words 8
 have hle1 : std.cmp .leq (std.len TyS.str m.Words) 1 = decide (m.Words.length ≤ 1) := Ari (t := TyS.str) m.Words 1
 unfold Acs Aia
 rw [s_gtr]
 by_cases h2 : 2 < m.How
 ·rw [decide_eq_true h2, Abd, Bool.true_or, Bool.and_true]
  refine Ajg (t := TyS.str) (B := Alr std m) (fun i => i) m.Words h.2.1 (ordP Apg (fun x => x) m.Words) _ _ _ (fun i => rfl)
   (fun i x hx hi => Aiq (t := TyS.str) m.Words (Aez std) Apg (fun x => x) h.2.1 (fun i => i) i x hx (Ami x)) (fun _ => ?_) (fun _ => ?_)
  all_goals
   have hout : (bd (Adf std) fun w4 =>
    bd (some (lookI std m.2 [(1, ByteArray.mk (Array.mk [61])), (2, ByteArray.mk (Array.mk [33, 61])), (3, ByteArray.mk (Array.mk [61, 126])), (4, ByteArray.mk (Array.mk [33, 126]))] (ByteArray.mk (Array.mk [])))) fun w5 =>
    bd (gd false (w5.2) (Ady std [Label.mk m.1 (ByteArray.mk (Array.mk [120]))])) fun w6 =>
    some (std.and (std.and (std.and w5.2 w6) (std.cmp .geq (std.len TyS.str m.3) 1)) (std.cmp .leq (std.len TyS.str m.3) 8))) = some (nameS m.Name && decide (1 ≤ m.How) && decide (m.How ≤ 4) && decide (1 ≤ m.Words.length) && decide (m.Words.length ≤ 8)) := by
    unfold Adf
    rw [bd_some, bd_some, Alk _ h.1, gd_b (fun _ => rfl), bd_some, Azv, hge, hle]
    simp only [s_land]
    cases decide (1 ≤ m.How) <;> cases decide (m.How ≤ 4) <;> cases nameS m.Name <;> rfl
  ·exact hout
  ·exact ⟨_, hout⟩
 ·rw [decide_eq_false h2, br_false, Bool.false_or]
  refine Ajg (t := TyS.str) (B := Als std m) (fun i => i) m.Words h.2.1 (ordP Apg (fun x => x) m.Words) _ _ _ (fun i => rfl)
   (fun i x hx hi => Aiq (t := TyS.str) m.Words (Aez std) Apg (fun x => x) h.2.1 (fun i => i) i x hx (Ami x)) (fun _ => ?_) (fun _ => ?_)
  all_goals
   have hout : (bd (Adf std) fun w4 =>
    bd (some (lookI std m.2 [(1, ByteArray.mk (Array.mk [61])), (2, ByteArray.mk (Array.mk [33, 61])), (3, ByteArray.mk (Array.mk [61, 126])), (4, ByteArray.mk (Array.mk [33, 126]))] (ByteArray.mk (Array.mk [])))) fun w5 =>
    bd (gd false (w5.2) (Ady std [Label.mk m.1 (ByteArray.mk (Array.mk [120]))])) fun w6 =>
    some (std.and (std.and (std.and w5.2 w6) (std.cmp .geq (std.len TyS.str m.3) 1)) (std.cmp .leq (std.len TyS.str m.3) 1))) = some (nameS m.Name && decide (1 ≤ m.How) && decide (m.How ≤ 4) && decide (1 ≤ m.Words.length) && decide (m.Words.length ≤ 8) && decide (m.Words.length = 1)) := by
    unfold Adf
    rw [bd_some, bd_some, Alk _ h.1, gd_b (fun _ => rfl), bd_some, Azv, hge, hle1]
    simp only [s_land]
    have e : (decide (1 ≤ m.Words.length) && decide (m.Words.length ≤ 1)) = (decide (1 ≤ m.Words.length) && decide (m.Words.length ≤ 8) && decide (m.Words.length = 1)) := by
     rw [Bool.eq_iff_iff]; simp only [Bool.and_eq_true, decide_eq_true_eq]; omega
    simp only [Bool.and_assoc] at e ⊢
    rw [e]
    cases decide (1 ≤ m.How) <;> cases decide (m.How ≤ 4) <;> cases nameS m.Name <;> rfl
  ·exact hout
  ·exact ⟨_, hout⟩
def Ad3 (xs : List Matcher) : Bool := xs.all Aia && decide (xs.length ≤ 8)
theorem Ajz (xs : List Matcher) (h : fitL Aew xs) : Abn std xs 8 (fun y0 => Acs std y0) = some (Ad3 xs) := by
 rw [Ayu xs 8 Aia _ (fun _ x hx => Ai3 x (h.2 x hx)) (by decide)]
 unfold Ad3
 rw [Bool.and_comm]
 congr 2
 exact leN (b := 8)
def Afs (x : Inhibit) : Bool := As7 nameS x.Equal && (decide (0 < x.Source.length) && decide (0 < x.Target.length) && decide (x.Equal.length ≤ 8) && Ad3 x.Source && Ad3 x.Target)
theorem Aoc (x : Inhibit) (h : Ah1 x) : Aer std x = some (Afs x) := by
 unfold Aer Afs
 have g1 : std.cmp .gtr (std.len TyS.matcher x.Source) 0 = decide (0 < x.Source.length) := by rw [s_gtr, Aai, Bool.eq_iff_iff]; simp
 have g2 : std.cmp .gtr (std.len TyS.matcher x.Target) 0 = decide (0 < x.Target.length) := by rw [s_gtr, Aai, Bool.eq_iff_iff]; simp
 have g3 : std.cmp .leq (std.len TyS.str x.Equal) 8 = decide (x.Equal.length ≤ 8) := Ari (t := TyS.str) x.Equal 8
 have hout : (bd (gd false (std.and (std.and (std.cmp .gtr (std.len TyS.matcher x.1) 0) (std.cmp .gtr (std.len TyS.matcher x.2) 0)) (std.cmp .leq (std.len TyS.str x.3) 8)) (Abn std x.1 8 fun y0 => Acs std y0)) fun w4 =>
    bd (gd false (std.and (std.and (std.and (std.cmp .gtr (std.len TyS.matcher x.1) 0) (std.cmp .gtr (std.len TyS.matcher x.2) 0)) (std.cmp .leq (std.len TyS.str x.3) 8)) w4) (Abn std x.2 8 fun y0 => Acs std y0)) fun w5 =>
    some (std.and (std.and (std.and (std.and (std.cmp .gtr (std.len TyS.matcher x.1) 0) (std.cmp .gtr (std.len TyS.matcher x.2) 0)) (std.cmp .leq (std.len TyS.str x.3) 8)) w4) w5)) = some (decide (0 < x.Source.length) && decide (0 < x.Target.length) && decide (x.Equal.length ≤ 8) && Ad3 x.Source && Ad3 x.Target) := by
  rw [g1, g2, g3, gd_b (fun _ => Ajz _ h.1), bd_some, gd_b (fun _ => Ajz _ h.2.1), bd_some]
  simp only [s_land]
  cases decide (0 < x.Source.length) <;> cases decide (0 < x.Target.length) <;> cases decide (x.Equal.length ≤ 8) <;> cases Ad3 x.Source <;> rfl
 exact Ajg (t := TyS.str) (B := Aj9 std x) (fun i => i) x.Equal h.2.2.1 (ordP nameS (fun x => x) x.Equal) _ _ _ (fun i => rfl)
  (fun i y hy hi => by
   refine Eq.trans ?_ (Aiq (t := TyS.str) x.Equal (fun y => some (nameS y)) nameS (fun x => x) h.2.2.1 (fun i => i) i y hy rfl)
   have hg : std.get TyS.str x.Equal (i : Int) = y := Abv (t := TyS.str) hy
   rw [hg, Alk _ (h.2.2.2 y (Afd hy))]) (fun _ => hout) (fun _ => ⟨_, hout⟩)
end Go.PL
namespace Go.PL
set_option linter.unusedSimpArgs false
set_option linter.unusedVariables false
set_option linter.unusedSectionVars false
open Tys (Ty U)
open Enc (sz enc dflt tb ofB toB)
open Dec (dec dok)
set_option maxRecDepth 100000
inductive RouteFit : Route → Prop where
 | mk (r : Route) (h1 : fitS r.Receiver) (h2 : fitL Aew r.Match) (h3 : fitL fitS r.By) (h4 : fitL fitS r.Mute) (h5 : r.Routes.length ≤ big63) (h6 : ∀ k ∈ r.Routes, RouteFit k) : RouteFit r
theorem Amu {r k : Route} (h : k ∈ r.Routes) : SizeOf.sizeOf k < SizeOf.sizeOf r := by
 have := List.sizeOf_lt_of_mem h
 cases r
 simp only [Route.mk.sizeOf_spec] at this ⊢
 omega
theorem A33 {α : Type} (a b : Nat → α → Bool) (xs : List α) : ∀ i, allI (fun i x => a i x && b i x) i xs = (allI a i xs && allI b i xs) := by
 induction xs with
 | nil => intro i; rfl
 | cons x xs ih =>
  intro i
  simp only [allI, ih]
  cases a i x <;> cases b i x <;> cases allI a (i + 1) xs <;> rfl
def ascP (xs : List ByteArray) (i : Nat) (x : ByteArray) : Bool := decide (i = 0) || match xs[i - 1]? with | some y => lessS y x | none => false
def ascS (xs : List ByteArray) : Bool := allI (ascP xs) 0 xs
theorem A2m (may : ByteArray → Bool) (xs : List ByteArray) : As7 may xs = (xs.all may && ascS xs) := by
 have e : ∀ i x, ordP may (fun x => x) xs i x = (may x && ascP xs i x) := fun i x => by
  unfold ordP ascP
  cases xs[i - 1]? <;> rfl
 have : As7 may xs = allI (fun i x => may x && ascP xs i x) 0 xs := congrArg (fun p => allI p 0 xs) (funext fun i => funext fun x => e i x)
 rw [this, A33 (fun _ x => may x), A30]
 rfl
def Aph (may : ByteArray → Bool) (xs : List ByteArray) : Bool := As7 may xs && decide (xs.length ≤ 8)
theorem Akz (xs : List ByteArray) (h : fitL fitS xs) (q : ByteArray → Option Bool) (may : ByteArray → Bool) (hq : ∀ x ∈ xs, q x = some (may x)) : Aff std xs q = some (Aph may xs) := by
 unfold Aff Aph
 have hout : some (std.cmp .leq (std.len TyS.str xs) 8) = some (decide (xs.length ≤ 8)) := congrArg some (Ari (t := TyS.str) xs 8)
 exact Ajg (t := TyS.str) (B := Akv std xs q) (fun i => (false, i)) xs h.1 (ordP may (fun x => x) xs) _ _ _ (fun i => rfl)
  (fun i x hx hi => Aiq (t := TyS.str) xs q may (fun x => x) h.1 (fun i => (false, i)) i x hx (hq x (Afd hx))) (fun _ => hout) (fun _ => ⟨_, hout⟩)
theorem Asn (s : ByteArray) (h : fitS s) : Ajs std s = some (nameS s) := by
 unfold Ajs; rw [Alk s h]; rfl
def fromS (lo n : Int) : Bool := decide (lo ≤ n) && decide (n ≤ 1099511627776)
theorem Amj (lo : Int) (l : List Int) (h : l.length ≤ big63) : Ag3 std lo l = some (l.all (fromS lo)) := by
 unfold Ag3
 rw [Awn l (fun n => !fromS lo n) (fun y0 => Agi std y0 lo) (fun x _ => by
  unfold Agi
  congr 1
  simp only [s_lor, s_lss, s_gtr, Amh, fromS]
  cases decide (lo ≤ x) <;> cases decide (x ≤ 1099511627776) <;> rfl) h, bd_some, List.all_eq_not_any_not]
 rfl
def oneS (r : Route) : Bool := wordS r.Receiver && Ad3 r.Match && decide (r.Routes.length ≤ 16) && Aph nameS r.By && Aph wordS r.Mute && fromS 0 r.Wait && fromS 1 r.Every && fromS 1 r.Repeat
def Afe : Nat → Route → Bool
 | 0, _ => false
 | d + 1, r => oneS r && r.Routes.all (Afe d)
theorem Aj0 {α : Type} (p : α → Bool) (xs : List α) : (xs.any fun x => !p x) = !xs.all p := by
 rw [List.all_eq_not_any_not]; simp
theorem Ayw {t : Ty} (xs : List (U t)) (n : Nat) : std.cmp .gtr (std.len t xs) (n : Int) = !decide (xs.length ≤ n) := by rw [s_gtr, Amh, Aai, leN]
theorem Aod : ∀ (n : Nat) (r : Route) (d : Nat), SizeOf.sizeOf r < n → RouteFit r → d ≤ 100 → Ag4 std n r (d : Int) = some (Afe d r)
 | 0, r, d, h, _, _ => by omega
 | n + 1, r, d, h, hf, hd => by
  obtain ⟨_, h1, h2, h3, h4, h5, h6⟩ := hf
  show Aik std (Ag4 std n) r (d : Int) = _
  unfold Aik
  have hz : std.cmp .eql (d : Int) 0 = decide (d = 0) := by rw [s_eql, Bool.eq_iff_iff]; simp
  rw [hz, gd_b (fun _ => Anb _), bd_some]
  have g8 : std.cmp .gtr (std.len TyS.matcher r.Match) 8 = !decide (r.Match.length ≤ 8) := Ayw (t := TyS.matcher) r.Match 8
  have g16 : std.cmp .gtr (std.len TyS.route r.Routes) 16 = !decide (r.Routes.length ≤ 16) := Ayw (t := TyS.route) r.Routes 16
  rw [g8, g16]
  rw [gd_b (fun _ => Ai2 r.Match (fun m => !Aia m) (fun y0 => Aii std y0) (fun m hm => by unfold Aii; rw [Ai3 m (h2.2 m hm)]; rfl) h2.1), bd_some, Aj0]
  rw [Akz r.By h3 _ nameS (fun x hx => Asn x (h3.2 x hx)), bd_some, gd_b (fun _ => Akz r.Mute h4 _ wordS (fun x hx => Anb x)), bd_some]
  rw [gd_b (fun _ => Amj 0 [r.Wait] (by simp [big63])), bd_some, gd_b (fun _ => Amj 1 [r.Every, r.Repeat] (by simp [big63])), bd_some]
  cases d with
  | zero => rfl
  | succ d =>
   have e1 : std.ar .sub .i64 ((d + 1 : Nat) : Int) 1 = (d : Int) := by rw [prevI (by omega) (by unfold big63; omega)]; rfl
   rw [Am9 r.Routes (fun k => !Afe d k) (fun y0 => Aij std (Ag4 std n) y0 ((d + 1 : Nat) : Int)) (fun k hk => by
    unfold Aij
    rw [e1, Aod n k d (by have := Amu hk; omega) (h6 k hk) (by omega)]
    rfl) h5, bd_some, Aj0]
   simp only [Afe, oneS, Ad3, List.all_cons, List.all_nil, Bool.and_true, s_not, s_lor, Nat.succ_ne_zero, decide_false, Bool.not_false, Bool.true_and, Bool.false_or]
   generalize wordS r.Receiver = b1
   generalize decide (r.Match.length ≤ 8) = b2
   generalize r.Match.all Aia = b3
   generalize decide (r.Routes.length ≤ 16) = b4
   generalize Aph nameS r.By = b5
   generalize Aph wordS r.Mute = b6
   generalize fromS 0 r.Wait = b7
   generalize fromS 1 r.Every = b8
   generalize fromS 1 r.Repeat = b9
   generalize r.Routes.all (Afe d) = b10
   cases b1
   ·rfl
   cases b2
   ·cases b3 <;> rfl
   cases b3
   ·rfl
   cases b4
   ·rfl
   cases b5
   ·rfl
   cases b6
   ·rfl
   cases b7
   ·rfl
   cases b8
   ·rfl
   cases b9
   ·rfl
   cases b10 <;> rfl
theorem Arj (r : Route) (h : RouteFit r) : Ail std r = some (Afe 4 r) := by
 unfold Ail Aov
 have := Aod (SizeOf.sizeOf r + 1) r 4 (by omega) h (by omega)
 rw [show ((4 : Int)) = ((4 : Nat) : Int) from rfl, this]
 rfl
end Go.PL
namespace Go.PL
set_option linter.unusedSimpArgs false
set_option linter.unusedVariables false
set_option linter.unusedSectionVars false
open Tys (Ty U)
open Enc (sz enc dflt tb ofB toB)
open Dec (dec dok)
set_option maxRecDepth 100000
def allD : Nat → Route → List Route
 | 0, r => [r]
 | d + 1, r => r :: (r.Routes.map (allD d)).flatten
theorem Ah2 {d : Nat} {r : Route} (h : Afe (d + 1) r = true) : r.Routes.length ≤ 16 ∧ ∀ k ∈ r.Routes, Afe d k = true := by
 simp only [Afe, oneS, Bool.and_eq_true, decide_eq_true_eq, List.all_eq_true] at h
 exact ⟨h.1.1.1.1.1.1.2, h.2⟩
theorem A0w {d : Nat} {r : Route} (h : Afe d r = true) : ∃ e, d = e + 1 := by
 cases d with
 | zero => cases h
 | succ e => exact ⟨e, rfl⟩
theorem As8 {α : Type} (m : Nat) : ∀ (l : List (List α)), (∀ x ∈ l, x.length ≤ m) → l.flatten.length ≤ l.length * m
 | [], _ => by simp
 | x :: l, h => by
  have h1 := h x (List.mem_cons_self ..)
  have h2 := As8 m l fun y hy => h y (List.mem_cons_of_mem _ hy)
  simp only [List.flatten_cons, List.length_append, List.length_cons, Nat.succ_mul]
  omega
theorem Ayx : ∀ (d : Nat) (r : Route), Afe d r = true → (allD d r).length ≤ 17 ^ d
 | 0, r, h => by cases h
 | d + 1, r, h => by
  obtain ⟨h1, h2⟩ := Ah2 h
  have h3 := As8 (17 ^ d) (r.Routes.map (allD d)) (by
   intro x hx
   obtain ⟨k, hk, rfl⟩ := List.mem_map.1 hx
   exact Ayx d k (h2 k hk))
  simp only [allD, List.length_cons]
  rw [List.length_map] at h3
  have h4 : r.Routes.length * 17 ^ d ≤ 16 * 17 ^ d := Nat.mul_le_mul_right _ h1
  have h5 : 0 < 17 ^ d := Nat.pow_pos (by decide)
  rw [Nat.pow_succ]
  omega
theorem pow17 {d : Nat} (h : d ≤ 4) : 17 ^ d ≤ 83521 := by
 have : d = 0 ∨ d = 1 ∨ d = 2 ∨ d = 3 ∨ d = 4 := by omega
 rcases this with rfl | rfl | rfl | rfl | rfl <;> decide
theorem Amk {α β : Type} (f : α → List β) {xs : List α} {i : Nat} {x : α} (h : xs[i]? = some x) : ((xs.take (i + 1)).map f).flatten = ((xs.take i).map f).flatten ++ f x := by
 have hi := Ah9 h
 rw [List.take_add_one, h]
 simp
theorem Awr {α β : Type} (f : α → List β) (xs : List α) (i : Nat) : ((xs.take i).map f).flatten.length ≤ (xs.map f).flatten.length := by
 have : (xs.map f).flatten = ((xs.take i).map f).flatten ++ ((xs.drop i).map f).flatten := by
  rw [← List.flatten_append, ← List.map_append, List.take_append_drop]
 rw [this, List.length_append]
 omega
theorem Ak0 : ∀ (n : Nat) (r : Route) (d : Nat), SizeOf.sizeOf r < n → Afe d r = true → d ≤ 4 → Afg std n r = some ((allD d r).length : Int)
 | 0, r, d, h, _, _ => by omega
 | n + 1, r, 0, h, hs, hd => by cases hs
 | n + 1, r, d + 1, h, hs, hd => by
  obtain ⟨h1, h2⟩ := Ah2 hs
  have hle := Ayx (d + 1) r hs
  have hp := pow17 hd
  show Agj std (Afg std n) r = _
  unfold Agj
  have hl : r.Routes.length ≤ big63 := by unfold big63; omega
  have := Ap5 (B := Af6 std (Afg std n) r) (fun i (m : Nat) => ((m : Int), (i : Int))) r.Routes (fun i k m => (.inl (m + (allD d k).length) : Nat ⊕ Int)) (fun m => (m : Int)) (fun i m => m = 1 + ((r.Routes.take i).map (allD d)).flatten.length)
   (fun i k m hk hm => by
    have hi := Ah9 hk
    have hpart := Awr (allD d) r.Routes (i + 1)
    rw [Amk _ hk, List.length_append] at hpart
    have htot : (allD (d + 1) r).length = 1 + (r.Routes.map (allD d)).flatten.length := by simp only [allD, List.length_cons]; omega
    refine ⟨fun m' hm' => ?_, fun e he => by cases he⟩
    cases hm'
    refine ⟨?_, by rw [Amk _ hk, List.length_append]; omega⟩
    unfold Af6
    simp only
    rw [Aai, lssT hi, Abd, ck_t (inbT hi), Abv (t := TyS.route) hk, Ak0 n k d (by have := Amu (Afd hk); omega) (h2 k (Afd hk)) (by omega), bd_some, s_add, s_add, wrap_succ hi hl, w64 (by omega)]
    rfl)
   (fun m hm => by
    unfold Af6
    simp only
    rw [Aai, lssF, br_false]
    rfl) 1 (by simp)
  refine this.trans ?_
  congr 1
  have key : ∀ (xs : List Route) (i m : Nat), runL (fun i k m => (.inl (m + (allD d k).length) : Nat ⊕ Int)) (fun m => (m : Int)) i xs m = ((m + (xs.map (allD d)).flatten.length : Nat) : Int) := by
   intro xs
   induction xs with
   | nil => intro i m; simp [runL]
   | cons x xs ih => intro i m; simp only [runL, ih, List.map_cons, List.flatten_cons, List.length_append]; congr 1; omega
  rw [key]
  simp only [allD, List.length_cons]
  congr 1
  omega
theorem routes_Count_eq (r : Route) (h : Afe 4 r = true) : Al8 std r = some ((allD 4 r).length : Int) := Ak0 _ r 4 (by omega) h (by omega)
theorem Aws (r : Route) : Route.mk r.1 r.2 r.3 r.4 r.5 r.6 r.7 r.8 r.9 = r := by cases r; rfl
end Go.PL
namespace Go.PL
set_option linter.unusedSimpArgs false
set_option linter.unusedVariables false
set_option linter.unusedSectionVars false
open Tys (Ty U)
open Enc (sz enc dflt tb ofB toB)
open Dec (dec dok)
set_option maxRecDepth 100000
theorem A44 (xs : List ByteArray) (s : ByteArray) (h : xs.length ≤ big63) : Acd std xs s = some (fnd xs fun y => decide (s = y)) := by
 unfold Acd
 refine Eq.trans ?_ (Ahj (t := TyS.str) xs (fun y => decide (s = y)) (fun y => some (decide (s = y))) (fun _ _ => rfl) h)
 refine congrArg (fun B => Loop B 0) (funext fun i => ?_)
 unfold Ae9
 dsimp only
 rw [s_seql]
 rfl
theorem As9 (xs : List ByteArray) (s : ByteArray) (h : xs.length ≤ big63) : Aav std xs s = some (xs.any fun y => decide (s = y)) := by
 unfold Aav
 rw [A44 xs s h, bd_some, s_geq, Ahk]
def Agx (c : List ByteArray) (x : ByteArray) : List ByteArray := if (c.any fun y => decide (x = y)) = true then c else c ++ [x]
theorem Ata (c : List ByteArray) (x : ByteArray) : (Agx c x).length ≤ c.length + 1 := by
 unfold Agx; split
 ·omega
 ·simp
theorem Ark : ∀ (l c : List ByteArray), (l.foldl Agx c).length ≤ c.length + l.length
 | [], c => by simp
 | x :: l, c => by
  have h1 := Ark l (Agx c x)
  have h2 := Ata c x
  simp only [List.foldl_cons, List.length_cons]
  omega
def gatherL (ofr : Route → List ByteArray) (l : List Route) (c : List ByteArray) : List ByteArray := l.foldl (fun c r => (ofr r).foldl Agx c) c
theorem Atb (ofr : Route → List ByteArray) : ∀ (l : List Route) (c : List ByteArray), (∀ k ∈ l, (ofr k).length ≤ 16) → (gatherL ofr l c).length ≤ c.length + 16 * l.length
 | [], c, _ => by simp [gatherL]
 | k :: l, c, h => by
  have h1 := Atb ofr l ((ofr k).foldl Agx c) fun k hk => h k (List.mem_cons_of_mem _ hk)
  have h2 := Ark (ofr k) c
  have h3 := h k (List.mem_cons_self ..)
  simp only [gatherL, List.foldl_cons, List.length_cons] at h1 ⊢
  omega
theorem gatherL_append (ofr : Route → List ByteArray) (a b : List Route) (c : List ByteArray) : gatherL ofr (a ++ b) c = gatherL ofr b (gatherL ofr a c) := List.foldl_append ..
theorem Arl (q : Route → Option (List ByteArray)) (ofr : Route → List ByteArray) : ∀ (n : Nat) (r : Route) (d : Nat) (c : List ByteArray), SizeOf.sizeOf r < n → Afe d r = true → d ≤ 4 → (∀ k ∈ allD d r, q k = some (ofr k) ∧ (ofr k).length ≤ 16) →
  c.length + 16 * (allD d r).length ≤ 1000000000 → Aa2 std q n r c = some (gatherL ofr (allD d r) c)
 | 0, r, d, c, h, _, _, _, _ => by omega
 | n + 1, r, 0, c, h, hs, hd, _, _ => by cases hs
 | n + 1, r, d + 1, c, h, hs, hd, hq, hc => by
  obtain ⟨h1, h2⟩ := Ah2 hs
  obtain ⟨hq0, hl0⟩ := hq r (by simp [allD])
  have htot : (allD (d + 1) r).length = 1 + (r.Routes.map (allD d)).flatten.length := by simp only [allD, List.length_cons]; omega
  show Aby std (Aa2 std q n) r q c = _
  unfold Aby
  rw [hq0, bd_some]
  have hlr : r.Routes.length ≤ big63 := by unfold big63; omega
  have hlo : (ofr r).length ≤ big63 := by unfold big63; omega
  -- those within it
  have inner : ∀ c1 : List ByteArray, c1.length ≤ c.length + 16 → Loop (Ab5 std (Aa2 std q n) r) (((0 : Nat) : Int), c1) = some (gatherL ofr ((r.Routes.map (allD d)).flatten) c1) := by
   intro c1 hc1
   have := Ap5 (B := Ab5 std (Aa2 std q n) r) (fun i (m : List ByteArray) => ((i : Int), m)) r.Routes (fun i k m => (.inl (gatherL ofr (allD d k) m) : List ByteArray ⊕ List ByteArray)) (fun m => m) (fun i m => m.length ≤ c1.length + 16 * ((r.Routes.take i).map (allD d)).flatten.length)
    (fun i k m hk hm => by
     have hi := Ah9 hk
     have hpart := Awr (allD d) r.Routes (i + 1)
     rw [Amk _ hk, List.length_append] at hpart
     have hmem : ∀ y ∈ allD d k, y ∈ allD (d + 1) r := fun y hy => by
      simp only [allD, List.mem_cons, List.mem_flatten, List.mem_map]
      exact .inr ⟨_, ⟨k, Afd hk, rfl⟩, hy⟩
     have hle := Atb ofr (allD d k) m fun y hy => (hq y (hmem y hy)).2
     refine ⟨fun m' hm' => ?_, fun e he => by cases he⟩
     cases hm'
     refine ⟨?_, by rw [Amk _ hk, List.length_append]; omega⟩
     unfold Ab5
     simp only
     rw [Aai, lssT hi, Abd, ck_t (inbT hi), Abv (t := TyS.route) hk, Arl q ofr n k d m (by have := Amu (Afd hk); omega) (h2 k (Afd hk)) (by omega) (fun y hy => hq y (hmem y hy)) (by omega), bd_some, s_add, wrap_succ hi hlr])
    (fun m hm => by
     unfold Ab5
     simp only
     rw [Aai, lssF, br_false]
     rfl) c1 (by simp)
   refine this.trans ?_
   congr 1
   have key : ∀ (xs : List Route) (i : Nat) (m : List ByteArray), runL (fun i k m => (.inl (gatherL ofr (allD d k) m) : List ByteArray ⊕ List ByteArray)) (fun m => m) i xs m = gatherL ofr ((xs.map (allD d)).flatten) m := by
    intro xs
    induction xs with
    | nil => intro i m; simp [runL, gatherL]
    | cons x xs ih => intro i m; simp only [runL, ih, List.map_cons, List.flatten_cons, gatherL_append]
   exact key _ _ _
  have := Ap5 (B := Acu std (Aa2 std q n) r (ofr r)) (fun i (m : List ByteArray) => ((i : Int), m)) (ofr r) (fun i x m => (.inl (Agx m x) : List ByteArray ⊕ List ByteArray)) (fun m => gatherL ofr ((r.Routes.map (allD d)).flatten) m) (fun i m => m.length ≤ c.length + i)
   (fun i x m hx hm => by
    have hi := Ah9 hx
    have hle := Ata m x
    refine ⟨fun m' hm' => ?_, fun e he => by cases he⟩
    cases hm'
    refine ⟨?_, by omega⟩
    unfold Acu
    simp only
    rw [Aai, lssT hi, Abd, ck_t (inbT hi), Abv (t := TyS.str) hx, As9 m x (by unfold big63; omega), bd_some, s_add, wrap_succ hi hlo]
    unfold Agx
    cases hc : (m.any fun y => decide (x = y)) with
    | true => rfl
    | false =>
     rw [s_not, Bool.not_false, Abd, ck_t (show std.appOk TyS.str 16 m [x] from ⟨by simp; omega, by simp; omega⟩)]
     rfl)
   (fun m hm => by
    unfold Acu
    simp only
    rw [Aai, lssF, br_false]
    have hin := inner m (by omega)
    show rt (Loop _ _) = _
    rw [show ((0 : Int), m) = (((0 : Nat) : Int), m) from rfl, hin]
    rfl) c (by simp)
  refine this.trans ?_
  congr 1
  have key : ∀ (xs : List ByteArray) (i : Nat) (m : List ByteArray), runL (fun i x m => (.inl (Agx m x) : List ByteArray ⊕ List ByteArray)) (fun m => gatherL ofr ((r.Routes.map (allD d)).flatten) m) i xs m = gatherL ofr ((r.Routes.map (allD d)).flatten) (xs.foldl Agx m) := by
   intro xs
   induction xs with
   | nil => intro i m; rfl
   | cons x xs ih => intro i m; simp only [runL, ih, List.foldl_cons]
  rw [key]
  rfl
theorem Names_eq (r : Route) (hs : Afe 4 r = true) : Aim std r = some (gatherL (fun k => [k.Receiver]) (allD 4 r) [], gatherL (·.Mute) (allD 4 r) []) := by
 have hle := Ayx 4 r hs
 have hp := pow17 (d := 4) (by omega)
 have hmute : ∀ (d : Nat) (r : Route), Afe d r = true → ∀ k ∈ allD d r, k.Mute.length ≤ 8 := by
  intro d
  induction d with
  | zero => intro r h; cases h
  | succ d ih =>
   intro r h k hk
   have h0 := h
   obtain ⟨h1, h2⟩ := Ah2 h
   simp only [allD, List.mem_cons, List.mem_flatten, List.mem_map] at hk
   rcases hk with rfl | ⟨_, ⟨x, hx, rfl⟩, hk⟩
   ·simp only [Afe, oneS, Aph, Bool.and_eq_true, decide_eq_true_eq] at h0
    exact h0.1.1.1.1.2.2
   ·exact ih x (h2 x hx) k hk
 unfold Aim Ac2 Afl
 rw [Arl (fun y0 => Ah4 std y0) (fun k => [k.Receiver]) _ r 4 [] (by omega) hs (by omega) (fun k _ => ⟨rfl, by simp⟩) (by simp; omega), bd_some, bd_some]
 rw [Arl (fun y0 => Ah5 std y0) (·.Mute) _ r 4 [] (by omega) hs (by omega) (fun k hk => ⟨rfl, by have := hmute 4 r hs k hk; omega⟩) (by simp; omega), bd_some, bd_some]
end Go.PL
namespace Go.PL
set_option linter.unusedSimpArgs false
set_option linter.unusedVariables false
set_option linter.unusedSectionVars false
open Tys (Ty U)
open Enc (sz enc dflt tb ofB toB)
open Dec (dec dok)
set_option maxRecDepth 100000
def hasS (l : List ByteArray) (s : ByteArray) : Bool := l.any fun y => decide (y = s)
def onceP (names : List ByteArray) (i : Nat) (s : ByteArray) : Bool := !hasS (names.take i) s
def onceS (names : List ByteArray) : Bool := allI (onceP names) 0 names
def setL (l : List ByteArray) : List (ByteArray × Bool) := l.map fun s => (s, true)
theorem Aui (l : List ByteArray) (s : ByteArray) : (lookS std s (setL l) false).1 = hasS l s := by
 induction l with
 | nil => rfl
 | cons x l ih =>
  simp only [setL, List.map_cons, lookS, s_seql, hasS, List.any_cons]
  by_cases h : s = x
  ·rw [decide_eq_true h, decide_eq_true h.symm]; rfl
  ·rw [decide_eq_false h, decide_eq_false fun e => h e.symm, Bool.false_or]; exact ih
theorem Arm (l : List ByteArray) (s : ByteArray) (h : hasS l s = false) : FreshK std true (.string s) (std.mesB (setL l)) := by
 refine ⟨?_⟩
 show Avd std true (.string s) ((setL l).map _)
 induction l with
 | nil => exact True.intro
 | cons x l ih =>
  simp only [hasS, List.any_cons, Bool.or_eq_false_iff, decide_eq_false_iff_not] at h
  refine ⟨?_, ih h.2⟩
  show std.scmp .eql s x = false
  rw [s_seql]
  exact decide_eq_false fun e => h.1 e.symm
theorem take_snoc {α : Type} {l : List α} {i : Nat} {x : α} (h : l[i]? = some x) : l.take (i + 1) = l.take i ++ [x] := by rw [List.take_add_one, h]; rfl
theorem Auj (l : List ByteArray) (s : ByteArray) : setL l ++ [(s, true)] = setL (l ++ [s]) := by simp [setL]
theorem Ayy (xs : List Rule) (q : Rule → Option ByteArray) (ofx : Rule → ByteArray) (hq : ∀ x, q x = some (ofx x)) (hl : xs.length ≤ big63) : Adu std xs q = some (onceS (xs.map ofx)) := by
 unfold Adu
 have := Amt (B := Aej std xs q) (fun i => ((i : Int), setL ((xs.map ofx).take i))) (xs.map ofx) (onceP (xs.map ofx)) true (fun i s hs hi => by
  rw [List.length_map] at hi
  obtain ⟨x, hx⟩ := Alj hi
  have hsx : s = ofx x := by rw [List.getElem?_map, hx] at hs; exact (Option.some.inj hs).symm
  unfold Aej
  simp only
  rw [Aai, lssT hi, Abd, ck_t (inbT hi), Abv (t := TyS.rule) hx, hq x, bd_some, bd_some, Aui, ← hsx]
  unfold onceP
  cases hh : hasS ((xs.map ofx).take i) s with
  | true => rfl
  | false =>
   rw [br_false, bd_some, ck_t (Arm _ _ hh), s_add, wrap_succ hi hl, Auj, ← take_snoc hs]
   rfl) (by
  unfold Aej
  simp only
  rw [List.length_map, Aai, lssF, br_false]
  rfl)
 rw [Bool.and_true] at this
 exact this
theorem Auk (xs : List ByteArray) (q : ByteArray → Option ByteArray) (ofx : ByteArray → ByteArray) (hq : ∀ x, q x = some (ofx x)) (hl : xs.length ≤ big63) : Ac1 std xs q = some (onceS (xs.map ofx)) := by
 unfold Ac1
 have := Amt (B := Ad4 std xs q) (fun i => ((i : Int), setL ((xs.map ofx).take i))) (xs.map ofx) (onceP (xs.map ofx)) true (fun i s hs hi => by
  rw [List.length_map] at hi
  obtain ⟨x, hx⟩ := Alj hi
  have hsx : s = ofx x := by rw [List.getElem?_map, hx] at hs; exact (Option.some.inj hs).symm
  unfold Ad4
  simp only
  rw [Aai, lssT hi, Abd, ck_t (inbT hi), Abv (t := TyS.str) hx, hq x, bd_some, bd_some, Aui, ← hsx]
  unfold onceP
  cases hh : hasS ((xs.map ofx).take i) s with
  | true => rfl
  | false =>
   rw [br_false, bd_some, ck_t (Arm _ _ hh), s_add, wrap_succ hi hl, Auj, ← take_snoc hs]
   rfl) (by
  unfold Ad4
  simp only
  rw [List.length_map, Aai, lssF, br_false]
  rfl)
 rw [Bool.and_true] at this
 exact this
theorem Awt (xs : List Hours) (q : Hours → Option ByteArray) (ofx : Hours → ByteArray) (hq : ∀ x, q x = some (ofx x)) (hl : xs.length ≤ big63) : Ada std xs q = some (onceS (xs.map ofx)) := by
 unfold Ada
 have := Amt (B := Aeg std xs q) (fun i => ((i : Int), setL ((xs.map ofx).take i))) (xs.map ofx) (onceP (xs.map ofx)) true (fun i s hs hi => by
  rw [List.length_map] at hi
  obtain ⟨x, hx⟩ := Alj hi
  have hsx : s = ofx x := by rw [List.getElem?_map, hx] at hs; exact (Option.some.inj hs).symm
  unfold Aeg
  simp only
  rw [Aai, lssT hi, Abd, ck_t (inbT hi), Abv (t := TyS.hours) hx, hq x, bd_some, bd_some, Aui, ← hsx]
  unfold onceP
  cases hh : hasS ((xs.map ofx).take i) s with
  | true => rfl
  | false =>
   rw [br_false, bd_some, ck_t (Arm _ _ hh), s_add, wrap_succ hi hl, Auj, ← take_snoc hs]
   rfl) (by
  unfold Aeg
  simp only
  rw [List.length_map, Aai, lssF, br_false]
  rfl)
 rw [Bool.and_true] at this
 exact this
end Go.PL
namespace Go.PL
set_option linter.unusedSimpArgs false
set_option linter.unusedVariables false
set_option linter.unusedSectionVars false
open Tys (Ty U)
open Enc (sz enc dflt tb ofB toB)
open Dec (dec dok)
set_option maxRecDepth 100000
def Ab8 (c : Config) : Prop := fitL Arh c.Rules ∧ RouteFit c.Route ∧ fitL fitS c.Receivers ∧ fitL Ah1 c.Inhibits ∧ fitL Auh c.Hours
def Af2 (c : Config) : List ByteArray := c.Hours.map (·.Name)
def Aml (c : Config) : List ByteArray := c.Rules.map (·.Name)
def A2n (c : Config) : Bool := decide (c.Rules.length ≤ 16) && c.Rules.all ruleS && onceS (Aml c)
def Ao5 (c : Config) : Bool := decide (c.Receivers.length ≤ 16) && c.Receivers.all wordS && onceS c.Receivers
def Aj1 (c : Config) : Bool := decide (c.Inhibits.length ≤ 8) && c.Inhibits.all Afs
def A2o (c : Config) : Bool := decide (c.Hours.length ≤ 8) && c.Hours.all hourS && onceS (Af2 c)
def Azw (c : Config) : Bool := (allD 4 c.Route).all fun r => hasS c.Receivers r.Receiver && r.Mute.all (hasS (Af2 c))
def topS (c : Config) : Bool := Afe 4 c.Route && decide (c.Route.Match.length = 0) && !c.Route.On && decide ((allD 4 c.Route).length ≤ 32)
def Ade (c : Config) : Bool := A2n c && Ao5 c && Aj1 c && A2o c && topS c && Azw c
theorem A2p (l : List ByteArray) (s : ByteArray) : (l.any fun y => decide (s = y)) = hasS l s := by
 unfold hasS
 congr 1
 funext y
 rw [Bool.eq_iff_iff]
 simp only [decide_eq_true_eq]
 exact ⟨fun h => h.symm, fun h => h.symm⟩
theorem Ayz (p : ByteArray → Bool) (c : List ByteArray) (x : ByteArray) : (Agx c x).all p = (c.all p && p x) := by
 unfold Agx
 split
 ·rename_i h
  rw [List.any_eq_true] at h
  obtain ⟨y, hy, he⟩ := h
  have he : x = y := by simpa using he
  cases hc : c.all p with
  | false => rfl
  | true =>
   rw [List.all_eq_true] at hc
   rw [he, hc y hy]; rfl
 ·simp
theorem Atc (p : ByteArray → Bool) : ∀ (l c : List ByteArray), (l.foldl Agx c).all p = (c.all p && l.all p)
 | [], c => by simp
 | x :: l, c => by rw [List.foldl_cons, Atc p l, Ayz, List.all_cons, Bool.and_assoc]
theorem Ans (p : ByteArray → Bool) (ofr : Route → List ByteArray) : ∀ (l : List Route) (c : List ByteArray), (gatherL ofr l c).all p = (c.all p && l.all fun r => (ofr r).all p)
 | [], c => by simp [gatherL]
 | r :: l, c => by
  have := Ans p ofr l ((ofr r).foldl Agx c)
  simp only [gatherL, List.foldl_cons] at this ⊢
  rw [this, Atc, List.all_cons, Bool.and_assoc]
theorem Ant (ofr : Route → List ByteArray) (m : Nat) : ∀ (l : List Route) (c : List ByteArray), (∀ k ∈ l, (ofr k).length ≤ m) → (gatherL ofr l c).length ≤ c.length + m * l.length
 | [], c, _ => by simp [gatherL]
 | k :: l, c, h => by
  have h1 := Ant ofr m l ((ofr k).foldl Agx c) fun k hk => h k (List.mem_cons_of_mem _ hk)
  have h2 := Ark (ofr k) c
  have h3 := h k (List.mem_cons_self ..)
  simp only [gatherL, List.foldl_cons, List.length_cons, Nat.mul_succ] at h1 ⊢
  omega
theorem A2q : ∀ (d : Nat) (r : Route), Afe d r = true → ∀ k ∈ allD d r, k.Mute.length ≤ 8
 | 0, r, h => by cases h
 | d + 1, r, h => by
  intro k hk
  have h0 := h
  obtain ⟨h1, h2⟩ := Ah2 h
  simp only [allD, List.mem_cons, List.mem_flatten, List.mem_map] at hk
  rcases hk with rfl | ⟨_, ⟨x, hx, rfl⟩, hk⟩
  ·simp only [Afe, oneS, Aph, Bool.and_eq_true, decide_eq_true_eq] at h0
   exact h0.1.1.1.1.2.2
  ·exact A2q d x (h2 x hx) k hk
theorem A2r (c : Config) (h : Ab8 c) (s : ByteArray) : Afh std s c = some (hasS (Af2 c) s) := by
 unfold Afh
 rw [Am8 c.Hours (fun h => decide (h.Name = s)) (fun y0 => Afa std y0 s) (fun x _ => by unfold Afa; rw [s_seql]) h.2.2.2.2.1, bd_some]
 unfold hasS Af2
 rw [List.any_map]
 rfl
theorem A2s (c : Config) (h : Ab8 c) (s : ByteArray) : Afi std s c = some (hasS c.Receivers s) := by
 unfold Afi
 rw [As9 c.Receivers s h.2.2.1.1, bd_some, A2p]
theorem decI (a b : Nat) : decide ((a : Int) ≤ (b : Int)) = decide (a ≤ b) := leN
theorem Aef (c : Config) (h : Ab8 c) : Adi std c = some (Ade c) := by
 obtain ⟨hR, hT, hV, hI, hH⟩ := id h
 have a1 : Aee std c.Rules 16 (fun y0 => Agr std y0) = some (decide (c.Rules.length ≤ 16) && c.Rules.all ruleS) := by
  rw [A3y c.Rules 16 ruleS _ (fun _ x hx => Anc x (hR.2 x hx)) (by decide)]; congr 2; exact decI _ 16
 have a2 : Acb std c.Receivers 16 (fun y0 => Ahr std y0) = some (decide (c.Receivers.length ≤ 16) && c.Receivers.all wordS) := by
  rw [Ao3 c.Receivers 16 wordS _ (fun _ x hx => Asl x) (by decide)]; congr 2; exact decI _ 16
 have a3 : Acr std c.Inhibits 8 (fun y0 => Aer std y0) = some (Aj1 c) := by
  rw [Ayt c.Inhibits 8 Afs _ (fun _ x hx => Aoc x (hI.2 x hx)) (by decide)]; unfold Aj1; congr 2; exact decI _ 8
 have a4 : Adz std c.Hours 8 (fun y0 => Agu std y0) = some (decide (c.Hours.length ≤ 8) && c.Hours.all hourS) := by
  rw [A2h c.Hours 8 hourS _ (fun _ x hx => Asm x) (by decide)]; congr 2; exact decI _ 8
 have a5 : Adu std c.Rules (fun y0 => Ag2 std y0) = some (onceS (Aml c)) := Ayy c.Rules _ (·.Name) (fun _ => rfl) hR.1
 have a6 : Ac1 std c.Receivers (fun y0 => Ae2 std y0) = some (onceS c.Receivers) := by
  have := Auk c.Receivers (fun y0 => Ae2 std y0) (fun x => x) (fun _ => rfl) hV.1
  rw [List.map_id'] at this
  exact this
 have a7 : Ada std c.Hours (fun y0 => Af5 std y0) = some (onceS (Af2 c)) := Awt c.Hours _ (·.Name) (fun _ => rfl) hH.1
 have conf : Ade c = (decide (c.Rules.length ≤ 16) && c.Rules.all ruleS && (decide (c.Receivers.length ≤ 16) && c.Receivers.all wordS) && Aj1 c && (decide (c.Hours.length ≤ 8) && c.Hours.all hourS) && onceS (Aml c) && onceS c.Receivers && onceS (Af2 c) && topS c && Azw c) := by
  unfold Ade A2n Ao5 A2o
  generalize decide (c.Rules.length ≤ 16) = x1
  generalize c.Rules.all ruleS = x2
  generalize decide (c.Receivers.length ≤ 16) = x3
  generalize c.Receivers.all wordS = x4
  generalize decide (c.Hours.length ≤ 8) = x5
  generalize c.Hours.all hourS = x6
  generalize onceS (Aml c) = x7
  generalize onceS c.Receivers = x8
  generalize onceS (Af2 c) = x9
  generalize Aj1 c = x10
  cases x1
  ·simp
  cases x2
  ·simp
  cases x3
  ·simp
  cases x4
  ·simp
  cases x5
  ·simp
  cases x6
  ·simp
  cases x7
  ·simp
  cases x8
  ·simp
  cases x9
  ·simp
  cases x10 <;> simp
 rw [conf]
 unfold Adi
 rw [a1, bd_some]
 generalize (decide (c.Rules.length ≤ 16) && c.Rules.all ruleS) = b1
 cases b1
 ·rfl
 rw [gd_t, a2, bd_some]
 generalize (decide (c.Receivers.length ≤ 16) && c.Receivers.all wordS) = b2
 cases b2
 ·rfl
 rw [show std.and true true = true from rfl, gd_t, a3, bd_some]
 generalize Aj1 c = b3
 cases b3
 ·rfl
 rw [show std.and true true = true from rfl, gd_t, a4, bd_some]
 generalize (decide (c.Hours.length ≤ 8) && c.Hours.all hourS) = b4
 cases b4
 ·rfl
 rw [show std.not (std.not (std.and true true)) = true from rfl, gd_t, a5, bd_some]
 generalize onceS (Aml c) = b5
 cases b5
 ·rfl
 rw [show std.not (std.or (std.not (std.and true true)) (std.not true)) = true from rfl, gd_t, a6, bd_some]
 generalize onceS c.Receivers = b6
 cases b6
 ·rfl
 rw [show std.not (std.or (std.or (std.not (std.and true true)) (std.not true)) (std.not true)) = true from rfl, gd_t, a7, bd_some]
 generalize onceS (Af2 c) = b7
 cases b7
 ·rfl
 rw [show std.or (std.or (std.or (std.not (std.and true true)) (std.not true)) (std.not true)) (std.not true) = false from rfl, br_false, Arj c.Route hT, bd_some]
 have g0 : std.cmp .gtr (std.len TyS.matcher c.Route.Match) 0 = !decide (c.Route.Match.length = 0) := by
  rw [s_gtr, Amh, Aai, Bool.eq_iff_iff]; simp
 rw [g0]
 simp only [Bool.true_and]
 unfold topS
 cases hr : Afe 4 c.Route
 ·rfl
 generalize decide (c.Route.Match.length = 0) = b8
 cases b8
 ·rfl
 generalize c.Route.On = b9
 rcases Bool.eq_false_or_eq_true b9 with rfl | rfl
 ·rfl
 rw [show std.not (std.or (std.or (std.not true) (!true)) false) = true from rfl, gd_t, routes_Count_eq _ hr, bd_some]
 rw [show std.or (std.or (std.or (std.not true) (!true)) false) (std.cmp .gtr ((allD 4 c.Route).length : Int) 32) = !decide ((allD 4 c.Route).length ≤ 32) by
  rw [s_gtr, Amh, show decide (((allD 4 c.Route).length : Int) ≤ 32) = decide ((allD 4 c.Route).length ≤ 32) from decI _ 32]; rfl]
 rcases Nat.lt_or_ge 32 (allD 4 c.Route).length with h32 | h32
 ·rw [decide_eq_false (by omega)]; rfl
 rw [decide_eq_true h32, Bool.not_true, br_false, Names_eq _ hr, bd_some]
 have l1 := Ant (fun k => [k.Receiver]) 1 (allD 4 c.Route) [] (fun k _ => by simp)
 have l2 := Ant (·.Mute) 8 (allD 4 c.Route) [] (A2q 4 c.Route hr)
 rw [Ao3 _ 32 (hasS c.Receivers) (fun y0 => Afi std y0 c) (fun _ x _ => A2s c h x) (by decide), bd_some]
 rw [show decide (((gatherL (fun k => [k.Receiver]) (allD 4 c.Route) []).length : Int) ≤ 32) = true from decide_eq_true (by simp at l1; omega), Bool.true_and, Ans]
 rw [gd_b (fun _ => Ao3 _ 256 (hasS (Af2 c)) (fun y0 => Afh std y0 c) (fun _ x _ => A2r c h x) (by decide)), bd_some]
 rw [show decide (((gatherL (·.Mute) (allD 4 c.Route) []).length : Int) ≤ 256) = true from decide_eq_true (by simp at l2; omega), Bool.true_and, Ans]
 simp only [List.all_nil, Bool.true_and, List.all_cons, Bool.and_true, s_land, Bool.not_false]
 unfold Azw
 congr 1
 rw [show (fun r : Route => hasS c.Receivers r.Receiver && r.Mute.all (hasS (Af2 c))) = fun r => (hasS c.Receivers r.Receiver && r.Mute.all (hasS (Af2 c))) from rfl]
 have key : ∀ (l : List Route) (f g : Route → Bool), (l.all f && (l.all f && l.all g)) = l.all fun r => f r && g r := by
  intro l f g
  induction l with
  | nil => rfl
  | cons x l ih =>
   simp only [List.all_cons]
   rw [← ih]
   cases f x <;> cases g x <;> cases l.all f <;> cases l.all g <;> rfl
 exact key _ _ _
end Go.PL
namespace Go.PL
set_option linter.unusedSimpArgs false
set_option linter.unusedVariables false
set_option linter.unusedSectionVars false
open Tys (Ty U)
open Enc (sz enc dflt tb ofB toB)
open Dec (dec dok)
set_option maxRecDepth 100000
end Go.PL
namespace Go.PL
set_option linter.unusedSimpArgs false
set_option linter.unusedVariables false
set_option linter.unusedSectionVars false
open Tys (Ty U)
open Enc (sz enc dflt tb ofB toB)
open Dec (dec dok)
set_option maxRecDepth 100000
end Go.PL
