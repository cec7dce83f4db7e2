/- Texts of this claim: plain laws of what the program's functions compute. No condition of their own. -/
import Derived.Test.YtiddkdneoldkoaaGreatDoorNeLc
import Derived.Test.YtiddkdneoldkoaaGreatDoorNeFu
set_option linter.unusedSectionVars false
set_option linter.unusedVariables false
set_option linter.unusedSimpArgs false
set_option maxRecDepth 100000
open Go.PL.Tys (Ty U)
open Go.PL.Enc (sz enc dflt tb ofB toB)
open Go.PL.Dec (dec dok)
namespace Go.PL
variable [Tys] [Enc] [Dec]
abbrev big63 : Nat := 9223372036854775807
def runL {α σ ε : Type} (step : Nat → α → σ → σ ⊕ ε) (fin : σ → ε) : Nat → List α → σ → ε
 | _, [], s => fin s
 | i, x :: xs, s => match step i x s with
  | .inl s' => runL step fin (i + 1) xs s'
  | .inr e => e
theorem Aht {S ε α σ : Type} {B : S → Option (S ⊕ ε)} (enc : Nat → σ → S) (xs : List α) (step : Nat → α → σ → σ ⊕ ε) (fin : σ → ε) (I : Nat → σ → Prop)
  (h1 : ∀ i x s, xs[i]? = some x → I i s → (∀ s', step i x s = .inl s' → B (enc i s) = some (.inl (enc (i + 1) s')) ∧ I (i + 1) s') ∧ ∀ e, step i x s = .inr e → B (enc i s) = some (.inr e))
  (h2 : ∀ s, I xs.length s → B (enc xs.length s) = some (.inr (fin s))) (i0 : Nat) (hi0 : i0 ≤ xs.length) (s0 : σ) (h0 : I i0 s0) : Loop B (enc i0 s0) = some (runL step fin i0 (xs.drop i0) s0) := by
 have key : ∀ (n i : Nat) (s : σ), i + n = xs.length → I i s → Loop B (enc i s) = some (runL step fin i (xs.drop i) s) := by
  intro n
  induction n with
  | zero =>
   intro i s hi hI
   obtain rfl : i = xs.length := by omega
   rw [Acg, h2 s hI, List.drop_length]
   rfl
  | succ n ih =>
   intro i s hi hI
   have hl : i < xs.length := by omega
   have hx : xs[i]? = some xs[i] := List.getElem?_eq_getElem hl
   rw [List.drop_eq_getElem_cons hl, Acg]
   simp only [runL]
   cases hs : step i xs[i] s with
   | inl s' =>
    obtain ⟨h3, h4⟩ := (h1 i xs[i] s hx hI).1 s' hs
    rw [h3]
    exact ih (i + 1) s' (by omega) h4
   | inr e =>
    rw [(h1 i xs[i] s hx hI).2 e hs]
 exact key (xs.length - i0) i0 s0 (by omega) h0
theorem Atr {S ε α σ : Type} {B : S → Option (S ⊕ ε)} (enc : Nat → σ → S) (xs : List α) (step : Nat → α → σ → σ ⊕ ε) (fin : σ → ε) (I : Nat → σ → Prop)
  (h1 : ∀ i x s, xs[i]? = some x → I i s → (∀ s', step i x s = .inl s' → B (enc i s) = some (.inl (enc (i + 1) s')) ∧ I (i + 1) s') ∧ ∀ e, step i x s = .inr e → B (enc i s) = some (.inr e))
  (h2 : ∀ s, I xs.length s → B (enc xs.length s) = some (.inr (fin s))) (s0 : σ) (h0 : I 0 s0) : Loop B (enc 0 s0) = some (runL step fin 0 xs s0) := by
 have := Aht enc xs step fin I h1 h2 0 (Nat.zero_le _) s0 h0
 rwa [List.drop_zero] at this
theorem Aap {S ε α σ : Type} {B : S → Option (S ⊕ ε)} (enc : Nat → σ → S) (xs : List α) (step : Nat → α → σ → σ ⊕ ε) (fin : σ → ε)
  (h1 : ∀ i x s, xs[i]? = some x → i < xs.length → B (enc i s) = some (match step i x s with | .inl s' => .inl (enc (i + 1) s') | .inr e => .inr e))
  (h2 : ∀ s, B (enc xs.length s) = some (.inr (fin s))) (s0 : σ) : Loop B (enc 0 s0) = some (runL step fin 0 xs s0) :=
 Atr enc xs step fin (fun _ _ => True) (fun i x s hx _ => by
  have hi : i < xs.length := by
   rcases Nat.lt_or_ge i xs.length with h | h
   ·exact h
   ·rw [List.getElem?_eq_none h] at hx; cases hx
  have := h1 i x s hx hi
  exact ⟨fun s' h => ⟨by rw [this, h], trivial⟩, fun e h => by rw [this, h]⟩) (fun s _ => h2 s) s0 trivial
theorem wrap_succ {i n : Nat} (h : i < n) (hn : n ≤ big63) : IntKind.i64.wrap ((i : Int) + 1) = ((i + 1 : Nat) : Int) := by
 rw [w64 (by unfold big63 at hn; omega)]; rfl
theorem lssT {i n : Nat} (h : i < n) : std.cmp .lss (i : Int) (n : Int) = true := decide_eq_true (by omega)
theorem lssF {n : Nat} : std.cmp .lss (n : Int) (n : Int) = false := decide_eq_false (by omega)
theorem inbT {i n : Nat} (h : i < n) : std.inb (i : Int) (n : Int) := ⟨by omega, by omega⟩
theorem leN {a b : Nat} : decide ((a : Int) ≤ (b : Int)) = decide (a ≤ b) := by rw [Bool.eq_iff_iff]; simp
theorem Aaa {t : Ty} (xs : List (U t)) : std.len t xs = ((xs.length : Nat) : Int) := rfl
theorem get_at {α : Type} {xs : List α} {i : Nat} {x d : α} (h : xs[i]? = some x) : xs.getD i d = x := by
 rw [List.getD_eq_getElem?_getD, h]; rfl
def fnd {α : Type} (xs : List α) (p : α → Bool) : Int := match xs.findIdx? p with
 | some j => (j : Int)
 | none => -1
theorem A8v {α : Type} (p : α → Bool) (xs : List α) : ∀ i : Nat, runL (fun (i : Nat) x (_ : Unit) => if p x then .inr (i : Int) else .inl ()) (fun _ => (-1 : Int)) i xs () = match xs.findIdx? p with | some j => ((i + j : Nat) : Int) | none => -1 := by
 induction xs with
 | nil => intro i; rfl
 | cons x xs ih =>
  intro i
  simp only [runL, List.findIdx?_cons]
  cases p x with
  | true => simp
  | false =>
   simp only [Bool.false_eq_true, if_false]
   rw [ih (i + 1)]
   cases xs.findIdx? p with
   | none => rfl
   | some j => simp only [Option.map_some]; congr 1; omega
theorem Alc {t : Ty} (xs : List (U t)) (p : U t → Bool) (q : U t → Option Bool) (hq : ∀ x ∈ xs, q x = some (p x)) (hl : xs.length ≤ big63) :
  Loop (fun t8 => br (std.cmp .lss t8 (std.len t xs)) (ck (std.inb t8 (std.len t xs)) <| bd (q (std.get t xs t8)) fun w => br w (rt (some t8)) (some (.inl (std.ar .add .i64 t8 1)))) (rt (some (-1)))) 0 = some (fnd xs p) := by
 have := Aap (B := fun t8 => br (std.cmp .lss t8 (std.len t xs)) (ck (std.inb t8 (std.len t xs)) <| bd (q (std.get t xs t8)) fun w => br w (rt (some t8)) (some (.inl (std.ar .add .i64 t8 1)))) (rt (some (-1)))) (fun i (_ : Unit) => (i : Int)) xs (fun (i : Nat) x (_ : Unit) => if p x then .inr (i : Int) else .inl ()) (fun _ => (-1 : Int)) (fun i x s hx hi => by
  have h1 : std.cmp .lss (i : Int) (std.len t xs) = true := by simp; omega
  rw [h1]
  simp only [br]
  rw [ck_t (by simp; omega), s_get, Int.toNat_natCast, get_at hx, hq x (List.mem_of_getElem? hx), bd_some]
  cases p x with
  | true => simp [br, rt]
  | false => simp only [br, s_add, wrap_succ hi hl, Bool.false_eq_true, if_false]) (fun s => by
  have h1 : std.cmp .lss ((xs.length : Nat) : Int) (std.len t xs) = false := by simp
  rw [h1]; rfl) ()
 rw [show ((0 : Int)) = ((0 : Nat) : Int) from rfl, this, A8v]
 unfold fnd
 cases xs.findIdx? p <;> simp
theorem Ald {α : Type} (p : α → Bool) (xs : List α) : decide ((0 : Int) ≤ fnd xs p) = xs.any p := by
 unfold fnd
 cases h : xs.findIdx? p with
 | none =>
  rw [List.findIdx?_eq_none_iff] at h
  have : xs.any p = false := by simpa using h
  rw [this]; rfl
 | some j =>
  have : (xs.findIdx? p).isSome = xs.any p := by rw [List.findIdx?_isSome]
  rw [h] at this
  rw [← this]; simp
end Go.PL
namespace Go.PL
theorem A67 (xs : List Rule) (p : Rule → Bool) (q : Rule → Option Bool) (hq : ∀ x ∈ xs, q x = some (p x)) (hl : xs.length ≤ big63) : Aes std xs q = some (fnd xs p) := Alc (t := TyS.rule) xs p q hq hl
theorem Ats (xs : List Rule) (p : Rule → Bool) (q : Rule → Option Bool) (hq : ∀ x ∈ xs, q x = some (p x)) (hl : xs.length ≤ big63) : Abf std xs q = some (xs.any p) := by
 unfold Abf
 rw [A67 xs p q hq hl, bd_some, s_geq, Ald]
theorem A8w (xs : List Def) (p : Def → Bool) (q : Def → Option Bool) (hq : ∀ x ∈ xs, q x = some (p x)) (hl : xs.length ≤ big63) : Afz std xs q = some (fnd xs p) := Alc (t := TyS.dfn) xs p q hq hl
theorem Au6 (xs : List Def) (p : Def → Bool) (q : Def → Option Bool) (hq : ∀ x ∈ xs, q x = some (p x)) (hl : xs.length ≤ big63) : Acx std xs q = some (xs.any p) := by
 unfold Acx
 rw [A8w xs p q hq hl, bd_some, s_geq, Ald]
theorem A22 (xs : List ByteArray) (p : ByteArray → Bool) (q : ByteArray → Option Bool) (hq : ∀ x ∈ xs, q x = some (p x)) (hl : xs.length ≤ big63) : Adg std xs q = some (fnd xs p) := Alc (t := TyS.str) xs p q hq hl
theorem Aoh (xs : List ByteArray) (p : ByteArray → Bool) (q : ByteArray → Option Bool) (hq : ∀ x ∈ xs, q x = some (p x)) (hl : xs.length ≤ big63) : Aai std xs q = some (xs.any p) := by
 unfold Aai
 rw [A22 xs p q hq hl, bd_some, s_geq, Ald]
theorem Aw2 (xs : List Label) (p : Label → Bool) (q : Label → Option Bool) (hq : ∀ x ∈ xs, q x = some (p x)) (hl : xs.length ≤ big63) : Abm std xs q = some (fnd xs p) := Alc (t := TyS.label) xs p q hq hl
theorem A1d (xs : List Inhibit) (p : Inhibit → Bool) (q : Inhibit → Option Bool) (hq : ∀ x ∈ xs, q x = some (p x)) (hl : xs.length ≤ big63) : Acv std xs q = some (fnd xs p) := Alc (t := TyS.inhibit) xs p q hq hl
theorem Avx (xs : List Inhibit) (p : Inhibit → Bool) (q : Inhibit → Option Bool) (hq : ∀ x ∈ xs, q x = some (p x)) (hl : xs.length ≤ big63) : Aa9 std xs q = some (xs.any p) := by
 unfold Aa9
 rw [A1d xs p q hq hl, bd_some, s_geq, Ald]
theorem A1e (xs : List Matcher) (p : Matcher → Bool) (q : Matcher → Option Bool) (hq : ∀ x ∈ xs, q x = some (p x)) (hl : xs.length ≤ big63) : Acw std xs q = some (fnd xs p) := Alc (t := TyS.matcher) xs p q hq hl
theorem Aq4 (xs : List Matcher) (p : Matcher → Bool) (q : Matcher → Option Bool) (hq : ∀ x ∈ xs, q x = some (p x)) (hl : xs.length ≤ big63) : Aar std xs q = some (xs.any p) := by
 unfold Aar
 rw [A1e xs p q hq hl, bd_some, s_geq, Ald]
theorem A43 (xs : List Hours) (p : Hours → Bool) (q : Hours → Option Bool) (hq : ∀ x ∈ xs, q x = some (p x)) (hl : xs.length ≤ big63) : Adw std xs q = some (fnd xs p) := Alc (t := TyS.hours) xs p q hq hl
theorem Asl (xs : List Hours) (p : Hours → Bool) (q : Hours → Option Bool) (hq : ∀ x ∈ xs, q x = some (p x)) (hl : xs.length ≤ big63) : Aa7 std xs q = some (xs.any p) := by
 unfold Aa7
 rw [A43 xs p q hq hl, bd_some, s_geq, Ald]
theorem A8x (xs : List Int) (p : Int → Bool) (q : Int → Option Bool) (hq : ∀ x ∈ xs, q x = some (p x)) (hl : xs.length ≤ big63) : Af1 std xs q = some (fnd xs p) := Alc (t := TyS.int) xs p q hq hl
theorem A23 (xs : List Int) (p : Int → Bool) (q : Int → Option Bool) (hq : ∀ x ∈ xs, q x = some (p x)) (hl : xs.length ≤ big63) : Acy std xs q = some (xs.any p) := by
 unfold Acy
 rw [A8x xs p q hq hl, bd_some, s_geq, Ald]
theorem A44 (xs : List Route) (p : Route → Bool) (q : Route → Option Bool) (hq : ∀ x ∈ xs, q x = some (p x)) (hl : xs.length ≤ big63) : Adx std xs q = some (fnd xs p) := Alc (t := TyS.route) xs p q hq hl
theorem Ayt (xs : List Route) (p : Route → Bool) (q : Route → Option Bool) (hq : ∀ x ∈ xs, q x = some (p x)) (hl : xs.length ≤ big63) : Abw std xs q = some (xs.any p) := by
 unfold Abw
 rw [A44 xs p q hq hl, bd_some, s_geq, Ald]
theorem A68 (xs : List UInt8) (p : UInt8 → Bool) (q : Int → Option Bool) (hq : ∀ x ∈ xs, q (x.toNat : Int) = some (p x)) (hl : xs.length ≤ big63) : Aet std xs q = some (fnd xs p) := Alc (t := TyS.byte) xs p (fun b => q (b.toNat : Int)) hq hl
theorem Anm (xs : List UInt8) (p : UInt8 → Bool) (q : Int → Option Bool) (hq : ∀ x ∈ xs, q (x.toNat : Int) = some (p x)) (hl : xs.length ≤ big63) : Aac std xs q = some (xs.any p) := by
 unfold Aac
 rw [A68 xs p q hq hl, bd_some, s_geq, Ald]
theorem A24 (s : ByteArray) : std.s2b s = s.data.toList := by
 show s.data.toList.map Enc.ofB = _
 exact List.map_id _
theorem Baf (xs : List Rule) (k : Int) (p : Rule → Bool) (q : Rule → Option Bool) (hq : (xs.length : Int) ≤ k → ∀ x ∈ xs, q x = some (p x)) (hk : k ≤ big63) : Agl std xs k q = some (decide ((xs.length : Int) ≤ k) && xs.all p) := by
 unfold Agl
 rw [show std.cmp .leq (std.len TyS.rule xs) k = decide ((xs.length : Int) ≤ k) from rfl]
 by_cases h : (xs.length : Int) ≤ k
 ·rw [decide_eq_true h, gd_t, Ats xs (fun x => !p x) _ (fun x hx => by unfold Ait; rw [hq h x hx]; rfl) (by unfold big63 at hk ⊢; omega), bd_some]
  rw [List.all_eq_not_any_not]
  rfl
 ·rw [decide_eq_false h, gd_f, bd_some]
  rfl
theorem Aur (xs : List ByteArray) (k : Int) (p : ByteArray → Bool) (q : ByteArray → Option Bool) (hq : (xs.length : Int) ≤ k → ∀ x ∈ xs, q x = some (p x)) (hk : k ≤ big63) : Ac3 std xs k q = some (decide ((xs.length : Int) ≤ k) && xs.all p) := by
 unfold Ac3
 rw [show std.cmp .leq (std.len TyS.str xs) k = decide ((xs.length : Int) ≤ k) from rfl]
 by_cases h : (xs.length : Int) ≤ k
 ·rw [decide_eq_true h, gd_t, Aoh xs (fun x => !p x) _ (fun x hx => by unfold Ahm; rw [hq h x hx]; rfl) (by unfold big63 at hk ⊢; omega), bd_some]
  rw [List.all_eq_not_any_not]
  rfl
 ·rw [decide_eq_false h, gd_f, bd_some]
  rfl
theorem A45 (xs : List Inhibit) (k : Int) (p : Inhibit → Bool) (q : Inhibit → Option Bool) (hq : (xs.length : Int) ≤ k → ∀ x ∈ xs, q x = some (p x)) (hk : k ≤ big63) : Ad5 std xs k q = some (decide ((xs.length : Int) ≤ k) && xs.all p) := by
 unfold Ad5
 rw [show std.cmp .leq (std.len TyS.inhibit xs) k = decide ((xs.length : Int) ≤ k) from rfl]
 by_cases h : (xs.length : Int) ≤ k
 ·rw [decide_eq_true h, gd_t, Avx xs (fun x => !p x) _ (fun x hx => by unfold Ag6; rw [hq h x hx]; rfl) (by unfold big63 at hk ⊢; omega), bd_some]
  rw [List.all_eq_not_any_not]
  rfl
 ·rw [decide_eq_false h, gd_f, bd_some]
  rfl
theorem A46 (xs : List Matcher) (k : Int) (p : Matcher → Bool) (q : Matcher → Option Bool) (hq : (xs.length : Int) ≤ k → ∀ x ∈ xs, q x = some (p x)) (hk : k ≤ big63) : Ab5 std xs k q = some (decide ((xs.length : Int) ≤ k) && xs.all p) := by
 unfold Ab5
 rw [show std.cmp .leq (std.len TyS.matcher xs) k = decide ((xs.length : Int) ≤ k) from rfl]
 by_cases h : (xs.length : Int) ≤ k
 ·rw [decide_eq_true h, gd_t, Aq4 xs (fun x => !p x) _ (fun x hx => by unfold Ag7; rw [hq h x hx]; rfl) (by unfold big63 at hk ⊢; omega), bd_some]
  rw [List.all_eq_not_any_not]
  rfl
 ·rw [decide_eq_false h, gd_f, bd_some]
  rfl
theorem A8y (xs : List Hours) (k : Int) (p : Hours → Bool) (q : Hours → Option Bool) (hq : (xs.length : Int) ≤ k → ∀ x ∈ xs, q x = some (p x)) (hk : k ≤ big63) : Af6 std xs k q = some (decide ((xs.length : Int) ≤ k) && xs.all p) := by
 unfold Af6
 rw [show std.cmp .leq (std.len TyS.hours xs) k = decide ((xs.length : Int) ≤ k) from rfl]
 by_cases h : (xs.length : Int) ≤ k
 ·rw [decide_eq_true h, gd_t, Asl xs (fun x => !p x) _ (fun x hx => by unfold Aif; rw [hq h x hx]; rfl) (by unfold big63 at hk ⊢; omega), bd_some]
  rw [List.all_eq_not_any_not]
  rfl
 ·rw [decide_eq_false h, gd_f, bd_some]
  rfl
def allI {α : Type} (p : Nat → α → Bool) : Nat → List α → Bool
 | _, [] => true
 | i, x :: xs => p i x && allI p (i + 1) xs
theorem A6b {α : Type} (p : Nat → α → Bool) (fin : Bool) (xs : List α) : ∀ i, runL (fun i x (_ : Unit) => if p i x then .inl () else .inr false) (fun _ => fin) i xs () = (allI p i xs && fin) := by
 induction xs with
 | nil => intro i; rfl
 | cons x xs ih =>
  intro i
  simp only [runL, allI]
  cases p i x with
  | true => simpa using ih (i + 1)
  | false => rfl
theorem Aqp {S α : Type} {B : S → Option (S ⊕ Bool)} (enc : Nat → S) (xs : List α) (p : Nat → α → Bool) (fin : Bool)
  (h1 : ∀ i x, xs[i]? = some x → i < xs.length → B (enc i) = some (if p i x then .inl (enc (i + 1)) else .inr false)) (h2 : B (enc xs.length) = some (.inr fin)) : Loop B (enc 0) = some (allI p 0 xs && fin) := by
 have := Aap (fun i (_ : Unit) => enc i) xs (fun i x (_ : Unit) => if p i x then .inl () else .inr false) (fun _ => fin) (fun i x s hx hi => by
  rw [h1 i x hx hi]
  cases p i x <;> rfl) (fun _ => h2) ()
 rw [this, A6b]
theorem br_true {α : Type} {t f : Option α} : br true t f = t := rfl
theorem br_false {α : Type} {t f : Option α} : br false t f = f := rfl
abbrev bytes (s : ByteArray) : List UInt8 := s.data.toList
theorem Aqq {s : ByteArray} {i : Nat} {c : UInt8} (h : (bytes s)[i]? = some c) : std.sget s (i : Int) = (c.toNat : Int) := by
 rw [Bbs, Int.toNat_natCast]
 have : s.data.getD i 0 = c := by
  rw [Array.getD_eq_getD_getElem?, ← Array.getElem?_toList, h]; rfl
 rw [this]
theorem Aag (s : ByteArray) : (bytes s).length = s.size := Array.length_toList
theorem Arn (s : ByteArray) : std.slen s = ((bytes s).length : Int) := by rw [s_slen, Aag]
def inC (lo hi : Nat) (c : UInt8) : Bool := decide (lo ≤ c.toNat) && decide (c.toNat ≤ hi)
def lowC (c : UInt8) : Bool := inC 97 122 c
def upC (c : UInt8) : Bool := inC 65 90 c
def digC (c : UInt8) : Bool := inC 48 57 c
def barC (c : UInt8) : Bool := inC 95 95 c
def letC (c : UInt8) : Bool := lowC c || upC c || barC c
def wordC (c : UInt8) : Bool := lowC c || digC c || barC c
def wordS (s : ByteArray) : Bool := (bytes s).all wordC && decide (1 ≤ s.size) && decide (s.size ≤ 64)
def nameP (i : Nat) (c : UInt8) : Bool := letC c || decide (0 < i) && digC c
def nameS (s : ByteArray) : Bool := allI nameP 0 (bytes s) && decide (1 ≤ s.size) && decide (s.size ≤ 64)
def Ahk (c : UInt8) : Bool := inC 32 126 c
def Ap5 (s : ByteArray) : Bool := (bytes s).all Ahk && decide (1 ≤ s.size) && decide (s.size ≤ 64)
theorem Ap6 (s : ByteArray) : decide (s ≠ ByteArray.mk (Array.mk [])) = decide (1 ≤ s.size) := by
 rw [Bool.eq_iff_iff]
 simp only [decide_eq_true_eq]
 constructor
 ·intro h
  rcases Nat.eq_zero_or_pos s.size with h0 | h0
  ·exfalso; apply h
   cases s with
   | mk d => congr 1; exact Array.eq_empty_of_size_eq_zero h0
  ·exact h0
 ·rintro h rfl; exact absurd h (by decide)
theorem Ann (s : ByteArray) : Aiu std s = some (wordS s) := by
 unfold Aiu
 have h0 : std.and (std.scmp .neq s (ByteArray.mk (Array.mk []))) (std.cmp .leq (std.slen s) 64) = (decide (1 ≤ s.size) && decide (s.size ≤ 64)) := by
  rw [s_land, Azg, Ap6, s_leq, s_slen]; congr 1; exact leN (b := 64)
 rw [h0]
 unfold wordS
 by_cases h : (decide (1 ≤ s.size) && decide (s.size ≤ 64)) = true
 ·rw [h, gd_t, A24, Anm _ (fun c => !wordC c) _ (fun c _ => by
   unfold Akh
   simp only [s_land, s_lor, s_lss, s_gtr, s_neq]
   congr 1
   rw [Bool.eq_iff_iff]
   simp [wordC, lowC, digC, barC, inC]
   omega) (by simp at h; rw [Aag]; unfold big63; omega), bd_some, s_land, s_not, Bool.true_and]
  rw [Bool.and_assoc, h, Bool.and_true, List.all_eq_not_any_not]
 ·simp only [Bool.not_eq_true] at h
  rw [h, gd_f, bd_some, s_land, Bool.false_and, Bool.and_assoc, h, Bool.and_false]
theorem Aw3 (c : UInt8) : Aml std (c.toNat : Int) = some (letC c) := by
 unfold Aml
 congr 1
 rw [Bool.eq_iff_iff]
 simp [letC, lowC, upC, barC, inC]
 omega
theorem A1f (s : ByteArray) (hs : s.size ≤ big63) : Apx std s = some (nameS s) := by
 unfold Apx
 have := Aqp (B := Anf std s) (fun i => (false, (i : Int))) (bytes s) nameP (decide (1 ≤ s.size) && decide (s.size ≤ 64)) (fun i c hc hi => by
  unfold Anf
  simp only
  rw [Arn, Aqq hc, lssT hi, br_true, ck_t (inbT hi), Aw3, bd_some]
  rw [s_add, wrap_succ hi (by rw [Aag]; exact hs)]
  have e : std.and (std.not (letC c)) (std.or (std.or (std.cmp .eql (i : Int) 0) (std.cmp .lss (c.toNat : Int) 48)) (std.cmp .gtr (c.toNat : Int) 57)) = !nameP i c := by
   rw [Bool.eq_iff_iff]
   simp [nameP, digC, inC]
   omega
  rw [e]
  cases nameP i c <;> rfl) (by
  unfold Anf
  simp only
  rw [Arn, lssF, br_false, s_land, Azg, Ap6, s_leq, Aag, show decide ((s.size : Int) ≤ 64) = decide (s.size ≤ 64) from leN (b := 64)]
  rfl)
 rw [show ((0 : Int)) = ((0 : Nat) : Int) from rfl, this]
 unfold nameS
 rw [Bool.and_assoc]
theorem Ayu (s : ByteArray) : An6 std s = some (Ap5 s) := by
 unfold An6
 have h0 : std.and (std.scmp .neq s (ByteArray.mk (Array.mk []))) (std.cmp .leq (std.slen s) 64) = (decide (1 ≤ s.size) && decide (s.size ≤ 64)) := by
  rw [s_land, Azg, Ap6, s_leq, s_slen]; congr 1; exact leN (b := 64)
 rw [h0]
 unfold Ap5
 by_cases h : (decide (1 ≤ s.size) && decide (s.size ≤ 64)) = true
 ·rw [h, gd_t, A24, Anm _ (fun c => !Ahk c) _ (fun c _ => by
   unfold Ang
   congr 1
   rw [Bool.eq_iff_iff]
   simp [Ahk, inC]
   omega) (by simp at h; rw [Aag]; unfold big63; omega), bd_some, s_land, s_not, Bool.true_and]
  rw [Bool.and_assoc, h, Bool.and_true, List.all_eq_not_any_not]
 ·simp only [Bool.not_eq_true] at h
  rw [h, gd_f, bd_some, s_land, Bool.false_and, Bool.and_assoc, h, Bool.and_false]
theorem Ai0 {α : Type} (p : α → Bool) (xs : List α) : ∀ i, allI (fun _ x => p x) i xs = xs.all p := by
 induction xs with
 | nil => intro i; rfl
 | cons x xs ih => intro i; simp only [allI, List.all_cons, ih]
theorem Loop_bytes {S : Type} {B : S → Option (S ⊕ Bool)} (enc : Int → S) (s : ByteArray) (hs : s.size ≤ big63) (p : Nat → UInt8 → Bool) (fin : Bool)
  (step : Int → Option (S ⊕ Bool)) (out : Option Bool)
  (hB : ∀ i, B (enc i) = br (std.cmp .lss i (std.slen s)) (ck (std.inb i (std.slen s)) (step i)) (rt out))
  (h1 : ∀ (i : Nat) (c : UInt8), (bytes s)[i]? = some c → i < s.size → step i = some (if p i c then .inl (enc (std.ar .add .i64 i 1)) else .inr false)) (h2 : out = some fin) : Loop B (enc 0) = some (allI p 0 (bytes s) && fin) := by
 have := Aqp (B := B) (fun i => enc (i : Int)) (bytes s) p fin (fun i c hc hi => by
  have hi' : i < s.size := by rw [← Aag]; exact hi
  rw [hB, Arn, lssT hi, br_true, ck_t (inbT hi), h1 i c hc hi', s_add, wrap_succ hi' hs]) (by
  rw [hB, Arn, lssF, br_false, h2]
  rfl)
 exact this
theorem fin_size (s : ByteArray) (n : Nat) : std.and (std.cmp .gtr (std.slen s) 0) (std.cmp .leq (std.slen s) (n : Int)) = (decide (1 ≤ s.size) && decide (s.size ≤ n)) := by
 rw [s_land, s_gtr, s_leq, s_slen, leN]
 congr 1
 rw [Bool.eq_iff_iff]; simp; omega
theorem Al2 (s : ByteArray) (hs : s.size ≤ big63) : Aae std s = some (wordS s) := by
 unfold Aae
 rw [Loop_bytes (fun i => (false, i)) s hs (fun _ c => wordC c) (decide (1 ≤ s.size) && decide (s.size ≤ 64)) _ _ (fun i => rfl) (fun i c hc hi => by
  rw [Aqq hc]
  have e : std.and (std.and (std.or (std.cmp .lss (c.toNat : Int) 97) (std.cmp .gtr (c.toNat : Int) 122)) (std.or (std.cmp .lss (c.toNat : Int) 48) (std.cmp .gtr (c.toNat : Int) 57))) (std.cmp .neq (c.toNat : Int) 95) = !wordC c := by
   rw [Bool.eq_iff_iff]; simp [wordC, lowC, digC, barC, inC]; omega
  rw [e]; cases wordC c <;> rfl) (congrArg some (fin_size s 64)), Ai0]
 unfold wordS
 rw [Bool.and_assoc]
theorem Aqr (s : ByteArray) (hs : s.size ≤ big63) : Aaz std s = some (nameS s) := by
 unfold Aaz
 rw [Loop_bytes (fun i => (false, i)) s hs nameP (decide (1 ≤ s.size) && decide (s.size ≤ 64)) _ _ (fun i => rfl) (fun i c hc hi => by
  rw [Aqq hc]
  have e : ∀ x : Bool, std.and (std.not (std.or (std.or (std.and (std.cmp .geq (c.toNat : Int) 97) (std.cmp .leq (c.toNat : Int) 122)) (std.and (std.cmp .geq (c.toNat : Int) 65) (std.cmp .leq (c.toNat : Int) 90))) (std.cmp .eql (c.toNat : Int) 95))) (std.or (std.or (std.cmp .eql (i : Int) 0) (std.cmp .lss (c.toNat : Int) 48)) (std.cmp .gtr (c.toNat : Int) 57)) = !nameP i c := by
   intro x
   rw [Bool.eq_iff_iff]; simp [nameP, letC, lowC, upC, digC, barC, inC]; omega
  rw [e true]; cases nameP i c <;> rfl) (congrArg some (fin_size s 64))]
 unfold nameS
 rw [Bool.and_assoc]
theorem vc_of {b : Bool} {p : Prop} (h : b = true → p) : vc b p := by
 cases b with
 | true => exact h rfl
 | false => exact True.intro
theorem ref_Value_eq (s : ByteArray) (hs : s.size ≤ big63) : Aec std s = some (Ap5 s) := by
 unfold Aec
 rw [Loop_bytes (B := Aja std s) (fun i => i) s hs (fun _ c => Ahk c) (decide (1 ≤ s.size) && decide (s.size ≤ 64)) _ _ (fun i => rfl) (fun i c hc hi => by
  rw [ck_t (vc_of fun _ => by rw [s_slen]; exact inbT hi), Aqq hc]
  have e : std.or (std.cmp .lss (c.toNat : Int) 32) (std.cmp .gtr (c.toNat : Int) 126) = !Ahk c := by
   rw [Bool.eq_iff_iff]; simp [Ahk, inC]; omega
  rw [e]; cases Ahk c <;> rfl) (congrArg some (fin_size s 64)), Ai0]
 unfold Ap5
 rw [Bool.and_assoc]
def lessS (a b : ByteArray) : Bool := std.scmp .lss a b
theorem Bbv (a b : ByteArray) : std.scmp .geq a b = !lessS a b := rfl
def ordP {α : Type} (may : α → Bool) (key : α → ByteArray) (xs : List α) (i : Nat) (x : α) : Bool := may x && (decide (i = 0) || match xs[i - 1]? with | some y => lessS (key y) (key x) | none => false)
theorem prevI {i : Nat} (h : 0 < i) (hi : i ≤ big63) : std.ar .sub .i64 (i : Int) 1 = ((i - 1 : Nat) : Int) := by
 rw [s_sub, w64 (by unfold big63 at hi; omega)]; omega
theorem Ale {α : Type} {xs : List α} {i : Nat} (h : i < xs.length) : ∃ x, xs[i]? = some x := ⟨xs[i], List.getElem?_eq_getElem h⟩
theorem Agh {α : Type} {xs : List α} {i : Nat} {x : α} (h : xs[i]? = some x) : i < xs.length := by
 rcases Nat.lt_or_ge i xs.length with h1 | h1
 ·exact h1
 ·rw [List.getElem?_eq_none h1] at h; cases h
theorem Aab {t : Ty} {xs : List (U t)} {i : Nat} {x : U t} (h : xs[i]? = some x) : std.get t xs (i : Int) = x := by
 rw [s_get, Int.toNat_natCast, get_at h]
theorem Acs {S : Type} {t : Ty} {B : S → Option (S ⊕ Bool)} (enc : Int → S) (xs : List (U t)) (hl : xs.length ≤ big63) (p : Nat → U t → Bool) (fin : Bool)
  (step : Int → Option (S ⊕ Bool)) (out : Option Bool)
  (hB : ∀ i, B (enc i) = br (std.cmp .lss i (std.len t xs)) (ck (std.inb i (std.len t xs)) (step i)) (rt out))
  (h1 : ∀ (i : Nat) (x : U t), xs[i]? = some x → i < xs.length → step i = some (if p i x then .inl (enc (std.ar .add .i64 i 1)) else .inr false)) (h2 : allI p 0 xs = true → out = some fin) (h3 : allI p 0 xs = false → ∃ v, out = some v) : Loop B (enc 0) = some (allI p 0 xs && fin) := by
 cases hA : allI p 0 xs with
 | true =>
  have := Aqp (B := B) (fun i => enc (i : Int)) xs p fin (fun i c hc hi => by
   rw [hB, Aaa, lssT hi, br_true, ck_t (inbT hi), h1 i c hc hi, s_add, wrap_succ hi hl]) (by
   rw [hB, Aaa, lssF, br_false, h2 hA]
   rfl)
  rw [hA] at this
  exact this
 | false =>
  obtain ⟨v, hv⟩ := h3 hA
  have := Aqp (B := B) (fun i => enc (i : Int)) xs p v (fun i c hc hi => by
   rw [hB, Aaa, lssT hi, br_true, ck_t (inbT hi), h1 i c hc hi, s_add, wrap_succ hi hl]) (by
   rw [hB, Aaa, lssF, br_false, hv]
   rfl)
  rw [hA] at this
  exact this
theorem Amv {S : Type} {t : Ty} (xs : List (U t)) (q : U t → Option Bool) (may : U t → Bool) (key : U t → ByteArray) (hl : xs.length ≤ big63) (e : Int → S) (i : Nat) (x : U t) (hx : xs[i]? = some x) (hq : q x = some (may x)) :
  (bd (q (std.get t xs i)) fun w2 => ck (vc (std.and (std.not (std.not w2)) (std.cmp .gtr (i : Int) 0)) (std.inb (std.ar .sub .i64 i 1) (std.len t xs))) <| br (std.or (std.not w2) (std.and (std.cmp .gtr (i : Int) 0) (std.scmp .geq (key (std.get t xs (std.ar .sub .i64 i 1))) (key (std.get t xs i))))) (rt (some false)) (some (.inl (e (std.ar .add .i64 i 1))))) =
   some (if ordP may key xs i x then (.inl (e (std.ar .add .i64 i 1)) : S ⊕ Bool) else .inr false) := by
 have hi := Agh hx
 rw [Aab hx, hq, bd_some]
 have hc : std.cmp .gtr (i : Int) 0 = decide (0 < i) := by rw [s_gtr, Bool.eq_iff_iff]; simp
 rw [hc]
 rcases Nat.eq_zero_or_pos i with rfl | h0
 ·rw [ck_t (vc_of fun h => by simp at h)]
  simp only [ordP]
  cases may x <;> simp [br, rt]
 ·obtain ⟨y, hy⟩ := Ale (xs := xs) (i := i - 1) (by omega)
  rw [prevI h0 (by omega), ck_t (vc_of fun _ => by rw [Aaa]; exact inbT (by omega)), Aab hy, Bbv]
  simp only [ordP, hy, decide_eq_true h0]
  have : decide (i = 0) = false := decide_eq_false (by omega)
  rw [this]
  cases may x <;> cases lessS (key y) (key x) <;> simp [br, rt]
theorem A25 (a b : ByteArray) (ha : a.size ≤ big63) (i : Nat) : Afg std a b (false, (i : Int)) =
  match (bytes a)[i]?, (bytes b)[i]? with
  | some x, some y => if x = y then some (.inl (false, ((i + 1 : Nat) : Int))) else some (.inr (decide (x < y)))
  | _, _ => some (.inr (decide (a.size < b.size))) := by
 unfold Afg
 simp only
 have out : ∀ l r : Bool, (l && r) = false → br (std.and l r) (ck (std.inb (i : Int) (std.slen a)) <| ck (std.inb (i : Int) (std.slen b)) <| br (std.cmp .neq (std.sget a i) (std.sget b i)) (rt (some (std.cmp .lss (std.sget a i) (std.sget b i)))) (some (.inl (false, std.ar .add .i64 (i : Int) 1)))) (rt (some (std.cmp .lss (std.slen a) (std.slen b)))) = some (.inr (decide (a.size < b.size))) := by
  intro l r h
  rw [s_land, h, br_false, s_lss, s_slen, s_slen]
  simp only [rt]
  congr 2
  rw [Bool.eq_iff_iff]; simp
 cases hx : (bytes a)[i]? with
 | none =>
  have h1 : a.size ≤ i := by rw [← Aag]; exact List.getElem?_eq_none_iff.1 hx
  exact out _ _ (by rw [s_lss, s_slen, decide_eq_false (by omega), Bool.false_and])
 | some x =>
  have hia := Agh hx
  cases hy : (bytes b)[i]? with
  | none =>
   have h1 : b.size ≤ i := by rw [← Aag]; exact List.getElem?_eq_none_iff.1 hy
   exact out _ _ (by rw [show std.cmp .lss (i : Int) (std.slen b) = false from decide_eq_false (by rw [s_slen]; omega), Bool.and_false])
  | some y =>
   have hib := Agh hy
   rw [Arn a, Arn b, lssT hia, lssT hib, s_land, Bool.true_and, br_true, ck_t (inbT hia), ck_t (inbT hib), Aqq hx, Aqq hy, s_neq, s_lss, s_add, wrap_succ hia (by rw [Aag]; exact ha)]
   by_cases h : x = y
   ·subst h; simp [br_false]
   ·have h4 : ((x.toNat : Int) != (y.toNat : Int)) = true := by
     rw [bne_iff_ne]; intro h5; exact h (UInt8.toNat_inj.1 (by omega))
    rw [h4, br_true]
    simp only [rt, if_neg h]
    congr 2
    rw [Bool.eq_iff_iff]
    simp only [decide_eq_true_eq, UInt8.lt_iff_toNat_lt]
    omega
theorem As6 (a b : ByteArray) (ha : a.size ≤ big63) : Aa0 std a b = some (lessS a b) := by
 unfold Aa0
 have key : ∀ (n i : Nat), i + n = a.size → Loop (Afg std a b) (false, (i : Int)) = some (Op.bytesLess ((bytes a).drop i) ((bytes b).drop i)) := by
  intro n
  induction n with
  | zero =>
   intro i hi
   have hx : (bytes a)[i]? = none := List.getElem?_eq_none (by rw [Aag]; omega)
   rw [Acg, A25 a b ha, hx]
   simp only
   rw [List.drop_eq_nil_of_le (by rw [Aag]; omega)]
   cases h : (bytes b).drop i with
   | nil =>
    have := List.drop_eq_nil_iff.1 h
    rw [Aag] at this
    rw [decide_eq_false (by omega)]; rfl
   | cons y r =>
    have : i < (bytes b).length := by
     rcases Nat.lt_or_ge i (bytes b).length with h1 | h1
     ·exact h1
     ·rw [List.drop_eq_nil_of_le h1] at h; cases h
    rw [Aag] at this
    rw [decide_eq_true (by omega)]; rfl
  | succ n ih =>
   intro i hi
   obtain ⟨x, hx, _, hd, _⟩ := i_at (xs := bytes a) (i := i) (by rw [Aag]; omega)
   rw [Acg, A25 a b ha, hx, hd]
   cases hy : (bytes b)[i]? with
   | none =>
    have h1 : (bytes b).length ≤ i := List.getElem?_eq_none_iff.1 hy
    rw [List.drop_eq_nil_of_le h1]
    rw [Aag] at h1
    simp only
    rw [decide_eq_false (by omega)]; rfl
   | some y =>
    obtain ⟨y', hy', _, hd', _⟩ := i_at (xs := bytes b) (i := i) (Agh hy)
    rw [hy] at hy'; cases hy'
    rw [hd']
    simp only
    by_cases h : x = y
    ·rw [if_pos h]
     simp only
     rw [ih (i + 1) (by omega)]
     subst h
     simp [Op.bytesLess]
    ·rw [if_neg h]
     simp only
     simp [Op.bytesLess, h]
 have := key a.size 0 (by omega)
 rw [List.drop_zero, List.drop_zero] at this
 refine this.trans ?_
 show some _ = some (Op.bytesLess a.toList b.toList)
 rw [ByteArray.toList_eq, ByteArray.toList_eq]
abbrev fitS (s : ByteArray) : Prop := s.size ≤ big63
def fitL {α : Type} (P : α → Prop) (xs : List α) : Prop := xs.length ≤ big63 ∧ ∀ x ∈ xs, P x
def Aqs (x : Label) : Prop := fitS x.Name ∧ fitS x.Value
def Agr (m : Matcher) : Prop := fitS m.Name ∧ fitL fitS m.Words
def Att (h : Hours) : Prop := fitS h.Name
def Aqt (r : Rule) : Prop := fitS r.Name ∧ fitS r.Metric ∧ fitL Aqs r.Labels
def Al3 (x : Inhibit) : Prop := fitL Agr x.Source ∧ fitL Agr x.Target ∧ fitL fitS x.Equal
theorem Abl {α : Type} {xs : List α} {i : Nat} {x : α} (h : xs[i]? = some x) : x ∈ xs := List.mem_of_getElem? h
theorem gd_of {α : Type} {d : α} {c : Bool} {t : Option α} {v : α} (h : c = true → t = some v) : gd d c t = some (cond c v d) := by
 cases c with
 | true => exact h rfl
 | false => rfl
theorem gd_b {c : Bool} {t : Option Bool} {v : Bool} (h : c = true → t = some v) : gd false c t = some (c && v) := by
 cases c with
 | true => exact h rfl
 | false => rfl
def Alf (x : Label) : Bool := nameS x.Name && Ap5 x.Value
def labelsS (xs : List Label) : Bool := allI (ordP Alf (·.Name) xs) 0 xs && decide (xs.length ≤ 8)
theorem A26 (x : Label) (h : fitS x.Name) : Apy std x = some (Alf x) := by
 unfold Apy
 rw [A1f _ h, bd_some, Ayu, gd_b (fun _ => rfl), bd_some]
 unfold Alf
 cases nameS x.Name <;> rfl
theorem Aji {t : Ty} (xs : List (U t)) (n : Nat) : std.cmp .leq (std.len t xs) (n : Int) = decide (xs.length ≤ n) := by rw [s_leq, Aaa, leN]
theorem Api (xs : List Label) (h : fitL Aqs xs) : Ae7 std xs = some (labelsS xs) := by
 unfold Ae7
 exact Acs (t := TyS.label) (B := Asi std xs) (fun i => i) xs h.1 (ordP Alf (·.Name) xs) (decide (xs.length ≤ 8)) _ _ (fun i => rfl)
  (fun i x hx hi => Amv (t := TyS.label) xs (Apy std) Alf (·.Name) h.1 (fun i => i) i x hx (A26 x (h.2 x (Abl hx)).1)) (fun _ => congrArg some (Aji (t := TyS.label) xs 8)) (fun _ => ⟨_, rfl⟩)
theorem A1g {S : Type} {t : Ty} (xs : List (U t)) (q : U t → Option Bool) (may : U t → Bool) (key : U t → ByteArray) (hl : xs.length ≤ big63) (hk : ∀ x ∈ xs, fitS (key x)) (e : Int → S) (i : Nat) (x : U t) (hx : xs[i]? = some x) (hq : q x = some (may x)) :
  (bd (q (std.get t xs i)) fun w2 => ck (vc (std.and (std.not (std.not w2)) (std.cmp .gtr (i : Int) 0)) (std.inb (std.ar .sub .i64 i 1) (std.len t xs))) <| bd (gd false (std.and (std.not (std.not w2)) (std.cmp .gtr (i : Int) 0)) (Aa0 std (key (std.get t xs (std.ar .sub .i64 i 1))) (key (std.get t xs i)))) fun w4 => br (std.or (std.not w2) (std.and (std.cmp .gtr (i : Int) 0) (std.not w4))) (rt (some false)) (some (.inl (e (std.ar .add .i64 i 1))))) =
   some (if ordP may key xs i x then (.inl (e (std.ar .add .i64 i 1)) : S ⊕ Bool) else .inr false) := by
 have hi := Agh hx
 rw [Aab hx, hq, bd_some]
 have hc : std.cmp .gtr (i : Int) 0 = decide (0 < i) := by rw [s_gtr, Bool.eq_iff_iff]; simp
 rw [hc]
 rcases Nat.eq_zero_or_pos i with rfl | h0
 ·rw [ck_t (vc_of fun h => by simp at h)]
  simp only [ordP]
  cases may x <;> simp [br, rt, gd, bd]
 ·obtain ⟨y, hy⟩ := Ale (xs := xs) (i := i - 1) (by omega)
  rw [prevI h0 (by omega), ck_t (vc_of fun _ => by rw [Aaa]; exact inbT (by omega)), Aab hy, As6 _ _ (hk y (Abl hy))]
  simp only [ordP, hy, decide_eq_true h0]
  have : decide (i = 0) = false := decide_eq_false (by omega)
  rw [this]
  cases may x <;> cases lessS (key y) (key x) <;> simp [br, rt, gd, bd]
theorem A1h (xs : List Label) (h : fitL Aqs xs) : Ac5 std xs = some (labelsS xs) := by
 unfold Ac5
 refine Acs (t := TyS.label) (B := Ajb std xs) (fun i => i) xs h.1 (ordP Alf (·.Name) xs) (decide (xs.length ≤ 8)) _ _ (fun i => rfl) (fun i x hx hi => ?_) (fun _ => congrArg some (Aji (t := TyS.label) xs 8)) (fun _ => ⟨_, rfl⟩)
 have hx' := h.2 x (Abl hx)
 refine Eq.trans ?_ (A1g (t := TyS.label) xs (fun x => some (Alf x)) Alf (·.Name) h.1 (fun y hy => (h.2 y hy).1) (fun i => i) i x hx rfl)
 have hg : std.get TyS.label xs (i : Int) = x := Aab (t := TyS.label) hx
 rw [hg, Aqr _ hx'.1, bd_some, ref_Value_eq _ hx'.2, gd_b (fun _ => rfl), bd_some, bd_some]
 unfold Alf
 cases nameS x.Name <;> rfl
theorem A27 (xs : List Label) (s : ByteArray) (h : xs.length ≤ big63) : Arj std xs s = some (match xs.find? (fun l => decide (l.Name = s)) with | some l => l.Value | none => ⟨#[]⟩) := by
 unfold Arj
 rw [Aw2 xs (fun l => decide (l.Name = s)) (fun y0 => An7 std y0 s) (fun x _ => by unfold An7; rw [s_seql]) h, bd_some]
 unfold fnd
 cases hf : xs.findIdx? (fun l => decide (l.Name = s)) with
 | none =>
  have : xs.find? (fun l => decide (l.Name = s)) = none := by
   rw [List.findIdx?_eq_none_iff] at hf
   rw [List.find?_eq_none]; intro x hx; rw [hf x hx]; simp
  rw [this]; rfl
 | some j =>
  obtain ⟨hj, hp, hn⟩ := List.findIdx?_eq_some_iff_getElem.1 hf
  have : xs.find? (fun l => decide (l.Name = s)) = some xs[j] := by
   rw [List.find?_eq_some_iff_getElem]
   exact ⟨hp, j, hj, rfl, fun k hk => by have := hn k hk; simpa using this⟩
  rw [this]
  simp only
  have e : std.cmp .lss (j : Int) 0 = false := by rw [s_lss]; exact decide_eq_false (by omega)
  rw [e, br_false, Aaa, ck_t (inbT hj), Aab (t := TyS.label) (List.getElem?_eq_getElem hj)]
theorem Aro (s : ByteArray) : Ag4 std [⟨s, [], []⟩] = some (wordS s) := by
 unfold Ag4
 have h0 : std.cmp .leq (std.len TyS.dfn [⟨s, [], []⟩]) 64 = true := rfl
 rw [h0, gd_t, Au6 [⟨s, [], []⟩] (fun _ => !wordS s) _ (fun x hx => by
  obtain rfl := List.mem_singleton.1 hx
  unfold Ak7 Apv
  have : Loop (Aoz std ⟨s, [], []⟩) 0 = some (wordS s) := by
   rw [Acg]
   unfold Aoz
   simp only
   have h1 : std.cmp .lss 0 (std.len TyS.str []) = false := by decide
   rw [h1, br_false, Ann, bd_some, Aoh [] (fun _ => false) _ (fun x hx => by cases hx) (by decide), gd_b (fun _ => rfl), bd_some]
   have h2 : std.cmp .leq (std.len TyS.str []) 64 = true := by decide
   have h3 : std.cmp .eql (std.len TyS.str []) (std.len TyS.str []) = true := by decide
   rw [h2, h3]
   cases wordS s <;> rfl
  rw [this]
  rfl) (by simp [big63]), bd_some]
 cases wordS s <;> rfl
theorem Atu (s : ByteArray) : Anr std s = some (wordS s) := by unfold Anr; rw [Aro]; rfl
theorem Ayv (s : ByteArray) : Als std s = some (wordS s) := by unfold Als; rw [Aro]; rfl
theorem Asm (s : ByteArray) : Alu std s = some (wordS s) := by unfold Alu; rw [Aro]; rfl
def timeS (n : Int) : Bool := decide (0 ≤ n) && decide (n ≤ 1099511627776)
def Atv : ByteArray := ByteArray.mk (Array.mk [97, 108, 101, 114, 116])
def A1i (xs : List Label) : Bool := xs.all fun l => !decide (l.Name = Atv)
def ruleS (r : Rule) : Bool := wordS r.Name && wordS r.Metric && decide (1 ≤ r.How) && decide (r.How ≤ 5) && timeS r.For && timeS r.Keep && decide (1 ≤ r.Tries) && decide (r.Tries ≤ 10) && decide (-1099511627776 ≤ r.Limit) && decide (r.Limit ≤ 1099511627776) && decide (r.Labels.length ≤ 4) && labelsS r.Labels && A1i r.Labels
theorem Atw (n : Int) : Apw std n = some (timeS n) := rfl
theorem Av2 {α : Type} {p : Nat → α → Bool} {xs : List α} : ∀ {i : Nat}, allI p i xs = true → ∀ x ∈ xs, ∃ j, p j x = true := by
 induction xs with
 | nil => intro i _ x hx; cases hx
 | cons y ys ih =>
  intro i h x hx
  simp only [allI, Bool.and_eq_true] at h
  rcases List.mem_cons.1 hx with rfl | hx
  ·exact ⟨i, h.1⟩
  ·exact ih h.2 x hx
theorem labelsS_mem {xs : List Label} (h : labelsS xs = true) : ∀ x ∈ xs, Alf x = true := by
 intro x hx
 simp only [labelsS, Bool.and_eq_true] at h
 obtain ⟨j, hj⟩ := Av2 h.1 x hx
 simp only [ordP, Bool.and_eq_true] at hj
 exact hj.1
theorem A8z {xs : List Label} (h : labelsS xs = true) : decide ((match xs.find? (fun l => decide (l.Name = Atv)) with | some l => l.Value | none => ⟨#[]⟩) = ByteArray.mk (Array.mk [])) = A1i xs := by
 unfold A1i
 cases hf : xs.find? (fun l => decide (l.Name = Atv)) with
 | none =>
  rw [List.find?_eq_none] at hf
  have : (xs.all fun l => !decide (l.Name = Atv)) = true := by
   rw [List.all_eq_true]; intro x hx; have := hf x hx; simpa using this
  rw [this]; rfl
 | some l =>
  have hm := List.mem_of_find?_eq_some hf
  have hp := List.find?_some hf
  have : (xs.all fun l => !decide (l.Name = Atv)) = false := by
   rw [Bool.eq_false_iff]; intro h2
   rw [List.all_eq_true] at h2
   have := h2 l hm
   rw [hp] at this; cases this
  rw [this]
  have hl := labelsS_mem h l hm
  simp only [Alf, Ap5, Bool.and_eq_true, decide_eq_true_eq] at hl
  apply decide_eq_false
  intro e
  have h1 : l.Value.size = 0 := by
   have : l.Value = ByteArray.mk (Array.mk []) := e
   rw [this]; rfl
  omega
theorem Asn (r : Rule) (h : Aqt r) : Aj8 std r = some (ruleS r) := by
 unfold Aj8
 rw [Atu, bd_some, gd_b (fun _ => Atu _), bd_some, Atw, bd_some, gd_b (fun _ => Atw _), bd_some]
 rw [gd_b (fun _ => Api _ h.2.2), bd_some, gd_of (fun _ => A27 _ _ h.2.2.1), bd_some]
 simp only [s_land, s_geq, s_leq, s_seql]
 congr 1
 rw [show decide (((std.len TyS.label r.Labels : Int)) ≤ 4) = decide (r.Labels.length ≤ 4) from leN (b := 4)]
 unfold ruleS
 cases h1 : wordS r.Name <;> cases h2 : wordS r.Metric <;> cases h3 : timeS r.For <;> cases h4 : timeS r.Keep <;> simp only [Bool.true_and, Bool.false_and, Bool.and_false, Bool.and_true]
 generalize hg : (decide (1 ≤ r.How) && decide (r.How ≤ 5) && (decide (1 ≤ r.Tries) && decide (r.Tries ≤ 10)) && decide (-1099511627776 ≤ r.Limit) && decide (r.Limit ≤ 1099511627776) && decide (r.Labels.length ≤ 4)) = g
 have hg2 : (decide (1 ≤ r.How) && decide (r.How ≤ 5) && decide (1 ≤ r.Tries) && decide (r.Tries ≤ 10) && decide (-1099511627776 ≤ r.Limit) && decide (r.Limit ≤ 1099511627776) && decide (r.Labels.length ≤ 4)) = g := by rw [← hg]; simp only [Bool.and_assoc]
 rw [hg2]
 cases g with
 | false => rfl
 | true =>
  cases h5 : labelsS r.Labels with
  | false => rfl
  | true =>
   simp only [Bool.true_and, cond_true]
   exact A8z h5
theorem A28 (n : Int) : Adf std n = some (timeS n) := rfl
theorem Aj2 (a b : Int) : decide (a < b) = !decide (b ≤ a) := by rw [Bool.eq_iff_iff]; simp
theorem A47 (r : Rule) (h : Aqt r) : Aed std r = some (ruleS r) := by
 have hout : ∀ (B : Option Bool), B = (bd (Aae std r.1) fun w2 =>
    bd (gd false (std.not (std.not w2)) (Aae std r.2)) fun w3 =>
    br (std.or (std.or (std.or (std.or (std.or (std.not w2) (std.not w3)) (std.cmp .lss r.3 1)) (std.cmp .gtr r.3 5)) (std.cmp .lss r.7 1)) (std.cmp .gtr r.7 10)) (
     some false
    ) (
     br (std.or (std.cmp .lss r.4 (-1099511627776)) (std.cmp .gtr r.4 1099511627776)) (
      some false
     ) (
      bd (Adf std r.5) fun w4 =>
      bd (gd false (w4) (Adf std r.6)) fun w5 =>
      bd (gd false (std.and (std.and w4 w5) (std.cmp .leq (std.len TyS.label r.8) 4)) (Ac5 std r.8)) fun w6 =>
      some (std.and (std.and (std.and w4 w5) (std.cmp .leq (std.len TyS.label r.8) 4)) w6)
     )
    )) → B = some (wordS r.Name && wordS r.Metric && decide (1 ≤ r.How) && decide (r.How ≤ 5) && timeS r.For && timeS r.Keep && decide (1 ≤ r.Tries) && decide (r.Tries ≤ 10) && decide (-1099511627776 ≤ r.Limit) && decide (r.Limit ≤ 1099511627776) && decide (r.Labels.length ≤ 4) && labelsS r.Labels) := by
  rintro _ rfl
  rw [Al2 _ h.1, bd_some, gd_b (fun _ => Al2 _ h.2.1), bd_some, A28, bd_some, gd_b (fun _ => A28 _), bd_some, gd_b (fun _ => A1h _ h.2.2), bd_some]
  simp only [s_land, s_lor, s_not, s_leq, s_lss, s_gtr, Aj2, show decide (((std.len TyS.label r.Labels : Int)) ≤ 4) = decide (r.Labels.length ≤ 4) from leN (b := 4)]
  generalize decide (1 ≤ r.How) = a1
  generalize decide (r.How ≤ 5) = a2
  generalize decide (1 ≤ r.Tries) = a3
  generalize decide (r.Tries ≤ 10) = a4
  generalize decide (-1099511627776 ≤ r.Limit) = a5
  generalize decide (r.Limit ≤ 1099511627776) = a6
  generalize decide (r.Labels.length ≤ 4) = a7
  generalize labelsS r.Labels = a8
  generalize timeS r.For = a9
  generalize timeS r.Keep = a10
  cases wordS r.Name
  ·rfl
  cases wordS r.Metric
  ·rfl
  cases a1
  ·rfl
  cases a2
  ·rfl
  cases a3
  ·cases a9 <;> cases a10 <;> rfl
  cases a4
  ·cases a9 <;> cases a10 <;> rfl
  cases a5
  ·cases a9 <;> cases a10 <;> rfl
  cases a6
  ·cases a9 <;> cases a10 <;> rfl
  cases a9
  ·rfl
  cases a10
  ·rfl
  cases a7
  ·rfl
  rfl
 unfold Aed
 have hout' := hout _ rfl
 have := Acs (t := TyS.label) (B := Ajc std r) (fun i => i) r.Labels h.2.2.1 (fun _ l => !decide (l.Name = Atv)) _ (fun i => br (std.scmp .eql (std.get TyS.label r.8 i).1 (ByteArray.mk (Array.mk [97, 108, 101, 114, 116]))) (rt (some false)) (some (.inl (std.ar .add .i64 i 1)))) _ (fun i => rfl)
  (fun i x hx hi => by
   rw [Aab (t := TyS.label) hx, s_seql]
   show br (decide (x.Name = Atv)) _ _ = _
   cases decide (x.Name = Atv) <;> rfl) (fun _ => hout') (fun _ => ⟨_, hout'⟩)
 refine this.trans ?_
 have e : allI (fun _ (l : Label) => !decide (l.Name = Atv)) 0 r.Labels = A1i r.Labels := Ai0 _ _ _
 exact congrArg some ((congrArg (fun b => b && _) e).trans (Bool.and_comm _ _))
def hourS (h : Hours) : Bool := wordS h.Name && decide (1 ≤ h.Days) && decide (h.Days ≤ 127) && decide (0 ≤ h.From) && decide (h.From ≤ 1439) && decide (h.From < h.To) && decide (h.To ≤ 1440)
theorem Apj (h : Hours) : Aio std h = some (hourS h) := by
 have hw := Ann h.Name
 have e : Aio std h = bd (Aiu std h.Name) fun w => some (std.and (std.and (std.and (std.and (std.and (std.and w (std.cmp .geq h.2 1)) (std.cmp .leq h.2 127)) (std.cmp .geq h.3 0)) (std.cmp .lss h.3 1440)) (std.cmp .gtr h.4 h.3)) (std.cmp .leq h.4 1440)) := by
  unfold Aio Aiu
  show bd (gd false _ (Aac std (std.s2b h.1) fun y0 => Akh std y0)) _ = _
  cases (gd false (std.and (std.scmp .neq h.1 (ByteArray.mk (Array.mk []))) (std.cmp .leq (std.slen h.1) 64)) (Aac std (std.s2b h.1) fun y0 => Akh std y0)) <;> rfl
 rw [e, hw, bd_some]
 unfold hourS
 congr 1
 simp only [s_land, s_geq, s_leq, s_gtr, s_lss]
 congr 3
 rw [Bool.eq_iff_iff]; simp; omega
theorem A48 (h : Hours) (hf : Att h) : Aee std h = some (hourS h) := by
 unfold Aee
 rw [Al2 _ hf, bd_some]
 rfl
def mwC (c : UInt8) : Bool := lowC c || upC c || digC c || barC c || inC 45 47 c || inC 58 58 c
def Ao3 (s : ByteArray) : Bool := (bytes s).all mwC && decide (s.size ≤ 64)
theorem A80 (l : List UInt8) (c : UInt8) : (0 : Int) ≤ Lib.indexByte l c ↔ l.contains c = true := by
 induction l with
 | nil => simp [Lib.indexByte]
 | cons b l ih =>
  have hg := Lib.indexByte_ge l c
  simp only [Lib.indexByte, List.contains_cons]
  by_cases h : b = c
  ·subst h; simp
  ·have h1 : (b == c) = false := by simpa using h
   have h2 : (c == b) = false := by simpa using fun e : c = b => h e.symm
   rw [h1, h2, Bool.false_or, ← ih]
   by_cases h3 : Lib.indexByte l c = -1
   ·simp [h3]
   ·have h4 : (Lib.indexByte l c == -1) = false := by simpa using h3
    rw [h4]
    simp
    omega
theorem index_ge (l : List UInt8) (c : UInt8) : decide ((0 : Int) ≤ Lib.indexByte l c) = l.contains c := by
 rw [Bool.eq_iff_iff, decide_eq_true_eq, A80]
theorem Bbd (c : UInt8) : ((c.toNat : Int)).toNat.toUInt8 = c := by
 rw [Int.toNat_natCast]
 exact UInt8.ofNat_toNat
theorem eqC (c : UInt8) (n : UInt8) : (c == n) = decide (c.toNat = n.toNat) := by
 rw [Bool.eq_iff_iff]; simp [← UInt8.toNat_inj]
theorem Bag (c : UInt8) : Ak8 std (c.toNat : Int) = some (mwC c) := by
 unfold Ak8
 have h0 : std.or (std.or (std.and (std.cmp .geq (c.toNat : Int) 97) (std.cmp .leq (c.toNat : Int) 122)) (std.and (std.cmp .geq (c.toNat : Int) 65) (std.cmp .leq (c.toNat : Int) 90))) (std.and (std.cmp .geq (c.toNat : Int) 48) (std.cmp .leq (c.toNat : Int) 57)) = (lowC c || upC c || digC c) := by
  rw [Bool.eq_iff_iff]; simp [lowC, upC, digC, inC]; omega
 rw [h0]
 have h1 : strings_IndexByte std (ByteArray.mk (Array.mk [95, 45, 46, 47, 58])) (c.toNat : Int) = some (Lib.indexByte [95, 45, 46, 47, 58] c) := by
  unfold strings_IndexByte; rw [Bbd]
 have h2 : [95, 45, 46, 47, 58].contains c = (barC c || inC 45 47 c || inC 58 58 c) := by
  simp only [List.contains_cons, eqC, List.contains_nil]
  rw [Bool.eq_iff_iff]; simp [barC, inC]; omega
 rw [h1]
 unfold mwC
 cases h : (lowC c || upC c || digC c) with
 | true => rfl
 | false =>
  simp only [s_not, Bool.not_false, gd_t, bd_some, s_geq, index_ge, h2, s_lor, Bool.false_or]
theorem Arp (s : ByteArray) : Ahi std s = some (Ao3 s) := by
 unfold Ahi
 rw [show std.cmp .leq (std.slen s) 64 = decide (s.size ≤ 64) by rw [s_leq, s_slen]; exact leN (b := 64)]
 unfold Ao3
 by_cases h : s.size ≤ 64
 ·rw [decide_eq_true h, gd_t, A24, Anm _ (fun c => !mwC c) _ (fun c _ => by
   unfold Al8; rw [Bag]; rfl) (by rw [Aag]; unfold big63; omega), bd_some, Bool.and_true, List.all_eq_not_any_not]
  rfl
 ·rw [decide_eq_false h, gd_f, bd_some, Bool.and_false]; rfl
theorem A29 (s : ByteArray) (hs : fitS s) : Ae0 std s = some (Ao3 s) := by
 unfold Ae0
 rw [Loop_bytes (fun i => (false, i)) s hs (fun _ c => mwC c) (decide (s.size ≤ 64)) _ _ (fun i => rfl) (fun i c hc hi => by
  rw [Aqq hc]
  have e : std.and (std.and (std.and (std.and (std.and (std.not (std.or (std.or (std.and (std.cmp .geq (c.toNat : Int) 97) (std.cmp .leq (c.toNat : Int) 122)) (std.and (std.cmp .geq (c.toNat : Int) 65) (std.cmp .leq (c.toNat : Int) 90))) (std.and (std.cmp .geq (c.toNat : Int) 48) (std.cmp .leq (c.toNat : Int) 57)))) (std.cmp .neq (c.toNat : Int) 95)) (std.cmp .neq (c.toNat : Int) 45)) (std.cmp .neq (c.toNat : Int) 46)) (std.cmp .neq (c.toNat : Int) 47)) (std.cmp .neq (c.toNat : Int) 58) = !mwC c := by
   rw [Bool.eq_iff_iff]; simp [mwC, lowC, upC, digC, barC, inC]; omega
  rw [e]; cases mwC c <;> rfl) (congrArg some (by rw [s_leq, s_slen]; exact leN (b := 64))), Ai0]
 rfl
theorem Aqu (s : ByteArray) (hs : fitS s) : Ae7 std [⟨s, ByteArray.mk (Array.mk [120])⟩] = some (nameS s) := by
 rw [Api _ ⟨by simp [big63], fun x hx => by obtain rfl := List.mem_singleton.1 hx; exact ⟨hs, by show (1 : Nat) ≤ big63; simp [big63]⟩⟩]
 have hv : Ap5 (ByteArray.mk (Array.mk [120])) = true := by decide
 simp only [labelsS, allI, ordP, Alf, hv, Bool.and_true, decide_true, Bool.true_or, List.length_singleton]
 rw [show decide (1 ≤ 8) = true from rfl, Bool.and_true]
def Azh (may : ByteArray → Bool) (xs : List ByteArray) : Bool := allI (ordP may (fun x => x) xs) 0 xs
def Ad0 (m : Matcher) : Bool := Azh Ao3 m.Words && (nameS m.Name && decide (1 ≤ m.How) && decide (m.How ≤ 4) && decide (1 ≤ m.Words.length) && decide (m.Words.length ≤ 8) && (decide (2 < m.How) || decide (m.Words.length = 1)))
theorem A6c (n : Int) : (lookI std n [(1, ByteArray.mk (Array.mk [61])), (2, ByteArray.mk (Array.mk [33, 61])), (3, ByteArray.mk (Array.mk [61, 126])), (4, ByteArray.mk (Array.mk [33, 126]))] (ByteArray.mk (Array.mk []))).2 = (decide (1 ≤ n) && decide (n ≤ 4)) := by
 simp only [lookI, s_eql]
 by_cases h1 : n = 1
 ·subst h1; rfl
 by_cases h2 : n = 2
 ·subst h2; rfl
 by_cases h3 : n = 3
 ·subst h3; rfl
 by_cases h4 : n = 4
 ·subst h4; rfl
 rw [beq_false_of_ne h1, beq_false_of_ne h2, beq_false_of_ne h3, beq_false_of_ne h4]
 simp only
 rw [eq_comm, Bool.and_eq_false_iff]
 simp only [decide_eq_false_iff_not]
 omega
theorem Am6 (m : Matcher) (h : Agr m) : Ad6 std m = some (Ad0 m) := by
 have hge : std.cmp .geq (std.len TyS.str m.Words) 1 = decide (1 ≤ m.Words.length) := by rw [s_geq, Aaa]; exact leN (a := 1)
 have hle : std.cmp .leq (std.len TyS.str m.Words) 8 = decide (m.Words.length ≤ 8) := Aji (t := TyS.str) m.Words 8
 have hle1 : std.cmp .leq (std.len TyS.str m.Words) 1 = decide (m.Words.length ≤ 1) := Aji (t := TyS.str) m.Words 1
 unfold Ad6 Ad0
 rw [s_gtr]
 by_cases h2 : 2 < m.How
 ·rw [decide_eq_true h2, br_true, Bool.true_or, Bool.and_true]
  refine Acs (t := TyS.str) (B := Aq2 std m) (fun i => i) m.Words h.2.1 (ordP Ao3 (fun x => x) m.Words) _ _ _ (fun i => rfl)
   (fun i x hx hi => Amv (t := TyS.str) m.Words (Ahi std) Ao3 (fun x => x) h.2.1 (fun i => i) i x hx (Arp x)) (fun _ => ?_) (fun _ => ?_)
  all_goals
   have hout : (bd (Afd std) fun w4 =>
    bd (some (lookI std m.2 [(1, ByteArray.mk (Array.mk [61])), (2, ByteArray.mk (Array.mk [33, 61])), (3, ByteArray.mk (Array.mk [61, 126])), (4, ByteArray.mk (Array.mk [33, 126]))] (ByteArray.mk (Array.mk [])))) fun w5 =>
    bd (gd false (w5.2) (Ae7 std [Label.mk m.1 (ByteArray.mk (Array.mk [120]))])) fun w6 =>
    some (std.and (std.and (std.and w5.2 w6) (std.cmp .geq (std.len TyS.str m.3) 1)) (std.cmp .leq (std.len TyS.str m.3) 8))) = some (nameS m.Name && decide (1 ≤ m.How) && decide (m.How ≤ 4) && decide (1 ≤ m.Words.length) && decide (m.Words.length ≤ 8)) := by
    unfold Afd
    rw [bd_some, bd_some, Aqu _ h.1, gd_b (fun _ => rfl), bd_some, A6c, hge, hle]
    simp only [s_land]
    cases decide (1 ≤ m.How) <;> cases decide (m.How ≤ 4) <;> cases nameS m.Name <;> rfl
  ·exact hout
  ·exact ⟨_, hout⟩
 ·rw [decide_eq_false h2, br_false, Bool.false_or]
  refine Acs (t := TyS.str) (B := Aq3 std m) (fun i => i) m.Words h.2.1 (ordP Ao3 (fun x => x) m.Words) _ _ _ (fun i => rfl)
   (fun i x hx hi => Amv (t := TyS.str) m.Words (Ahi std) Ao3 (fun x => x) h.2.1 (fun i => i) i x hx (Arp x)) (fun _ => ?_) (fun _ => ?_)
  all_goals
   have hout : (bd (Afd std) fun w4 =>
    bd (some (lookI std m.2 [(1, ByteArray.mk (Array.mk [61])), (2, ByteArray.mk (Array.mk [33, 61])), (3, ByteArray.mk (Array.mk [61, 126])), (4, ByteArray.mk (Array.mk [33, 126]))] (ByteArray.mk (Array.mk [])))) fun w5 =>
    bd (gd false (w5.2) (Ae7 std [Label.mk m.1 (ByteArray.mk (Array.mk [120]))])) fun w6 =>
    some (std.and (std.and (std.and w5.2 w6) (std.cmp .geq (std.len TyS.str m.3) 1)) (std.cmp .leq (std.len TyS.str m.3) 1))) = some (nameS m.Name && decide (1 ≤ m.How) && decide (m.How ≤ 4) && decide (1 ≤ m.Words.length) && decide (m.Words.length ≤ 8) && decide (m.Words.length = 1)) := by
    unfold Afd
    rw [bd_some, bd_some, Aqu _ h.1, gd_b (fun _ => rfl), bd_some, A6c, hge, hle1]
    simp only [s_land]
    have e : (decide (1 ≤ m.Words.length) && decide (m.Words.length ≤ 1)) = (decide (1 ≤ m.Words.length) && decide (m.Words.length ≤ 8) && decide (m.Words.length = 1)) := by
     rw [Bool.eq_iff_iff]; simp only [Bool.and_eq_true, decide_eq_true_eq]; omega
    simp only [Bool.and_assoc] at e ⊢
    rw [e]
    cases decide (1 ≤ m.How) <;> cases decide (m.How ≤ 4) <;> cases nameS m.Name <;> rfl
  ·exact hout
  ·exact ⟨_, hout⟩
theorem Aso (m : Matcher) (h : Agr m) : Abi std m = some (Ad0 m) := by
 unfold Abi Ad0
 have hle : std.cmp .gtr (std.len TyS.str m.Words) 8 = !decide (m.Words.length ≤ 8) := by rw [s_gtr, Aj2, Aaa]; congr 1; exact leN (b := 8)
 have hge : std.cmp .lss (std.len TyS.str m.Words) 1 = !decide (1 ≤ m.Words.length) := by rw [s_lss, Aj2, Aaa]; congr 1; exact leN (a := 1)
 have he : std.cmp .eql (std.len TyS.str m.Words) 1 = decide (m.Words.length = 1) := by rw [s_eql, Aaa, Bool.eq_iff_iff]; simp; omega
 have hout : (bd (Aaz std m.1) fun w5 =>
    br (std.or (std.or (std.or (std.or (std.not w5) (std.cmp .lss m.2 1)) (std.cmp .gtr m.2 4)) (std.cmp .lss (std.len TyS.str m.3) 1)) (std.cmp .gtr (std.len TyS.str m.3) 8)) (
     some false
    ) (
     some (std.or (std.cmp .gtr m.2 2) (std.cmp .eql (std.len TyS.str m.3) 1))
    )) = some (nameS m.Name && decide (1 ≤ m.How) && decide (m.How ≤ 4) && decide (1 ≤ m.Words.length) && decide (m.Words.length ≤ 8) && (decide (2 < m.How) || decide (m.Words.length = 1))) := by
  rw [Aqr _ h.1, bd_some, hle, hge, he]
  simp only [s_lor, s_not, s_lss, s_gtr, Aj2]
  cases nameS m.Name <;> cases decide (1 ≤ m.How) <;> cases decide (m.How ≤ 4) <;> cases decide (1 ≤ m.Words.length) <;> cases decide (m.Words.length ≤ 8) <;> rfl
 exact Acs (t := TyS.str) (B := Ajd std m) (fun i => i) m.Words h.2.1 (ordP Ao3 (fun x => x) m.Words) _ _ _ (fun i => rfl)
  (fun i x hx hi => by
   refine Eq.trans ?_ (A1g (t := TyS.str) m.Words (fun x => some (Ao3 x)) Ao3 (fun x => x) h.2.1 (fun y hy => h.2.2 y hy) (fun i => i) i x hx rfl)
   have hg : std.get TyS.str m.Words (i : Int) = x := Aab (t := TyS.str) hx
   rw [hg, A29 _ (h.2.2 x (Abl hx))]) (fun _ => hout) (fun _ => ⟨_, hout⟩)
def Ade (xs : List Matcher) : Bool := xs.all Ad0 && decide (xs.length ≤ 8)
theorem Arq (xs : List Matcher) (h : fitL Agr xs) : Aa1 std xs = some (Ade xs) := by
 unfold Aa1 Ade
 have hout : some (std.cmp .leq (std.len TyS.matcher xs) 8) = some (decide (xs.length ≤ 8)) := congrArg some (Aji (t := TyS.matcher) xs 8)
 have := Acs (t := TyS.matcher) (B := Ah3 std xs) (fun i => i) xs h.1 (fun _ x => Ad0 x) _ (fun i => bd (Abi std (std.get TyS.matcher xs i)) fun w2 => br (std.not w2) (rt (some false)) (some (.inl (std.ar .add .i64 i 1)))) _ (fun i => rfl)
  (fun i x hx hi => by
   rw [Aab (t := TyS.matcher) hx, Aso _ (h.2 x (Abl hx)), bd_some]
   cases Ad0 x <;> rfl) (fun _ => hout) (fun _ => ⟨_, hout⟩)
 exact this.trans (congrArg (fun b => some (b && _)) (Ai0 Ad0 xs 0))
theorem Aoi (xs : List Matcher) (h : fitL Agr xs) : Ab5 std xs 8 (fun y0 => Ad6 std y0) = some (Ade xs) := by
 rw [A46 xs 8 Ad0 _ (fun _ x hx => Am6 x (h.2 x hx)) (by decide)]
 unfold Ade
 rw [Bool.and_comm]
 congr 2
 exact leN (b := 8)
def Adh (x : Inhibit) : Bool := Azh nameS x.Equal && (decide (0 < x.Source.length) && decide (0 < x.Target.length) && decide (x.Equal.length ≤ 8) && Ade x.Source && Ade x.Target)
theorem Atx (x : Inhibit) (h : Al3 x) : Ahb std x = some (Adh x) := by
 unfold Ahb Adh
 have g1 : std.cmp .gtr (std.len TyS.matcher x.Source) 0 = decide (0 < x.Source.length) := by rw [s_gtr, Aaa, Bool.eq_iff_iff]; simp
 have g2 : std.cmp .gtr (std.len TyS.matcher x.Target) 0 = decide (0 < x.Target.length) := by rw [s_gtr, Aaa, Bool.eq_iff_iff]; simp
 have g3 : std.cmp .leq (std.len TyS.str x.Equal) 8 = decide (x.Equal.length ≤ 8) := Aji (t := TyS.str) x.Equal 8
 have hout : (bd (gd false (std.and (std.and (std.cmp .gtr (std.len TyS.matcher x.1) 0) (std.cmp .gtr (std.len TyS.matcher x.2) 0)) (std.cmp .leq (std.len TyS.str x.3) 8)) (Ab5 std x.1 8 fun y0 => Ad6 std y0)) fun w4 =>
    bd (gd false (std.and (std.and (std.and (std.cmp .gtr (std.len TyS.matcher x.1) 0) (std.cmp .gtr (std.len TyS.matcher x.2) 0)) (std.cmp .leq (std.len TyS.str x.3) 8)) w4) (Ab5 std x.2 8 fun y0 => Ad6 std y0)) fun w5 =>
    some (std.and (std.and (std.and (std.and (std.cmp .gtr (std.len TyS.matcher x.1) 0) (std.cmp .gtr (std.len TyS.matcher x.2) 0)) (std.cmp .leq (std.len TyS.str x.3) 8)) w4) w5)) = some (decide (0 < x.Source.length) && decide (0 < x.Target.length) && decide (x.Equal.length ≤ 8) && Ade x.Source && Ade x.Target) := by
  rw [g1, g2, g3, gd_b (fun _ => Aoi _ h.1), bd_some, gd_b (fun _ => Aoi _ h.2.1), bd_some]
  simp only [s_land]
  cases decide (0 < x.Source.length) <;> cases decide (0 < x.Target.length) <;> cases decide (x.Equal.length ≤ 8) <;> cases Ade x.Source <;> rfl
 exact Acs (t := TyS.str) (B := Ao0 std x) (fun i => i) x.Equal h.2.2.1 (ordP nameS (fun x => x) x.Equal) _ _ _ (fun i => rfl)
  (fun i y hy hi => by
   refine Eq.trans ?_ (Amv (t := TyS.str) x.Equal (fun y => some (nameS y)) nameS (fun x => x) h.2.2.1 (fun i => i) i y hy rfl)
   have hg : std.get TyS.str x.Equal (i : Int) = y := Aab (t := TyS.str) hy
   rw [hg, Aqu _ (h.2.2.2 y (Abl hy))]) (fun _ => hout) (fun _ => ⟨_, hout⟩)
theorem Ayw (x : Inhibit) (h : Al3 x) : Ack std x = some (Adh x) := by
 unfold Ack Adh
 have g1 : std.cmp .gtr (std.len TyS.matcher x.Source) 0 = decide (0 < x.Source.length) := by rw [s_gtr, Aaa, Bool.eq_iff_iff]; simp
 have g2 : std.cmp .gtr (std.len TyS.matcher x.Target) 0 = decide (0 < x.Target.length) := by rw [s_gtr, Aaa, Bool.eq_iff_iff]; simp
 have g3 : std.cmp .leq (std.len TyS.str x.Equal) 8 = decide (x.Equal.length ≤ 8) := Aji (t := TyS.str) x.Equal 8
 have hout : (bd (gd false (std.and (std.and (std.cmp .gtr (std.len TyS.matcher x.1) 0) (std.cmp .gtr (std.len TyS.matcher x.2) 0)) (std.cmp .leq (std.len TyS.str x.3) 8)) (Aa1 std x.1)) fun w5 =>
    bd (gd false (std.and (std.and (std.and (std.cmp .gtr (std.len TyS.matcher x.1) 0) (std.cmp .gtr (std.len TyS.matcher x.2) 0)) (std.cmp .leq (std.len TyS.str x.3) 8)) w5) (Aa1 std x.2)) fun w6 =>
    some (std.and (std.and (std.and (std.and (std.cmp .gtr (std.len TyS.matcher x.1) 0) (std.cmp .gtr (std.len TyS.matcher x.2) 0)) (std.cmp .leq (std.len TyS.str x.3) 8)) w5) w6)) = some (decide (0 < x.Source.length) && decide (0 < x.Target.length) && decide (x.Equal.length ≤ 8) && Ade x.Source && Ade x.Target) := by
  rw [g1, g2, g3, gd_b (fun _ => Arq _ h.1), bd_some, gd_b (fun _ => Arq _ h.2.1), bd_some]
  simp only [s_land]
  cases decide (0 < x.Source.length) <;> cases decide (0 < x.Target.length) <;> cases decide (x.Equal.length ≤ 8) <;> cases Ade x.Source <;> rfl
 exact Acs (t := TyS.str) (B := Aii std x) (fun i => i) x.Equal h.2.2.1 (ordP nameS (fun x => x) x.Equal) _ _ _ (fun i => rfl)
  (fun i y hy hi => by
   refine Eq.trans ?_ (A1g (t := TyS.str) x.Equal (fun y => some (nameS y)) nameS (fun x => x) h.2.2.1 (fun y hy => h.2.2.2 y hy) (fun i => i) i y hy rfl)
   have hg : std.get TyS.str x.Equal (i : Int) = y := Aab (t := TyS.str) hy
   rw [hg, Aqr _ (h.2.2.2 y (Abl hy))]) (fun _ => hout) (fun _ => ⟨_, hout⟩)
inductive RouteFit : Route → Prop where
 | mk (r : Route) (h1 : fitS r.Receiver) (h2 : fitL Agr r.Match) (h3 : fitL fitS r.By) (h4 : fitL fitS r.Mute) (h5 : r.Routes.length ≤ big63) (h6 : ∀ k ∈ r.Routes, RouteFit k) : RouteFit r
theorem Ar3 {r k : Route} (h : k ∈ r.Routes) : SizeOf.sizeOf k < SizeOf.sizeOf r := by
 have := List.sizeOf_lt_of_mem h
 cases r
 simp only [Route.mk.sizeOf_spec] at this ⊢
 omega
theorem Bah {α : Type} (a b : Nat → α → Bool) (xs : List α) : ∀ i, allI (fun i x => a i x && b i x) i xs = (allI a i xs && allI b i xs) := by
 induction xs with
 | nil => intro i; rfl
 | cons x xs ih =>
  intro i
  simp only [allI, ih]
  cases a i x <;> cases b i x <;> cases allI a (i + 1) xs <;> rfl
def ascP (xs : List ByteArray) (i : Nat) (x : ByteArray) : Bool := decide (i = 0) || match xs[i - 1]? with | some y => lessS y x | none => false
def ascS (xs : List ByteArray) : Bool := allI (ascP xs) 0 xs
theorem Aw4 (may : ByteArray → Bool) (xs : List ByteArray) : Azh may xs = (xs.all may && ascS xs) := by
 have e : ∀ i x, ordP may (fun x => x) xs i x = (may x && ascP xs i x) := fun i x => by
  unfold ordP ascP
  cases xs[i - 1]? <;> rfl
 have : Azh may xs = allI (fun i x => may x && ascP xs i x) 0 xs := congrArg (fun p => allI p 0 xs) (funext fun i => funext fun x => e i x)
 rw [this, Bah (fun _ x => may x), Ai0]
 rfl
def Ap7 (may : ByteArray → Bool) (xs : List ByteArray) : Bool := Azh may xs && decide (xs.length ≤ 8)
theorem Ap8 (xs : List ByteArray) (h : fitL fitS xs) (q : ByteArray → Option Bool) (may : ByteArray → Bool) (hq : ∀ x ∈ xs, q x = some (may x)) : Ah6 std xs q = some (Ap7 may xs) := by
 unfold Ah6 Ap7
 have hout : some (std.cmp .leq (std.len TyS.str xs) 8) = some (decide (xs.length ≤ 8)) := congrArg some (Aji (t := TyS.str) xs 8)
 exact Acs (t := TyS.str) (B := Apz std xs q) (fun i => (false, i)) xs h.1 (ordP may (fun x => x) xs) _ _ _ (fun i => rfl)
  (fun i x hx hi => Amv (t := TyS.str) xs q may (fun x => x) h.1 (fun i => (false, i)) i x hx (hq x (Abl hx))) (fun _ => hout) (fun _ => ⟨_, hout⟩)
theorem Ayx (s : ByteArray) (h : fitS s) : An8 std s = some (nameS s) := by
 unfold An8; rw [Aqu s h]; rfl
theorem Asp (xs : List ByteArray) (h : fitL fitS xs) : Aa5 std xs = some (ascS xs && decide (xs.length ≤ 8)) := by
 unfold Aa5
 have hout : std.cmp .leq (std.len TyS.str xs) 8 = decide (xs.length ≤ 8) := Aji (t := TyS.str) xs 8
 cases xs with
 | nil => rw [Acg]; rfl
 | cons x0 ys =>
  have := Aht (B := Acp std (x0 :: ys)) (fun i (_ : Unit) => (i : Int)) (x0 :: ys) (fun i x (_ : Unit) => if ascP (x0 :: ys) i x then .inl () else .inr false) (fun _ => decide ((x0 :: ys).length ≤ 8)) (fun i _ => 1 ≤ i)
   (fun i x s hx hI => by
    have hi := Agh hx
    have hB : Acp std (x0 :: ys) (i : Int) = some (if ascP (x0 :: ys) i x then .inl ((i + 1 : Nat) : Int) else .inr false) := by
     obtain ⟨y, hy⟩ := Ale (xs := x0 :: ys) (i := i - 1) (by omega)
     have h8 := h.1
     unfold Acp
     simp only
     rw [Aaa, lssT hi, br_true, prevI hI (by omega), ck_t (inbT (by omega)), ck_t (inbT hi), Aab (t := TyS.str) hy, Aab (t := TyS.str) hx, As6 _ _ (h.2 y (Abl hy)), bd_some, s_add, wrap_succ hi h8]
     have e : ascP (x0 :: ys) i x = lessS y x := by
      unfold ascP
      rw [hy, decide_eq_false (by omega), Bool.false_or]
     rw [e]
     cases lessS y x <;> rfl
    rw [hB]
    refine ⟨fun s' hs => ?_, fun e hs => ?_⟩
    ·cases hp : ascP (x0 :: ys) i x with
     | true => exact ⟨rfl, by omega⟩
     | false => rw [hp] at hs; cases hs
    ·cases hp : ascP (x0 :: ys) i x with
     | true => rw [hp] at hs; cases hs
     | false => rw [hp] at hs; cases hs; rfl)
   (fun s hI => by
    unfold Acp
    simp only
    rw [Aaa, lssF, br_false, ← Aaa (t := TyS.str), hout]
    rfl) 1 (by simp) () (Nat.le_refl 1)
  refine this.trans ?_
  rw [A6b]
  simp only [ascS, allI, List.drop_succ_cons, List.drop_zero]
  rfl
def fromS (lo n : Int) : Bool := decide (lo ≤ n) && decide (n ≤ 1099511627776)
theorem Arr (lo : Int) (l : List Int) (h : l.length ≤ big63) : Akj std lo l = some (l.all (fromS lo)) := by
 unfold Akj
 rw [A23 l (fun n => !fromS lo n) (fun y0 => Ajn std y0 lo) (fun x _ => by
  unfold Ajn
  congr 1
  simp only [s_lor, s_lss, s_gtr, Aj2, fromS]
  cases decide (lo ≤ x) <;> cases decide (x ≤ 1099511627776) <;> rfl) h, bd_some, List.all_eq_not_any_not]
 rfl
def oneS (r : Route) : Bool := wordS r.Receiver && Ade r.Match && decide (r.Routes.length ≤ 16) && Ap7 nameS r.By && Ap7 wordS r.Mute && fromS 0 r.Wait && fromS 1 r.Every && fromS 1 r.Repeat
def Agj : Nat → Route → Bool
 | 0, _ => false
 | d + 1, r => oneS r && r.Routes.all (Agj d)
theorem Aoj {α : Type} (p : α → Bool) (xs : List α) : (xs.any fun x => !p x) = !xs.all p := by
 rw [List.all_eq_not_any_not]; simp
theorem Aus {t : Ty} (xs : List (U t)) (n : Nat) : std.cmp .gtr (std.len t xs) (n : Int) = !decide (xs.length ≤ n) := by rw [s_gtr, Aj2, Aaa, leN]
theorem Aty : ∀ (n : Nat) (r : Route) (d : Nat), SizeOf.sizeOf r < n → RouteFit r → d ≤ 100 → Akk std n r (d : Int) = some (Agj d r)
 | 0, r, d, h, _, _ => by omega
 | n + 1, r, d, h, hf, hd => by
  obtain ⟨_, h1, h2, h3, h4, h5, h6⟩ := hf
  show Amo std (Akk std n) r (d : Int) = _
  unfold Amo
  have hz : std.cmp .eql (d : Int) 0 = decide (d = 0) := by rw [s_eql, Bool.eq_iff_iff]; simp
  rw [hz, gd_b (fun _ => Asm _), bd_some]
  have g8 : std.cmp .gtr (std.len TyS.matcher r.Match) 8 = !decide (r.Match.length ≤ 8) := Aus (t := TyS.matcher) r.Match 8
  have g16 : std.cmp .gtr (std.len TyS.route r.Routes) 16 = !decide (r.Routes.length ≤ 16) := Aus (t := TyS.route) r.Routes 16
  rw [g8, g16]
  rw [gd_b (fun _ => Aq4 r.Match (fun m => !Ad0 m) (fun y0 => Amm std y0) (fun m hm => by unfold Amm; rw [Am6 m (h2.2 m hm)]; rfl) h2.1), bd_some, Aoj]
  rw [Ap8 r.By h3 _ nameS (fun x hx => Ayx x (h3.2 x hx)), bd_some, gd_b (fun _ => Ap8 r.Mute h4 _ wordS (fun x hx => Asm x)), bd_some]
  rw [gd_b (fun _ => Arr 0 [r.Wait] (by simp [big63])), bd_some, gd_b (fun _ => Arr 1 [r.Every, r.Repeat] (by simp [big63])), bd_some]
  cases d with
  | zero => rfl
  | succ d =>
   have e1 : std.ar .sub .i64 ((d + 1 : Nat) : Int) 1 = (d : Int) := by rw [prevI (by omega) (by unfold big63; omega)]; rfl
   rw [Ayt r.Routes (fun k => !Agj d k) (fun y0 => Amn std (Akk std n) y0 ((d + 1 : Nat) : Int)) (fun k hk => by
    unfold Amn
    rw [e1, Aty n k d (by have := Ar3 hk; omega) (h6 k hk) (by omega)]
    rfl) h5, bd_some, Aoj]
   simp only [Agj, oneS, Ade, List.all_cons, List.all_nil, Bool.and_true, s_not, s_lor, Nat.succ_ne_zero, decide_false, Bool.not_false, Bool.true_and, Bool.false_or]
   generalize wordS r.Receiver = b1
   generalize decide (r.Match.length ≤ 8) = b2
   generalize r.Match.all Ad0 = b3
   generalize decide (r.Routes.length ≤ 16) = b4
   generalize Ap7 nameS r.By = b5
   generalize Ap7 wordS r.Mute = b6
   generalize fromS 0 r.Wait = b7
   generalize fromS 1 r.Every = b8
   generalize fromS 1 r.Repeat = b9
   generalize r.Routes.all (Agj d) = b10
   cases b1
   ·rfl
   cases b2
   ·cases b3 <;> rfl
   cases b3
   ·rfl
   cases b4
   ·rfl
   cases b5
   ·rfl
   cases b6
   ·rfl
   cases b7
   ·rfl
   cases b8
   ·rfl
   cases b9
   ·rfl
   cases b10 <;> rfl
theorem Aw5 (r : Route) (h : RouteFit r) : Amp std r = some (Agj 4 r) := by
 unfold Amp Aul
 have := Aty (SizeOf.sizeOf r + 1) r 4 (by omega) h (by omega)
 rw [show ((4 : Int)) = ((4 : Nat) : Int) from rfl, this]
 rfl
theorem As7 (n lo : Int) : Abu std n lo = some (fromS lo n) := rfl
theorem A69 (r : Route) (hf : RouteFit r) : Agu std r = some (oneS r) := by
 obtain ⟨_, h1, h2, h3, h4, h5, h6⟩ := hf
 have g8 : std.cmp .leq (std.len TyS.matcher r.Match) 8 = decide (r.Match.length ≤ 8) := Aji (t := TyS.matcher) r.Match 8
 have g16 : std.cmp .leq (std.len TyS.route r.Routes) 16 = decide (r.Routes.length ≤ 16) := Aji (t := TyS.route) r.Routes 16
 have hout : (bd (Aae std r.1) fun w7 =>
    bd (gd false (std.and w7 (std.cmp .leq (std.len TyS.matcher r.2) 8)) (Aa5 std r.3)) fun w8 =>
    bd (gd false (std.and (std.and w7 (std.cmp .leq (std.len TyS.matcher r.2) 8)) w8) (Aa5 std r.7)) fun w9 =>
    bd (gd false (std.and (std.and (std.and w7 (std.cmp .leq (std.len TyS.matcher r.2) 8)) w8) w9) (Abu std r.4 0)) fun w10 =>
    bd (gd false (std.and (std.and (std.and (std.and w7 (std.cmp .leq (std.len TyS.matcher r.2) 8)) w8) w9) w10) (Abu std r.5 1)) fun w11 =>
    bd (gd false (std.and (std.and (std.and (std.and (std.and w7 (std.cmp .leq (std.len TyS.matcher r.2) 8)) w8) w9) w10) w11) (Abu std r.6 1)) fun w12 =>
    some (std.and (std.and (std.and (std.and (std.and (std.and (std.and w7 (std.cmp .leq (std.len TyS.matcher r.2) 8)) w8) w9) w10) w11) w12) (std.cmp .leq (std.len TyS.route r.9) 16))) =
   some (wordS r.Receiver && decide (r.Match.length ≤ 8) && (ascS r.By && decide (r.By.length ≤ 8)) && (ascS r.Mute && decide (r.Mute.length ≤ 8)) && fromS 0 r.Wait && fromS 1 r.Every && fromS 1 r.Repeat && decide (r.Routes.length ≤ 16)) := by
  rw [Al2 _ h1, bd_some, g8, g16, gd_b (fun _ => Asp _ h3), bd_some, gd_b (fun _ => Asp _ h4), bd_some, gd_b (fun _ => As7 _ _), bd_some, gd_b (fun _ => As7 _ _), bd_some, gd_b (fun _ => As7 _ _), bd_some]
  simp only [s_land]
  cases wordS r.Receiver
  ·rfl
  cases decide (r.Match.length ≤ 8)
  ·rfl
  cases (ascS r.By && decide (r.By.length ≤ 8))
  ·rfl
  cases (ascS r.Mute && decide (r.Mute.length ≤ 8))
  ·rfl
  cases fromS 0 r.Wait
  ·rfl
  cases fromS 1 r.Every <;> rfl
 have l1 := Acs (t := TyS.str) (B := Akl std r) (fun i => i) r.Mute h4.1 (fun _ x => wordS x) _ (fun i => bd (Aae std (std.get TyS.str r.7 i)) fun w6 => br (std.not w6) (rt (some false)) (some (.inl (std.ar .add .i64 i 1)))) _ (fun i => rfl)
  (fun i x hx hi => by
   rw [Aab (t := TyS.str) hx, Al2 _ (h4.2 x (Abl hx)), bd_some]
   cases wordS x <;> rfl) (fun _ => hout) (fun _ => ⟨_, hout⟩)
 have l2 := Acs (t := TyS.str) (B := Akm std r) (fun i => i) r.By h3.1 (fun _ x => nameS x) _ (fun i => bd (Aaz std (std.get TyS.str r.3 i)) fun w6 => br (std.not w6) (rt (some false)) (some (.inl (std.ar .add .i64 i 1)))) _ (fun i => rfl)
  (fun i x hx hi => by
   rw [Aab (t := TyS.str) hx, Aqr _ (h3.2 x (Abl hx)), bd_some]
   cases nameS x <;> rfl) (fun _ => l1) (fun _ => ⟨_, l1⟩)
 have l3 := Acs (t := TyS.matcher) (B := Akn std r) (fun i => i) r.Match h2.1 (fun _ x => Ad0 x) _ (fun i => bd (Abi std (std.get TyS.matcher r.2 i)) fun w6 => br (std.not w6) (rt (some false)) (some (.inl (std.ar .add .i64 i 1)))) _ (fun i => rfl)
  (fun i x hx hi => by
   rw [Aab (t := TyS.matcher) hx, Aso _ (h2.2 x (Abl hx)), bd_some]
   cases Ad0 x <;> rfl) (fun _ => l2) (fun _ => ⟨_, l2⟩)
 refine l3.trans ?_
 have a1 : allI (fun _ x => wordS x) 0 r.Mute = r.Mute.all wordS := Ai0 _ _ _
 have a2 : allI (fun _ x => nameS x) 0 r.By = r.By.all nameS := Ai0 _ _ _
 have a3 : allI (fun _ x => Ad0 x) 0 r.Match = r.Match.all Ad0 := Ai0 _ _ _
 refine congrArg some ?_
 refine (congr (congrArg and a3) (congr (congrArg and a2) (congr (congrArg and a1) rfl))).trans ?_
 unfold oneS Ade Ap7
 rw [Aw4, Aw4]
 generalize r.Match.all Ad0 = b1
 generalize r.By.all nameS = b2
 generalize r.Mute.all wordS = b3
 generalize wordS r.Receiver = b4
 generalize decide (r.Match.length ≤ 8) = b5
 generalize ascS r.By = b6
 generalize decide (r.By.length ≤ 8) = b7
 generalize ascS r.Mute = b8
 generalize decide (r.Mute.length ≤ 8) = b9
 generalize fromS 0 r.Wait = b10
 generalize fromS 1 r.Every = b11
 generalize fromS 1 r.Repeat = b12
 generalize decide (r.Routes.length ≤ 16) = b13
 cases b4
 ·simp
 cases b5
 ·simp
 cases b1
 ·simp
 cases b2
 ·simp
 cases b3
 ·simp
 cases b6
 ·simp
 cases b7
 ·simp
 cases b8
 ·simp
 cases b9
 ·simp
 cases b10
 ·simp
 cases b11
 ·simp
 cases b12
 ·simp
 cases b13 <;> rfl
theorem Azi : ∀ (n : Nat) (r : Route) (d : Nat), SizeOf.sizeOf r < n → RouteFit r → d ≤ 100 → Abj std n r (d : Int) = some (Agj d r)
 | 0, r, d, h, _, _ => by omega
 | n + 1, r, d, h, hf, hd => by
  have hf' := hf
  obtain ⟨_, h1, h2, h3, h4, h5, h6⟩ := hf
  show Aef std (Abj std n) r (d : Int) = _
  unfold Aef
  have hz : std.cmp .eql (d : Int) 0 = decide (d = 0) := by rw [s_eql, Bool.eq_iff_iff]; simp
  rw [hz, gd_b (fun _ => A69 r hf'), bd_some]
  cases d with
  | zero => rfl
  | succ d =>
   have e1 : std.ar .sub .i64 ((d + 1 : Nat) : Int) 1 = (d : Int) := by rw [prevI (by omega) (by unfold big63; omega)]; rfl
   have l1 := Acs (t := TyS.route) (B := Agq std (Abj std n) r ((d + 1 : Nat) : Int)) (fun i => i) r.Routes h5 (fun _ k => Agj d k) true (fun i => bd (Abj std n (std.get TyS.route r.9 i) (std.ar .sub .i64 ((d + 1 : Nat) : Int) 1)) fun w3 => br (std.not w3) (rt (some false)) (some (.inl (std.ar .add .i64 i 1)))) _ (fun i => rfl)
    (fun i x hx hi => by
     rw [Aab (t := TyS.route) hx, e1, Azi n x d (by have := Ar3 (Abl hx); omega) (h6 x (Abl hx)) (by omega), bd_some]
     cases Agj d x <;> rfl) (fun _ => rfl) (fun _ => ⟨_, rfl⟩)
   have a1 : allI (fun _ k => Agj d k) 0 r.Routes = r.Routes.all (Agj d) := Ai0 _ _ _
   have l2 := l1.trans (congrArg (fun b => some (b && true)) a1)
   have l3 : Loop (Agq std (Abj std n) r ((d + 1 : Nat) : Int)) 0 = some (r.Routes.all (Agj d) && true) := l2
   rw [l3]
   simp only [Agj, s_not, s_lor, Nat.succ_ne_zero, decide_false, Bool.not_false, Bool.true_and, Bool.false_or, Bool.and_true]
   cases oneS r <;> rfl
theorem A3a (r : Route) (h : RouteFit r) : Ac7 std r = some (Agj 4 r) := by
 unfold Ac7 Aiq
 have := Azi (SizeOf.sizeOf r + 1) r 4 (by omega) h (by omega)
 rw [show ((4 : Int)) = ((4 : Nat) : Int) from rfl, this]
 rfl
def allD : Nat → Route → List Route
 | 0, r => [r]
 | d + 1, r => r :: (r.Routes.map (allD d)).flatten
theorem Al4 {d : Nat} {r : Route} (h : Agj (d + 1) r = true) : r.Routes.length ≤ 16 ∧ ∀ k ∈ r.Routes, Agj d k = true := by
 simp only [Agj, oneS, Bool.and_eq_true, decide_eq_true_eq, List.all_eq_true] at h
 exact ⟨h.1.1.1.1.1.1.2, h.2⟩
theorem Ar4 {α : Type} (m : Nat) : ∀ (l : List (List α)), (∀ x ∈ l, x.length ≤ m) → l.flatten.length ≤ l.length * m
 | [], _ => by simp
 | x :: l, h => by
  have h1 := h x (List.mem_cons_self ..)
  have h2 := Ar4 m l fun y hy => h y (List.mem_cons_of_mem _ hy)
  simp only [List.flatten_cons, List.length_append, List.length_cons, Nat.succ_mul]
  omega
theorem Aw6 : ∀ (d : Nat) (r : Route), Agj d r = true → (allD d r).length ≤ 17 ^ d
 | 0, r, h => by cases h
 | d + 1, r, h => by
  obtain ⟨h1, h2⟩ := Al4 h
  have h3 := Ar4 (17 ^ d) (r.Routes.map (allD d)) (by
   intro x hx
   obtain ⟨k, hk, rfl⟩ := List.mem_map.1 hx
   exact Aw6 d k (h2 k hk))
  simp only [allD, List.length_cons]
  rw [List.length_map] at h3
  have h4 : r.Routes.length * 17 ^ d ≤ 16 * 17 ^ d := Nat.mul_le_mul_right _ h1
  have h5 : 0 < 17 ^ d := Nat.pow_pos (by decide)
  rw [Nat.pow_succ]
  omega
theorem pow17 {d : Nat} (h : d ≤ 4) : 17 ^ d ≤ 83521 := by
 have : d = 0 ∨ d = 1 ∨ d = 2 ∨ d = 3 ∨ d = 4 := by omega
 rcases this with rfl | rfl | rfl | rfl | rfl <;> decide
theorem Aj3 {α β : Type} (f : α → List β) {xs : List α} {i : Nat} {x : α} (h : xs[i]? = some x) : ((xs.take (i + 1)).map f).flatten = ((xs.take i).map f).flatten ++ f x := by
 have hi := Agh h
 rw [List.take_add_one, h]
 simp
theorem Atz {α β : Type} (f : α → List β) (xs : List α) (i : Nat) : ((xs.take i).map f).flatten.length ≤ (xs.map f).flatten.length := by
 have : (xs.map f).flatten = ((xs.take i).map f).flatten ++ ((xs.drop i).map f).flatten := by
  rw [← List.flatten_append, ← List.map_append, List.take_append_drop]
 rw [this, List.length_append]
 omega
theorem Ap9 : ∀ (n : Nat) (r : Route) (d : Nat), SizeOf.sizeOf r < n → Agj d r = true → d ≤ 4 → Ah7 std n r = some ((allD d r).length : Int)
 | 0, r, d, h, _, _ => by omega
 | n + 1, r, 0, h, hs, hd => by cases hs
 | n + 1, r, d + 1, h, hs, hd => by
  obtain ⟨h1, h2⟩ := Al4 hs
  have hle := Aw6 (d + 1) r hs
  have hp := pow17 hd
  show Ajo std (Ah7 std n) r = _
  unfold Ajo
  have hl : r.Routes.length ≤ big63 := by unfold big63; omega
  have := Atr (B := Aiw std (Ah7 std n) r) (fun i (m : Nat) => ((m : Int), (i : Int))) r.Routes (fun i k m => (.inl (m + (allD d k).length) : Nat ⊕ Int)) (fun m => (m : Int)) (fun i m => m = 1 + ((r.Routes.take i).map (allD d)).flatten.length)
   (fun i k m hk hm => by
    have hi := Agh hk
    have hpart := Atz (allD d) r.Routes (i + 1)
    rw [Aj3 _ hk, List.length_append] at hpart
    have htot : (allD (d + 1) r).length = 1 + (r.Routes.map (allD d)).flatten.length := by simp only [allD, List.length_cons]; omega
    refine ⟨fun m' hm' => ?_, fun e he => by cases he⟩
    cases hm'
    refine ⟨?_, by rw [Aj3 _ hk, List.length_append]; omega⟩
    unfold Aiw
    simp only
    rw [Aaa, lssT hi, br_true, ck_t (inbT hi), Aab (t := TyS.route) hk, Ap9 n k d (by have := Ar3 (Abl hk); omega) (h2 k (Abl hk)) (by omega), bd_some, s_add, s_add, wrap_succ hi hl, w64 (by omega)]
    rfl)
   (fun m hm => by
    unfold Aiw
    simp only
    rw [Aaa, lssF, br_false]
    rfl) 1 (by simp)
  refine this.trans ?_
  congr 1
  have key : ∀ (xs : List Route) (i m : Nat), runL (fun i k m => (.inl (m + (allD d k).length) : Nat ⊕ Int)) (fun m => (m : Int)) i xs m = ((m + (xs.map (allD d)).flatten.length : Nat) : Int) := by
   intro xs
   induction xs with
   | nil => intro i m; simp [runL]
   | cons x xs ih => intro i m; simp only [runL, ih, List.map_cons, List.flatten_cons, List.length_append]; congr 1; omega
  rw [key]
  simp only [allD, List.length_cons]
  congr 1
  omega
theorem routes_Count_eq (r : Route) (h : Agj 4 r = true) : Ark std r = some ((allD 4 r).length : Int) := Ap9 _ r 4 (by omega) h (by omega)
theorem A81 (r : Route) : Route.mk r.1 r.2 r.3 r.4 r.5 r.6 r.7 r.8 r.9 = r := by cases r; rfl
theorem Au7 : ∀ (n : Nat) (r : Route) (d : Nat), SizeOf.sizeOf r < n → Agj d r = true → d ≤ 4 → Ac8 std n r = some (allD d r)
 | 0, r, d, h, _, _ => by omega
 | n + 1, r, 0, h, hs, hd => by cases hs
 | n + 1, r, d + 1, h, hs, hd => by
  obtain ⟨h1, h2⟩ := Al4 hs
  have hle := Aw6 (d + 1) r hs
  have hp := pow17 hd
  show Aeg std (Ac8 std n) r = _
  unfold Aeg
  rw [A81]
  have hl : r.Routes.length ≤ big63 := by unfold big63; omega
  have := Atr (B := Aew std (Ac8 std n) r) (fun i (m : List Route) => (m, (i : Int))) r.Routes (fun i k m => (.inl (m ++ allD d k) : List Route ⊕ List Route)) (fun m => m) (fun i m => m.length = 1 + ((r.Routes.take i).map (allD d)).flatten.length)
   (fun i k m hk hm => by
    have hi := Agh hk
    have hpart := Atz (allD d) r.Routes (i + 1)
    rw [Aj3 _ hk, List.length_append] at hpart
    have htot : (allD (d + 1) r).length = 1 + (r.Routes.map (allD d)).flatten.length := by simp only [allD, List.length_cons]; omega
    refine ⟨fun m' hm' => ?_, fun e he => by cases he⟩
    cases hm'
    refine ⟨?_, by rw [Aj3 _ hk, List.length_append, List.length_append]; omega⟩
    unfold Aew
    simp only
    rw [Aaa, lssT hi, br_true, ck_t (inbT hi), Aab (t := TyS.route) hk, Au7 n k d (by have := Ar3 (Abl hk); omega) (h2 k (Abl hk)) (by omega), bd_some, ck_t (show std.appOk TyS.route 144 m (allD d k) from ⟨by omega, by omega⟩), s_add, wrap_succ hi hl]
    rfl)
   (fun m hm => by
    unfold Aew
    simp only
    rw [Aaa, lssF, br_false]
    rfl) [r] (by simp)
  refine this.trans ?_
  congr 1
  have key : ∀ (xs : List Route) (i : Nat) (m : List Route), runL (fun i k m => (.inl (m ++ allD d k) : List Route ⊕ List Route)) (fun m => m) i xs m = m ++ (xs.map (allD d)).flatten := by
   intro xs
   induction xs with
   | nil => intro i m; simp [runL]
   | cons x xs ih => intro i m; simp only [runL, ih, List.map_cons, List.flatten_cons, List.append_assoc]
  rw [key]
  rfl
theorem ref_All_eq (r : Route) (h : Agj 4 r = true) : Agv std r = some (allD 4 r) := Au7 _ r 4 (by omega) h (by omega)
theorem Bbe (xs : List ByteArray) (s : ByteArray) (h : xs.length ≤ big63) : Adb std xs s = some (fnd xs fun y => decide (s = y)) := by
 unfold Adb
 refine Eq.trans ?_ (Alc (t := TyS.str) xs (fun y => decide (s = y)) (fun y => some (decide (s = y))) (fun _ _ => rfl) h)
 refine congrArg (fun B => Loop B 0) (funext fun i => ?_)
 unfold Ahz
 dsimp only
 rw [s_seql]
 rfl
theorem Aut (xs : List ByteArray) (s : ByteArray) (h : xs.length ≤ big63) : Aao std xs s = some (xs.any fun y => decide (s = y)) := by
 unfold Aao
 rw [Bbe xs s h, bd_some, s_geq, Ald]
def Akd (c : List ByteArray) (x : ByteArray) : List ByteArray := if (c.any fun y => decide (x = y)) = true then c else c ++ [x]
theorem Azj (c : List ByteArray) (x : ByteArray) : (Akd c x).length ≤ c.length + 1 := by
 unfold Akd; split
 ·omega
 ·simp
theorem Aw7 : ∀ (l c : List ByteArray), (l.foldl Akd c).length ≤ c.length + l.length
 | [], c => by simp
 | x :: l, c => by
  have h1 := Aw7 l (Akd c x)
  have h2 := Azj c x
  simp only [List.foldl_cons, List.length_cons]
  omega
def gatherL (ofr : Route → List ByteArray) (l : List Route) (c : List ByteArray) : List ByteArray := l.foldl (fun c r => (ofr r).foldl Akd c) c
theorem Azk (ofr : Route → List ByteArray) : ∀ (l : List Route) (c : List ByteArray), (∀ k ∈ l, (ofr k).length ≤ 16) → (gatherL ofr l c).length ≤ c.length + 16 * l.length
 | [], c, _ => by simp [gatherL]
 | k :: l, c, h => by
  have h1 := Azk ofr l ((ofr k).foldl Akd c) fun k hk => h k (List.mem_cons_of_mem _ hk)
  have h2 := Aw7 (ofr k) c
  have h3 := h k (List.mem_cons_self ..)
  simp only [gatherL, List.foldl_cons, List.length_cons] at h1 ⊢
  omega
theorem gatherL_append (ofr : Route → List ByteArray) (a b : List Route) (c : List ByteArray) : gatherL ofr (a ++ b) c = gatherL ofr b (gatherL ofr a c) := List.foldl_append ..
theorem Aw8 (q : Route → Option (List ByteArray)) (ofr : Route → List ByteArray) : ∀ (n : Nat) (r : Route) (d : Nat) (c : List ByteArray), SizeOf.sizeOf r < n → Agj d r = true → d ≤ 4 → (∀ k ∈ allD d r, q k = some (ofr k) ∧ (ofr k).length ≤ 16) →
  c.length + 16 * (allD d r).length ≤ 1000000000 → Abd std q n r c = some (gatherL ofr (allD d r) c)
 | 0, r, d, c, h, _, _, _, _ => by omega
 | n + 1, r, 0, c, h, hs, hd, _, _ => by cases hs
 | n + 1, r, d + 1, c, h, hs, hd, hq, hc => by
  obtain ⟨h1, h2⟩ := Al4 hs
  obtain ⟨hq0, hl0⟩ := hq r (by simp [allD])
  have htot : (allD (d + 1) r).length = 1 + (r.Routes.map (allD d)).flatten.length := by simp only [allD, List.length_cons]; omega
  show Acr std (Abd std q n) r q c = _
  unfold Acr
  rw [hq0, bd_some]
  have hlr : r.Routes.length ≤ big63 := by unfold big63; omega
  have hlo : (ofr r).length ≤ big63 := by unfold big63; omega
  -- those within it
  have inner : ∀ c1 : List ByteArray, c1.length ≤ c.length + 16 → Loop (Acz std (Abd std q n) r) (((0 : Nat) : Int), c1) = some (gatherL ofr ((r.Routes.map (allD d)).flatten) c1) := by
   intro c1 hc1
   have := Atr (B := Acz std (Abd std q n) r) (fun i (m : List ByteArray) => ((i : Int), m)) r.Routes (fun i k m => (.inl (gatherL ofr (allD d k) m) : List ByteArray ⊕ List ByteArray)) (fun m => m) (fun i m => m.length ≤ c1.length + 16 * ((r.Routes.take i).map (allD d)).flatten.length)
    (fun i k m hk hm => by
     have hi := Agh hk
     have hpart := Atz (allD d) r.Routes (i + 1)
     rw [Aj3 _ hk, List.length_append] at hpart
     have hmem : ∀ y ∈ allD d k, y ∈ allD (d + 1) r := fun y hy => by
      simp only [allD, List.mem_cons, List.mem_flatten, List.mem_map]
      exact .inr ⟨_, ⟨k, Abl hk, rfl⟩, hy⟩
     have hle := Azk ofr (allD d k) m fun y hy => (hq y (hmem y hy)).2
     refine ⟨fun m' hm' => ?_, fun e he => by cases he⟩
     cases hm'
     refine ⟨?_, by rw [Aj3 _ hk, List.length_append]; omega⟩
     unfold Acz
     simp only
     rw [Aaa, lssT hi, br_true, ck_t (inbT hi), Aab (t := TyS.route) hk, Aw8 q ofr n k d m (by have := Ar3 (Abl hk); omega) (h2 k (Abl hk)) (by omega) (fun y hy => hq y (hmem y hy)) (by omega), bd_some, s_add, wrap_succ hi hlr])
    (fun m hm => by
     unfold Acz
     simp only
     rw [Aaa, lssF, br_false]
     rfl) c1 (by simp)
   refine this.trans ?_
   congr 1
   have key : ∀ (xs : List Route) (i : Nat) (m : List ByteArray), runL (fun i k m => (.inl (gatherL ofr (allD d k) m) : List ByteArray ⊕ List ByteArray)) (fun m => m) i xs m = gatherL ofr ((xs.map (allD d)).flatten) m := by
    intro xs
    induction xs with
    | nil => intro i m; simp [runL, gatherL]
    | cons x xs ih => intro i m; simp only [runL, ih, List.map_cons, List.flatten_cons, gatherL_append]
   exact key _ _ _
  have := Atr (B := Ad7 std (Abd std q n) r (ofr r)) (fun i (m : List ByteArray) => ((i : Int), m)) (ofr r) (fun i x m => (.inl (Akd m x) : List ByteArray ⊕ List ByteArray)) (fun m => gatherL ofr ((r.Routes.map (allD d)).flatten) m) (fun i m => m.length ≤ c.length + i)
   (fun i x m hx hm => by
    have hi := Agh hx
    have hle := Azj m x
    refine ⟨fun m' hm' => ?_, fun e he => by cases he⟩
    cases hm'
    refine ⟨?_, by omega⟩
    unfold Ad7
    simp only
    rw [Aaa, lssT hi, br_true, ck_t (inbT hi), Aab (t := TyS.str) hx, Aut m x (by unfold big63; omega), bd_some, s_add, wrap_succ hi hlo]
    unfold Akd
    cases hc : (m.any fun y => decide (x = y)) with
    | true => rfl
    | false =>
     rw [s_not, Bool.not_false, br_true, ck_t (show std.appOk TyS.str 16 m [x] from ⟨by simp; omega, by simp; omega⟩)]
     rfl)
   (fun m hm => by
    unfold Ad7
    simp only
    rw [Aaa, lssF, br_false]
    have hin := inner m (by omega)
    show rt (Loop _ _) = _
    rw [show ((0 : Int), m) = (((0 : Nat) : Int), m) from rfl, hin]
    rfl) c (by simp)
  refine this.trans ?_
  congr 1
  have key : ∀ (xs : List ByteArray) (i : Nat) (m : List ByteArray), runL (fun i x m => (.inl (Akd m x) : List ByteArray ⊕ List ByteArray)) (fun m => gatherL ofr ((r.Routes.map (allD d)).flatten) m) i xs m = gatherL ofr ((r.Routes.map (allD d)).flatten) (xs.foldl Akd m) := by
   intro xs
   induction xs with
   | nil => intro i m; rfl
   | cons x xs ih => intro i m; simp only [runL, ih, List.foldl_cons]
  rw [key]
  rfl
theorem Names_eq (r : Route) (hs : Agj 4 r = true) : Amq std r = some (gatherL (fun k => [k.Receiver]) (allD 4 r) [], gatherL (·.Mute) (allD 4 r) []) := by
 have hle := Aw6 4 r hs
 have hp := pow17 (d := 4) (by omega)
 have hmute : ∀ (d : Nat) (r : Route), Agj d r = true → ∀ k ∈ allD d r, k.Mute.length ≤ 8 := by
  intro d
  induction d with
  | zero => intro r h; cases h
  | succ d ih =>
   intro r h k hk
   have h0 := h
   obtain ⟨h1, h2⟩ := Al4 h
   simp only [allD, List.mem_cons, List.mem_flatten, List.mem_map] at hk
   rcases hk with rfl | ⟨_, ⟨x, hx, rfl⟩, hk⟩
   ·simp only [Agj, oneS, Ap7, Bool.and_eq_true, decide_eq_true_eq] at h0
    exact h0.1.1.1.1.2.2
   ·exact ih x (h2 x hx) k hk
 unfold Amq Aep Aib
 rw [Aw8 (fun y0 => Al9 std y0) (fun k => [k.Receiver]) _ r 4 [] (by omega) hs (by omega) (fun k _ => ⟨rfl, by simp⟩) (by simp; omega), bd_some, bd_some]
 rw [Aw8 (fun y0 => Ama std y0) (·.Mute) _ r 4 [] (by omega) hs (by omega) (fun k hk => ⟨rfl, by have := hmute 4 r hs k hk; omega⟩) (by simp; omega), bd_some, bd_some]
def hasS (l : List ByteArray) (s : ByteArray) : Bool := l.any fun y => decide (y = s)
def onceP (names : List ByteArray) (i : Nat) (s : ByteArray) : Bool := !hasS (names.take i) s
def onceS (names : List ByteArray) : Bool := allI (onceP names) 0 names
def setL (l : List ByteArray) : List (ByteArray × Bool) := l.map fun s => (s, true)
theorem A1j (l : List ByteArray) (s : ByteArray) : (lookS std s (setL l) false).1 = hasS l s := by
 induction l with
 | nil => rfl
 | cons x l ih =>
  simp only [setL, List.map_cons, lookS, s_seql, hasS, List.any_cons]
  by_cases h : s = x
  ·rw [decide_eq_true h, decide_eq_true h.symm]; rfl
  ·rw [decide_eq_false h, decide_eq_false fun e => h e.symm, Bool.false_or]; exact ih
theorem Aw9 (l : List ByteArray) (s : ByteArray) (h : hasS l s = false) : FreshK std true (.string s) (std.mesB (setL l)) := by
 refine ⟨?_⟩
 show A2j std true (.string s) ((setL l).map _)
 induction l with
 | nil => exact True.intro
 | cons x l ih =>
  simp only [hasS, List.any_cons, Bool.or_eq_false_iff, decide_eq_false_iff_not] at h
  refine ⟨?_, ih h.2⟩
  show std.scmp .eql s x = false
  rw [s_seql]
  exact decide_eq_false fun e => h.1 e.symm
theorem take_snoc {α : Type} {l : List α} {i : Nat} {x : α} (h : l[i]? = some x) : l.take (i + 1) = l.take i ++ [x] := by rw [List.take_add_one, h]; rfl
theorem A1k (l : List ByteArray) (s : ByteArray) : setL l ++ [(s, true)] = setL (l ++ [s]) := by simp [setL]
theorem A49 (xs : List Rule) (q : Rule → Option ByteArray) (ofx : Rule → ByteArray) (hq : ∀ x, q x = some (ofx x)) (hl : xs.length ≤ big63) : Af0 std xs q = some (onceS (xs.map ofx)) := by
 unfold Af0
 have := Aqp (B := Agt std xs q) (fun i => ((i : Int), setL ((xs.map ofx).take i))) (xs.map ofx) (onceP (xs.map ofx)) true (fun i s hs hi => by
  rw [List.length_map] at hi
  obtain ⟨x, hx⟩ := Ale hi
  have hsx : s = ofx x := by rw [List.getElem?_map, hx] at hs; exact (Option.some.inj hs).symm
  unfold Agt
  simp only
  rw [Aaa, lssT hi, br_true, ck_t (inbT hi), Aab (t := TyS.rule) hx, hq x, bd_some, bd_some, A1j, ← hsx]
  unfold onceP
  cases hh : hasS ((xs.map ofx).take i) s with
  | true => rfl
  | false =>
   rw [br_false, bd_some, ck_t (Aw9 _ _ hh), s_add, wrap_succ hi hl, A1k, ← take_snoc hs]
   rfl) (by
  unfold Agt
  simp only
  rw [List.length_map, Aaa, lssF, br_false]
  rfl)
 rw [Bool.and_true] at this
 exact this
theorem A1l (xs : List ByteArray) (q : ByteArray → Option ByteArray) (ofx : ByteArray → ByteArray) (hq : ∀ x, q x = some (ofx x)) (hl : xs.length ≤ big63) : Aeo std xs q = some (onceS (xs.map ofx)) := by
 unfold Aeo
 have := Aqp (B := Agb std xs q) (fun i => ((i : Int), setL ((xs.map ofx).take i))) (xs.map ofx) (onceP (xs.map ofx)) true (fun i s hs hi => by
  rw [List.length_map] at hi
  obtain ⟨x, hx⟩ := Ale hi
  have hsx : s = ofx x := by rw [List.getElem?_map, hx] at hs; exact (Option.some.inj hs).symm
  unfold Agb
  simp only
  rw [Aaa, lssT hi, br_true, ck_t (inbT hi), Aab (t := TyS.str) hx, hq x, bd_some, bd_some, A1j, ← hsx]
  unfold onceP
  cases hh : hasS ((xs.map ofx).take i) s with
  | true => rfl
  | false =>
   rw [br_false, bd_some, ck_t (Aw9 _ _ hh), s_add, wrap_succ hi hl, A1k, ← take_snoc hs]
   rfl) (by
  unfold Agb
  simp only
  rw [List.length_map, Aaa, lssF, br_false]
  rfl)
 rw [Bool.and_true] at this
 exact this
theorem A3b (xs : List Hours) (q : Hours → Option ByteArray) (ofx : Hours → ByteArray) (hq : ∀ x, q x = some (ofx x)) (hl : xs.length ≤ big63) : Ae8 std xs q = some (onceS (xs.map ofx)) := by
 unfold Ae8
 have := Aqp (B := Ago std xs q) (fun i => ((i : Int), setL ((xs.map ofx).take i))) (xs.map ofx) (onceP (xs.map ofx)) true (fun i s hs hi => by
  rw [List.length_map] at hi
  obtain ⟨x, hx⟩ := Ale hi
  have hsx : s = ofx x := by rw [List.getElem?_map, hx] at hs; exact (Option.some.inj hs).symm
  unfold Ago
  simp only
  rw [Aaa, lssT hi, br_true, ck_t (inbT hi), Aab (t := TyS.hours) hx, hq x, bd_some, bd_some, A1j, ← hsx]
  unfold onceP
  cases hh : hasS ((xs.map ofx).take i) s with
  | true => rfl
  | false =>
   rw [br_false, bd_some, ck_t (Aw9 _ _ hh), s_add, wrap_succ hi hl, A1k, ← take_snoc hs]
   rfl) (by
  unfold Ago
  simp only
  rw [List.length_map, Aaa, lssF, br_false]
  rfl)
 rw [Bool.and_true] at this
 exact this
theorem Ar5 (l : List ByteArray) (s : ByteArray) (h : l.length ≤ big63) : Ab8 std l s = some (hasS l s) := by
 unfold Ab8
 have := Aap (B := Af3 std l s) (fun i (_ : Unit) => (i : Int)) l (fun _ x (_ : Unit) => if decide (x = s) then (.inr true : Unit ⊕ Bool) else .inl ()) (fun _ => false) (fun i x u hx hi => by
  unfold Af3
  simp only
  rw [Aaa, lssT hi, br_true, ck_t (inbT hi), Aab (t := TyS.str) hx, s_seql, s_add, wrap_succ hi h]
  cases decide (x = s) <;> rfl) (fun _ => by
  unfold Af3
  simp only
  rw [Aaa, lssF]
  rfl) ()
 refine this.trans ?_
 congr 1
 have key : ∀ (xs : List ByteArray) (i : Nat), runL (fun _ x (_ : Unit) => if decide (x = s) then (.inr true : Unit ⊕ Bool) else .inl ()) (fun _ => false) i xs () = hasS xs s := by
  intro xs
  induction xs with
  | nil => intro i; rfl
  | cons x xs ih =>
   intro i
   simp only [runL, hasS, List.any_cons]
   cases decide (x = s) with
   | true => rfl
   | false => simpa [hasS] using ih (i + 1)
 exact key l 0
theorem As8 (l : List ByteArray) (h : l.length ≤ big63) : Acl std l = some (onceS l) := by
 unfold Acl
 have := Acs (t := TyS.str) (B := Ajr std l) (fun i => i) l h (onceP l) true _ _ (fun i => rfl) (fun i x hx hi => by
  have e : std.lsub TyS.str l 0 (i : Int) = l.take i := by rw [Atq]; simp
  rw [ck_t (show std.subOk 0 (i : Int) (std.len TyS.str l) from ⟨by omega, by omega, by rw [Aaa]; omega⟩), e, Aab (t := TyS.str) hx, Ar5 _ _ (by rw [List.length_take]; omega), bd_some]
  unfold onceP
  cases hasS (l.take i) x <;> rfl) (fun _ => rfl) (fun _ => ⟨_, rfl⟩)
 rw [Bool.and_true] at this
 exact this
def Ae6 (c : Config) : Prop := fitL Aqt c.Rules ∧ RouteFit c.Route ∧ fitL fitS c.Receivers ∧ fitL Al3 c.Inhibits ∧ fitL Att c.Hours
def Agz (c : Config) : List ByteArray := c.Hours.map (·.Name)
def Aqa (c : Config) : List ByteArray := c.Rules.map (·.Name)
def Au8 (c : Config) : Bool := decide (c.Rules.length ≤ 16) && c.Rules.all ruleS && onceS (Aqa c)
def Ar6 (c : Config) : Bool := decide (c.Receivers.length ≤ 16) && c.Receivers.all wordS && onceS c.Receivers
def Amw (c : Config) : Bool := decide (c.Inhibits.length ≤ 8) && c.Inhibits.all Adh
def At0 (c : Config) : Bool := decide (c.Hours.length ≤ 8) && c.Hours.all hourS && onceS (Agz c)
def Axa (c : Config) : Bool := (allD 4 c.Route).all fun r => hasS c.Receivers r.Receiver && r.Mute.all (hasS (Agz c))
def topS (c : Config) : Bool := Agj 4 c.Route && decide (c.Route.Match.length = 0) && !c.Route.On && decide ((allD 4 c.Route).length ≤ 32)
def Aft (c : Config) : Bool := Au8 c && Ar6 c && Amw c && At0 c && topS c && Axa c
theorem A3c (l : List ByteArray) (s : ByteArray) : (l.any fun y => decide (s = y)) = hasS l s := by
 unfold hasS
 congr 1
 funext y
 rw [Bool.eq_iff_iff]
 simp only [decide_eq_true_eq]
 exact ⟨fun h => h.symm, fun h => h.symm⟩
theorem A5a (p : ByteArray → Bool) (c : List ByteArray) (x : ByteArray) : (Akd c x).all p = (c.all p && p x) := by
 unfold Akd
 split
 ·rename_i h
  rw [List.any_eq_true] at h
  obtain ⟨y, hy, he⟩ := h
  have he : x = y := by simpa using he
  cases hc : c.all p with
  | false => rfl
  | true =>
   rw [List.all_eq_true] at hc
   rw [he, hc y hy]; rfl
 ·simp
theorem Azl (p : ByteArray → Bool) : ∀ (l c : List ByteArray), (l.foldl Akd c).all p = (c.all p && l.all p)
 | [], c => by simp
 | x :: l, c => by rw [List.foldl_cons, Azl p l, A5a, List.all_cons, Bool.and_assoc]
theorem As9 (p : ByteArray → Bool) (ofr : Route → List ByteArray) : ∀ (l : List Route) (c : List ByteArray), (gatherL ofr l c).all p = (c.all p && l.all fun r => (ofr r).all p)
 | [], c => by simp [gatherL]
 | r :: l, c => by
  have := As9 p ofr l ((ofr r).foldl Akd c)
  simp only [gatherL, List.foldl_cons] at this ⊢
  rw [this, Azl, List.all_cons, Bool.and_assoc]
theorem Ata (ofr : Route → List ByteArray) (m : Nat) : ∀ (l : List Route) (c : List ByteArray), (∀ k ∈ l, (ofr k).length ≤ m) → (gatherL ofr l c).length ≤ c.length + m * l.length
 | [], c, _ => by simp [gatherL]
 | k :: l, c, h => by
  have h1 := Ata ofr m l ((ofr k).foldl Akd c) fun k hk => h k (List.mem_cons_of_mem _ hk)
  have h2 := Aw7 (ofr k) c
  have h3 := h k (List.mem_cons_self ..)
  simp only [gatherL, List.foldl_cons, List.length_cons, Nat.mul_succ] at h1 ⊢
  omega
theorem A5b : ∀ (d : Nat) (r : Route), Agj d r = true → ∀ k ∈ allD d r, k.Mute.length ≤ 8
 | 0, r, h => by cases h
 | d + 1, r, h => by
  intro k hk
  have h0 := h
  obtain ⟨h1, h2⟩ := Al4 h
  simp only [allD, List.mem_cons, List.mem_flatten, List.mem_map] at hk
  rcases hk with rfl | ⟨_, ⟨x, hx, rfl⟩, hk⟩
  ·simp only [Agj, oneS, Ap7, Bool.and_eq_true, decide_eq_true_eq] at h0
   exact h0.1.1.1.1.2.2
  ·exact A5b d x (h2 x hx) k hk
theorem A82 (c : Config) (h : Ae6 c) (s : ByteArray) : Ah8 std s c = some (hasS (Agz c) s) := by
 unfold Ah8
 rw [Asl c.Hours (fun h => decide (h.Name = s)) (fun y0 => Ah0 std y0 s) (fun x _ => by unfold Ah0; rw [s_seql]) h.2.2.2.2.1, bd_some]
 unfold hasS Agz
 rw [List.any_map]
 rfl
theorem A83 (c : Config) (h : Ae6 c) (s : ByteArray) : Ah9 std s c = some (hasS c.Receivers s) := by
 unfold Ah9
 rw [Aut c.Receivers s h.2.2.1.1, bd_some, A3c]
theorem decI (a b : Nat) : decide ((a : Int) ≤ (b : Int)) = decide (a ≤ b) := leN
theorem Aok (c : Config) (h : Ae6 c) : Aip std c = some (Aft c) := by
 obtain ⟨hR, hT, hV, hI, hH⟩ := id h
 have a1 : Agl std c.Rules 16 (fun y0 => Aj8 std y0) = some (decide (c.Rules.length ≤ 16) && c.Rules.all ruleS) := by
  rw [Baf c.Rules 16 ruleS _ (fun _ x hx => Asn x (hR.2 x hx)) (by decide)]; congr 2; exact decI _ 16
 have a2 : Ac3 std c.Receivers 16 (fun y0 => Als std y0) = some (decide (c.Receivers.length ≤ 16) && c.Receivers.all wordS) := by
  rw [Aur c.Receivers 16 wordS _ (fun _ x hx => Ayv x) (by decide)]; congr 2; exact decI _ 16
 have a3 : Ad5 std c.Inhibits 8 (fun y0 => Ahb std y0) = some (Amw c) := by
  rw [A45 c.Inhibits 8 Adh _ (fun _ x hx => Atx x (hI.2 x hx)) (by decide)]; unfold Amw; congr 2; exact decI _ 8
 have a4 : Af6 std c.Hours 8 (fun y0 => Aio std y0) = some (decide (c.Hours.length ≤ 8) && c.Hours.all hourS) := by
  rw [A8y c.Hours 8 hourS _ (fun _ x hx => Apj x) (by decide)]; congr 2; exact decI _ 8
 have a5 : Af0 std c.Rules (fun y0 => Aki std y0) = some (onceS (Aqa c)) := A49 c.Rules _ (·.Name) (fun _ => rfl) hR.1
 have a6 : Aeo std c.Receivers (fun y0 => Ahn std y0) = some (onceS c.Receivers) := by
  have := A1l c.Receivers (fun y0 => Ahn std y0) (fun x => x) (fun _ => rfl) hV.1
  rw [List.map_id'] at this
  exact this
 have a7 : Ae8 std c.Hours (fun y0 => Aiv std y0) = some (onceS (Agz c)) := A3b c.Hours _ (·.Name) (fun _ => rfl) hH.1
 have conf : Aft c = (decide (c.Rules.length ≤ 16) && c.Rules.all ruleS && (decide (c.Receivers.length ≤ 16) && c.Receivers.all wordS) && Amw c && (decide (c.Hours.length ≤ 8) && c.Hours.all hourS) && onceS (Aqa c) && onceS c.Receivers && onceS (Agz c) && topS c && Axa c) := by
  unfold Aft Au8 Ar6 At0
  generalize decide (c.Rules.length ≤ 16) = x1
  generalize c.Rules.all ruleS = x2
  generalize decide (c.Receivers.length ≤ 16) = x3
  generalize c.Receivers.all wordS = x4
  generalize decide (c.Hours.length ≤ 8) = x5
  generalize c.Hours.all hourS = x6
  generalize onceS (Aqa c) = x7
  generalize onceS c.Receivers = x8
  generalize onceS (Agz c) = x9
  generalize Amw c = x10
  cases x1
  ·simp
  cases x2
  ·simp
  cases x3
  ·simp
  cases x4
  ·simp
  cases x5
  ·simp
  cases x6
  ·simp
  cases x7
  ·simp
  cases x8
  ·simp
  cases x9
  ·simp
  cases x10 <;> simp
 rw [conf]
 unfold Aip
 rw [a1, bd_some]
 generalize (decide (c.Rules.length ≤ 16) && c.Rules.all ruleS) = b1
 cases b1
 ·rfl
 rw [gd_t, a2, bd_some]
 generalize (decide (c.Receivers.length ≤ 16) && c.Receivers.all wordS) = b2
 cases b2
 ·rfl
 rw [show std.and true true = true from rfl, gd_t, a3, bd_some]
 generalize Amw c = b3
 cases b3
 ·rfl
 rw [show std.and true true = true from rfl, gd_t, a4, bd_some]
 generalize (decide (c.Hours.length ≤ 8) && c.Hours.all hourS) = b4
 cases b4
 ·rfl
 rw [show std.not (std.not (std.and true true)) = true from rfl, gd_t, a5, bd_some]
 generalize onceS (Aqa c) = b5
 cases b5
 ·rfl
 rw [show std.not (std.or (std.not (std.and true true)) (std.not true)) = true from rfl, gd_t, a6, bd_some]
 generalize onceS c.Receivers = b6
 cases b6
 ·rfl
 rw [show std.not (std.or (std.or (std.not (std.and true true)) (std.not true)) (std.not true)) = true from rfl, gd_t, a7, bd_some]
 generalize onceS (Agz c) = b7
 cases b7
 ·rfl
 rw [show std.or (std.or (std.or (std.not (std.and true true)) (std.not true)) (std.not true)) (std.not true) = false from rfl, br_false, Aw5 c.Route hT, bd_some]
 have g0 : std.cmp .gtr (std.len TyS.matcher c.Route.Match) 0 = !decide (c.Route.Match.length = 0) := by
  rw [s_gtr, Aj2, Aaa, Bool.eq_iff_iff]; simp
 rw [g0]
 simp only [Bool.true_and]
 unfold topS
 cases hr : Agj 4 c.Route
 ·rfl
 generalize decide (c.Route.Match.length = 0) = b8
 cases b8
 ·rfl
 generalize c.Route.On = b9
 rcases Bool.eq_false_or_eq_true b9 with rfl | rfl
 ·rfl
 rw [show std.not (std.or (std.or (std.not true) (!true)) false) = true from rfl, gd_t, routes_Count_eq _ hr, bd_some]
 rw [show std.or (std.or (std.or (std.not true) (!true)) false) (std.cmp .gtr ((allD 4 c.Route).length : Int) 32) = !decide ((allD 4 c.Route).length ≤ 32) by
  rw [s_gtr, Aj2, show decide (((allD 4 c.Route).length : Int) ≤ 32) = decide ((allD 4 c.Route).length ≤ 32) from decI _ 32]; rfl]
 rcases Nat.lt_or_ge 32 (allD 4 c.Route).length with h32 | h32
 ·rw [decide_eq_false (by omega)]; rfl
 rw [decide_eq_true h32, Bool.not_true, br_false, Names_eq _ hr, bd_some]
 have l1 := Ata (fun k => [k.Receiver]) 1 (allD 4 c.Route) [] (fun k _ => by simp)
 have l2 := Ata (·.Mute) 8 (allD 4 c.Route) [] (A5b 4 c.Route hr)
 rw [Aur _ 32 (hasS c.Receivers) (fun y0 => Ah9 std y0 c) (fun _ x _ => A83 c h x) (by decide), bd_some]
 rw [show decide (((gatherL (fun k => [k.Receiver]) (allD 4 c.Route) []).length : Int) ≤ 32) = true from decide_eq_true (by simp at l1; omega), Bool.true_and, As9]
 rw [gd_b (fun _ => Aur _ 256 (hasS (Agz c)) (fun y0 => Ah8 std y0 c) (fun _ x _ => A82 c h x) (by decide)), bd_some]
 rw [show decide (((gatherL (·.Mute) (allD 4 c.Route) []).length : Int) ≤ 256) = true from decide_eq_true (by simp at l2; omega), Bool.true_and, As9]
 simp only [List.all_nil, Bool.true_and, List.all_cons, Bool.and_true, s_land, Bool.not_false]
 unfold Axa
 congr 1
 rw [show (fun r : Route => hasS c.Receivers r.Receiver && r.Mute.all (hasS (Agz c))) = fun r => (hasS c.Receivers r.Receiver && r.Mute.all (hasS (Agz c))) from rfl]
 have key : ∀ (l : List Route) (f g : Route → Bool), (l.all f && (l.all f && l.all g)) = l.all fun r => f r && g r := by
  intro l f g
  induction l with
  | nil => rfl
  | cons x l ih =>
   simp only [List.all_cons]
   rw [← ih]
   cases f x <;> cases g x <;> cases l.all f <;> cases l.all g <;> rfl
 exact key _ _ _
theorem Ar7 {α ε : Type} (p : α → Bool) (bad fin : ε) : ∀ (xs : List α) (i : Nat), runL (fun _ x (_ : Unit) => if p x then (.inl () : Unit ⊕ ε) else .inr bad) (fun _ => fin) i xs () = cond (xs.all p) fin bad
 | [], i => rfl
 | x :: xs, i => by
  simp only [runL, List.all_cons]
  rcases Bool.eq_false_or_eq_true (p x) with hp | hp
  ·rw [if_pos hp, hp, Bool.true_and]
   exact Ar7 p bad fin xs (i + 1)
  ·rw [if_neg (by rw [hp]; simp), hp]
   rfl
theorem Au9 (xs : List Rule) (h : fitL Aqt xs) (hs : xs.length ≤ 1000) : Ac6 std xs = some (cond (xs.all ruleS) (xs.map (·.Name), decide (xs.length ≤ 16) && onceS (xs.map (·.Name))) ([], false)) := by
 unfold Ac6
 have := Aap (B := Aeu std xs) (fun i (_ : Unit) => ((xs.take i).map (·.Name), (i : Int))) xs (fun _ x (_ : Unit) => if ruleS x then (.inl () : Unit ⊕ (List ByteArray × Bool)) else .inr ([], false)) (fun _ => (xs.map (·.Name), decide (xs.length ≤ 16) && onceS (xs.map (·.Name)))) (fun i x u hx hi => by
  unfold Aeu
  simp only
  rw [Aaa, lssT hi, br_true, ck_t (inbT hi), Aab (t := TyS.rule) hx, A47 x (h.2 x (Abl hx)), bd_some]
  cases ruleS x with
  | false => rfl
  | true =>
   rw [s_not, Bool.not_true, br_false, ck_t (show std.appOk TyS.str 16 ((xs.take i).map (·.Name)) [x.Name] from ⟨by simp; omega, by simp; omega⟩), s_add, wrap_succ hi h.1, take_snoc hx, List.map_append]
   rfl) (fun _ => by
  unfold Aeu
  simp only
  rw [Aaa, lssF, br_false, List.take_length, gd_b (fun _ => As8 _ (by rw [List.length_map]; exact h.1)), bd_some, ← Aaa (t := TyS.rule), show std.cmp .leq (std.len TyS.rule xs) 16 = decide (xs.length ≤ 16) from Aji (t := TyS.rule) xs 16]
  cases decide (xs.length ≤ 16) <;> rfl) ()
 refine this.trans (congrArg some ?_)
 exact Ar7 ruleS _ _ xs 0
theorem Ava (xs : List Hours) (h : fitL Att xs) (hs : xs.length ≤ 1000) : Aa4 std xs = some (cond (xs.all hourS) (xs.map (·.Name), decide (xs.length ≤ 8) && onceS (xs.map (·.Name))) ([], false)) := by
 unfold Aa4
 have := Aap (B := Aev std xs) (fun i (_ : Unit) => ((xs.take i).map (·.Name), (i : Int))) xs (fun _ x (_ : Unit) => if hourS x then (.inl () : Unit ⊕ (List ByteArray × Bool)) else .inr ([], false)) (fun _ => (xs.map (·.Name), decide (xs.length ≤ 8) && onceS (xs.map (·.Name)))) (fun i x u hx hi => by
  unfold Aev
  simp only
  rw [Aaa, lssT hi, br_true, ck_t (inbT hi), Aab (t := TyS.hours) hx, A48 x (h.2 x (Abl hx)), bd_some]
  cases hourS x with
  | false => rfl
  | true =>
   rw [s_not, Bool.not_true, br_false, ck_t (show std.appOk TyS.str 16 ((xs.take i).map (·.Name)) [x.Name] from ⟨by simp; omega, by simp; omega⟩), s_add, wrap_succ hi h.1, take_snoc hx, List.map_append]
   rfl) (fun _ => by
  unfold Aev
  simp only
  rw [Aaa, lssF, br_false, List.take_length, gd_b (fun _ => As8 _ (by rw [List.length_map]; exact h.1)), bd_some, ← Aaa (t := TyS.hours), show std.cmp .leq (std.len TyS.hours xs) 8 = decide (xs.length ≤ 8) from Aji (t := TyS.hours) xs 8]
  cases decide (xs.length ≤ 8) <;> rfl) ()
 refine this.trans (congrArg some ?_)
 exact Ar7 hourS _ _ xs 0
theorem A84 (w2 : List ByteArray × Bool) (w9 : List Route) (i : Nat) (r : Route) (hr : w9[i]? = some r) (hw : w2.1.length ≤ big63) (hm : r.Mute.length ≤ big63) (h9 : w9.length ≤ big63) :
  Loop (Add std w2 w9 (i : Int)) 0 = some (cond (r.Mute.all (hasS w2.1)) (.inl ((i + 1 : Nat) : Int)) (.inr false)) := by
 have := Aap (B := Add std w2 w9 (i : Int)) (fun j (_ : Unit) => (j : Int)) r.Mute (fun _ x (_ : Unit) => if hasS w2.1 x then (.inl () : Unit ⊕ (Int ⊕ Bool)) else .inr (.inr false)) (fun _ => .inl ((i + 1 : Nat) : Int)) (fun j x u hx hj => by
  unfold Add
  simp only
  rw [Aab (t := TyS.route) hr, Aaa, lssT hj, br_true, ck_t (inbT hj), Aab (t := TyS.str) hx, Ar5 _ _ hw, bd_some, s_add, wrap_succ hj hm]
  cases hasS w2.1 x <;> rfl) (fun _ => by
  unfold Add
  simp only
  rw [Aab (t := TyS.route) hr, Aaa, lssF, br_false, s_add, wrap_succ (Agh hr) h9]
  rfl) ()
 exact this.trans (congrArg some (Ar7 (hasS w2.1) _ _ r.Mute 0))
theorem A7a (c : Config) (w2 : List ByteArray × Bool) (w9 : List Route) (hw : w2.1.length ≤ big63) (hv : c.Receivers.length ≤ big63) (h9 : w9.length ≤ big63) (hm : ∀ r ∈ w9, r.Mute.length ≤ big63) :
  Loop (Aex std c w2 w9) 0 = some ((w9.all fun r => hasS c.Receivers r.Receiver && r.Mute.all (hasS w2.1)) && decide (w9.length ≤ 32)) := by
 have hout : some (std.cmp .leq (std.len TyS.route w9) 32) = some (decide (w9.length ≤ 32)) := congrArg some (Aji (t := TyS.route) w9 32)
 have := Acs (t := TyS.route) (B := Aex std c w2 w9) (fun i => i) w9 h9 (fun _ r => hasS c.Receivers r.Receiver && r.Mute.all (hasS w2.1)) _ _ _ (fun i => rfl) (fun i r hr hi => by
  rw [Aab (t := TyS.route) hr, Ar5 _ _ hv, bd_some]
  cases h : hasS c.Receivers r.Receiver with
  | false => rfl
  | true =>
   rw [s_not, Bool.not_true, br_false, A84 w2 w9 i r hr hw (hm r (Abl hr)) h9, s_add, wrap_succ hi h9, Bool.true_and]
   cases r.Mute.all (hasS w2.1) <;> rfl) (fun _ => hout) (fun _ => ⟨_, hout⟩)
 have a1 : allI (fun _ (r : Route) => hasS c.Receivers r.Receiver && r.Mute.all (hasS w2.1)) 0 w9 = w9.all fun r => hasS c.Receivers r.Receiver && r.Mute.all (hasS w2.1) := Ai0 _ _ _
 exact this.trans (congrArg (fun b => some (b && _)) a1)
theorem At1 (c : Config) (h : Ae6 c) (hr : c.Rules.length ≤ 1000) (hh : c.Hours.length ≤ 1000) : Ac9 std c = some (Aft c) := by
 obtain ⟨hR, hT, hV, hI, hH⟩ := id h
 unfold Ac9
 rw [Au9 c.Rules hR hr, bd_some, Ava c.Hours hH hh, bd_some, gd_b (fun _ => As8 _ hV.1), bd_some]
 have g16 : std.cmp .gtr (std.len TyS.str c.Receivers) 16 = !decide (c.Receivers.length ≤ 16) := Aus (t := TyS.str) c.Receivers 16
 have g8 : std.cmp .gtr (std.len TyS.inhibit c.Inhibits) 8 = !decide (c.Inhibits.length ≤ 8) := Aus (t := TyS.inhibit) c.Inhibits 8
 rw [g16, g8]
 have c1 : (cond (c.Rules.all ruleS) (c.Rules.map (·.Name), decide (c.Rules.length ≤ 16) && onceS (c.Rules.map (·.Name))) ([], false)).2 = Au8 c := by
  unfold Au8 Aqa
  cases c.Rules.all ruleS <;> simp
 have c2 : (cond (c.Hours.all hourS) (c.Hours.map (·.Name), decide (c.Hours.length ≤ 8) && onceS (c.Hours.map (·.Name))) ([], false)).2 = At0 c := by
  unfold At0 Agz
  cases c.Hours.all hourS <;> simp
 rw [c1, c2]
 have conf : Aft c = (Au8 c && At0 c && decide (c.Receivers.length ≤ 16) && onceS c.Receivers && decide (c.Inhibits.length ≤ 8) && (c.Receivers.all wordS && (c.Inhibits.all Adh && (topS c && Axa c)))) := by
  unfold Aft Ar6 Amw
  generalize Au8 c = x1
  generalize At0 c = x2
  generalize decide (c.Receivers.length ≤ 16) = x3
  generalize onceS c.Receivers = x4
  generalize decide (c.Inhibits.length ≤ 8) = x5
  generalize c.Receivers.all wordS = x6
  cases x1
  ·simp
  cases x2
  ·simp
  cases x3
  ·simp
  cases x4
  ·simp
  cases x5
  ·simp
  cases x6
  ·simp
  simp [Bool.and_assoc]
 rw [conf]
 cases hb1 : Au8 c
 ·rfl
 cases hb2 : At0 c
 ·rfl
 cases decide (c.Receivers.length ≤ 16)
 ·rfl
 cases onceS c.Receivers
 ·rfl
 cases decide (c.Inhibits.length ≤ 8)
 ·rfl
 have hnames : (cond (c.Hours.all hourS) (c.Hours.map (·.Name), decide (c.Hours.length ≤ 8) && onceS (c.Hours.map (·.Name))) ([], false)).1 = Agz c := by
  unfold At0 at hb2
  simp only [Bool.and_eq_true] at hb2
  rw [hb2.1.2]; rfl
 generalize (cond (c.Hours.all hourS) (c.Hours.map (·.Name), decide (c.Hours.length ≤ 8) && onceS (c.Hours.map (·.Name))) ([], false) : List ByteArray × Bool) = w2 at hnames
 have hnl : w2.1.length ≤ big63 := by rw [hnames]; unfold Agz; rw [List.length_map]; exact hH.1
 have g0 : std.cmp .gtr (std.len TyS.matcher c.Route.Match) 0 = !decide (c.Route.Match.length = 0) := by
  rw [s_gtr, Aj2, Aaa, Bool.eq_iff_iff]; simp
 have hout : (bd (Ac7 std c.2) fun w8 =>
    br (std.or (std.or (std.not w8) (std.cmp .gtr (std.len TyS.matcher c.2.2) 0)) c.2.8) (
     some false
    ) (
     bd (Agv std c.2) fun w9 =>
     Loop (Aex std c w2 w9) 0
    )) = some (topS c && Axa c) := by
  rw [A3a c.Route hT, bd_some, g0]
  unfold topS
  cases hr : Agj 4 c.Route
  ·rfl
  generalize decide (c.Route.Match.length = 0) = b8
  cases b8
  ·rfl
  generalize c.Route.On = b9
  rcases Bool.eq_false_or_eq_true b9 with rfl | rfl
  ·rfl
  have hle := Aw6 4 c.Route hr
  have hp := pow17 (d := 4) (by omega)
  rw [show std.or (std.or (std.not true) (!true)) false = false from rfl, br_false, ref_All_eq _ hr, bd_some, A7a c w2 (allD 4 c.Route) hnl hV.1 (by unfold big63; omega) (fun r hr' => by have := A5b 4 c.Route hr r hr'; unfold big63; omega), hnames]
  unfold Axa
  rw [Bool.and_comm]
  rfl
 have l3 := Acs (t := TyS.inhibit) (B := Aje std c w2) (fun i => i) c.Inhibits hI.1 (fun _ x => Adh x) _ (fun i => bd (Ack std (std.get TyS.inhibit c.4 i)) fun w7 => br (std.not w7) (rt (some false)) (some (.inl (std.ar .add .i64 i 1)))) _ (fun i => rfl)
  (fun i x hx hi => by
   rw [Aab (t := TyS.inhibit) hx, Ayw _ (hI.2 x (Abl hx)), bd_some]
   cases Adh x <;> rfl) (fun _ => hout) (fun _ => ⟨_, hout⟩)
 have l4 := Acs (t := TyS.str) (B := Ajf std c w2) (fun i => i) c.Receivers hV.1 (fun _ x => wordS x) _ (fun i => bd (Aae std (std.get TyS.str c.3 i)) fun w7 => br (std.not w7) (rt (some false)) (some (.inl (std.ar .add .i64 i 1)))) _ (fun i => rfl)
  (fun i x hx hi => by
   rw [Aab (t := TyS.str) hx, Al2 _ (hV.2 x (Abl hx)), bd_some]
   cases wordS x <;> rfl) (fun _ => l3) (fun _ => ⟨_, l3⟩)
 have a3 : allI (fun _ x => Adh x) 0 c.Inhibits = c.Inhibits.all Adh := Ai0 _ _ _
 have a4 : allI (fun _ x => wordS x) 0 c.Receivers = c.Receivers.all wordS := Ai0 _ _ _
 have l5 := l4.trans (congrArg some (congr (congrArg and a4) (congr (congrArg and a3) rfl)))
 simp only [Bool.true_and]
 exact l5
end Go.PL
