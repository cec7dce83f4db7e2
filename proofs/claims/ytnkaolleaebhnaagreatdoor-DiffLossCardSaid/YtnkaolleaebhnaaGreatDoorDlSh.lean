/- Texts of this claim: plain laws of what the program's functions compute. No condition of their own. -/
import Derived.Test.YtnkaolleaebhnaaGreatDoorDlLc
import Derived.Test.YtnkaolleaebhnaaGreatDoorProg
import Derived.Test.YtnkaolleaebhnaaGreatDoorDlLd
import Derived.KernelRfl
import Derived.Lib.ItoaNum
import Derived.Shelf.Strings.Builder1
import Derived.Shelf.Strings.Builder2
import Derived.Shelf.Strings.OnBuilder
import Derived.Shelf.Strings.Trim
import Derived.Shelf.Small.Utf8
import Derived.Shelf.Small.Strs
import Derived.Shelf.Strings.BuilderF
import Derived.Shelf.Utf8.RuneCount
import Derived.Shelf.Strconv.Itoa0
import Derived.Shelf.Strconv.Itoa1
import Derived.Shelf.LaysM
import Derived.Shelf.Strconv.Itoa2
import Derived.Shelf.Strconv.Itoa3
import Derived.Shelf.Strings.Search1
import Derived.Shelf.Strings.Search2
import Derived.Shelf.Strings.Search3
import Derived.Shelf.Strings.Count
import Derived.Shelf.Strings.Shaped
import Derived.Shelf.Strings.Prefix
import Derived.Shelf.Strings.Split
import Derived.Shelf.Strings.Replace
import Derived.Shelf.Strings.SplitShaped
import Derived.Shelf.Unicode.Decode
import Derived.Shelf.Strings.Runes
import Derived.Shelf.Strings.RuneCount
import Derived.Shelf.Strings.AsciiSet
import Derived.Shelf.Bits.Mul64
import Derived.Shelf.Strings.Repeat
import Derived.Shelf.Unicode.DecodeSlow
import Derived.Shelf.Unicode.DecodeAny
import Derived.Shelf.Unicode.DecodeLast
import Derived.Ground.Names2Prog
import Derived.Shelf.Slices.Clone
import Derived.Ground.SlgnProg
import Derived.Shelf.SlicesE.Clone
namespace Go.PL
set_option linter.unusedSimpArgs false
set_option linter.unusedVariables false
set_option linter.unusedSectionVars false
open Tys (Ty U)
open Enc (sz enc dflt tb ofB toB)
open Dec (dec dok)
structure Label where
 Name : ByteArray
 Value : ByteArray
structure Matcher where
 Name : ByteArray
 How : Int
 Words : List ByteArray
structure Def where
 Typ : ByteArray
 Keys : List ByteArray
 Values : List ByteArray
structure Hours where
 Name : ByteArray
 Days : Int
 From : Int
 To : Int
structure Rule where
 Name : ByteArray
 Metric : ByteArray
 How : Int
 Limit : Int
 For : Int
 Keep : Int
 Tries : Int
 Labels : List Label
structure Route where
 Receiver : ByteArray
 Match : List Matcher
 By : List ByteArray
 Wait : Int
 Every : Int
 Repeat : Int
 Mute : List ByteArray
 On : Bool
 Routes : List Route
structure Inhibit where
 Source : List Matcher
 Target : List Matcher
 Equal : List ByteArray
structure Config where
 Rules : List Rule
 Route : Route
 Receivers : List ByteArray
 Inhibits : List Inhibit
 Hours : List Hours
structure label_mark where
 Name : ByteArray
 Value : ByteArray
structure WhyW where
 word : ByteArray
 is : Bool
inductive TyS where
 | int | byte | str | label | matcher | dfn | hours | rule | route | inhibit | mark | whyw | u32
 deriving DecidableEq
@[reducible] def US : TyS → Type
 | .int => Int
 | .byte => UInt8
 | .str => ByteArray
 | .label => Label
 | .matcher => Matcher
 | .dfn => Def
 | .hours => Hours
 | .rule => Rule
 | .route => Route
 | .inhibit => Inhibit
 | .mark => label_mark
 | .whyw => WhyW
 | .u32 => Int
instance : Tys := ⟨TyS, US⟩
def szS : TyS → Nat
 | .int => 1
 | .byte => 1
 | .str => 1
 | .label => 2
 | .matcher => 3
 | .dfn => 3
 | .hours => 4
 | .rule => 8
 | .route => 9
 | .inhibit => 3
 | .mark => 2
 | .whyw => 2
 | .u32 => 1
def encS : (t : TyS) → US t → List D
 | .int, x => [.v (.int .i64 x)]
 | .byte, x => [.v (.int .u8 ((x : UInt8).toNat : Int))]
 | .str, x => [.v (.string x)]
 | .label, x => [.v (.string x.Name), .v (.string x.Value)]
 | .matcher, x => [.v (.string x.Name), .v (.int .i64 x.How), .sl .str x.Words]
 | .dfn, x => [.v (.string x.Typ), .sl .str x.Keys, .sl .str x.Values]
 | .hours, x => [.v (.string x.Name), .v (.int .i64 x.Days), .v (.int .i64 x.From), .v (.int .i64 x.To)]
 | .rule, x => [.v (.string x.Name), .v (.string x.Metric), .v (.int .i64 x.How), .v (.int .i64 x.Limit), .v (.int .i64 x.For), .v (.int .i64 x.Keep), .v (.int .i64 x.Tries), .sl .label x.Labels]
 | .route, x => [.v (.string x.Receiver), .sl .matcher x.Match, .sl .str x.By, .v (.int .i64 x.Wait), .v (.int .i64 x.Every), .v (.int .i64 x.Repeat), .sl .str x.Mute, .v (.bool x.On), .sl .route x.Routes]
 | .inhibit, x => [.sl .matcher x.Source, .sl .matcher x.Target, .sl .str x.Equal]
 | .mark, x => [.v (.string x.Name), .v (.string x.Value)]
 | .whyw, x => [.v (.string x.word), .v (.bool x.is)]
 | .u32, x => [.v (.int .u32 x)]
def dfltS : (t : TyS) → US t
 | .int => 0
 | .byte => 0
 | .str => .empty
 | .label => ⟨.empty, .empty⟩
 | .matcher => ⟨.empty, 0, []⟩
 | .dfn => ⟨.empty, [], []⟩
 | .hours => ⟨.empty, 0, 0, 0⟩
 | .rule => ⟨.empty, .empty, 0, 0, 0, 0, 0, []⟩
 | .route => ⟨.empty, [], [], 0, 0, 0, [], false, []⟩
 | .inhibit => ⟨[], [], []⟩
 | .mark => ⟨.empty, .empty⟩
 | .whyw => ⟨.empty, false⟩
 | .u32 => 0
instance : Enc where
 sz := szS
 enc := encS
 dflt := dfltS
 len t x := by cases t <;> rfl
 pos t := by cases t <;> decide
 tb := .byte
 ofB x := x
 toB x := x
 one t x d hd y hy := by subst hy; cases t <;> simp [encS] at hd <;> (try (repeat' (obtain hd | hd := (hd : _ ∨ _)))) <;> (subst hd; rfl)
 agF t x d hd ds := by intro e; subst e; cases t <;> simp [encS] at hd
 arF t x d hd t' xs := by intro e; subst e; cases t <;> simp [encS] at hd
 encB x := rfl
 toOf c := rfl
def castS (t t' : TyS) (xs : List (US t)) : Option (List (US t')) := if h : t = t' then some (h ▸ xs) else none
theorem Azt (t t' : TyS) (xs : List (US t)) (ys : List (US t')) (h : castS t t' xs = some ys) : (⟨t, xs⟩ : (t : TyS) × List (US t)) = ⟨t', ys⟩ := by
 unfold castS at h
 split at h
 ·rename_i e; subst e; cases h; rfl
 ·cases h
def slS (t : TyS) : D → Option (List (US t))
 | .v (.slice none 0 0) => some []
 | .sl t' xs => castS t' t xs
 | _ => none
def intS : D → Option Int
 | .v (.int .i64 n) => some n
 | _ => none
def intK (k : IntKind) : D → Option Int
 | .v (.int k' n) => if k' = k then some n else none
 | _ => none
def u8S : D → Option UInt8
 | .v (.int .u8 n) => some (UInt8.ofNat n.toNat)
 | _ => none
def boolS : D → Option Bool
 | .v (.bool n) => some n
 | _ => none
def strS : D → Option ByteArray
 | .v (.string n) => some n
 | _ => none
theorem Amc {t : TyS} {d : D} {xs : List (US t)} (h : slS t d = some xs) {w : World} {Z : Nat → Nat → Prop} {y : Value} (hy : RD w Z y d) : RD w Z y (.sl t xs) := by
 unfold slS at h
 split at h
 ·cases h; cases hy; exact .nil _ _ _
 ·rename_i t' xs'
  have h1 := Azt _ _ _ _ h
  have h2 : (fun p : (t : TyS) × List (US t) => (D.sl p.1 p.2 : D)) ⟨t', xs'⟩ = (fun p : (t : TyS) × List (US t) => (D.sl p.1 p.2 : D)) ⟨t, xs⟩ := by rw [h1]
  have h3 : (D.sl t' xs' : D) = .sl t xs := h2
  rw [← h3]; exact hy
 ·cases h
theorem Ah0 {d : D} {x : Int} (h : intS d = some x) : d = .v (.int .i64 x) := by
 unfold intS at h; split at h <;> cases h; rfl
theorem A41 {k : IntKind} {d : D} {x : Int} (h : intK k d = some x) : d = .v (.int k x) := by
 unfold intK at h; split at h
 ·split at h <;> cases h; rename_i e; rw [e]
 ·cases h
theorem boolS_ok {d : D} {x : Bool} (h : boolS d = some x) : d = .v (.bool x) := by
 unfold boolS at h; split at h <;> cases h; rfl
theorem Ai1 {d : D} {x : ByteArray} (h : strS d = some x) : d = .v (.string x) := by
 unfold strS at h; split at h <;> cases h; rfl
def Ayf : List D → Option Int
 | [d0] =>
  match intS d0 with
  | none => none
  | some a0 =>
   some a0
 | _ => none
def At8 (f : Int → UInt8) : List D → Option UInt8
 | [.v (.int .u8 n)] => some (f n)
 | _ => none
def At9 (f : Int → Prop) : List D → Prop
 | [.v (.int .u8 n)] => f n
 | _ => True
def Ayg : List D → Option ByteArray
 | [d0] =>
  match strS d0 with
  | none => none
  | some a0 =>
   some a0
 | _ => none
def Aq6 : List D → Option Label
 | [d0, d1] =>
  match strS d0 with
  | none => none
  | some a0 =>
   match strS d1 with
   | none => none
   | some a1 =>
    some ⟨a0, a1⟩
 | _ => none
def Anp : List D → Option Matcher
 | [d0, d1, d2] =>
  match strS d0 with
  | none => none
  | some a0 =>
   match intS d1 with
   | none => none
   | some a1 =>
    match slS .str d2 with
    | none => none
    | some a2 =>
     some ⟨a0, a1, a2⟩
 | _ => none
def Ayh : List D → Option Def
 | [d0, d1, d2] =>
  match strS d0 with
  | none => none
  | some a0 =>
   match slS .str d1 with
   | none => none
   | some a1 =>
    match slS .str d2 with
    | none => none
    | some a2 =>
     some ⟨a0, a1, a2⟩
 | _ => none
def Aq7 : List D → Option Hours
 | [d0, d1, d2, d3] =>
  match strS d0 with
  | none => none
  | some a0 =>
   match intS d1 with
   | none => none
   | some a1 =>
    match intS d2 with
    | none => none
    | some a2 =>
     match intS d3 with
     | none => none
     | some a3 =>
      some ⟨a0, a1, a2, a3⟩
 | _ => none
def Aua : List D → Option Rule
 | [d0, d1, d2, d3, d4, d5, d6, d7] =>
  match strS d0 with
  | none => none
  | some a0 =>
   match strS d1 with
   | none => none
   | some a1 =>
    match intS d2 with
    | none => none
    | some a2 =>
     match intS d3 with
     | none => none
     | some a3 =>
      match intS d4 with
      | none => none
      | some a4 =>
       match intS d5 with
       | none => none
       | some a5 =>
        match intS d6 with
        | none => none
        | some a6 =>
         match slS .label d7 with
         | none => none
         | some a7 =>
          some ⟨a0, a1, a2, a3, a4, a5, a6, a7⟩
 | _ => none
def Aq8 : List D → Option Route
 | [d0, d1, d2, d3, d4, d5, d6, d7, d8] =>
  match strS d0 with
  | none => none
  | some a0 =>
   match slS .matcher d1 with
   | none => none
   | some a1 =>
    match slS .str d2 with
    | none => none
    | some a2 =>
     match intS d3 with
     | none => none
     | some a3 =>
      match intS d4 with
      | none => none
      | some a4 =>
       match intS d5 with
       | none => none
       | some a5 =>
        match slS .str d6 with
        | none => none
        | some a6 =>
         match boolS d7 with
         | none => none
         | some a7 =>
          match slS .route d8 with
          | none => none
          | some a8 =>
           some ⟨a0, a1, a2, a3, a4, a5, a6, a7, a8⟩
 | _ => none
def Anq : List D → Option Inhibit
 | [d0, d1, d2] =>
  match slS .matcher d0 with
  | none => none
  | some a0 =>
   match slS .matcher d1 with
   | none => none
   | some a1 =>
    match slS .str d2 with
    | none => none
    | some a2 =>
     some ⟨a0, a1, a2⟩
 | _ => none
def Aub : List D → Option label_mark
 | [d0, d1] =>
  match strS d0 with
  | none => none
  | some a0 =>
   match strS d1 with
   | none => none
   | some a1 =>
    some ⟨a0, a1⟩
 | _ => none
def Auc : List D → Option WhyW
 | [d0, d1] =>
  match strS d0 with
  | none => none
  | some a0 =>
   match boolS d1 with
   | none => none
   | some a1 =>
    some ⟨a0, a1⟩
 | _ => none
def Ayi : List D → Option Int
 | [d0] =>
  match intK .u32 d0 with
  | none => none
  | some a0 =>
   some a0
 | _ => none
theorem A0n (ds : List D) (x : US .int) (h : Ayf ds = some x) : ds.length = szS .int ∧ ∀ (w : World) (Z : Nat → Nat → Prop) (i : Nat) (y : Value) (d d' : D), ds[i]? = some d → (encS .int x)[i]? = some d' → RD w Z y d → RD w Z y d' := by
 unfold Ayf at h
 split at h
 ·rename_i d0
  split at h
  ·cases h
  rename_i a0 h0
  cases h
  refine ⟨rfl, fun w Z i y d d' hd he hy => ?_⟩
  rcases i with _ | i
  ·cases hd; cases he; rw [← Ah0 h0]; exact hy
  cases hd
 ·cases h
theorem Ayj (ds : List D) (x : UInt8) (h : At8 (fun n => UInt8.ofNat n.toNat) ds = some x) : ds.length = 1 ∧ (At9 (fun n => 0 ≤ n ∧ n < 256) ds → ds = encS .byte x) := by
 unfold At8 at h
 split at h
 ·rename_i n
  cases h
  refine ⟨rfl, fun hn => ?_⟩
  simp only [At9] at hn
  have h1 : (UInt8.ofNat n.toNat).toNat = n.toNat := by simp; omega
  simp only [encS, h1]
  congr 3; omega
 ·cases h
theorem A0o (ds : List D) (x : US .str) (h : Ayg ds = some x) : ds.length = szS .str ∧ ∀ (w : World) (Z : Nat → Nat → Prop) (i : Nat) (y : Value) (d d' : D), ds[i]? = some d → (encS .str x)[i]? = some d' → RD w Z y d → RD w Z y d' := by
 unfold Ayg at h
 split at h
 ·rename_i d0
  split at h
  ·cases h
  rename_i a0 h0
  cases h
  refine ⟨rfl, fun w Z i y d d' hd he hy => ?_⟩
  rcases i with _ | i
  ·cases hd; cases he; rw [← Ai1 h0]; exact hy
  cases hd
 ·cases h
theorem Awe (ds : List D) (x : US .label) (h : Aq6 ds = some x) : ds.length = szS .label ∧ ∀ (w : World) (Z : Nat → Nat → Prop) (i : Nat) (y : Value) (d d' : D), ds[i]? = some d → (encS .label x)[i]? = some d' → RD w Z y d → RD w Z y d' := by
 unfold Aq6 at h
 split at h
 ·rename_i d0 d1
  split at h
  ·cases h
  rename_i a0 h0
  split at h
  ·cases h
  rename_i a1 h1
  cases h
  refine ⟨rfl, fun w Z i y d d' hd he hy => ?_⟩
  rcases i with _ | i
  ·cases hd; cases he; rw [← Ai1 h0]; exact hy
  rcases i with _ | i
  ·cases hd; cases he; rw [← Ai1 h1]; exact hy
  cases hd
 ·cases h
theorem Ash (ds : List D) (x : US .matcher) (h : Anp ds = some x) : ds.length = szS .matcher ∧ ∀ (w : World) (Z : Nat → Nat → Prop) (i : Nat) (y : Value) (d d' : D), ds[i]? = some d → (encS .matcher x)[i]? = some d' → RD w Z y d → RD w Z y d' := by
 unfold Anp at h
 split at h
 ·rename_i d0 d1 d2
  split at h
  ·cases h
  rename_i a0 h0
  split at h
  ·cases h
  rename_i a1 h1
  split at h
  ·cases h
  rename_i a2 h2
  cases h
  refine ⟨rfl, fun w Z i y d d' hd he hy => ?_⟩
  rcases i with _ | i
  ·cases hd; cases he; rw [← Ai1 h0]; exact hy
  rcases i with _ | i
  ·cases hd; cases he; rw [← Ah0 h1]; exact hy
  rcases i with _ | i
  ·cases hd; cases he; exact Amc h2 hy
  cases hd
 ·cases h
theorem A0p (ds : List D) (x : US .dfn) (h : Ayh ds = some x) : ds.length = szS .dfn ∧ ∀ (w : World) (Z : Nat → Nat → Prop) (i : Nat) (y : Value) (d d' : D), ds[i]? = some d → (encS .dfn x)[i]? = some d' → RD w Z y d → RD w Z y d' := by
 unfold Ayh at h
 split at h
 ·rename_i d0 d1 d2
  split at h
  ·cases h
  rename_i a0 h0
  split at h
  ·cases h
  rename_i a1 h1
  split at h
  ·cases h
  rename_i a2 h2
  cases h
  refine ⟨rfl, fun w Z i y d d' hd he hy => ?_⟩
  rcases i with _ | i
  ·cases hd; cases he; rw [← Ai1 h0]; exact hy
  rcases i with _ | i
  ·cases hd; cases he; exact Amc h1 hy
  rcases i with _ | i
  ·cases hd; cases he; exact Amc h2 hy
  cases hd
 ·cases h
theorem Awf (ds : List D) (x : US .hours) (h : Aq7 ds = some x) : ds.length = szS .hours ∧ ∀ (w : World) (Z : Nat → Nat → Prop) (i : Nat) (y : Value) (d d' : D), ds[i]? = some d → (encS .hours x)[i]? = some d' → RD w Z y d → RD w Z y d' := by
 unfold Aq7 at h
 split at h
 ·rename_i d0 d1 d2 d3
  split at h
  ·cases h
  rename_i a0 h0
  split at h
  ·cases h
  rename_i a1 h1
  split at h
  ·cases h
  rename_i a2 h2
  split at h
  ·cases h
  rename_i a3 h3
  cases h
  refine ⟨rfl, fun w Z i y d d' hd he hy => ?_⟩
  rcases i with _ | i
  ·cases hd; cases he; rw [← Ai1 h0]; exact hy
  rcases i with _ | i
  ·cases hd; cases he; rw [← Ah0 h1]; exact hy
  rcases i with _ | i
  ·cases hd; cases he; rw [← Ah0 h2]; exact hy
  rcases i with _ | i
  ·cases hd; cases he; rw [← Ah0 h3]; exact hy
  cases hd
 ·cases h
theorem Ayk (ds : List D) (x : US .rule) (h : Aua ds = some x) : ds.length = szS .rule ∧ ∀ (w : World) (Z : Nat → Nat → Prop) (i : Nat) (y : Value) (d d' : D), ds[i]? = some d → (encS .rule x)[i]? = some d' → RD w Z y d → RD w Z y d' := by
 unfold Aua at h
 split at h
 ·rename_i d0 d1 d2 d3 d4 d5 d6 d7
  split at h
  ·cases h
  rename_i a0 h0
  split at h
  ·cases h
  rename_i a1 h1
  split at h
  ·cases h
  rename_i a2 h2
  split at h
  ·cases h
  rename_i a3 h3
  split at h
  ·cases h
  rename_i a4 h4
  split at h
  ·cases h
  rename_i a5 h5
  split at h
  ·cases h
  rename_i a6 h6
  split at h
  ·cases h
  rename_i a7 h7
  cases h
  refine ⟨rfl, fun w Z i y d d' hd he hy => ?_⟩
  rcases i with _ | i
  ·cases hd; cases he; rw [← Ai1 h0]; exact hy
  rcases i with _ | i
  ·cases hd; cases he; rw [← Ai1 h1]; exact hy
  rcases i with _ | i
  ·cases hd; cases he; rw [← Ah0 h2]; exact hy
  rcases i with _ | i
  ·cases hd; cases he; rw [← Ah0 h3]; exact hy
  rcases i with _ | i
  ·cases hd; cases he; rw [← Ah0 h4]; exact hy
  rcases i with _ | i
  ·cases hd; cases he; rw [← Ah0 h5]; exact hy
  rcases i with _ | i
  ·cases hd; cases he; rw [← Ah0 h6]; exact hy
  rcases i with _ | i
  ·cases hd; cases he; exact Amc h7 hy
  cases hd
 ·cases h
theorem Awg (ds : List D) (x : US .route) (h : Aq8 ds = some x) : ds.length = szS .route ∧ ∀ (w : World) (Z : Nat → Nat → Prop) (i : Nat) (y : Value) (d d' : D), ds[i]? = some d → (encS .route x)[i]? = some d' → RD w Z y d → RD w Z y d' := by
 unfold Aq8 at h
 split at h
 ·rename_i d0 d1 d2 d3 d4 d5 d6 d7 d8
  split at h
  ·cases h
  rename_i a0 h0
  split at h
  ·cases h
  rename_i a1 h1
  split at h
  ·cases h
  rename_i a2 h2
  split at h
  ·cases h
  rename_i a3 h3
  split at h
  ·cases h
  rename_i a4 h4
  split at h
  ·cases h
  rename_i a5 h5
  split at h
  ·cases h
  rename_i a6 h6
  split at h
  ·cases h
  rename_i a7 h7
  split at h
  ·cases h
  rename_i a8 h8
  cases h
  refine ⟨rfl, fun w Z i y d d' hd he hy => ?_⟩
  rcases i with _ | i
  ·cases hd; cases he; rw [← Ai1 h0]; exact hy
  rcases i with _ | i
  ·cases hd; cases he; exact Amc h1 hy
  rcases i with _ | i
  ·cases hd; cases he; exact Amc h2 hy
  rcases i with _ | i
  ·cases hd; cases he; rw [← Ah0 h3]; exact hy
  rcases i with _ | i
  ·cases hd; cases he; rw [← Ah0 h4]; exact hy
  rcases i with _ | i
  ·cases hd; cases he; rw [← Ah0 h5]; exact hy
  rcases i with _ | i
  ·cases hd; cases he; exact Amc h6 hy
  rcases i with _ | i
  ·cases hd; cases he; rw [← boolS_ok h7]; exact hy
  rcases i with _ | i
  ·cases hd; cases he; exact Amc h8 hy
  cases hd
 ·cases h
theorem Asi (ds : List D) (x : US .inhibit) (h : Anq ds = some x) : ds.length = szS .inhibit ∧ ∀ (w : World) (Z : Nat → Nat → Prop) (i : Nat) (y : Value) (d d' : D), ds[i]? = some d → (encS .inhibit x)[i]? = some d' → RD w Z y d → RD w Z y d' := by
 unfold Anq at h
 split at h
 ·rename_i d0 d1 d2
  split at h
  ·cases h
  rename_i a0 h0
  split at h
  ·cases h
  rename_i a1 h1
  split at h
  ·cases h
  rename_i a2 h2
  cases h
  refine ⟨rfl, fun w Z i y d d' hd he hy => ?_⟩
  rcases i with _ | i
  ·cases hd; cases he; exact Amc h0 hy
  rcases i with _ | i
  ·cases hd; cases he; exact Amc h1 hy
  rcases i with _ | i
  ·cases hd; cases he; exact Amc h2 hy
  cases hd
 ·cases h
theorem Ayl (ds : List D) (x : US .mark) (h : Aub ds = some x) : ds.length = szS .mark ∧ ∀ (w : World) (Z : Nat → Nat → Prop) (i : Nat) (y : Value) (d d' : D), ds[i]? = some d → (encS .mark x)[i]? = some d' → RD w Z y d → RD w Z y d' := by
 unfold Aub at h
 split at h
 ·rename_i d0 d1
  split at h
  ·cases h
  rename_i a0 h0
  split at h
  ·cases h
  rename_i a1 h1
  cases h
  refine ⟨rfl, fun w Z i y d d' hd he hy => ?_⟩
  rcases i with _ | i
  ·cases hd; cases he; rw [← Ai1 h0]; exact hy
  rcases i with _ | i
  ·cases hd; cases he; rw [← Ai1 h1]; exact hy
  cases hd
 ·cases h
theorem Aym (ds : List D) (x : US .whyw) (h : Auc ds = some x) : ds.length = szS .whyw ∧ ∀ (w : World) (Z : Nat → Nat → Prop) (i : Nat) (y : Value) (d d' : D), ds[i]? = some d → (encS .whyw x)[i]? = some d' → RD w Z y d → RD w Z y d' := by
 unfold Auc at h
 split at h
 ·rename_i d0 d1
  split at h
  ·cases h
  rename_i a0 h0
  split at h
  ·cases h
  rename_i a1 h1
  cases h
  refine ⟨rfl, fun w Z i y d d' hd he hy => ?_⟩
  rcases i with _ | i
  ·cases hd; cases he; rw [← Ai1 h0]; exact hy
  rcases i with _ | i
  ·cases hd; cases he; rw [← boolS_ok h1]; exact hy
  cases hd
 ·cases h
theorem A0q (ds : List D) (x : US .u32) (h : Ayi ds = some x) : ds.length = szS .u32 ∧ ∀ (w : World) (Z : Nat → Nat → Prop) (i : Nat) (y : Value) (d d' : D), ds[i]? = some d → (encS .u32 x)[i]? = some d' → RD w Z y d → RD w Z y d' := by
 unfold Ayi at h
 split at h
 ·rename_i d0
  split at h
  ·cases h
  rename_i a0 h0
  cases h
  refine ⟨rfl, fun w Z i y d d' hd he hy => ?_⟩
  rcases i with _ | i
  ·cases hd; cases he; rw [← A41 h0]; exact hy
  cases hd
 ·cases h
def decS (f : Int → UInt8) : (t : TyS) → List D → Option (US t)
 | .int => Ayf
 | .byte => At8 f
 | .str => Ayg
 | .label => Aq6
 | .matcher => Anp
 | .dfn => Ayh
 | .hours => Aq7
 | .rule => Aua
 | .route => Aq8
 | .inhibit => Anq
 | .mark => Aub
 | .whyw => Auc
 | .u32 => Ayi
def dokS (f : Int → Prop) : TyS → List D → Prop
 | .int, l => True
 | .byte, l => At9 f l
 | .str, l => True
 | .label, l => True
 | .matcher, l => True
 | .dfn, l => True
 | .hours, l => True
 | .rule, l => True
 | .route, l => True
 | .inhibit, l => True
 | .mark, l => True
 | .whyw, l => True
 | .u32, l => True
instance : Dec where
 dec := decS
 dok := dokS
 dec_ok t ds x h := by
  cases t
  ·obtain ⟨h1, h2⟩ := A0n ds x h; exact ⟨h1, fun _ => h2⟩
  ·obtain ⟨h1, h2⟩ := Ayj ds x h; exact ⟨h1, fun hok w Z i y d d' hd he hy => by have h3 := h2 hok; subst h3; rw [show enc _ x = encS .byte x from rfl, hd] at he; cases he; exact hy⟩
  ·obtain ⟨h1, h2⟩ := A0o ds x h; exact ⟨h1, fun _ => h2⟩
  ·obtain ⟨h1, h2⟩ := Awe ds x h; exact ⟨h1, fun _ => h2⟩
  ·obtain ⟨h1, h2⟩ := Ash ds x h; exact ⟨h1, fun _ => h2⟩
  ·obtain ⟨h1, h2⟩ := A0p ds x h; exact ⟨h1, fun _ => h2⟩
  ·obtain ⟨h1, h2⟩ := Awf ds x h; exact ⟨h1, fun _ => h2⟩
  ·obtain ⟨h1, h2⟩ := Ayk ds x h; exact ⟨h1, fun _ => h2⟩
  ·obtain ⟨h1, h2⟩ := Awg ds x h; exact ⟨h1, fun _ => h2⟩
  ·obtain ⟨h1, h2⟩ := Asi ds x h; exact ⟨h1, fun _ => h2⟩
  ·obtain ⟨h1, h2⟩ := Ayl ds x h; exact ⟨h1, fun _ => h2⟩
  ·obtain ⟨h1, h2⟩ := Aym ds x h; exact ⟨h1, fun _ => h2⟩
  ·obtain ⟨h1, h2⟩ := A0q ds x h; exact ⟨h1, fun _ => h2⟩
 cast := castS
 cast_ok := Azt
end Go.PL
namespace Go.PL
set_option linter.unusedSimpArgs false
set_option linter.unusedVariables false
set_option linter.unusedSectionVars false
open Tys (Ty U)
open Enc (sz enc dflt tb ofB toB)
open Dec (dec dok)
set_option maxRecDepth 100000
open Go.Proofs
theorem TOk.mk0 {P : Program} {t : TypeId} {r : TR} {i : TypeInfo} {d : TypeDesc} {z : Value} (h1 : P.types[t]? = some i) (h2 : P.underlying t = some d) (h3 : i.size = r.size) (h4 : i.bytes = r.bytes) (h5 : i.zero = some z) (h6 : z.cells.toList = r.zero) (h7 : KOk d r.k) (h8 : r.zero.length = r.size := by rfl) (h9 : i.zero = some (zeroV r) := by rfl) : TOk P t r :=
 ⟨i, d, (by have hlt : t < P.types.size := (Array.getElem?_eq_some_iff.1 h1).1; rw [Tables.info?.eq_1, if_pos hlt]; exact h1), h2, h3, ⟨h4, h8, h9⟩, ⟨z, h5, h6⟩, h7⟩
noncomputable def tiS0 : TypeId → Option TR
 | 0 => some ⟨.other, 1, 0, [Value.tuple #[]]⟩
 | 1 => some ⟨.func, 1, 8, [Value.nilFunc]⟩
 | 2 => some ⟨.int .i64, 1, 8, [Value.int IntKind.i64 0]⟩
 | 3 => some ⟨.int .i64, 1, 8, [Value.int IntKind.i64 0]⟩
 | 4 => some ⟨.bool, 1, 1, [Value.bool false]⟩
 | 5 => some ⟨.int .u8, 1, 1, [Value.int IntKind.u8 0]⟩
 | 6 => some ⟨.int .u8, 1, 1, [Value.int IntKind.u8 0]⟩
 | 7 => some ⟨.struct [(0, 2), (1, 3), (2, 4), (3, 6)], 4, 24, [Value.int IntKind.i64 0, Value.int IntKind.i64 0, Value.bool false, Value.int IntKind.u8 0]⟩
 | 8 => some ⟨.struct [(0, 2), (1, 3), (2, 4), (3, 6)], 4, 24, [Value.int IntKind.i64 0, Value.int IntKind.i64 0, Value.bool false, Value.int IntKind.u8 0]⟩
 | 9 => some ⟨.string, 1, 16, [Value.string { data := #[] }]⟩
 | 10 => some ⟨.string, 1, 16, [Value.string { data := #[] }]⟩
 | 11 => some ⟨.string, 1, 16, [Value.string { data := #[] }]⟩
 | 12 => some ⟨.int .u64, 1, 8, [Value.int IntKind.u64 0]⟩
 | 20 => some ⟨.iface, 1, 16, [Value.nilIface]⟩
 | 22 => some ⟨.slice 36, 1, 24, [Value.slice none 0 0]⟩
 | 23 => some ⟨.slice 97, 1, 24, [Value.slice none 0 0]⟩
 | 24 => some ⟨.slice 9, 1, 24, [Value.slice none 0 0]⟩
 | 25 => some ⟨.slice 27, 1, 24, [Value.slice none 0 0]⟩
 | 27 => some ⟨.struct [(0, 9), (1, 23), (2, 24), (3, 3), (4, 3), (5, 3), (6, 24), (7, 4), (8, 25)], 9, 144, [Value.string { data := #[] }, Value.slice none 0 0, Value.slice none 0 0, Value.int IntKind.i64 0, Value.int IntKind.i64 0, Value.int IntKind.i64 0, Value.slice none 0 0, Value.bool false, Value.slice none 0 0]⟩
 | 28 => some ⟨.slice 61, 1, 24, [Value.slice none 0 0]⟩
 | 29 => some ⟨.slice 65, 1, 24, [Value.slice none 0 0]⟩
 | 31 => some ⟨.struct [(0, 22), (1, 27), (10, 24), (11, 28), (12, 29)], 13, 240, [Value.slice none 0 0, Value.string { data := #[] }, Value.slice none 0 0, Value.slice none 0 0, Value.int IntKind.i64 0, Value.int IntKind.i64 0, Value.int IntKind.i64 0, Value.slice none 0 0, Value.bool false, Value.slice none 0 0, Value.slice none 0 0, Value.slice none 0 0, Value.slice none 0 0]⟩
 | 32 => some ⟨.func, 1, 8, [Value.nilFunc]⟩
 | 34 => some ⟨.slice 144, 1, 24, [Value.slice none 0 0]⟩
 | 36 => some ⟨.struct [(0, 9), (1, 9), (2, 3), (3, 3), (4, 3), (5, 3), (6, 3), (7, 34)], 8, 96, [Value.string { data := #[] }, Value.string { data := #[] }, Value.int IntKind.i64 0, Value.int IntKind.i64 0, Value.int IntKind.i64 0, Value.int IntKind.i64 0, Value.int IntKind.i64 0, Value.slice none 0 0]⟩
 | 37 => some ⟨.int .i64, 1, 8, [Value.int IntKind.i64 0]⟩
 | 38 => some ⟨.other, 1, 0, [Value.tuple #[Value.slice none 0 0, Value.int IntKind.i64 0]]⟩
 | 42 => some ⟨.func, 1, 8, [Value.nilFunc]⟩
 | 49 => some ⟨.other, 1, 0, [Value.tuple #[Value.string { data := #[] }, Value.int IntKind.i64 0]]⟩
 | 56 => some ⟨.func, 1, 8, [Value.nilFunc]⟩
 | 58 => some ⟨.func, 1, 8, [Value.nilFunc]⟩
 | 61 => some ⟨.struct [(0, 23), (1, 23), (2, 24)], 3, 72, [Value.slice none 0 0, Value.slice none 0 0, Value.slice none 0 0]⟩
 | 62 => some ⟨.func, 1, 8, [Value.nilFunc]⟩
 | 64 => some ⟨.struct [(0, 9), (1, 3), (2, 3), (3, 3)], 4, 40, [Value.string { data := #[] }, Value.int IntKind.i64 0, Value.int IntKind.i64 0, Value.int IntKind.i64 0]⟩
 | 65 => some ⟨.struct [(0, 9), (1, 3), (2, 3), (3, 3)], 4, 40, [Value.string { data := #[] }, Value.int IntKind.i64 0, Value.int IntKind.i64 0, Value.int IntKind.i64 0]⟩
 | 66 => some ⟨.func, 1, 8, [Value.nilFunc]⟩
 | 68 => some ⟨.func, 1, 8, [Value.nilFunc]⟩
 | 71 => some ⟨.func, 1, 8, [Value.nilFunc]⟩
 | 72 => some ⟨.func, 1, 8, [Value.nilFunc]⟩
 | 74 => some ⟨.other, 1, 0, [Value.tuple #[Value.slice none 0 0, Value.slice none 0 0]]⟩
 | 78 => some ⟨.other, 1, 0, [Value.tuple #[Value.agg #[Value.slice none 0 0, Value.string { data := #[] }, Value.slice none 0 0, Value.slice none 0 0, Value.int IntKind.i64 0, Value.int IntKind.i64 0, Value.int IntKind.i64 0, Value.slice none 0 0, Value.bool false, Value.slice none 0 0, Value.slice none 0 0, Value.slice none 0 0, Value.slice none 0 0], Value.int IntKind.i64 0]]⟩
 | 81 => some ⟨.func, 1, 8, [Value.nilFunc]⟩
 | 83 => some ⟨.struct [(0, 22), (1, 22), (2, 68), (3, 81)], 4, 64, [Value.slice none 0 0, Value.slice none 0 0, Value.nilFunc, Value.nilFunc]⟩
 | 85 => some ⟨.func, 1, 8, [Value.nilFunc]⟩
 | 87 => some ⟨.struct [(0, 24), (1, 24), (2, 42), (3, 85)], 4, 64, [Value.slice none 0 0, Value.slice none 0 0, Value.nilFunc, Value.nilFunc]⟩
 | 89 => some ⟨.func, 1, 8, [Value.nilFunc]⟩
 | 91 => some ⟨.struct [(0, 29), (1, 29), (2, 71), (3, 89)], 4, 64, [Value.slice none 0 0, Value.slice none 0 0, Value.nilFunc, Value.nilFunc]⟩
 | 93 => some ⟨.func, 1, 8, [Value.nilFunc]⟩
 | 94 => some ⟨.func, 1, 8, [Value.nilFunc]⟩
 | 97 => some ⟨.struct [(0, 9), (1, 3), (2, 24)], 3, 48, [Value.string { data := #[] }, Value.int IntKind.i64 0, Value.slice none 0 0]⟩
 | 98 => some ⟨.func, 1, 8, [Value.nilFunc]⟩
 | 117 => some ⟨.ptr 4, 1, 8, [Value.pointer none]⟩
 | 120 => some ⟨.slice 3, 1, 24, [Value.slice none 0 0]⟩
 | 122 => some ⟨.func, 1, 8, [Value.nilFunc]⟩
 | 126 => some ⟨.slice 5, 1, 24, [Value.slice none 0 0]⟩
 | 127 => some ⟨.ptr 129, 1, 8, [Value.pointer none]⟩
 | 129 => some ⟨.struct [(0, 127), (1, 126)], 2, 32, [Value.pointer none, Value.slice none 0 0]⟩
 | 131 => some ⟨.iface, 1, 16, [Value.nilIface]⟩
 | 135 => some ⟨.func, 1, 8, [Value.nilFunc]⟩
 | 141 => some ⟨.struct [(0, 9), (1, 24), (2, 24)], 3, 64, [Value.string { data := #[] }, Value.slice none 0 0, Value.slice none 0 0]⟩
 | _ => none
theorem tiS0_ok (t : TypeId) (r : TR) (h : tiS0 t = some r) : TOk Tryz.prog t r := by
 unfold tiS0 at h
 split at h
 ·cases h; exact TOk.mk0 Tryz.type0 Tryz.underlying0 rfl rfl rfl rfl trivial
 ·cases h; exact TOk.mk0 Tryz.type1 Tryz.underlying1 rfl rfl rfl rfl trivial
 ·cases h; exact TOk.mk0 Tryz.type2 Tryz.underlying2 rfl rfl rfl rfl rfl
 ·cases h; exact TOk.mk0 Tryz.type3 Tryz.underlying3 rfl rfl rfl rfl rfl
 ·cases h; exact TOk.mk0 Tryz.type4 Tryz.underlying4 rfl rfl rfl rfl trivial
 ·cases h; exact TOk.mk0 Tryz.type5 Tryz.underlying5 rfl rfl rfl rfl rfl
 ·cases h; exact TOk.mk0 Tryz.type6 Tryz.underlying6 rfl rfl rfl rfl rfl
 ·cases h; exact TOk.mk0 Tryz.type7 Tryz.underlying7 rfl rfl rfl rfl rfl
 ·cases h; exact TOk.mk0 Tryz.type8 Tryz.underlying8 rfl rfl rfl rfl rfl
 ·cases h; exact TOk.mk0 Tryz.type9 Tryz.underlying9 rfl rfl rfl rfl trivial
 ·cases h; exact TOk.mk0 Tryz.type10 Tryz.underlying10 rfl rfl rfl rfl trivial
 ·cases h; exact TOk.mk0 Tryz.type11 Tryz.underlying11 rfl rfl rfl rfl trivial
 ·cases h; exact TOk.mk0 Tryz.type12 Tryz.underlying12 rfl rfl rfl rfl rfl
 ·cases h; exact TOk.mk0 Tryz.type20 Tryz.underlying20 rfl rfl rfl rfl trivial
 ·cases h; exact TOk.mk0 Tryz.type22 Tryz.underlying22 rfl rfl rfl rfl rfl
 ·cases h; exact TOk.mk0 Tryz.type23 Tryz.underlying23 rfl rfl rfl rfl rfl
 ·cases h; exact TOk.mk0 Tryz.type24 Tryz.underlying24 rfl rfl rfl rfl rfl
 ·cases h; exact TOk.mk0 Tryz.type25 Tryz.underlying25 rfl rfl rfl rfl rfl
 ·cases h; exact TOk.mk0 Tryz.type27 Tryz.underlying27 rfl rfl rfl rfl rfl
 ·cases h; exact TOk.mk0 Tryz.type28 Tryz.underlying28 rfl rfl rfl rfl rfl
 ·cases h; exact TOk.mk0 Tryz.type29 Tryz.underlying29 rfl rfl rfl rfl rfl
 ·cases h; exact TOk.mk0 Tryz.type31 Tryz.underlying31 rfl rfl rfl rfl rfl
 ·cases h; exact TOk.mk0 Tryz.type32 Tryz.underlying32 rfl rfl rfl rfl trivial
 ·cases h; exact TOk.mk0 Tryz.type34 Tryz.underlying34 rfl rfl rfl rfl rfl
 ·cases h; exact TOk.mk0 Tryz.type36 Tryz.underlying36 rfl rfl rfl rfl rfl
 ·cases h; exact TOk.mk0 Tryz.type37 Tryz.underlying37 rfl rfl rfl rfl rfl
 ·cases h; exact TOk.mk0 Tryz.type38 Tryz.underlying38 rfl rfl rfl rfl trivial
 ·cases h; exact TOk.mk0 Tryz.type42 Tryz.underlying42 rfl rfl rfl rfl trivial
 ·cases h; exact TOk.mk0 Tryz.type49 Tryz.underlying49 rfl rfl rfl rfl trivial
 ·cases h; exact TOk.mk0 Tryz.type56 Tryz.underlying56 rfl rfl rfl rfl trivial
 ·cases h; exact TOk.mk0 Tryz.type58 Tryz.underlying58 rfl rfl rfl rfl trivial
 ·cases h; exact TOk.mk0 Tryz.type61 Tryz.underlying61 rfl rfl rfl rfl rfl
 ·cases h; exact TOk.mk0 Tryz.type62 Tryz.underlying62 rfl rfl rfl rfl trivial
 ·cases h; exact TOk.mk0 Tryz.type64 Tryz.underlying64 rfl rfl rfl rfl rfl
 ·cases h; exact TOk.mk0 Tryz.type65 Tryz.underlying65 rfl rfl rfl rfl rfl
 ·cases h; exact TOk.mk0 Tryz.type66 Tryz.underlying66 rfl rfl rfl rfl trivial
 ·cases h; exact TOk.mk0 Tryz.type68 Tryz.underlying68 rfl rfl rfl rfl trivial
 ·cases h; exact TOk.mk0 Tryz.type71 Tryz.underlying71 rfl rfl rfl rfl trivial
 ·cases h; exact TOk.mk0 Tryz.type72 Tryz.underlying72 rfl rfl rfl rfl trivial
 ·cases h; exact TOk.mk0 Tryz.type74 Tryz.underlying74 rfl rfl rfl rfl trivial
 ·cases h; exact TOk.mk0 Tryz.type78 Tryz.underlying78 rfl rfl rfl rfl trivial
 ·cases h; exact TOk.mk0 Tryz.type81 Tryz.underlying81 rfl rfl rfl rfl trivial
 ·cases h; exact TOk.mk0 Tryz.type83 Tryz.underlying83 rfl rfl rfl rfl rfl
 ·cases h; exact TOk.mk0 Tryz.type85 Tryz.underlying85 rfl rfl rfl rfl trivial
 ·cases h; exact TOk.mk0 Tryz.type87 Tryz.underlying87 rfl rfl rfl rfl rfl
 ·cases h; exact TOk.mk0 Tryz.type89 Tryz.underlying89 rfl rfl rfl rfl trivial
 ·cases h; exact TOk.mk0 Tryz.type91 Tryz.underlying91 rfl rfl rfl rfl rfl
 ·cases h; exact TOk.mk0 Tryz.type93 Tryz.underlying93 rfl rfl rfl rfl trivial
 ·cases h; exact TOk.mk0 Tryz.type94 Tryz.underlying94 rfl rfl rfl rfl trivial
 ·cases h; exact TOk.mk0 Tryz.type97 Tryz.underlying97 rfl rfl rfl rfl rfl
 ·cases h; exact TOk.mk0 Tryz.type98 Tryz.underlying98 rfl rfl rfl rfl trivial
 ·cases h; exact TOk.mk0 Tryz.type117 Tryz.underlying117 rfl rfl rfl rfl rfl
 ·cases h; exact TOk.mk0 Tryz.type120 Tryz.underlying120 rfl rfl rfl rfl rfl
 ·cases h; exact TOk.mk0 Tryz.type122 Tryz.underlying122 rfl rfl rfl rfl trivial
 ·cases h; exact TOk.mk0 Tryz.type126 Tryz.underlying126 rfl rfl rfl rfl rfl
 ·cases h; exact TOk.mk0 Tryz.type127 Tryz.underlying127 rfl rfl rfl rfl rfl
 ·cases h; exact TOk.mk0 Tryz.type129 Tryz.underlying129 rfl rfl rfl rfl rfl
 ·cases h; exact TOk.mk0 Tryz.type131 Tryz.underlying131 rfl rfl rfl rfl trivial
 ·cases h; exact TOk.mk0 Tryz.type135 Tryz.underlying135 rfl rfl rfl rfl trivial
 ·cases h; exact TOk.mk0 Tryz.type141 Tryz.underlying141 rfl rfl rfl rfl rfl
 ·cases h
noncomputable def tiS1 : TypeId → Option TR
 | 142 => some ⟨.slice 141, 1, 24, [Value.slice none 0 0]⟩
 | 144 => some ⟨.struct [(0, 9), (1, 9)], 2, 32, [Value.string { data := #[] }, Value.string { data := #[] }]⟩
 | 146 => some ⟨.func, 1, 8, [Value.nilFunc]⟩
 | 147 => some ⟨.func, 1, 8, [Value.nilFunc]⟩
 | 149 => some ⟨.map 9 4, 1, 8, [Value.map none]⟩
 | 151 => some ⟨.func, 1, 8, [Value.nilFunc]⟩
 | 159 => some ⟨.func, 1, 8, [Value.nilFunc]⟩
 | 160 => some ⟨.func, 1, 8, [Value.nilFunc]⟩
 | 164 => some ⟨.func, 1, 8, [Value.nilFunc]⟩
 | 165 => some ⟨.struct [(0, 9), (1, 4)], 2, 24, [Value.string { data := #[] }, Value.bool false]⟩
 | 167 => some ⟨.func, 1, 8, [Value.nilFunc]⟩
 | 168 => some ⟨.slice 165, 1, 24, [Value.slice none 0 0]⟩
 | 193 => some ⟨.int .u32, 1, 4, [Value.int IntKind.u32 0]⟩
 | 198 => some ⟨.ptr 5, 1, 8, [Value.pointer none]⟩
 | 202 => some ⟨.func, 1, 8, [Value.nilFunc]⟩
 | 203 => some ⟨.other, 1, 0, [Value.tuple #[Value.string { data := #[] }, Value.bool false]]⟩
 | 204 => some ⟨.map 3 9, 1, 8, [Value.map none]⟩
 | 208 => some ⟨.func, 1, 8, [Value.nilFunc]⟩
 | 211 => some ⟨.func, 1, 8, [Value.nilFunc]⟩
 | 212 => some ⟨.func, 1, 8, [Value.nilFunc]⟩
 | 217 => some ⟨.func, 1, 8, [Value.nilFunc]⟩
 | 220 => some ⟨.func, 1, 8, [Value.nilFunc]⟩
 | 226 => some ⟨.struct [(0, 9), (1, 9)], 2, 32, [Value.string { data := #[] }, Value.string { data := #[] }]⟩
 | 228 => some ⟨.other, 1, 0, [Value.tuple #[Value.int IntKind.i64 0, Value.nilIface]]⟩
 | 237 => some ⟨.uns, 1, 8, [Value.pointer none]⟩
 | 275 => some ⟨.ptr 271, 1, 8, [Value.pointer none]⟩
 | _ => none
theorem tiS1_ok (t : TypeId) (r : TR) (h : tiS1 t = some r) : TOk Tryz.prog t r := by
 unfold tiS1 at h
 split at h
 ·cases h; exact TOk.mk0 Tryz.type142 Tryz.underlying142 rfl rfl rfl rfl rfl
 ·cases h; exact TOk.mk0 Tryz.type144 Tryz.underlying144 rfl rfl rfl rfl rfl
 ·cases h; exact TOk.mk0 Tryz.type146 Tryz.underlying146 rfl rfl rfl rfl trivial
 ·cases h; exact TOk.mk0 Tryz.type147 Tryz.underlying147 rfl rfl rfl rfl trivial
 ·cases h; exact TOk.mk0 Tryz.type149 Tryz.underlying149 rfl rfl rfl rfl ⟨rfl, rfl⟩
 ·cases h; exact TOk.mk0 Tryz.type151 Tryz.underlying151 rfl rfl rfl rfl trivial
 ·cases h; exact TOk.mk0 Tryz.type159 Tryz.underlying159 rfl rfl rfl rfl trivial
 ·cases h; exact TOk.mk0 Tryz.type160 Tryz.underlying160 rfl rfl rfl rfl trivial
 ·cases h; exact TOk.mk0 Tryz.type164 Tryz.underlying164 rfl rfl rfl rfl trivial
 ·cases h; exact TOk.mk0 Tryz.type165 Tryz.underlying165 rfl rfl rfl rfl rfl
 ·cases h; exact TOk.mk0 Tryz.type167 Tryz.underlying167 rfl rfl rfl rfl trivial
 ·cases h; exact TOk.mk0 Tryz.type168 Tryz.underlying168 rfl rfl rfl rfl rfl
 ·cases h; exact TOk.mk0 Tryz.type193 Tryz.underlying193 rfl rfl rfl rfl rfl
 ·cases h; exact TOk.mk0 Tryz.type198 Tryz.underlying198 rfl rfl rfl rfl rfl
 ·cases h; exact TOk.mk0 Tryz.type202 Tryz.underlying202 rfl rfl rfl rfl trivial
 ·cases h; exact TOk.mk0 Tryz.type203 Tryz.underlying203 rfl rfl rfl rfl trivial
 ·cases h; exact TOk.mk0 Tryz.type204 Tryz.underlying204 rfl rfl rfl rfl ⟨rfl, rfl⟩
 ·cases h; exact TOk.mk0 Tryz.type208 Tryz.underlying208 rfl rfl rfl rfl trivial
 ·cases h; exact TOk.mk0 Tryz.type211 Tryz.underlying211 rfl rfl rfl rfl trivial
 ·cases h; exact TOk.mk0 Tryz.type212 Tryz.underlying212 rfl rfl rfl rfl trivial
 ·cases h; exact TOk.mk0 Tryz.type217 Tryz.underlying217 rfl rfl rfl rfl trivial
 ·cases h; exact TOk.mk0 Tryz.type220 Tryz.underlying220 rfl rfl rfl rfl trivial
 ·cases h; exact TOk.mk0 Tryz.type226 Tryz.underlying226 rfl rfl rfl rfl rfl
 ·cases h; exact TOk.mk0 Tryz.type228 Tryz.underlying228 rfl rfl rfl rfl trivial
 ·cases h; exact TOk.mk0 Tryz.type237 Tryz.underlying237 rfl rfl rfl rfl trivial
 ·cases h; exact TOk.mk0 Tryz.type275 Tryz.underlying275 rfl rfl rfl rfl rfl
 ·cases h
noncomputable def tiS (t : TypeId) : Option TR := (match tiS0 t with | some r => some r | none => (match tiS1 t with | some r => some r | none => none))
theorem A5l (t : TypeId) (r : TR) (h : tiS t = some r) : TOk Tryz.prog t r := by
 unfold tiS at h
 split at h
 ·rename_i r1 h1; cases h; exact tiS0_ok t _ h1
 split at h
 ·rename_i r1 h1; cases h; exact tiS1_ok t _ h1
 cases h
def etyS : TypeId → Option Ty
 | 3 => some .int
 | 5 => some .byte
 | 9 => some .str
 | 193 => some .u32
 | 144 => some .label
 | 97 => some .matcher
 | 141 => some .dfn
 | 65 => some .hours
 | 36 => some .rule
 | 27 => some .route
 | 61 => some .inhibit
 | 226 => some .mark
 | 165 => some .whyw
 | _ => none
end Go.PL
namespace Go.PL
set_option linter.unusedSimpArgs false
set_option linter.unusedVariables false
set_option linter.unusedSectionVars false
open Tys (Ty U)
open Enc (sz enc dflt tb ofB toB)
open Dec (dec dok)
open Go.Proofs
def liesS : TypeId → Bool
 | 129 => true
 | _ => false
def eqS : TypeId → Bool
 | 144 => true
 | 65 => true
 | _ => false
class GM where
 m : Int
 tab : Bool
def daysT : List ByteArray := [⟨#[109, 111, 110]⟩, ⟨#[116, 117, 101]⟩, ⟨#[119, 101, 100]⟩, ⟨#[116, 104, 117]⟩, ⟨#[102, 114, 105]⟩, ⟨#[115, 97, 116]⟩, ⟨#[115, 117, 110]⟩]
def keysT : List Int := [1116352408, 1899447441, 3049323471, 3921009573, 961987163, 1508970993, 2453635748, 2870763221, 3624381080, 310598401, 607225278, 1426881987, 1925078388, 2162078206, 2614888103, 3248222580, 3835390401, 4022224774, 264347078, 604807628, 770255983, 1249150122, 1555081692, 1996064986, 2554220882, 2821834349, 2952996808, 3210313671, 3336571891, 3584528711, 113926993, 338241895, 666307205, 773529912, 1294757372, 1396182291, 1695183700, 1986661051, 2177026350, 2456956037, 2730485921, 2820302411, 3259730800, 3345764771, 3516065817, 3600352804, 4094571909, 275423344, 430227734, 506948616, 659060556, 883997877, 958139571, 1322822218, 1537002063, 1747873779, 1955562222, 2024104815, 2227730452, 2361852424, 2428436474, 2756734187, 3204031479, 3329325298]
def gtS [GM] : Nat → Option (List D)
  | 2 => some [.v (.int .i64 GM.m)]
  | _ => none
noncomputable def cx [GM] : Ctx := ⟨Tryz.prog, tiS, etyS, gtS, liesS, eqS, fun _ => false⟩
variable [GM]
theorem cx_ok : cx.OK where
 ti := A5l
 ety e t h := by
  unfold cx etyS at h
  simp only at h
  split at h <;> cases h <;> exact ⟨_, rfl, rfl⟩
 mixed := by kernel_rfl
 eqt t h := by
  unfold cx eqS at h
  simp only at h
  split at h
  ·exact ⟨by kernel_rfl, by kernel_rfl, fun F hF => by have h2 := Tryz.underlying144.symm.trans hF; cases h2; rfl⟩
  ·exact ⟨by kernel_rfl, by kernel_rfl, fun F hF => by have h2 := Tryz.underlying65.symm.trans hF; cases h2; rfl⟩
  ·cases h
 lies t h := by
  unfold cx liesS at h
  simp only at h
  split at h
  ·exact ⟨_, rfl, by kernel_rfl⟩
  ·cases h
noncomputable def cxF [GM] (fz : Nat → Bool) : Ctx := ⟨Tryz.prog, tiS, etyS, gtS, liesS, eqS, fz⟩
theorem As5 (fz : Nat → Bool) : (cxF fz).OK := ⟨cx_ok.ti, cx_ok.ety, cx_ok.mixed, cx_ok.eqt, cx_ok.lies⟩
end Go.PL
namespace Go.PL
set_option linter.unusedSimpArgs false
set_option linter.unusedVariables false
set_option linter.unusedSectionVars false
open Tys (Ty U)
open Enc (sz enc dflt tb ofB toB)
open Dec (dec dok)
open Go.Proofs
instance {n : Nat} : OfNat (U TyS.u32) n := ⟨(n : Int)⟩
def nilS : PV := .d (.v (.slice none 0 0))
def Aq9 (x : Label) : PV := .ag [st x.Name, st x.Value]
def Aev (x : Matcher) : PV := .ag [st x.Name, it .i64 x.How, .d (.sl .str x.Words)]
def defPV (x : Def) : PV := .ag [st x.Typ, .d (.sl .str x.Keys), .d (.sl .str x.Values)]
def Ac4 (x : Hours) : PV := .ag [st x.Name, it .i64 x.Days, it .i64 x.From, it .i64 x.To]
def Aeb (x : Rule) : PV := .ag [st x.Name, st x.Metric, it .i64 x.How, it .i64 x.Limit, it .i64 x.For, it .i64 x.Keep, it .i64 x.Tries, .d (.sl .label x.Labels)]
def Aa4 (x : Route) : PV := .ag [st x.Receiver, .d (.sl .matcher x.Match), .d (.sl .str x.By), it .i64 x.Wait, it .i64 x.Every, it .i64 x.Repeat, .d (.sl .str x.Mute), bl x.On, .d (.sl .route x.Routes)]
def A4l (x : label_mark) : PV := .ag [st x.Name, st x.Value]
def Adp (x : Inhibit) : PV := .ag [.d (.sl .matcher x.Source), .d (.sl .matcher x.Target), .d (.sl .str x.Equal)]
def Afq (x : Config) : PV := .ag [.d (.sl .rule x.Rules), st x.Route.Receiver, .d (.sl .matcher x.Route.Match), .d (.sl .str x.Route.By), it .i64 x.Route.Wait, it .i64 x.Route.Every, it .i64 x.Route.Repeat, .d (.sl .str x.Route.Mute), bl x.Route.On, .d (.sl .route x.Route.Routes), .d (.sl .str x.Receivers), .d (.sl .inhibit x.Inhibits), .d (.sl .hours x.Hours)]
def A50 (x : WhyW) : PV := .ag [st x.word, bl x.is]
end Go.PL
namespace Go.PL
set_option linter.unusedSimpArgs false
set_option linter.unusedVariables false
set_option linter.unusedSectionVars false
open Tys (Ty U)
open Enc (sz enc dflt tb ofB toB)
open Dec (dec dok)
open Go.Proofs Go.Shelf Go.RowKit
variable {P : Program} {ρ : Ren}
set_option maxHeartbeats 2000000 in
set_option maxRecDepth 100000 in
theorem Akb (L : Lays.n169 P ρ) (b n cap : Nat) (a : Option Addr) (p q : Value) (s : ByteArray) (w w1 w2 : World)
  (hbk : w.heap[b]? = some (.cells #[p, .slice a n cap] (ρ.t 72) (0, 0))) (hb1 : w1.heap[b]? = some (.cells #[p, .slice a n cap] (ρ.t 72) (0, 0)))
  (hSD : (Builtin.unsafeSliceData_ #[(ρ.t 37)] (ρ.t 127) #[.slice a n cap]).run P w.drew = .ok q w1)
  (hUS : (Builtin.unsafeString_ #[(ρ.t 127), (ρ.t 3)] (ρ.t 9) #[q, .int .i64 n]).run P w1 = .ok (.string s) w2) :
  Calls P (ρ.f 169) #[.pointer (some ⟨b, 0, none⟩)] w fun e w' => e = .returned (.string s) ∧ w' = w2 := by
 have c1 : w.drew.cell? ⟨b, 1, none⟩ = some (.slice a n cap) := by
  have : w.drew.heap[b]? = some (.cells #[p, .slice a n cap] (ρ.t 72) (0, 0)) := hbk
  rw [Lib.cell_of_heap this]; rfl
 have c2 : w1.cell? ⟨b, 1, none⟩ = some (.slice a n cap) := by rw [Lib.cell_of_heap hb1]; rfl
 have mixed := L.mixed
 have t72 := L.t72; have u72 := run_underlying L.t72; have a72 := L.a72; have z72 := L.z72
 have t70 := L.t70; have u70 := run_underlying L.t70; have a70 := L.a70; have z70 := L.z70
 have t37 := L.t37; have u37 := run_underlying L.t37; have a37 := L.a37; have z37 := L.z37
 have t127 := L.t127; have u127 := run_underlying L.t127; have a127 := L.a127; have z127 := L.z127
 have t3 := L.t3; have u3 := run_underlying L.t3; have a3 := L.a3; have z3 := L.z3
 have t9 := L.t9; have u9 := run_underlying L.t9; have a9 := L.a9; have z9 := L.z9
 go_enter L.f169, Body.n169_ntmps ρ
 go_wp2
 go_region_o
 all_goals (go_wp2; go_ret; exact ⟨rfl, rfl⟩)
end Go.PL
/-
  DERIVED: THE SHELF's CONTRACTS AT THIS DUMP, IN PLAIN WORDS (tools/lay-plain.mjs out of 'TryzShelf.lean', which tools/lay-shelf.mjs wrote): THE SAME DECLARATIONS UNDER THE SAME NAMES: 'import', 'namespace', 'open', 'def', 'theorem' AND NOTHING ELSE: no command of the shelf's: FOR A HAND-IN. Each laying: the table of numbers ('.._ren') and one theorem, a field a fact of the dump's own or the kernel's comparison; each contract: ONE APPLICATION.
-/
namespace Go.Proofs
set_option linter.unusedSimpArgs false
set_option linter.unusedVariables false
set_option linter.unusedSectionVars false
open Go.Shelf
def Tryz.lays169_ren : Go.Shelf.Ren := ⟨fun | 169 => 116 | n => n, fun | 70 => 127 | 9 => 9 | 0 => 0 | 72 => 129 | 37 => 126 | 127 => 198 | 3 => 3 | 5 => 5 | n => n, fun | n => n⟩
theorem Tryz.lays169 : Go.Proofs.Lays.n169 Tryz.prog Tryz.lays169_ren := {
  mixed := by kernel_rfl
  f169 := Tryz.func116.trans (congrArg some (by kernel_rfl))
  t0 := Tryz.underlying0
  a0 := Tryz.isAgg0
  z0 := Tryz.sizeOf0
  v0 := Tryz.zeroValue0
  t3 := Tryz.underlying3
  a3 := Tryz.isAgg3
  z3 := Tryz.sizeOf3
  v3 := Tryz.zeroValue3
  t9 := Tryz.underlying9
  a9 := Tryz.isAgg9
  z9 := Tryz.sizeOf9
  v9 := Tryz.zeroValue9
  t37 := Tryz.underlying126
  a37 := Tryz.isAgg126
  z37 := Tryz.sizeOf126
  v37 := Tryz.zeroValue126
  t70 := Tryz.underlying127
  a70 := Tryz.isAgg127
  z70 := Tryz.sizeOf127
  v70 := Tryz.zeroValue127
  t72 := Tryz.underlying129
  a72 := Tryz.isAgg129
  z72 := Tryz.sizeOf129
  v72 := Tryz.zeroValue129
  t127 := Tryz.underlying198
  a127 := Tryz.isAgg198
  z127 := Tryz.sizeOf198
  v127 := Tryz.zeroValue198 }
theorem Tryz.Builder_Extra_169 : Builder.Extra Tryz.prog Tryz.lays169_ren := {
  sizeBuilder := by kernel_rfl
  liesBuilder := by kernel_rfl
  t5 := Tryz.underlying5
  a5 := Tryz.isAgg5
  z5 := Tryz.sizeOf5
  v5 := Tryz.zeroValue5
  infoByte := by kernel_rfl
  cellsByte := by kernel_rfl
  sizeByte := by kernel_rfl
  neB5 := by decide }
def Tryz.lays156_ren : Go.Shelf.Ren := ⟨fun | 156 => 178 | 165 => 245 | 166 => 246 | 169 => 116 | 240 => 193 | 241 => 282 | 276 => 257 | 277 => 309 | n => n, fun | 31 => 24 | 9 => 9 | 3 => 3 | 4 => 4 | 0 => 0 | 20 => 20 | 72 => 129 | 76 => 228 | 70 => 127 | 37 => 126 | 75 => 131 | 127 => 198 | 164 => 237 | 5 => 5 | 80 => 134 | n => n, fun | n => n⟩
theorem Tryz.lays156 : Go.Proofs.Lays.n156 Tryz.prog Tryz.lays156_ren := {
  mixed := by kernel_rfl
  f156 := Tryz.func178.trans (congrArg some (by kernel_rfl))
  f165 := Tryz.func245.trans (congrArg some (by kernel_rfl))
  f166 := Tryz.func246.trans (congrArg some (by kernel_rfl))
  f169 := Tryz.func116.trans (congrArg some (by kernel_rfl))
  f240 := Tryz.func193.trans (congrArg some (by kernel_rfl))
  f241 := Tryz.func282.trans (congrArg some (by kernel_rfl))
  f276 := Tryz.func257.trans (congrArg some (by kernel_rfl))
  f277 := Tryz.func309.trans (congrArg some (by kernel_rfl))
  t0 := Tryz.underlying0
  a0 := Tryz.isAgg0
  z0 := Tryz.sizeOf0
  v0 := Tryz.zeroValue0
  t3 := Tryz.underlying3
  a3 := Tryz.isAgg3
  z3 := Tryz.sizeOf3
  v3 := Tryz.zeroValue3
  t4 := Tryz.underlying4
  a4 := Tryz.isAgg4
  z4 := Tryz.sizeOf4
  v4 := Tryz.zeroValue4
  t9 := Tryz.underlying9
  a9 := Tryz.isAgg9
  z9 := Tryz.sizeOf9
  v9 := Tryz.zeroValue9
  t20 := Tryz.underlying20
  a20 := Tryz.isAgg20
  z20 := Tryz.sizeOf20
  v20 := Tryz.zeroValue20
  t31 := Tryz.underlying24
  a31 := Tryz.isAgg24
  z31 := Tryz.sizeOf24
  v31 := Tryz.zeroValue24
  t37 := Tryz.underlying126
  a37 := Tryz.isAgg126
  z37 := Tryz.sizeOf126
  v37 := Tryz.zeroValue126
  t70 := Tryz.underlying127
  a70 := Tryz.isAgg127
  z70 := Tryz.sizeOf127
  v70 := Tryz.zeroValue127
  t72 := Tryz.underlying129
  a72 := Tryz.isAgg129
  z72 := Tryz.sizeOf129
  v72 := Tryz.zeroValue129
  t75 := Tryz.underlying131
  a75 := Tryz.isAgg131
  z75 := Tryz.sizeOf131
  v75 := Tryz.zeroValue131
  t76 := Tryz.underlying228
  a76 := Tryz.isAgg228
  z76 := Tryz.sizeOf228
  v76 := Tryz.zeroValue228
  t127 := Tryz.underlying198
  a127 := Tryz.isAgg198
  z127 := Tryz.sizeOf198
  v127 := Tryz.zeroValue198
  t164 := Tryz.underlying237
  a164 := Tryz.isAgg237
  z164 := Tryz.sizeOf237
  v164 := Tryz.zeroValue237 }
theorem Tryz.Builder_Extra_156 : Builder.Extra Tryz.prog Tryz.lays156_ren := {
  sizeBuilder := by kernel_rfl
  liesBuilder := by kernel_rfl
  t5 := Tryz.underlying5
  a5 := Tryz.isAgg5
  z5 := Tryz.sizeOf5
  v5 := Tryz.zeroValue5
  infoByte := by kernel_rfl
  cellsByte := by kernel_rfl
  sizeByte := by kernel_rfl
  neB5 := by decide }
open Go.RowKit in
theorem Tryz.strings_Join_none (a : Option Addr) (c : Nat) (sep : ByteArray) (w : World) :
    Calls Tryz.prog 178 #[.slice a 0 c, .string sep] w fun e w' => e = .returned (.string ⟨#[]⟩) ∧ w' = w := Any.strings_Join_none Tryz.lays156 Tryz.Builder_Extra_156 a c sep w
open Go.RowKit in
theorem Tryz.strings_Join (bk o c : Nat) (xs : List ByteArray) (sep : ByteArray) (w : World) (hcells : ∀ (j : Nat) x, xs[j]? = some x → w.cell? ⟨bk, o + j, none⟩ = some (.string x)) (hbk : bk < w.heap.size) (hN : xs.length ≤ 140737488355328) (hcap : xs.length ≤ c) (hlen : (Lib.join (xs.map (·.data.toList)) sep.data.toList).length ≤ 140737488355328) :
    Calls Tryz.prog 178 #[.slice (some ⟨bk, o, none⟩) xs.length c, .string sep] w fun e w' => e = .returned (.string ⟨(Lib.join (xs.map (·.data.toList)) sep.data.toList).toArray⟩) ∧ Below w.heap.size w w' := Any.strings_Join Tryz.lays156 Tryz.Builder_Extra_156 bk o c xs sep w hcells hbk hN hcap hlen
def Tryz.lays160_ren : Go.Shelf.Ren := ⟨fun | 160 => 291 | 232 => 311 | 231 => 310 | 227 => 312 | 234 => 314 | 233 => 313 | 236 => 316 | 235 => 315 | 228 => 332 | 271 => 334 | 151 => 333 | 197 => 326 | 120 => 347 | 152 => 346 | 260 => 343 | 137 => 292 | 119 => 348 | 224 => 323 | 225 => 322 | 217 => 317 | 266 => 335 | n => n, fun | 9 => 9 | 4 => 4 | 3 => 3 | 5 => 5 | 117 => 272 | 116 => 271 | 0 => 0 | 124 => 275 | 21 => 21 | 105 => 277 | 46 => 133 | 119 => 288 | 139 => 291 | 138 => 290 | n => n, fun | 3 => 4 | 4 => 5 | n => n⟩
theorem Tryz.lays160 : Go.Proofs.Lays.n160 Tryz.prog Tryz.lays160_ren := {
  mixed := by kernel_rfl
  f119 := Tryz.func348.trans (congrArg some (by kernel_rfl))
  f120 := Tryz.func347.trans (congrArg some (by kernel_rfl))
  f137 := Tryz.func292.trans (congrArg some (by kernel_rfl))
  f151 := Tryz.func333.trans (congrArg some (by kernel_rfl))
  f152 := Tryz.func346.trans (congrArg some (by kernel_rfl))
  f160 := Tryz.func291.trans (congrArg some (by kernel_rfl))
  f197 := Tryz.func326.trans (congrArg some (by kernel_rfl))
  f217 := Tryz.func317.trans (congrArg some (by kernel_rfl))
  f224 := Tryz.func323.trans (congrArg some (by kernel_rfl))
  f225 := Tryz.func322.trans (congrArg some (by kernel_rfl))
  f227 := Tryz.func312.trans (congrArg some (by kernel_rfl))
  f228 := Tryz.func332.trans (congrArg some (by kernel_rfl))
  f231 := Tryz.func310.trans (congrArg some (by kernel_rfl))
  f232 := Tryz.func311.trans (congrArg some (by kernel_rfl))
  f233 := Tryz.func313.trans (congrArg some (by kernel_rfl))
  f234 := Tryz.func314.trans (congrArg some (by kernel_rfl))
  f235 := Tryz.func315.trans (congrArg some (by kernel_rfl))
  f236 := Tryz.func316.trans (congrArg some (by kernel_rfl))
  f260 := Tryz.func343.trans (congrArg some (by kernel_rfl))
  f266 := Tryz.func335.trans (congrArg some (by kernel_rfl))
  f271 := Tryz.func334.trans (congrArg some (by kernel_rfl))
  t0 := Tryz.underlying0
  a0 := Tryz.isAgg0
  z0 := Tryz.sizeOf0
  v0 := Tryz.zeroValue0
  t3 := Tryz.underlying3
  a3 := Tryz.isAgg3
  z3 := Tryz.sizeOf3
  v3 := Tryz.zeroValue3
  t4 := Tryz.underlying4
  a4 := Tryz.isAgg4
  z4 := Tryz.sizeOf4
  v4 := Tryz.zeroValue4
  t5 := Tryz.underlying5
  a5 := Tryz.isAgg5
  z5 := Tryz.sizeOf5
  v5 := Tryz.zeroValue5
  t9 := Tryz.underlying9
  a9 := Tryz.isAgg9
  z9 := Tryz.sizeOf9
  v9 := Tryz.zeroValue9
  t21 := Tryz.underlying21
  a21 := Tryz.isAgg21
  z21 := Tryz.sizeOf21
  v21 := Tryz.zeroValue21
  t46 := Tryz.underlying133
  a46 := Tryz.isAgg133
  z46 := Tryz.sizeOf133
  v46 := Tryz.zeroValue133
  t105 := Tryz.underlying277
  a105 := Tryz.isAgg277
  z105 := Tryz.sizeOf277
  v105 := Tryz.zeroValue277
  t116 := Tryz.underlying271
  a116 := Tryz.isAgg271
  z116 := Tryz.sizeOf271
  t117 := Tryz.underlying272
  a117 := Tryz.isAgg272
  z117 := Tryz.sizeOf272
  v117 := Tryz.zeroValue272
  t119 := Tryz.underlying288
  a119 := Tryz.isAgg288
  z119 := Tryz.sizeOf288
  t124 := Tryz.underlying275
  a124 := Tryz.isAgg275
  z124 := Tryz.sizeOf275
  v124 := Tryz.zeroValue275
  t138 := Tryz.underlying290
  a138 := Tryz.isAgg290
  z138 := Tryz.sizeOf290
  v138 := Tryz.zeroValue290
  t139 := Tryz.underlying291
  a139 := Tryz.isAgg291
  z139 := Tryz.sizeOf291
  v139 := Tryz.zeroValue291
  g3 := by kernel_rfl
  g4 := by kernel_rfl }
open Go.RowKit in
theorem Tryz.strings_Trim_one (s : ByteArray) (c : UInt8) (hc : c.toNat < 128) (w : World) (hs : s.size ≤ 9223372036854775807) :
    Calls Tryz.prog 291 #[.string s, .string ⟨#[c]⟩] w fun e w' => e = .returned (.string ⟨(Lib.trimB s.data.toList c).toArray⟩) ∧ (w' = w ∨ w' = w.drew) := Any.strings_Trim_one Tryz.lays160 s c hc w hs
def Tryz.lays106_ren : Go.Shelf.Ren := ⟨fun | 106 => 215 | 213 => 269 | 265 => 296 | n => n, fun | 9 => 9 | 3 => 3 | n => n, fun | n => n⟩
theorem Tryz.lays106 : Go.Proofs.Lays.n106 Tryz.prog Tryz.lays106_ren := {
  mixed := by kernel_rfl
  f106 := Tryz.func215.trans (congrArg some (by kernel_rfl))
  f213 := Tryz.func269.trans (congrArg some (by kernel_rfl))
  f265 := Tryz.func296.trans (congrArg some (by kernel_rfl))
  t3 := Tryz.underlying3
  a3 := Tryz.isAgg3
  z3 := Tryz.sizeOf3
  v3 := Tryz.zeroValue3
  t9 := Tryz.underlying9
  a9 := Tryz.isAgg9
  z9 := Tryz.sizeOf9
  v9 := Tryz.zeroValue9 }
open Go.RowKit in
theorem Tryz.strings_Compare (a b : ByteArray) (w : World) :
    Calls Tryz.prog 215 #[.string a, .string b] w fun e w' => e = .returned (.int .i64 (Lib.compareBytes a.data.toList b.data.toList)) ∧ w' = w := Any.strings_Compare Tryz.lays106 a b w
def Tryz.lays137_ren : Go.Shelf.Ren := ⟨fun | 137 => 292 | 217 => 317 | 266 => 335 | n => n, fun | 9 => 9 | 5 => 5 | 3 => 3 | n => n, fun | n => n⟩
theorem Tryz.lays137 : Go.Proofs.Lays.n137 Tryz.prog Tryz.lays137_ren := {
  mixed := by kernel_rfl
  f137 := Tryz.func292.trans (congrArg some (by kernel_rfl))
  f217 := Tryz.func317.trans (congrArg some (by kernel_rfl))
  f266 := Tryz.func335.trans (congrArg some (by kernel_rfl))
  t3 := Tryz.underlying3
  a3 := Tryz.isAgg3
  z3 := Tryz.sizeOf3
  v3 := Tryz.zeroValue3
  t5 := Tryz.underlying5
  a5 := Tryz.isAgg5
  z5 := Tryz.sizeOf5
  v5 := Tryz.zeroValue5
  t9 := Tryz.underlying9
  a9 := Tryz.isAgg9
  z9 := Tryz.sizeOf9
  v9 := Tryz.zeroValue9 }
open Go.RowKit in
theorem Tryz.strings_IndexByte (s : ByteArray) (c : Int) (w : World) :
    Calls Tryz.prog 292 #[.string s, .int .u8 c] w fun e w' => e = .returned (.int .i64 (Lib.indexByte s.data.toList c.toNat.toUInt8)) ∧ w' = w := Any.strings_IndexByte Tryz.lays137 s c w
def Tryz.laysM171_ren : Go.Shelf.Ren := ⟨fun | 171 => 177 | 243 => 244 | 246 => 281 | 283 => 305 | 284 => 306 | 285 => 307 | 286 => 308 | 129 => 328 | 317 => 327 | 318 => 329 | 319 => 330 | 320 => 331 | 337 => 344 | 338 => 345 | n => n, fun | 3 => 3 | 9 => 9 | 2 => 2 | 4 => 4 | 171 => 263 | 0 => 0 | 53 => 189 | 37 => 126 | 5 => 5 | 173 => 266 | 212 => 280 | 51 => 193 | 20 => 20 | 213 => 281 | 46 => 133 | 232 => 292 | 233 => 293 | n => n, fun | 17 => 3 | 18 => 6 | 19 => 7 | n => n⟩
theorem Tryz.laysM171 : Go.Proofs.LaysM.n171 Tryz.prog Tryz.laysM171_ren := {
  mixed := by kernel_rfl
  f129 := Tryz.func328.trans (congrArg some (by kernel_rfl))
  f171 := Tryz.func177.trans (congrArg some (by kernel_rfl))
  f243 := Tryz.func244.trans (congrArg some (by kernel_rfl))
  f246 := Tryz.func281.trans (congrArg some (by kernel_rfl))
  f283 := Tryz.func305.trans (congrArg some (by kernel_rfl))
  f284 := Tryz.func306.trans (congrArg some (by kernel_rfl))
  f285 := Tryz.func307.trans (congrArg some (by kernel_rfl))
  f286 := Tryz.func308.trans (congrArg some (by kernel_rfl))
  f317 := Tryz.func327.trans (congrArg some (by kernel_rfl))
  f318 := Tryz.func329.trans (congrArg some (by kernel_rfl))
  f319 := Tryz.func330.trans (congrArg some (by kernel_rfl))
  f320 := Tryz.func331.trans (congrArg some (by kernel_rfl))
  f337 := Tryz.func344.trans (congrArg some (by kernel_rfl))
  f338 := Tryz.func345.trans (congrArg some (by kernel_rfl))
  t0 := Tryz.underlying0
  a0 := Tryz.isAgg0
  z0 := Tryz.sizeOf0
  v0 := Tryz.zeroValue0
  t2 := Tryz.underlying2
  a2 := Tryz.isAgg2
  z2 := Tryz.sizeOf2
  v2 := Tryz.zeroValue2
  t3 := Tryz.underlying3
  a3 := Tryz.isAgg3
  z3 := Tryz.sizeOf3
  v3 := Tryz.zeroValue3
  t4 := Tryz.underlying4
  a4 := Tryz.isAgg4
  z4 := Tryz.sizeOf4
  v4 := Tryz.zeroValue4
  t5 := Tryz.underlying5
  a5 := Tryz.isAgg5
  z5 := Tryz.sizeOf5
  v5 := Tryz.zeroValue5
  t9 := Tryz.underlying9
  a9 := Tryz.isAgg9
  z9 := Tryz.sizeOf9
  v9 := Tryz.zeroValue9
  t20 := Tryz.underlying20
  a20 := Tryz.isAgg20
  z20 := Tryz.sizeOf20
  v20 := Tryz.zeroValue20
  t37 := Tryz.underlying126
  a37 := Tryz.isAgg126
  z37 := Tryz.sizeOf126
  v37 := Tryz.zeroValue126
  t46 := Tryz.underlying133
  a46 := Tryz.isAgg133
  z46 := Tryz.sizeOf133
  v46 := Tryz.zeroValue133
  t51 := Tryz.underlying193
  a51 := Tryz.isAgg193
  z51 := Tryz.sizeOf193
  v51 := Tryz.zeroValue193
  t53 := Tryz.underlying189
  a53 := Tryz.isAgg189
  z53 := Tryz.sizeOf189
  v53 := Tryz.zeroValue189
  t171 := Tryz.underlying263
  a171 := Tryz.isAgg263
  z171 := Tryz.sizeOf263
  v171 := Tryz.zeroValue263
  t173 := Tryz.underlying266
  a173 := Tryz.isAgg266
  z173 := Tryz.sizeOf266
  v173 := Tryz.zeroValue266
  t212 := Tryz.underlying280
  a212 := Tryz.isAgg280
  z212 := Tryz.sizeOf280
  v212 := Tryz.zeroValue280
  t213 := Tryz.underlying281
  a213 := Tryz.isAgg281
  z213 := Tryz.sizeOf281
  t232 := Tryz.underlying292
  a232 := Tryz.isAgg292
  z232 := Tryz.sizeOf292
  v232 := Tryz.zeroValue292
  t233 := Tryz.underlying293
  a233 := Tryz.isAgg293
  z233 := Tryz.sizeOf293
  v233 := Tryz.zeroValue293
  g17 := by kernel_rfl
  g18 := by kernel_rfl
  g19 := by kernel_rfl
  i0 := by kernel_rfl
  i2 := by kernel_rfl
  i3 := by kernel_rfl
  i4 := by kernel_rfl
  i5 := by kernel_rfl
  i9 := by kernel_rfl
  i20 := by kernel_rfl
  i37 := by kernel_rfl
  i46 := by kernel_rfl
  i51 := by kernel_rfl
  i53 := by kernel_rfl
  i171 := by kernel_rfl
  i173 := by kernel_rfl
  i212 := by kernel_rfl
  i232 := by kernel_rfl
  i233 := by kernel_rfl
  m17 := by kernel_rfl
  m18 := by kernel_rfl
  m19 := by kernel_rfl }
open Go.RowKit Go.Sort Go.Lib in
theorem Tryz.strconv_Itoa (n : Int) (h0 : -9223372036854775808 ≤ n) (h1 : n ≤ 9223372036854775807) (w : World) (htab : Lib.TabIs Tryz.prog w "internal/strconv.uint64pow10" .u64 Lib.pow10Tab) :
    Calls Tryz.prog 177 #[.int .i64 n] w fun e w' => e = .returned (.string ⟨(Lib.itoa n).toArray⟩) ∧ ∃ k os, w' = grow (w.drewN k) os := Any.strconv_Itoa Tryz.laysM171 n h0 h1 w htab
def Tryz.lays144_ren : Go.Shelf.Ren := ⟨fun | 144 => 228 | 143 => 273 | 219 => 303 | 217 => 317 | 225 => 322 | 224 => 323 | 267 => 324 | 266 => 335 | 314 => 340 | n => n, fun | 9 => 9 | 4 => 4 | 3 => 3 | 5 => 5 | 46 => 133 | 146 => 247 | 51 => 193 | n => n, fun | 1 => 2 | n => n⟩
theorem Tryz.lays144 : Go.Proofs.Lays.n144 Tryz.prog Tryz.lays144_ren := {
  mixed := by kernel_rfl
  f143 := Tryz.func273.trans (congrArg some (by kernel_rfl))
  f144 := Tryz.func228.trans (congrArg some (by kernel_rfl))
  f217 := Tryz.func317.trans (congrArg some (by kernel_rfl))
  f219 := Tryz.func303.trans (congrArg some (by kernel_rfl))
  f224 := Tryz.func323.trans (congrArg some (by kernel_rfl))
  f225 := Tryz.func322.trans (congrArg some (by kernel_rfl))
  f266 := Tryz.func335.trans (congrArg some (by kernel_rfl))
  f267 := Tryz.func324.trans (congrArg some (by kernel_rfl))
  f314 := Tryz.func340.trans (congrArg some (by kernel_rfl))
  t3 := Tryz.underlying3
  a3 := Tryz.isAgg3
  z3 := Tryz.sizeOf3
  v3 := Tryz.zeroValue3
  t4 := Tryz.underlying4
  a4 := Tryz.isAgg4
  z4 := Tryz.sizeOf4
  v4 := Tryz.zeroValue4
  t5 := Tryz.underlying5
  a5 := Tryz.isAgg5
  z5 := Tryz.sizeOf5
  v5 := Tryz.zeroValue5
  t9 := Tryz.underlying9
  a9 := Tryz.isAgg9
  z9 := Tryz.sizeOf9
  v9 := Tryz.zeroValue9
  t46 := Tryz.underlying133
  a46 := Tryz.isAgg133
  z46 := Tryz.sizeOf133
  v46 := Tryz.zeroValue133
  t51 := Tryz.underlying193
  a51 := Tryz.isAgg193
  z51 := Tryz.sizeOf193
  v51 := Tryz.zeroValue193
  t146 := Tryz.underlying247
  a146 := Tryz.isAgg247
  z146 := Tryz.sizeOf247
  v146 := Tryz.zeroValue247
  g1 := by kernel_rfl }
open Go.RowKit Go.Lib in
theorem Tryz.strings_Contains (s sub : ByteArray) (m : Int) (w : World) (hs : s.size < 4294967281) (hm : w.cell? ⟨2, 0, none⟩ = some (.int .i64 m)) :
    Calls Tryz.prog 228 #[.string s, .string sub] w fun e w' => e = .returned (.bool (Lib.contains s.data.toList sub.data.toList)) ∧ w' = w := Any.strings_Contains Tryz.lays144 s sub m w hs hm
def Tryz.lays100_ren : Go.Shelf.Ren := ⟨fun | 100 => 229 | 207 => 274 | n => n, fun | 9 => 9 | 4 => 4 | 3 => 3 | n => n, fun | n => n⟩
theorem Tryz.lays100 : Go.Proofs.Lays.n100 Tryz.prog Tryz.lays100_ren := {
  mixed := by kernel_rfl
  f100 := Tryz.func229.trans (congrArg some (by kernel_rfl))
  f207 := Tryz.func274.trans (congrArg some (by kernel_rfl))
  t3 := Tryz.underlying3
  a3 := Tryz.isAgg3
  z3 := Tryz.sizeOf3
  v3 := Tryz.zeroValue3
  t4 := Tryz.underlying4
  a4 := Tryz.isAgg4
  z4 := Tryz.sizeOf4
  v4 := Tryz.zeroValue4
  t9 := Tryz.underlying9
  a9 := Tryz.isAgg9
  z9 := Tryz.sizeOf9
  v9 := Tryz.zeroValue9 }
open Go.RowKit Go.Lib in
theorem Tryz.strings_HasSuffix (s p : ByteArray) (w : World) (hs : s.size ≤ 9223372036854775807) :
    Calls Tryz.prog 229 #[.string s, .string p] w fun e w' => e = .returned (.bool (Lib.hasSuffix s.data.toList p.data.toList)) ∧ w' = w := Any.strings_HasSuffix Tryz.lays100 s p w hs
def Tryz.lays155_ren : Go.Shelf.Ren := ⟨fun | 155 => 280 | 154 => 304 | 138 => 325 | 165 => 245 | 143 => 273 | 166 => 246 | 197 => 326 | 169 => 116 | 195 => 341 | 218 => 342 | 240 => 193 | 241 => 282 | 219 => 303 | 260 => 343 | 276 => 257 | 277 => 309 | 217 => 317 | 225 => 322 | 224 => 323 | 267 => 324 | 266 => 335 | 314 => 340 | n => n, fun | 9 => 9 | 3 => 3 | 4 => 4 | 72 => 129 | 0 => 0 | 76 => 228 | 105 => 277 | 21 => 21 | 5 => 5 | 70 => 127 | 20 => 20 | 37 => 126 | 75 => 131 | 127 => 198 | 164 => 237 | 46 => 133 | 119 => 288 | 139 => 291 | 138 => 290 | 146 => 247 | 51 => 193 | 80 => 134 | n => n, fun | 1 => 2 | 3 => 4 | 4 => 5 | n => n⟩
theorem Tryz.lays155 : Go.Proofs.Lays.n155 Tryz.prog Tryz.lays155_ren := {
  mixed := by kernel_rfl
  f138 := Tryz.func325.trans (congrArg some (by kernel_rfl))
  f143 := Tryz.func273.trans (congrArg some (by kernel_rfl))
  f154 := Tryz.func304.trans (congrArg some (by kernel_rfl))
  f155 := Tryz.func280.trans (congrArg some (by kernel_rfl))
  f165 := Tryz.func245.trans (congrArg some (by kernel_rfl))
  f166 := Tryz.func246.trans (congrArg some (by kernel_rfl))
  f169 := Tryz.func116.trans (congrArg some (by kernel_rfl))
  f195 := Tryz.func341.trans (congrArg some (by kernel_rfl))
  f197 := Tryz.func326.trans (congrArg some (by kernel_rfl))
  f217 := Tryz.func317.trans (congrArg some (by kernel_rfl))
  f218 := Tryz.func342.trans (congrArg some (by kernel_rfl))
  f219 := Tryz.func303.trans (congrArg some (by kernel_rfl))
  f224 := Tryz.func323.trans (congrArg some (by kernel_rfl))
  f225 := Tryz.func322.trans (congrArg some (by kernel_rfl))
  f240 := Tryz.func193.trans (congrArg some (by kernel_rfl))
  f241 := Tryz.func282.trans (congrArg some (by kernel_rfl))
  f260 := Tryz.func343.trans (congrArg some (by kernel_rfl))
  f266 := Tryz.func335.trans (congrArg some (by kernel_rfl))
  f267 := Tryz.func324.trans (congrArg some (by kernel_rfl))
  f276 := Tryz.func257.trans (congrArg some (by kernel_rfl))
  f277 := Tryz.func309.trans (congrArg some (by kernel_rfl))
  f314 := Tryz.func340.trans (congrArg some (by kernel_rfl))
  t0 := Tryz.underlying0
  a0 := Tryz.isAgg0
  z0 := Tryz.sizeOf0
  v0 := Tryz.zeroValue0
  t3 := Tryz.underlying3
  a3 := Tryz.isAgg3
  z3 := Tryz.sizeOf3
  v3 := Tryz.zeroValue3
  t4 := Tryz.underlying4
  a4 := Tryz.isAgg4
  z4 := Tryz.sizeOf4
  v4 := Tryz.zeroValue4
  t5 := Tryz.underlying5
  a5 := Tryz.isAgg5
  z5 := Tryz.sizeOf5
  v5 := Tryz.zeroValue5
  t9 := Tryz.underlying9
  a9 := Tryz.isAgg9
  z9 := Tryz.sizeOf9
  v9 := Tryz.zeroValue9
  t20 := Tryz.underlying20
  a20 := Tryz.isAgg20
  z20 := Tryz.sizeOf20
  v20 := Tryz.zeroValue20
  t21 := Tryz.underlying21
  a21 := Tryz.isAgg21
  z21 := Tryz.sizeOf21
  v21 := Tryz.zeroValue21
  t37 := Tryz.underlying126
  a37 := Tryz.isAgg126
  z37 := Tryz.sizeOf126
  v37 := Tryz.zeroValue126
  t46 := Tryz.underlying133
  a46 := Tryz.isAgg133
  z46 := Tryz.sizeOf133
  v46 := Tryz.zeroValue133
  t51 := Tryz.underlying193
  a51 := Tryz.isAgg193
  z51 := Tryz.sizeOf193
  v51 := Tryz.zeroValue193
  t70 := Tryz.underlying127
  a70 := Tryz.isAgg127
  z70 := Tryz.sizeOf127
  v70 := Tryz.zeroValue127
  t72 := Tryz.underlying129
  a72 := Tryz.isAgg129
  z72 := Tryz.sizeOf129
  v72 := Tryz.zeroValue129
  t75 := Tryz.underlying131
  a75 := Tryz.isAgg131
  z75 := Tryz.sizeOf131
  v75 := Tryz.zeroValue131
  t76 := Tryz.underlying228
  a76 := Tryz.isAgg228
  z76 := Tryz.sizeOf228
  v76 := Tryz.zeroValue228
  t105 := Tryz.underlying277
  a105 := Tryz.isAgg277
  z105 := Tryz.sizeOf277
  v105 := Tryz.zeroValue277
  t119 := Tryz.underlying288
  a119 := Tryz.isAgg288
  z119 := Tryz.sizeOf288
  t127 := Tryz.underlying198
  a127 := Tryz.isAgg198
  z127 := Tryz.sizeOf198
  v127 := Tryz.zeroValue198
  t138 := Tryz.underlying290
  a138 := Tryz.isAgg290
  z138 := Tryz.sizeOf290
  v138 := Tryz.zeroValue290
  t139 := Tryz.underlying291
  a139 := Tryz.isAgg291
  z139 := Tryz.sizeOf291
  v139 := Tryz.zeroValue291
  t146 := Tryz.underlying247
  a146 := Tryz.isAgg247
  z146 := Tryz.sizeOf247
  v146 := Tryz.zeroValue247
  t164 := Tryz.underlying237
  a164 := Tryz.isAgg237
  z164 := Tryz.sizeOf237
  v164 := Tryz.zeroValue237
  g1 := by kernel_rfl
  g3 := by kernel_rfl
  g4 := by kernel_rfl }
theorem Tryz.Builder_Extra_155 : Builder.Extra Tryz.prog Tryz.lays155_ren := {
  sizeBuilder := by kernel_rfl
  liesBuilder := by kernel_rfl
  t5 := Tryz.underlying5
  a5 := Tryz.isAgg5
  z5 := Tryz.sizeOf5
  v5 := Tryz.zeroValue5
  infoByte := by kernel_rfl
  cellsByte := by kernel_rfl
  sizeByte := by kernel_rfl
  neB5 := by decide }
open Go.RowKit Go.Lib in
theorem Tryz.strings_ReplaceAll (s old new : ByteArray) (m : Int) (w : World) (hs : s.size < 4294967281) (hm : w.cell? ⟨2, 0, none⟩ = some (.int .i64 m)) (h1 : 1 ≤ old.size) (hlen : s.size + Lib.countB s old * new.size ≤ 140737488355328) :
    Calls Tryz.prog 280 #[.string s, .string old, .string new] w fun e w' =>
      e = .returned (.string ⟨(Lib.replaceAll s.data.toList old.data.toList new.data.toList).toArray⟩) ∧ Below w.heap.size w w' := Any.strings_ReplaceAll Tryz.lays155 Tryz.Builder_Extra_155 s old new m w hs hm h1 hlen
def Tryz.lays105_ren : Go.Shelf.Ren := ⟨fun | 105 => 190 | 212 => 252 | 99 => 253 | 165 => 245 | 166 => 246 | 170 => 254 | 169 => 116 | 263 => 283 | 264 => 284 | 206 => 285 | 240 => 193 | 241 => 282 | 276 => 257 | 277 => 309 | n => n, fun | 9 => 9 | 3 => 3 | 4 => 4 | 20 => 20 | 0 => 0 | 46 => 133 | 109 => 232 | 5 => 5 | 72 => 129 | 76 => 228 | 51 => 193 | 146 => 247 | 53 => 189 | 148 => 249 | 70 => 127 | 37 => 126 | 75 => 131 | 127 => 198 | 164 => 237 | 80 => 134 | n => n, fun | n => n⟩
theorem Tryz.lays105 : Go.Proofs.Lays.n105 Tryz.prog Tryz.lays105_ren := {
  mixed := by kernel_rfl
  f99 := Tryz.func253.trans (congrArg some (by kernel_rfl))
  f105 := Tryz.func190.trans (congrArg some (by kernel_rfl))
  f165 := Tryz.func245.trans (congrArg some (by kernel_rfl))
  f166 := Tryz.func246.trans (congrArg some (by kernel_rfl))
  f169 := Tryz.func116.trans (congrArg some (by kernel_rfl))
  f170 := Tryz.func254.trans (congrArg some (by kernel_rfl))
  f206 := Tryz.func285.trans (congrArg some (by kernel_rfl))
  f212 := Tryz.func252.trans (congrArg some (by kernel_rfl))
  f240 := Tryz.func193.trans (congrArg some (by kernel_rfl))
  f241 := Tryz.func282.trans (congrArg some (by kernel_rfl))
  f263 := Tryz.func283.trans (congrArg some (by kernel_rfl))
  f264 := Tryz.func284.trans (congrArg some (by kernel_rfl))
  f276 := Tryz.func257.trans (congrArg some (by kernel_rfl))
  f277 := Tryz.func309.trans (congrArg some (by kernel_rfl))
  t0 := Tryz.underlying0
  a0 := Tryz.isAgg0
  z0 := Tryz.sizeOf0
  v0 := Tryz.zeroValue0
  t3 := Tryz.underlying3
  a3 := Tryz.isAgg3
  z3 := Tryz.sizeOf3
  v3 := Tryz.zeroValue3
  t4 := Tryz.underlying4
  a4 := Tryz.isAgg4
  z4 := Tryz.sizeOf4
  v4 := Tryz.zeroValue4
  t5 := Tryz.underlying5
  a5 := Tryz.isAgg5
  z5 := Tryz.sizeOf5
  v5 := Tryz.zeroValue5
  t9 := Tryz.underlying9
  a9 := Tryz.isAgg9
  z9 := Tryz.sizeOf9
  v9 := Tryz.zeroValue9
  t20 := Tryz.underlying20
  a20 := Tryz.isAgg20
  z20 := Tryz.sizeOf20
  v20 := Tryz.zeroValue20
  t37 := Tryz.underlying126
  a37 := Tryz.isAgg126
  z37 := Tryz.sizeOf126
  v37 := Tryz.zeroValue126
  t46 := Tryz.underlying133
  a46 := Tryz.isAgg133
  z46 := Tryz.sizeOf133
  v46 := Tryz.zeroValue133
  t51 := Tryz.underlying193
  a51 := Tryz.isAgg193
  z51 := Tryz.sizeOf193
  v51 := Tryz.zeroValue193
  t53 := Tryz.underlying189
  a53 := Tryz.isAgg189
  z53 := Tryz.sizeOf189
  v53 := Tryz.zeroValue189
  t70 := Tryz.underlying127
  a70 := Tryz.isAgg127
  z70 := Tryz.sizeOf127
  v70 := Tryz.zeroValue127
  t72 := Tryz.underlying129
  a72 := Tryz.isAgg129
  z72 := Tryz.sizeOf129
  v72 := Tryz.zeroValue129
  t75 := Tryz.underlying131
  a75 := Tryz.isAgg131
  z75 := Tryz.sizeOf131
  v75 := Tryz.zeroValue131
  t76 := Tryz.underlying228
  a76 := Tryz.isAgg228
  z76 := Tryz.sizeOf228
  v76 := Tryz.zeroValue228
  t109 := Tryz.underlying232
  a109 := Tryz.isAgg232
  z109 := Tryz.sizeOf232
  v109 := Tryz.zeroValue232
  t127 := Tryz.underlying198
  a127 := Tryz.isAgg198
  z127 := Tryz.sizeOf198
  v127 := Tryz.zeroValue198
  t146 := Tryz.underlying247
  a146 := Tryz.isAgg247
  z146 := Tryz.sizeOf247
  v146 := Tryz.zeroValue247
  t148 := Tryz.underlying249
  a148 := Tryz.isAgg249
  z148 := Tryz.sizeOf249
  v148 := Tryz.zeroValue249
  t164 := Tryz.underlying237
  a164 := Tryz.isAgg237
  z164 := Tryz.sizeOf237
  v164 := Tryz.zeroValue237 }
theorem Tryz.Builder_Extra_105 : Builder.Extra Tryz.prog Tryz.lays105_ren := {
  sizeBuilder := by kernel_rfl
  liesBuilder := by kernel_rfl
  t5 := Tryz.underlying5
  a5 := Tryz.isAgg5
  z5 := Tryz.sizeOf5
  v5 := Tryz.zeroValue5
  infoByte := by kernel_rfl
  cellsByte := by kernel_rfl
  sizeByte := by kernel_rfl
  neB5 := by decide }
open Go.RowKit Go.Lib in
theorem Tryz.strings_Repeat (s : ByteArray) (c : Nat) (w : World) (hc : c ≤ 9223372036854775807) (hlen : s.size * c ≤ 140737488355328) :
    Calls Tryz.prog 190 #[.string s, .int .i64 c] w fun e w' => e = .returned (.string ⟨(Lib.repeatL s.data.toList c).toArray⟩) ∧ Below w.heap.size w w' := Any.strings_Repeat Tryz.lays105 Tryz.Builder_Extra_105 s c w hc hlen
end Go.Proofs
namespace Go.PL
set_option linter.unusedSimpArgs false
set_option linter.unusedVariables false
set_option linter.unusedSectionVars false
open Tys (Ty U)
open Enc (sz enc dflt tb ofB toB)
open Dec (dec dok)
set_option maxRecDepth 100000
open Go.Proofs Go.RowKit
variable [GM]
theorem Awh {Z : Nat → Nat → Prop} {w w' : World} (h : Below w.heap.size w w') (hz : ZLt Z w) : ZLt Z w' ∧ Adv Aa7 emp Z w Aa7 emp Z w' := by
 have hold : ∀ b, b < w.heap.size → w'.heap[b]? = w.heap[b]? := h.block
 refine ⟨fun b o hb => Nat.lt_of_lt_of_le (hz b o hb) h.size, fun _ _ _ h => h, fun _ _ h => h, fun b o hb => ?_, fun b s hb => ?_, h.size, fun b hb _ => hold b hb, fun _ _ h => .inl h, fun k g c b h => by simp [emp] at h, h.os, h.output⟩
 ·simp only [World.cell?, hold b (hz b o hb)]
 ·have hb' : b < w.heap.size := by
   rcases Nat.lt_or_ge b w.heap.size with h1 | h1
   ·exact h1
   ·simp [World.shape?, Array.getElem?_eq_none h1] at hb
  simp only [World.shape?, hold b hb'] at hb ⊢; exact hb
theorem Ara {f : Nat} {vs : List Value} {v : Value} (hc : ∀ (args : Array Value) (w : World), (callFunc f args).run Tryz.prog w = .ok (.enter f args) w)
  (h : ∀ (w : World) (Z : Nat → Nat → Prop), GI cx Aa7 w Z → Calls Tryz.prog f vs.toArray w fun e w' => e = .returned v ∧ Below w.heap.size w w') : PFun cx f (vs.map fun x => .d (.v x)) (.d (.v v)) := by
 refine ⟨fun w Z vals hv hg hz => .inl ⟨hc _ _, ?_⟩⟩
 have e : vals = vs := by
  apply List.ext_getElem?
  intro i
  have hl : vals.length = vs.length := by simpa using hv.1
  rcases Nat.lt_or_ge i vals.length with hi | hi
  ·have hi' : i < vs.length := by omega
   have := hv.2 i vals[i] (.d (.v vs[i])) (List.getElem?_eq_getElem hi) (by rw [List.getElem?_map, List.getElem?_eq_getElem hi']; rfl)
   rw [List.getElem?_eq_getElem hi, List.getElem?_eq_getElem hi', this.val]
  ·rw [List.getElem?_eq_none hi, List.getElem?_eq_none (by omega)]
 subst e
 refine (h w Z hg).mono fun e w' h => ?_
 obtain ⟨rfl, ho⟩ := h
 obtain ⟨h1, h2⟩ := Awh ho hz
 exact ⟨v, Z, rfl, RP.ofVal .., h1, h2⟩
theorem A0r {B : Nat} {w : World} : Below B w w.drew := ⟨rfl, rfl, rfl, Nat.le_refl _, fun _ _ => rfl⟩
noncomputable def strings_Compare (A : Ar) (x0 x1 : ByteArray) : Option Int := some (Lib.compareBytes x0.data.toList x1.data.toList)
theorem Afr {A : Ar} (hA : A = std) {x0 x1 : ByteArray} {r : Int} (h : strings_Compare A x0 x1 = some r) : PFun cx 215 [st x0, st x1] (it .i64 r) := by
 cases h
 exact Ara (vs := [.string x0, .string x1]) Tryz.call215 fun w Z _ => (Tryz.strings_Compare x0 x1 w).mono fun e w' ⟨h1, h2⟩ => ⟨h1, by rw [h2]; exact .refl _ _⟩
noncomputable def strings_IndexByte (A : Ar) (x0 : ByteArray) (x1 : Int) : Option Int := some (Lib.indexByte x0.data.toList x1.toNat.toUInt8)
theorem Am0 {A : Ar} (hA : A = std) {x0 : ByteArray} {x1 : Int} {r : Int} (h : strings_IndexByte A x0 x1 = some r) : PFun cx 292 [st x0, it .u8 x1] (it .i64 r) := by
 cases h
 exact Ara (vs := [.string x0, .int .u8 x1]) Tryz.call292 fun w Z _ => (Tryz.strings_IndexByte x0 x1 w).mono fun e w' ⟨h1, h2⟩ => ⟨h1, by rw [h2]; exact .refl _ _⟩
noncomputable def Amd (A : Ar) (x0 x1 : ByteArray) : Option ByteArray := match x1.data.toList with
 | [c] => ck (c.toNat < 128 ∧ x0.size ≤ 9223372036854775807) <| some ⟨(Lib.trimB x0.data.toList c).toArray⟩
 | _ => none
theorem Arb {A : Ar} (hA : A = std) {x0 x1 : ByteArray} {r : ByteArray} (h : Amd A x0 x1 = some r) : PFun cx 291 [st x0, st x1] (st r) := by
 unfold Amd at h
 split at h
 ·rename_i c hc
  obtain ⟨⟨h1, h2⟩, h⟩ := ck_e h
  cases h
  obtain rfl : x1 = ⟨#[c]⟩ := by
   cases x1 with
   | mk d => simp only at hc; congr 1; apply Array.ext'; simpa using hc
  exact Ara (vs := [.string x0, .string ⟨#[c]⟩]) Tryz.call291 fun w Z _ => (Tryz.strings_Trim_one x0 c h1 w h2).mono fun e w' ⟨h1, h2⟩ => ⟨h1, by rcases h2 with rfl | rfl; exact .refl _ _; exact A0r⟩
 ·cases h
noncomputable def strings_Join (A : Ar) (x0 : List ByteArray) (x1 : ByteArray) : Option ByteArray :=
 ck (x0.length ≤ 140737488355328 ∧ (Lib.join (x0.map (·.data.toList)) x1.data.toList).length ≤ 140737488355328) <| some ⟨(Lib.join (x0.map (·.data.toList)) x1.data.toList).toArray⟩
theorem Arc {A : Ar} (hA : A = std) {x0 : List ByteArray} {x1 : ByteArray} {r : ByteArray} (h : strings_Join A x0 x1 = some r) : PFun cx 178 [.d (.sl TyS.str x0), st x1] (st r) := by
 obtain ⟨⟨h1, h2⟩, h⟩ := ck_e h
 cases h
 refine ⟨fun w Z vals hv hg hz => .inl ⟨Tryz.call178 _ _, ?_⟩⟩
 obtain ⟨x, y, rfl⟩ : ∃ x y, vals = [x, y] := by
  have := hv.1
  match vals, this with
  | [x, y], _ => exact ⟨x, y, rfl⟩
 have hx := hv.2 0 x (.d (.sl TyS.str x0)) rfl rfl
 have hy := (hv.2 1 y (st x1) rfl rfl).val
 subst hy
 have fin : ∀ e w', e = Ending.returned (.string ⟨(Lib.join (x0.map (·.data.toList)) x1.data.toList).toArray⟩) → Below w.heap.size w w' → ∃ v Z', e = .returned v ∧ RP Aa7 w' Z' v (st ⟨(Lib.join (x0.map (·.data.toList)) x1.data.toList).toArray⟩) ∧ ZLt Z' w' ∧ Adv Aa7 emp Z w Aa7 emp Z' w' := by
  intro e w' he hb
  obtain ⟨h1, h2⟩ := Awh hb hz
  exact ⟨_, Z, he, RP.ofVal .., h1, h2⟩
 cases hx with
 | d _ _ hx =>
  cases hx with
  | nil t a cap =>
   refine (Tryz.strings_Join_none a cap x1 w).mono fun e w' h => ?_
   obtain ⟨rfl, rfl⟩ := h
   exact fin _ _ rfl (.refl _ _)
  | sl t xs b off cap vs hl hc hr =>
   have hcell : ∀ (j : Nat) (x : ByteArray), x0[j]? = some x → w.cell? ⟨b, off + j, none⟩ = some (.string x) ∧ Z b (off + j) := by
    intro j x hx
    have hj : j < x0.length := by
     rcases Nat.lt_or_ge j x0.length with h | h
     ·exact h
     ·rw [List.getElem?_eq_none h] at hx; cases hx
    have h3 := hc j 0 hj (by decide)
    have h4 := hr j 0 x (.v (.string x)) hx rfl
    have e : off + (j * sz TyS.str + 0) = off + j := by show off + (j * 1 + 0) = _; omega
    rw [e] at h3
    generalize vs j 0 = y at h3 h4
    cases h4
    exact h3
   rcases Nat.eq_zero_or_pos x0.length with h0 | h0
   ·obtain rfl : x0 = [] := List.length_eq_zero_iff.1 h0
    refine (Tryz.strings_Join_none _ cap x1 w).mono fun e w' h => ?_
    obtain ⟨rfl, rfl⟩ := h
    exact fin _ _ rfl (.refl _ _)
   ·have hb : b < w.heap.size := hz _ _ (hcell 0 x0[0] (List.getElem?_eq_getElem h0)).2
    refine (Tryz.strings_Join b off cap x0 x1 w (fun j x h => (hcell j x h).1) hb h1 hl h2).mono fun e w' h => ?_
    exact fin _ _ h.1 h.2
noncomputable def Ame (A : Ar) (x0 : List UInt8) : Option (List UInt8) := some x0
theorem Ard {A : Ar} (hA : A = std) {x0 : List UInt8} {r : List UInt8} (h : Ame A x0 = some r) : PFunM cx 257 [.bx 1000 0 0] [⟨1000, 0, .box 129 [.d (.v (.pointer none)), .os 1001 0 TyS.byte x0]⟩, ⟨1001, 0, .tok 5 TyS.byte (A.nlen TyS.byte x0)⟩] (.bx 1000 0 0) [⟨1000, 0, .box 129 [.d (.v (.pointer none)), .os 1001 0 TyS.byte r]⟩, ⟨1001, 0, .tok 5 TyS.byte (A.nlen TyS.byte r)⟩] := by
 cases h
 refine ⟨fun μ w Z vals hv hw hg hμ => .inr ?_⟩
 obtain ⟨x, rfl⟩ : ∃ x, vals = [x] := by
  have := hv.1
  match vals, this with
  | [x], _ => exact ⟨x, rfl⟩
 have hx := hv.2 0 x (.bx 1000 0 0) rfl rfl
 refine ⟨x, w, ?_, x, μ, Z, rfl, hx, hw, .refl⟩
 show (callFunc 257 #[x]).run Tryz.prog w = _
 rw [run_callFunc_extern Tryz.func257 (by kernel_rfl) (by kernel_rfl) (by kernel_rfl) (e := Extern.AbiNoEscape.same) (by kernel_rfl)]
 rfl
theorem Ayn (w : World) (g n : Nat) (cs : Array Value) (T : TypeId) (h : w.heap[g]? = some (.cells cs T (0, 0))) : ∃ fr, (w.freeze ⟨g, 0, none⟩ n).heap[g]? = some (.cells cs T fr) := by
 unfold World.freeze
 split
 ·exact ⟨_, h⟩
 ·have hg : g < w.heap.size := by
   rcases Nat.lt_or_ge g w.heap.size with h1 | h1
   ·exact h1
   ·rw [Array.getElem?_eq_none h1] at h; cases h
  have e : ∀ f : Obj → Obj, (w.heap.modify g f)[g]? = (w.heap[g]?).map f := fun f => by simp [Array.getElem?_modify]
  show ∃ fr, (w.heap.modify g _)[g]? = _
  rw [e, h]
  exact ⟨_, rfl⟩
theorem Awi (w : World) (g n k : Nat) (h : k ≠ g) : (w.freeze ⟨g, 0, none⟩ n).heap[k]? = w.heap[k]? := by
 unfold World.freeze
 split
 ·rfl
 ·simp only [Array.getElem?_modify]
  rw [if_neg (fun e => h e.symm)]
theorem Ayo (w : World) (g n : Nat) : (w.freeze ⟨g, 0, none⟩ n).heap.size = w.heap.size := by
 unfold World.freeze
 split
 ·rfl
 ·simp
theorem Awj (w : World) (g n : Nat) : (w.freeze ⟨g, 0, none⟩ n).os = w.os ∧ (w.freeze ⟨g, 0, none⟩ n).output = w.output := by
 unfold World.freeze
 split <;> exact ⟨rfl, rfl⟩
theorem Aud {μ : Nmap} {m : Mem} {Z : Nat → Nat → Prop} {w w' : World} (hw : WR μ m Z w) (g : Nat) (hs : w.heap.size ≤ w'.heap.size) (hos : w'.os = w.os) (hout : w'.output = w.output)
  (ho : ∀ k, k < w.heap.size → k ≠ g → w'.heap[k]? = w.heap[k]?) (hg : (∃ k0 g0 c, m k0 g0 = some c ∧ μ k0 g0 = some (some g)) ∧ (∃ cs T fr, w.heap[g]? = some (.cells cs T (0, 0)) ∧ w'.heap[g]? = some (.cells cs T fr)) ∨ w.heap.size ≤ g) :
  WR μ (den []) Z w' ∧ Adv μ m Z w μ (den []) Z w' := by
 have hlt : ∀ b (o : Obj), w.heap[b]? = some o → b < w.heap.size := fun b o h => by
  rcases Nat.lt_or_ge b w.heap.size with h1 | h1
  ·exact h1
  ·rw [Array.getElem?_eq_none h1] at h; cases h
 have hcell : ∀ b o, b < w.heap.size → w'.cell? ⟨b, o, none⟩ = w.cell? ⟨b, o, none⟩ ∧ (∀ s, w.shape? b = some s → w'.shape? b = some s) := by
  intro b o hb
  by_cases e : b = g
  ·subst e
   rcases hg with ⟨_, cs, T, fr, h1, h2⟩ | h1
   ·exact ⟨by simp only [World.cell?, h1, h2], fun s h => by simp only [World.shape?, h1, h2] at h ⊢; exact h⟩
   ·omega
  ·exact ⟨by simp only [World.cell?, ho b hb e], fun s h => by simp only [World.shape?, ho b hb e] at h ⊢; exact h⟩
 refine ⟨⟨fun _ _ _ h => by simp [den] at h, fun _ _ _ _ _ _ _ h => by simp [den] at h, fun b o h => Nat.lt_of_lt_of_le (hw.zlt b o h) hs⟩, fun _ _ _ h => h, fun _ _ h => h, fun b o h => (hcell b o (hw.zlt b o h)).1, fun b s h => ?_, hs, fun b hb hn => ho b hb ?_, fun _ _ h => .inl h, fun _ _ _ _ h => by simp [den] at h, hos, hout⟩
 ·have hb : b < w.heap.size := by
   simp only [World.shape?] at h
   split at h
   ·rename_i h1; exact hlt _ _ h1
   ·cases h
  exact (hcell b 0 hb).2 s h
 ·rintro rfl
  rcases hg with ⟨⟨k0, g0, c, h1, h2⟩, _⟩ | h1
  ·exact hn k0 g0 c h1 h2
  ·omega
noncomputable def strings_Builder_String (A : Ar) (x0 : List UInt8) : Option ByteArray := ck (x0.length ≤ 9223372036854775807) <| some ⟨x0.toArray⟩
theorem Akj {A : Ar} (hA : A = std) {x0 : List UInt8} {r : ByteArray} (h : strings_Builder_String A x0 = some r) : PFunM cx 116 [.bx 1000 0 0] [⟨1000, 0, .box 129 [.np 1000 0, .os 1001 0 TyS.byte x0]⟩, ⟨1001, 0, .tok 5 TyS.byte (A.nlen TyS.byte x0)⟩] (st r) [] := by
 obtain ⟨hmax, h⟩ := ck_e h
 cases h
 refine ⟨fun μ w Z vals hv hw hgi hμ => .inl ⟨Tryz.call116 _ _, ?_⟩⟩
 obtain ⟨x, rfl⟩ : ∃ x, vals = [x] := by
  have := hv.1
  match vals, this with
  | [x], _ => exact ⟨x, rfl⟩
 have hx := hv.2 0 x (.bx 1000 0 0) rfl rfl
 cases hx with
 | bx _ _ _ b hb =>
 obtain ⟨b', cs, hb', hh, hr, hz⟩ := hw.ent 1000 0 (.box 129 [.np 1000 0, .os 1001 0 TyS.byte x0]) (by simp [den])
 rw [hb] at hb'; obtain rfl := Option.some.inj (Option.some.inj hb')
 have htok := hw.ent 1001 0 (.tok 5 TyS.byte (A.nlen TyS.byte x0)) (by simp [den])
 obtain ⟨c0, v, hcs⟩ : ∃ c0 v, cs.toList = [c0, v] := by
  have := hr.1
  match hl : cs.toList, this with
  | [c0, v], _ => exact ⟨c0, v, rfl⟩
 obtain rfl : cs = #[c0, v] := by apply Array.ext'; simpa using hcs
 have hvr := hr.2 1 v (.os 1001 0 TyS.byte x0) rfl rfl
 have hblt : b < w.heap.size := by
  rcases Nat.lt_or_ge b w.heap.size with h1 | h1
  ·exact h1
  ·rw [Array.getElem?_eq_none h1] at hh; cases hh
 have fin : ∀ (w2 : World), (WR μ (den []) Z w2 ∧ Adv μ (den [⟨1000, 0, .box 129 [.np 1000 0, .os 1001 0 TyS.byte x0]⟩, ⟨1001, 0, .tok 5 TyS.byte (A.nlen TyS.byte x0)⟩]) Z w μ (den []) Z w2) → ∀ e w', (e = Ending.returned (.string ⟨x0.toArray⟩) ∧ w' = w2) → ∃ v μ' Z', e = .returned v ∧ RP μ' w' Z' v (st ⟨x0.toArray⟩) ∧ WR μ' (den []) Z' w' ∧ Adv μ (den [⟨1000, 0, .box 129 [.np 1000 0, .os 1001 0 TyS.byte x0]⟩, ⟨1001, 0, .tok 5 TyS.byte (A.nlen TyS.byte x0)⟩]) Z w μ' (den []) Z' w' := by
  intro w2 ⟨h1, h2⟩ e w' ⟨h3, h4⟩
  subst h4
  exact ⟨_, μ, Z, h3, RP.ofVal .., h1, h2⟩
 have same : WR μ (den []) Z w.drew ∧ Adv μ (den [⟨1000, 0, .box 129 [.np 1000 0, .os 1001 0 TyS.byte x0]⟩, ⟨1001, 0, .tok 5 TyS.byte (A.nlen TyS.byte x0)⟩]) Z w μ (den []) Z w.drew := Aud hw w.heap.size (Nat.le_refl _) rfl rfl (fun _ _ _ => rfl) (.inr (Nat.le_refl _))
 have hnone := Any.unsafeString_none Tryz.lays169 Tryz.Builder_Extra_169
 cases hvr with
 | osN =>
  exact (Akb Tryz.lays169 b 0 0 none c0 (.pointer none) .empty w w.drew w.drew hh hh rfl (hnone _ _)).mono (fin _ same)
 | os _ _ _ _ g n cap m T hμg hrd hn hc hs hm =>
  subst hn
  rcases htok with ⟨h1, _⟩ | ⟨g', cur, h1, h2, h3⟩
  ·rw [hμg] at h1; cases h1
  rw [hμg] at h1; obtain rfl := Option.some.inj (Option.some.inj h1)
  have hshape : w.drew.shape? g = some (5, cur.size) := by
   have h2' : w.drew.heap[g]? = some (.cells cur 5 (0, 0)) := h2
   simp only [World.shape?, h2']
  by_cases h0 : x0 = []
  ·subst h0
   rcases Nat.eq_zero_or_pos cap with rfl | hcap
   ·refine (Akb Tryz.lays169 b 0 0 (some ⟨g, 0, none⟩) c0 (.pointer (some ⟨w.drew.heap.size, 0, none⟩)) .empty w (w.drew.alloc (.view ⟨g, 0, none⟩ 5)) (w.drew.alloc (.view ⟨g, 0, none⟩ 5)) hh ((Lib.alloc_old w.drew _ b hblt).trans hh) ?_ (hnone _ _)).mono (fin _ ?_)
    ·exact Lib.run_unsafeSliceData_zero w.drew _ _ 5 Tryz.lays169.t127 ⟨g, 0, none⟩ 0 (5, cur.size) hshape
    ·exact Aud hw w.heap.size (by show w.heap.size ≤ (w.heap.push _).size; rw [Array.size_push]; exact Nat.le_succ _) rfl rfl (fun k hk _ => Lib.alloc_old w.drew _ k hk) (.inr (Nat.le_refl _))
   ·exact (Akb Tryz.lays169 b 0 cap (some ⟨g, 0, none⟩) c0 (.pointer (some ⟨g, 0, none⟩)) .empty w w.drew w.drew hh hh (Lib.run_unsafeSliceData_row _ _ _ _ _ _ (by omega)) (hnone _ _)).mono (fin _ same)
  ·have hl : x0.length ≠ 0 := fun e => h0 (List.length_eq_zero_iff.1 e)
   have hsz : sz TyS.byte = 1 := rfl
   rw [hsz] at hm
   have hm2 : m = cur.size := by
    have : w.shape? g = some (5, cur.size) := hshape
    rw [this] at hs; cases hs; rfl
   refine (Akb Tryz.lays169 b x0.length cap (some ⟨g, 0, none⟩) c0 (.pointer (some ⟨g, 0, none⟩)) ⟨x0.toArray⟩ w w.drew (w.drew.freeze ⟨g, 0, none⟩ x0.length) hh hh (Lib.run_unsafeSliceData_row _ _ _ _ _ _ (by omega)) ?_).mono (fin _ ?_)
   ·refine Lib.run_unsafeString_row w.drew _ _ _ 5 Tryz.lays169.t127 Tryz.Builder_Extra_169.cellsByte g cur.size hshape x0 h0 (by omega) hmax ?_
    intro j y hy
    have hj : j < x0.length := by
     rcases Nat.lt_or_ge j x0.length with h | h
     ·exact h
     ·rw [List.getElem?_eq_none h] at hy; cases hy
    generalize hln : x0.length = len at hrd
    cases hrd with
    | nil => simp at hj
    | sl _ _ _ _ _ vs hl' hc' hr' =>
     have h4 := (hc' j 0 hj (by rw [hsz]; omega)).1
     have h5 := hr' j 0 y (.v (.int .u8 y.toNat)) hy rfl
     generalize vs j 0 = z at h4 h5
     cases h5
     have e : 0 + (j * sz TyS.byte + 0) = 0 + j := by rw [hsz]; omega
     rw [e] at h4
     have e2 : (⟨g, 0, none⟩ : Addr).add j = ⟨g, 0 + j, none⟩ := by
      unfold Addr.add
      split
      ·rename_i hj0; subst hj0; rfl
      ·rfl
     rw [e2]
     exact h4
   ·obtain ⟨fr, hfr⟩ := Ayn w.drew g x0.length cur 5 h2
    exact Aud hw g (Nat.le_of_eq (Ayo w.drew g x0.length).symm) (Awj w.drew g x0.length).1 (Awj w.drew g x0.length).2 (fun k _ hk => Awi w.drew g x0.length k hk) (.inl ⟨⟨1001, 0, .tok 5 TyS.byte (A.nlen TyS.byte x0), by simp [den], hμg⟩, cur, 5, fr, h2, hfr⟩)
theorem RP.ip_inv {μ : Nmap} {w : World} {Z : Nat → Nat → Prop} {y : Value} {ds : List D} (h : RP μ w Z y (.ip ds)) : ∃ (b off : Nat) (vs : Nat → Value), y = .pointer (some ⟨b, off, none⟩) ∧ ∀ (i : Nat) (d : D), ds[i]? = some d → w.cell? ⟨b, off + i, none⟩ = some (vs i) ∧ Z b (off + i) ∧ RD w Z (vs i) d := by
 cases h with
 | ip _ b off vs h => exact ⟨b, off, vs, rfl, h⟩
noncomputable def strconv_Itoa (A : Ar) (x0 : Int) : Option ByteArray := ck (-9223372036854775808 ≤ x0 ∧ x0 ≤ 9223372036854775807) <| some ⟨(Lib.itoa x0).toArray⟩
noncomputable def strings_ReplaceAll (A : Ar) (x0 x1 x2 : ByteArray) : Option ByteArray := ck (x0.size < 4294967281 ∧ 1 ≤ x1.size ∧ x0.size + Lib.countB x0 x1 * x2.size ≤ 140737488355328) <| some ⟨(Lib.replaceAll x0.data.toList x1.data.toList x2.data.toList).toArray⟩
theorem A2c {w : World} {Z : Nat → Nat → Prop} (hg : GI cx Aa7 w Z) : w.cell? ⟨2, 0, none⟩ = some (.int .i64 GM.m) := by
 obtain ⟨h, _⟩ := hg 2 [.v (.int .i64 GM.m)] rfl
 obtain ⟨b0, off0, vs, hbo, h⟩ := RP.ip_inv h
 cases hbo
 obtain ⟨h1, _, h2⟩ := h 0 _ rfl
 generalize vs 0 = u at h1 h2
 cases h2
 exact h1
noncomputable def strings_Contains (A : Ar) (x0 x1 : ByteArray) : Option Bool := ck (x0.size < 4294967281) <| some (Lib.contains x0.data.toList x1.data.toList)
theorem Anr {A : Ar} (hA : A = std) {x0 x1 : ByteArray} {r : Bool} (h : strings_Contains A x0 x1 = some r) : PFun cx 228 [st x0, st x1] (bl r) := by
 obtain ⟨h1, h⟩ := ck_e h
 cases h
 exact Ara (vs := [.string x0, .string x1]) Tryz.call228 fun w Z hg => (Tryz.strings_Contains x0 x1 GM.m w h1 (A2c hg)).mono fun e w' ⟨h1, h2⟩ => ⟨h1, by rw [h2]; exact .refl _ _⟩
noncomputable def strings_HasSuffix (A : Ar) (x0 x1 : ByteArray) : Option Bool := ck (x0.size ≤ 9223372036854775807) <| some (Lib.hasSuffix x0.data.toList x1.data.toList)
theorem Am1 {A : Ar} (hA : A = std) {x0 x1 : ByteArray} {r : Bool} (h : strings_HasSuffix A x0 x1 = some r) : PFun cx 229 [st x0, st x1] (bl r) := by
 obtain ⟨h1, h⟩ := ck_e h
 cases h
 exact Ara (vs := [.string x0, .string x1]) Tryz.call229 fun w Z _ => (Tryz.strings_HasSuffix x0 x1 w h1).mono fun e w' ⟨h1, h2⟩ => ⟨h1, by rw [h2]; exact .refl _ _⟩
noncomputable def strings_Repeat (A : Ar) (x0 : ByteArray) (x1 : Int) : Option ByteArray := ck (0 ≤ x1 ∧ x1 ≤ 9223372036854775807 ∧ x0.size * x1.toNat ≤ 140737488355328) <| some ⟨(Lib.repeatL x0.data.toList x1.toNat).toArray⟩
end Go.PL
namespace Go.PL
set_option linter.unusedSimpArgs false
set_option linter.unusedVariables false
set_option linter.unusedSectionVars false
open Tys (Ty U)
open Enc (sz enc dflt tb ofB toB)
open Dec (dec dok)
set_option maxRecDepth 100000
set_option maxHeartbeats 4000000
open Go.Proofs
variable [GM]
theorem A3x {A : Ar} (hA : A = std) (nf lf : Nat) (nm : Rule → ByteArray) (lk : Rule → Rule → Bool) (a0 b0 : List Rule) (hn : ∀ x, PFun cx nf [Aeb x] (st (nm x))) (hl : ∀ x ∈ a0, ∀ y ∈ b0, PFun cx lf [Aeb x, Aeb y] (bl (lk x y))) :
  SeqK cx 225 [.ip [.sl .rule a0, .sl .rule b0, .fun (.func nf) [] [], .fun (.func lf) [] []]] ((pairs2 nm lk a0 b0).map fun x => [st x.1, st x.2]) := by
 refine Axs (te := TyS.rule) hA cx_ok Tryz.func225 rfl rfl (by decide) rfl rfl Tryz.underlying9 Tryz.underlying4 ⟨by decide, by decide, by decide, by decide⟩ (step2 nm lk) (pairs2 nm lk) (pairs2_nil nm lk) (Ae5 nm lk) (An7 nm lk) (fun a b => (∀ x ∈ a, x ∈ a0) ∧ (∀ y ∈ b, y ∈ b0)) (fun a b _ h => Aq4 nm lk a0 b0 a b h) a0 b0 ⟨fun _ h => h, fun _ h => h⟩ ?_ ?_ ?_
 ·unfold cx
  cbv
  exact ⟨⟨by kernel_rfl⟩, ⟨by kernel_rfl⟩, True.intro⟩
 ·intro a b g _
  have lP := fun x a => As2 (A := A) hA (t := TyS.rule) x a
  have eP := fun x a => As4 (A := A) hA (t := TyS.rule) x a
  have iP := fun x a => z_inb (A := A) hA (t := TyS.rule) x a
  have gP := fun x a => z_get (A := A) hA (t := TyS.rule) x a
  have sP := fun x a => z_sub (A := A) hA (t := TyS.rule) x a
  have kP := fun x a => Ao1 (A := A) hA (t := TyS.rule) x a
  have l0 := As3 (A := A) hA (t := TyS.rule)
  have e0 := Ao0 (A := A) hA (t := TyS.rule)
  have hs : ∀ u v, A.3 .lss u v = std.scmp .lss u v := fun u v => by rw [hA]
  unfold cx
  generalize Tryz.prog = P
  cases a with
  | nil =>
   cases b with
   | nil =>
    iterate 2 ((try cbv); (try simp only [lP, l0, eP, e0, iP, gP, sP, kP, hs, z_nt hA, z_nf hA, z_of hA, z_at hA, z_ot hA, z_af hA]); (repeat (first | refine ⟨True.intro, ?_⟩ | refine ⟨⟨by kernel_rfl⟩, ?_⟩ | refine ⟨kP _ _, ?_⟩ | refine ⟨iP _ _, ?_⟩)))
    all_goals (try cbv) <;> (try (and_intros <;> (first | exact True.intro | rfl | (simp; done))))
   | cons y b =>
    iterate 2 ((try cbv); (try simp only [lP, l0, eP, e0, iP, gP, sP, kP, hs, z_nt hA, z_nf hA, z_of hA, z_at hA, z_ot hA, z_af hA]); (repeat (first | refine ⟨True.intro, ?_⟩ | refine ⟨⟨by kernel_rfl⟩, ?_⟩ | refine ⟨kP _ _, ?_⟩ | refine ⟨iP _ _, ?_⟩)))
    all_goals (try cbv) <;> (try (and_intros <;> (first | exact True.intro | rfl | (simp; done))))
  | cons x a =>
   iterate 2 ((try cbv); (try simp only [lP, l0, eP, e0, iP, gP, sP, kP, hs, z_nt hA, z_nf hA, z_of hA, z_at hA, z_ot hA, z_af hA]); (repeat (first | refine ⟨True.intro, ?_⟩ | refine ⟨⟨by kernel_rfl⟩, ?_⟩ | refine ⟨kP _ _, ?_⟩ | refine ⟨iP _ _, ?_⟩)))
   all_goals (try cbv) <;> (try (and_intros <;> (first | exact True.intro | rfl | (simp; done))))
 ·intro a b g hab hne
  have lP := fun x a => As2 (A := A) hA (t := TyS.rule) x a
  have eP := fun x a => As4 (A := A) hA (t := TyS.rule) x a
  have iP := fun x a => z_inb (A := A) hA (t := TyS.rule) x a
  have gP := fun x a => z_get (A := A) hA (t := TyS.rule) x a
  have sP := fun x a => z_sub (A := A) hA (t := TyS.rule) x a
  have kP := fun x a => Ao1 (A := A) hA (t := TyS.rule) x a
  have l0 := As3 (A := A) hA (t := TyS.rule)
  have e0 := Ao0 (A := A) hA (t := TyS.rule)
  have hs : ∀ u v, A.3 .lss u v = std.scmp .lss u v := fun u v => by rw [hA]
  unfold cx at hn hl ⊢
  generalize Tryz.prog = P at hn hl ⊢
  cases a with
  | nil =>
   cases b with
   | nil => exact absurd ⟨rfl, rfl⟩ hne
   | cons y b =>
    show code _ _ _ _ (fun ex s => ex = .normal ∧ get s.env 1 = _ ∧ get s.env 3 = .d (.sl TyS.rule []) ∧ get s.env 4 = .d (.sl TyS.rule b) ∧ get s.env 5 = st ⟨#[43]⟩ ∧ get s.env 6 = st (nm y) ∧ s.sto = []) _
    iterate 2 ((try cbv); (try simp only [lP, l0, eP, e0, iP, gP, sP, kP, hs, z_nt hA, z_nf hA, z_of hA, z_at hA, z_ot hA, z_af hA]); (repeat (first | refine ⟨True.intro, ?_⟩ | refine ⟨⟨by kernel_rfl⟩, ?_⟩ | refine ⟨kP _ _, ?_⟩ | refine ⟨iP _ _, ?_⟩)))
    refine CallK.mk (st ⟨#[]⟩) rfl (fun h => by cases h) ?_
    iterate 2 ((try cbv); (try simp only [lP, l0, eP, e0, iP, gP, sP, kP, hs, z_nt hA, z_nf hA, z_of hA, z_at hA, z_ot hA, z_af hA]); (repeat (first | refine ⟨True.intro, ?_⟩ | refine ⟨⟨by kernel_rfl⟩, ?_⟩ | refine ⟨kP _ _, ?_⟩ | refine ⟨iP _ _, ?_⟩)))
    refine CallK.mk (st ⟨#[]⟩) rfl (fun h => by cases h) ?_
    iterate 2 ((try cbv); (try simp only [lP, l0, eP, e0, iP, gP, sP, kP, hs, z_nt hA, z_nf hA, z_of hA, z_at hA, z_ot hA, z_af hA]); (repeat (first | refine ⟨True.intro, ?_⟩ | refine ⟨⟨by kernel_rfl⟩, ?_⟩ | refine ⟨kP _ _, ?_⟩ | refine ⟨iP _ _, ?_⟩)))
    refine CallK.mk (st ⟨#[]⟩) rfl (fun h => by cases h) ?_
    iterate 2 ((try cbv); (try simp only [lP, l0, eP, e0, iP, gP, sP, kP, hs, z_nt hA, z_nf hA, z_of hA, z_at hA, z_ot hA, z_af hA]); (repeat (first | refine ⟨True.intro, ?_⟩ | refine ⟨⟨by kernel_rfl⟩, ?_⟩ | refine ⟨kP _ _, ?_⟩ | refine ⟨iP _ _, ?_⟩)))
    refine CallK.mk (st ⟨#[]⟩) rfl (fun h => by cases h) ?_
    iterate 2 ((try cbv); (try simp only [lP, l0, eP, e0, iP, gP, sP, kP, hs, z_nt hA, z_nf hA, z_of hA, z_at hA, z_ot hA, z_af hA]); (repeat (first | refine ⟨True.intro, ?_⟩ | refine ⟨⟨by kernel_rfl⟩, ?_⟩ | refine ⟨kP _ _, ?_⟩ | refine ⟨iP _ _, ?_⟩)))
    refine CallK.mk (st (nm y)) rfl (fun _ => hn y) ?_
    iterate 2 ((try cbv); (try simp only [lP, l0, eP, e0, iP, gP, sP, kP, hs, z_nt hA, z_nf hA, z_of hA, z_at hA, z_ot hA, z_af hA]); (repeat (first | refine ⟨True.intro, ?_⟩ | refine ⟨⟨by kernel_rfl⟩, ?_⟩ | refine ⟨kP _ _, ?_⟩ | refine ⟨iP _ _, ?_⟩)))
    all_goals (try cbv) <;> (try (and_intros <;> (first | exact True.intro | rfl | (simp; done))))
  | cons x a =>
   cases b with
   | nil =>
    show code _ _ _ _ (fun ex s => ex = .normal ∧ get s.env 1 = _ ∧ get s.env 3 = .d (.sl TyS.rule a) ∧ get s.env 4 = .d (.sl TyS.rule []) ∧ get s.env 5 = st ⟨#[45]⟩ ∧ get s.env 6 = st (nm x) ∧ s.sto = []) _
    iterate 2 ((try cbv); (try simp only [lP, l0, eP, e0, iP, gP, sP, kP, hs, z_nt hA, z_nf hA, z_of hA, z_at hA, z_ot hA, z_af hA]); (repeat (first | refine ⟨True.intro, ?_⟩ | refine ⟨⟨by kernel_rfl⟩, ?_⟩ | refine ⟨kP _ _, ?_⟩ | refine ⟨iP _ _, ?_⟩)))
    refine CallK.mk (st ⟨#[]⟩) rfl (fun h => by cases h) ?_
    iterate 2 ((try cbv); (try simp only [lP, l0, eP, e0, iP, gP, sP, kP, hs, z_nt hA, z_nf hA, z_of hA, z_at hA, z_ot hA, z_af hA]); (repeat (first | refine ⟨True.intro, ?_⟩ | refine ⟨⟨by kernel_rfl⟩, ?_⟩ | refine ⟨kP _ _, ?_⟩ | refine ⟨iP _ _, ?_⟩)))
    refine CallK.mk (st ⟨#[]⟩) rfl (fun h => by cases h) ?_
    iterate 2 ((try cbv); (try simp only [lP, l0, eP, e0, iP, gP, sP, kP, hs, z_nt hA, z_nf hA, z_of hA, z_at hA, z_ot hA, z_af hA]); (repeat (first | refine ⟨True.intro, ?_⟩ | refine ⟨⟨by kernel_rfl⟩, ?_⟩ | refine ⟨kP _ _, ?_⟩ | refine ⟨iP _ _, ?_⟩)))
    refine CallK.mk (st (nm x)) rfl (fun _ => hn x) ?_
    iterate 2 ((try cbv); (try simp only [lP, l0, eP, e0, iP, gP, sP, kP, hs, z_nt hA, z_nf hA, z_of hA, z_at hA, z_ot hA, z_af hA]); (repeat (first | refine ⟨True.intro, ?_⟩ | refine ⟨⟨by kernel_rfl⟩, ?_⟩ | refine ⟨kP _ _, ?_⟩ | refine ⟨iP _ _, ?_⟩)))
    all_goals (try cbv) <;> (try (and_intros <;> (first | exact True.intro | rfl | (simp; done))))
   | cons y b =>
    obtain ⟨S, hS⟩ : ∃ S, S = step2 nm lk (x :: a) (y :: b) := ⟨_, rfl⟩
    rw [← hS]
    simp only [step2] at hS
    iterate 2 ((try cbv); (try simp only [lP, l0, eP, e0, iP, gP, sP, kP, hs, z_nt hA, z_nf hA, z_of hA, z_at hA, z_ot hA, z_af hA]); (repeat (first | refine ⟨True.intro, ?_⟩ | refine ⟨⟨by kernel_rfl⟩, ?_⟩ | refine ⟨kP _ _, ?_⟩ | refine ⟨iP _ _, ?_⟩)))
    refine CallK.mk (st (nm x)) rfl (fun _ => hn x) ?_
    iterate 2 ((try cbv); (try simp only [lP, l0, eP, e0, iP, gP, sP, kP, hs, z_nt hA, z_nf hA, z_of hA, z_at hA, z_ot hA, z_af hA]); (repeat (first | refine ⟨True.intro, ?_⟩ | refine ⟨⟨by kernel_rfl⟩, ?_⟩ | refine ⟨kP _ _, ?_⟩ | refine ⟨iP _ _, ?_⟩)))
    refine CallK.mk (st (nm y)) rfl (fun _ => hn y) ?_
    iterate 2 ((try cbv); (try simp only [lP, l0, eP, e0, iP, gP, sP, kP, hs, z_nt hA, z_nf hA, z_of hA, z_at hA, z_ot hA, z_af hA]); (repeat (first | refine ⟨True.intro, ?_⟩ | refine ⟨⟨by kernel_rfl⟩, ?_⟩ | refine ⟨kP _ _, ?_⟩ | refine ⟨iP _ _, ?_⟩)))
    generalize std.scmp .lss (nm x) (nm y) = c at hS ⊢
    cases c with
    | true =>
     (try simp only [cond_true, cond_false] at hS); subst hS
     iterate 2 ((try cbv); (try simp only [lP, l0, eP, e0, iP, gP, sP, kP, hs, z_nt hA, z_nf hA, z_of hA, z_at hA, z_ot hA, z_af hA]); (repeat (first | refine ⟨True.intro, ?_⟩ | refine ⟨⟨by kernel_rfl⟩, ?_⟩ | refine ⟨kP _ _, ?_⟩ | refine ⟨iP _ _, ?_⟩)))
     refine CallK.mk (st (nm x)) rfl (fun _ => hn x) ?_
     iterate 2 ((try cbv); (try simp only [lP, l0, eP, e0, iP, gP, sP, kP, hs, z_nt hA, z_nf hA, z_of hA, z_at hA, z_ot hA, z_af hA]); (repeat (first | refine ⟨True.intro, ?_⟩ | refine ⟨⟨by kernel_rfl⟩, ?_⟩ | refine ⟨kP _ _, ?_⟩ | refine ⟨iP _ _, ?_⟩)))
     all_goals (try cbv) <;> (try (and_intros <;> (first | exact True.intro | rfl | (simp; done))))
    | false =>
     iterate 2 ((try cbv); (try simp only [lP, l0, eP, e0, iP, gP, sP, kP, hs, z_nt hA, z_nf hA, z_of hA, z_at hA, z_ot hA, z_af hA]); (repeat (first | refine ⟨True.intro, ?_⟩ | refine ⟨⟨by kernel_rfl⟩, ?_⟩ | refine ⟨kP _ _, ?_⟩ | refine ⟨iP _ _, ?_⟩)))
     refine CallK.mk (st (nm y)) rfl (fun _ => hn y) ?_
     iterate 2 ((try cbv); (try simp only [lP, l0, eP, e0, iP, gP, sP, kP, hs, z_nt hA, z_nf hA, z_of hA, z_at hA, z_ot hA, z_af hA]); (repeat (first | refine ⟨True.intro, ?_⟩ | refine ⟨⟨by kernel_rfl⟩, ?_⟩ | refine ⟨kP _ _, ?_⟩ | refine ⟨iP _ _, ?_⟩)))
     refine CallK.mk (st (nm x)) rfl (fun _ => hn x) ?_
     iterate 2 ((try cbv); (try simp only [lP, l0, eP, e0, iP, gP, sP, kP, hs, z_nt hA, z_nf hA, z_of hA, z_at hA, z_ot hA, z_af hA]); (repeat (first | refine ⟨True.intro, ?_⟩ | refine ⟨⟨by kernel_rfl⟩, ?_⟩ | refine ⟨kP _ _, ?_⟩ | refine ⟨iP _ _, ?_⟩)))
     generalize std.scmp .lss (nm y) (nm x) = c at hS ⊢
     cases c with
     | true =>
      (try simp only [cond_true, cond_false] at hS); subst hS
      iterate 2 ((try cbv); (try simp only [lP, l0, eP, e0, iP, gP, sP, kP, hs, z_nt hA, z_nf hA, z_of hA, z_at hA, z_ot hA, z_af hA]); (repeat (first | refine ⟨True.intro, ?_⟩ | refine ⟨⟨by kernel_rfl⟩, ?_⟩ | refine ⟨kP _ _, ?_⟩ | refine ⟨iP _ _, ?_⟩)))
      refine CallK.mk (st (nm y)) rfl (fun _ => hn y) ?_
      iterate 2 ((try cbv); (try simp only [lP, l0, eP, e0, iP, gP, sP, kP, hs, z_nt hA, z_nf hA, z_of hA, z_at hA, z_ot hA, z_af hA]); (repeat (first | refine ⟨True.intro, ?_⟩ | refine ⟨⟨by kernel_rfl⟩, ?_⟩ | refine ⟨kP _ _, ?_⟩ | refine ⟨iP _ _, ?_⟩)))
      all_goals (try cbv) <;> (try (and_intros <;> (first | exact True.intro | rfl | (simp; done))))
     | false =>
      iterate 2 ((try cbv); (try simp only [lP, l0, eP, e0, iP, gP, sP, kP, hs, z_nt hA, z_nf hA, z_of hA, z_at hA, z_ot hA, z_af hA]); (repeat (first | refine ⟨True.intro, ?_⟩ | refine ⟨⟨by kernel_rfl⟩, ?_⟩ | refine ⟨kP _ _, ?_⟩ | refine ⟨iP _ _, ?_⟩)))
      refine CallK.mk (st (nm x)) rfl (fun _ => hn x) ?_
      iterate 2 ((try cbv); (try simp only [lP, l0, eP, e0, iP, gP, sP, kP, hs, z_nt hA, z_nf hA, z_of hA, z_at hA, z_ot hA, z_af hA]); (repeat (first | refine ⟨True.intro, ?_⟩ | refine ⟨⟨by kernel_rfl⟩, ?_⟩ | refine ⟨kP _ _, ?_⟩ | refine ⟨iP _ _, ?_⟩)))
      obtain ⟨c, hc⟩ : ∃ c, c = lk x y := ⟨_, rfl⟩
      have hl2 := hl x (hab.1 x (List.mem_cons_self ..)) y (hab.2 y (List.mem_cons_self ..))
      rw [← hc] at hl2 hS
      refine CallK.mk (bl c) rfl (fun _ => hl2) ?_
      iterate 2 ((try cbv); (try simp only [lP, l0, eP, e0, iP, gP, sP, kP, hs, z_nt hA, z_nf hA, z_of hA, z_at hA, z_ot hA, z_af hA]); (repeat (first | refine ⟨True.intro, ?_⟩ | refine ⟨⟨by kernel_rfl⟩, ?_⟩ | refine ⟨kP _ _, ?_⟩ | refine ⟨iP _ _, ?_⟩)))
      cases c with
      | true =>
       (try simp only [cond_true, cond_false] at hS); subst hS
       iterate 2 ((try cbv); (try simp only [lP, l0, eP, e0, iP, gP, sP, kP, hs, z_nt hA, z_nf hA, z_of hA, z_at hA, z_ot hA, z_af hA]); (repeat (first | refine ⟨True.intro, ?_⟩ | refine ⟨⟨by kernel_rfl⟩, ?_⟩ | refine ⟨kP _ _, ?_⟩ | refine ⟨iP _ _, ?_⟩)))
       all_goals (try cbv) <;> (try (and_intros <;> (first | exact True.intro | rfl | (simp; done))))
      | false =>
       (try simp only [cond_true, cond_false] at hS); subst hS
       iterate 2 ((try cbv); (try simp only [lP, l0, eP, e0, iP, gP, sP, kP, hs, z_nt hA, z_nf hA, z_of hA, z_at hA, z_ot hA, z_af hA]); (repeat (first | refine ⟨True.intro, ?_⟩ | refine ⟨⟨by kernel_rfl⟩, ?_⟩ | refine ⟨kP _ _, ?_⟩ | refine ⟨iP _ _, ?_⟩)))
       all_goals (try cbv) <;> (try (and_intros <;> (first | exact True.intro | rfl | (simp; done))))
theorem A0s {A : Ar} (hA : A = std) (nf lf : Nat) (nm : ByteArray → ByteArray) (lk : ByteArray → ByteArray → Bool) (a0 b0 : List ByteArray) (hn : ∀ x, PFun cx nf [st x] (st (nm x))) (hl : ∀ x ∈ a0, ∀ y ∈ b0, PFun cx lf [st x, st y] (bl (lk x y))) :
  SeqK cx 226 [.ip [.sl .str a0, .sl .str b0, .fun (.func nf) [] [], .fun (.func lf) [] []]] ((pairs2 nm lk a0 b0).map fun x => [st x.1, st x.2]) := by
 refine Axs (te := TyS.str) hA cx_ok Tryz.func226 rfl rfl (by decide) rfl rfl Tryz.underlying9 Tryz.underlying4 ⟨by decide, by decide, by decide, by decide⟩ (step2 nm lk) (pairs2 nm lk) (pairs2_nil nm lk) (Ae5 nm lk) (An7 nm lk) (fun a b => (∀ x ∈ a, x ∈ a0) ∧ (∀ y ∈ b, y ∈ b0)) (fun a b _ h => Aq4 nm lk a0 b0 a b h) a0 b0 ⟨fun _ h => h, fun _ h => h⟩ ?_ ?_ ?_
 ·unfold cx
  cbv
  exact ⟨⟨by kernel_rfl⟩, ⟨by kernel_rfl⟩, True.intro⟩
 ·intro a b g _
  have lP := fun x a => As2 (A := A) hA (t := TyS.str) x a
  have eP := fun x a => As4 (A := A) hA (t := TyS.str) x a
  have iP := fun x a => z_inb (A := A) hA (t := TyS.str) x a
  have gP := fun x a => z_get (A := A) hA (t := TyS.str) x a
  have sP := fun x a => z_sub (A := A) hA (t := TyS.str) x a
  have kP := fun x a => Ao1 (A := A) hA (t := TyS.str) x a
  have l0 := As3 (A := A) hA (t := TyS.str)
  have e0 := Ao0 (A := A) hA (t := TyS.str)
  have hs : ∀ u v, A.3 .lss u v = std.scmp .lss u v := fun u v => by rw [hA]
  unfold cx
  generalize Tryz.prog = P
  cases a with
  | nil =>
   cases b with
   | nil =>
    iterate 2 ((try cbv); (try simp only [lP, l0, eP, e0, iP, gP, sP, kP, hs, z_nt hA, z_nf hA, z_of hA, z_at hA, z_ot hA, z_af hA]); (repeat (first | refine ⟨True.intro, ?_⟩ | refine ⟨⟨by kernel_rfl⟩, ?_⟩ | refine ⟨kP _ _, ?_⟩ | refine ⟨iP _ _, ?_⟩)))
    all_goals (try cbv) <;> (try (and_intros <;> (first | exact True.intro | rfl | (simp; done))))
   | cons y b =>
    iterate 2 ((try cbv); (try simp only [lP, l0, eP, e0, iP, gP, sP, kP, hs, z_nt hA, z_nf hA, z_of hA, z_at hA, z_ot hA, z_af hA]); (repeat (first | refine ⟨True.intro, ?_⟩ | refine ⟨⟨by kernel_rfl⟩, ?_⟩ | refine ⟨kP _ _, ?_⟩ | refine ⟨iP _ _, ?_⟩)))
    all_goals (try cbv) <;> (try (and_intros <;> (first | exact True.intro | rfl | (simp; done))))
  | cons x a =>
   iterate 2 ((try cbv); (try simp only [lP, l0, eP, e0, iP, gP, sP, kP, hs, z_nt hA, z_nf hA, z_of hA, z_at hA, z_ot hA, z_af hA]); (repeat (first | refine ⟨True.intro, ?_⟩ | refine ⟨⟨by kernel_rfl⟩, ?_⟩ | refine ⟨kP _ _, ?_⟩ | refine ⟨iP _ _, ?_⟩)))
   all_goals (try cbv) <;> (try (and_intros <;> (first | exact True.intro | rfl | (simp; done))))
 ·intro a b g hab hne
  have lP := fun x a => As2 (A := A) hA (t := TyS.str) x a
  have eP := fun x a => As4 (A := A) hA (t := TyS.str) x a
  have iP := fun x a => z_inb (A := A) hA (t := TyS.str) x a
  have gP := fun x a => z_get (A := A) hA (t := TyS.str) x a
  have sP := fun x a => z_sub (A := A) hA (t := TyS.str) x a
  have kP := fun x a => Ao1 (A := A) hA (t := TyS.str) x a
  have l0 := As3 (A := A) hA (t := TyS.str)
  have e0 := Ao0 (A := A) hA (t := TyS.str)
  have hs : ∀ u v, A.3 .lss u v = std.scmp .lss u v := fun u v => by rw [hA]
  unfold cx at hn hl ⊢
  generalize Tryz.prog = P at hn hl ⊢
  cases a with
  | nil =>
   cases b with
   | nil => exact absurd ⟨rfl, rfl⟩ hne
   | cons y b =>
    show code _ _ _ _ (fun ex s => ex = .normal ∧ get s.env 1 = _ ∧ get s.env 3 = .d (.sl TyS.str []) ∧ get s.env 4 = .d (.sl TyS.str b) ∧ get s.env 5 = st ⟨#[43]⟩ ∧ get s.env 6 = st (nm y) ∧ s.sto = []) _
    iterate 2 ((try cbv); (try simp only [lP, l0, eP, e0, iP, gP, sP, kP, hs, z_nt hA, z_nf hA, z_of hA, z_at hA, z_ot hA, z_af hA]); (repeat (first | refine ⟨True.intro, ?_⟩ | refine ⟨⟨by kernel_rfl⟩, ?_⟩ | refine ⟨kP _ _, ?_⟩ | refine ⟨iP _ _, ?_⟩)))
    refine CallK.mk (st ⟨#[]⟩) rfl (fun h => by cases h) ?_
    iterate 2 ((try cbv); (try simp only [lP, l0, eP, e0, iP, gP, sP, kP, hs, z_nt hA, z_nf hA, z_of hA, z_at hA, z_ot hA, z_af hA]); (repeat (first | refine ⟨True.intro, ?_⟩ | refine ⟨⟨by kernel_rfl⟩, ?_⟩ | refine ⟨kP _ _, ?_⟩ | refine ⟨iP _ _, ?_⟩)))
    refine CallK.mk (st ⟨#[]⟩) rfl (fun h => by cases h) ?_
    iterate 2 ((try cbv); (try simp only [lP, l0, eP, e0, iP, gP, sP, kP, hs, z_nt hA, z_nf hA, z_of hA, z_at hA, z_ot hA, z_af hA]); (repeat (first | refine ⟨True.intro, ?_⟩ | refine ⟨⟨by kernel_rfl⟩, ?_⟩ | refine ⟨kP _ _, ?_⟩ | refine ⟨iP _ _, ?_⟩)))
    refine CallK.mk (st ⟨#[]⟩) rfl (fun h => by cases h) ?_
    iterate 2 ((try cbv); (try simp only [lP, l0, eP, e0, iP, gP, sP, kP, hs, z_nt hA, z_nf hA, z_of hA, z_at hA, z_ot hA, z_af hA]); (repeat (first | refine ⟨True.intro, ?_⟩ | refine ⟨⟨by kernel_rfl⟩, ?_⟩ | refine ⟨kP _ _, ?_⟩ | refine ⟨iP _ _, ?_⟩)))
    refine CallK.mk (st ⟨#[]⟩) rfl (fun h => by cases h) ?_
    iterate 2 ((try cbv); (try simp only [lP, l0, eP, e0, iP, gP, sP, kP, hs, z_nt hA, z_nf hA, z_of hA, z_at hA, z_ot hA, z_af hA]); (repeat (first | refine ⟨True.intro, ?_⟩ | refine ⟨⟨by kernel_rfl⟩, ?_⟩ | refine ⟨kP _ _, ?_⟩ | refine ⟨iP _ _, ?_⟩)))
    refine CallK.mk (st (nm y)) rfl (fun _ => hn y) ?_
    iterate 2 ((try cbv); (try simp only [lP, l0, eP, e0, iP, gP, sP, kP, hs, z_nt hA, z_nf hA, z_of hA, z_at hA, z_ot hA, z_af hA]); (repeat (first | refine ⟨True.intro, ?_⟩ | refine ⟨⟨by kernel_rfl⟩, ?_⟩ | refine ⟨kP _ _, ?_⟩ | refine ⟨iP _ _, ?_⟩)))
    all_goals (try cbv) <;> (try (and_intros <;> (first | exact True.intro | rfl | (simp; done))))
  | cons x a =>
   cases b with
   | nil =>
    show code _ _ _ _ (fun ex s => ex = .normal ∧ get s.env 1 = _ ∧ get s.env 3 = .d (.sl TyS.str a) ∧ get s.env 4 = .d (.sl TyS.str []) ∧ get s.env 5 = st ⟨#[45]⟩ ∧ get s.env 6 = st (nm x) ∧ s.sto = []) _
    iterate 2 ((try cbv); (try simp only [lP, l0, eP, e0, iP, gP, sP, kP, hs, z_nt hA, z_nf hA, z_of hA, z_at hA, z_ot hA, z_af hA]); (repeat (first | refine ⟨True.intro, ?_⟩ | refine ⟨⟨by kernel_rfl⟩, ?_⟩ | refine ⟨kP _ _, ?_⟩ | refine ⟨iP _ _, ?_⟩)))
    refine CallK.mk (st ⟨#[]⟩) rfl (fun h => by cases h) ?_
    iterate 2 ((try cbv); (try simp only [lP, l0, eP, e0, iP, gP, sP, kP, hs, z_nt hA, z_nf hA, z_of hA, z_at hA, z_ot hA, z_af hA]); (repeat (first | refine ⟨True.intro, ?_⟩ | refine ⟨⟨by kernel_rfl⟩, ?_⟩ | refine ⟨kP _ _, ?_⟩ | refine ⟨iP _ _, ?_⟩)))
    refine CallK.mk (st ⟨#[]⟩) rfl (fun h => by cases h) ?_
    iterate 2 ((try cbv); (try simp only [lP, l0, eP, e0, iP, gP, sP, kP, hs, z_nt hA, z_nf hA, z_of hA, z_at hA, z_ot hA, z_af hA]); (repeat (first | refine ⟨True.intro, ?_⟩ | refine ⟨⟨by kernel_rfl⟩, ?_⟩ | refine ⟨kP _ _, ?_⟩ | refine ⟨iP _ _, ?_⟩)))
    refine CallK.mk (st (nm x)) rfl (fun _ => hn x) ?_
    iterate 2 ((try cbv); (try simp only [lP, l0, eP, e0, iP, gP, sP, kP, hs, z_nt hA, z_nf hA, z_of hA, z_at hA, z_ot hA, z_af hA]); (repeat (first | refine ⟨True.intro, ?_⟩ | refine ⟨⟨by kernel_rfl⟩, ?_⟩ | refine ⟨kP _ _, ?_⟩ | refine ⟨iP _ _, ?_⟩)))
    all_goals (try cbv) <;> (try (and_intros <;> (first | exact True.intro | rfl | (simp; done))))
   | cons y b =>
    obtain ⟨S, hS⟩ : ∃ S, S = step2 nm lk (x :: a) (y :: b) := ⟨_, rfl⟩
    rw [← hS]
    simp only [step2] at hS
    iterate 2 ((try cbv); (try simp only [lP, l0, eP, e0, iP, gP, sP, kP, hs, z_nt hA, z_nf hA, z_of hA, z_at hA, z_ot hA, z_af hA]); (repeat (first | refine ⟨True.intro, ?_⟩ | refine ⟨⟨by kernel_rfl⟩, ?_⟩ | refine ⟨kP _ _, ?_⟩ | refine ⟨iP _ _, ?_⟩)))
    refine CallK.mk (st (nm x)) rfl (fun _ => hn x) ?_
    iterate 2 ((try cbv); (try simp only [lP, l0, eP, e0, iP, gP, sP, kP, hs, z_nt hA, z_nf hA, z_of hA, z_at hA, z_ot hA, z_af hA]); (repeat (first | refine ⟨True.intro, ?_⟩ | refine ⟨⟨by kernel_rfl⟩, ?_⟩ | refine ⟨kP _ _, ?_⟩ | refine ⟨iP _ _, ?_⟩)))
    refine CallK.mk (st (nm y)) rfl (fun _ => hn y) ?_
    iterate 2 ((try cbv); (try simp only [lP, l0, eP, e0, iP, gP, sP, kP, hs, z_nt hA, z_nf hA, z_of hA, z_at hA, z_ot hA, z_af hA]); (repeat (first | refine ⟨True.intro, ?_⟩ | refine ⟨⟨by kernel_rfl⟩, ?_⟩ | refine ⟨kP _ _, ?_⟩ | refine ⟨iP _ _, ?_⟩)))
    generalize std.scmp .lss (nm x) (nm y) = c at hS ⊢
    cases c with
    | true =>
     (try simp only [cond_true, cond_false] at hS); subst hS
     iterate 2 ((try cbv); (try simp only [lP, l0, eP, e0, iP, gP, sP, kP, hs, z_nt hA, z_nf hA, z_of hA, z_at hA, z_ot hA, z_af hA]); (repeat (first | refine ⟨True.intro, ?_⟩ | refine ⟨⟨by kernel_rfl⟩, ?_⟩ | refine ⟨kP _ _, ?_⟩ | refine ⟨iP _ _, ?_⟩)))
     refine CallK.mk (st (nm x)) rfl (fun _ => hn x) ?_
     iterate 2 ((try cbv); (try simp only [lP, l0, eP, e0, iP, gP, sP, kP, hs, z_nt hA, z_nf hA, z_of hA, z_at hA, z_ot hA, z_af hA]); (repeat (first | refine ⟨True.intro, ?_⟩ | refine ⟨⟨by kernel_rfl⟩, ?_⟩ | refine ⟨kP _ _, ?_⟩ | refine ⟨iP _ _, ?_⟩)))
     all_goals (try cbv) <;> (try (and_intros <;> (first | exact True.intro | rfl | (simp; done))))
    | false =>
     iterate 2 ((try cbv); (try simp only [lP, l0, eP, e0, iP, gP, sP, kP, hs, z_nt hA, z_nf hA, z_of hA, z_at hA, z_ot hA, z_af hA]); (repeat (first | refine ⟨True.intro, ?_⟩ | refine ⟨⟨by kernel_rfl⟩, ?_⟩ | refine ⟨kP _ _, ?_⟩ | refine ⟨iP _ _, ?_⟩)))
     refine CallK.mk (st (nm y)) rfl (fun _ => hn y) ?_
     iterate 2 ((try cbv); (try simp only [lP, l0, eP, e0, iP, gP, sP, kP, hs, z_nt hA, z_nf hA, z_of hA, z_at hA, z_ot hA, z_af hA]); (repeat (first | refine ⟨True.intro, ?_⟩ | refine ⟨⟨by kernel_rfl⟩, ?_⟩ | refine ⟨kP _ _, ?_⟩ | refine ⟨iP _ _, ?_⟩)))
     refine CallK.mk (st (nm x)) rfl (fun _ => hn x) ?_
     iterate 2 ((try cbv); (try simp only [lP, l0, eP, e0, iP, gP, sP, kP, hs, z_nt hA, z_nf hA, z_of hA, z_at hA, z_ot hA, z_af hA]); (repeat (first | refine ⟨True.intro, ?_⟩ | refine ⟨⟨by kernel_rfl⟩, ?_⟩ | refine ⟨kP _ _, ?_⟩ | refine ⟨iP _ _, ?_⟩)))
     generalize std.scmp .lss (nm y) (nm x) = c at hS ⊢
     cases c with
     | true =>
      (try simp only [cond_true, cond_false] at hS); subst hS
      iterate 2 ((try cbv); (try simp only [lP, l0, eP, e0, iP, gP, sP, kP, hs, z_nt hA, z_nf hA, z_of hA, z_at hA, z_ot hA, z_af hA]); (repeat (first | refine ⟨True.intro, ?_⟩ | refine ⟨⟨by kernel_rfl⟩, ?_⟩ | refine ⟨kP _ _, ?_⟩ | refine ⟨iP _ _, ?_⟩)))
      refine CallK.mk (st (nm y)) rfl (fun _ => hn y) ?_
      iterate 2 ((try cbv); (try simp only [lP, l0, eP, e0, iP, gP, sP, kP, hs, z_nt hA, z_nf hA, z_of hA, z_at hA, z_ot hA, z_af hA]); (repeat (first | refine ⟨True.intro, ?_⟩ | refine ⟨⟨by kernel_rfl⟩, ?_⟩ | refine ⟨kP _ _, ?_⟩ | refine ⟨iP _ _, ?_⟩)))
      all_goals (try cbv) <;> (try (and_intros <;> (first | exact True.intro | rfl | (simp; done))))
     | false =>
      iterate 2 ((try cbv); (try simp only [lP, l0, eP, e0, iP, gP, sP, kP, hs, z_nt hA, z_nf hA, z_of hA, z_at hA, z_ot hA, z_af hA]); (repeat (first | refine ⟨True.intro, ?_⟩ | refine ⟨⟨by kernel_rfl⟩, ?_⟩ | refine ⟨kP _ _, ?_⟩ | refine ⟨iP _ _, ?_⟩)))
      refine CallK.mk (st (nm x)) rfl (fun _ => hn x) ?_
      iterate 2 ((try cbv); (try simp only [lP, l0, eP, e0, iP, gP, sP, kP, hs, z_nt hA, z_nf hA, z_of hA, z_at hA, z_ot hA, z_af hA]); (repeat (first | refine ⟨True.intro, ?_⟩ | refine ⟨⟨by kernel_rfl⟩, ?_⟩ | refine ⟨kP _ _, ?_⟩ | refine ⟨iP _ _, ?_⟩)))
      obtain ⟨c, hc⟩ : ∃ c, c = lk x y := ⟨_, rfl⟩
      have hl2 := hl x (hab.1 x (List.mem_cons_self ..)) y (hab.2 y (List.mem_cons_self ..))
      rw [← hc] at hl2 hS
      refine CallK.mk (bl c) rfl (fun _ => hl2) ?_
      iterate 2 ((try cbv); (try simp only [lP, l0, eP, e0, iP, gP, sP, kP, hs, z_nt hA, z_nf hA, z_of hA, z_at hA, z_ot hA, z_af hA]); (repeat (first | refine ⟨True.intro, ?_⟩ | refine ⟨⟨by kernel_rfl⟩, ?_⟩ | refine ⟨kP _ _, ?_⟩ | refine ⟨iP _ _, ?_⟩)))
      cases c with
      | true =>
       (try simp only [cond_true, cond_false] at hS); subst hS
       iterate 2 ((try cbv); (try simp only [lP, l0, eP, e0, iP, gP, sP, kP, hs, z_nt hA, z_nf hA, z_of hA, z_at hA, z_ot hA, z_af hA]); (repeat (first | refine ⟨True.intro, ?_⟩ | refine ⟨⟨by kernel_rfl⟩, ?_⟩ | refine ⟨kP _ _, ?_⟩ | refine ⟨iP _ _, ?_⟩)))
       all_goals (try cbv) <;> (try (and_intros <;> (first | exact True.intro | rfl | (simp; done))))
      | false =>
       (try simp only [cond_true, cond_false] at hS); subst hS
       iterate 2 ((try cbv); (try simp only [lP, l0, eP, e0, iP, gP, sP, kP, hs, z_nt hA, z_nf hA, z_of hA, z_at hA, z_ot hA, z_af hA]); (repeat (first | refine ⟨True.intro, ?_⟩ | refine ⟨⟨by kernel_rfl⟩, ?_⟩ | refine ⟨kP _ _, ?_⟩ | refine ⟨iP _ _, ?_⟩)))
       all_goals (try cbv) <;> (try (and_intros <;> (first | exact True.intro | rfl | (simp; done))))
theorem A2d {A : Ar} (hA : A = std) (nf lf : Nat) (nm : Hours → ByteArray) (lk : Hours → Hours → Bool) (a0 b0 : List Hours) (hn : ∀ x, PFun cx nf [Ac4 x] (st (nm x))) (hl : ∀ x ∈ a0, ∀ y ∈ b0, PFun cx lf [Ac4 x, Ac4 y] (bl (lk x y))) :
  SeqK cx 227 [.ip [.sl .hours a0, .sl .hours b0, .fun (.func nf) [] [], .fun (.func lf) [] []]] ((pairs2 nm lk a0 b0).map fun x => [st x.1, st x.2]) := by
 refine Axs (te := TyS.hours) hA cx_ok Tryz.func227 rfl rfl (by decide) rfl rfl Tryz.underlying9 Tryz.underlying4 ⟨by decide, by decide, by decide, by decide⟩ (step2 nm lk) (pairs2 nm lk) (pairs2_nil nm lk) (Ae5 nm lk) (An7 nm lk) (fun a b => (∀ x ∈ a, x ∈ a0) ∧ (∀ y ∈ b, y ∈ b0)) (fun a b _ h => Aq4 nm lk a0 b0 a b h) a0 b0 ⟨fun _ h => h, fun _ h => h⟩ ?_ ?_ ?_
 ·unfold cx
  cbv
  exact ⟨⟨by kernel_rfl⟩, ⟨by kernel_rfl⟩, True.intro⟩
 ·intro a b g _
  have lP := fun x a => As2 (A := A) hA (t := TyS.hours) x a
  have eP := fun x a => As4 (A := A) hA (t := TyS.hours) x a
  have iP := fun x a => z_inb (A := A) hA (t := TyS.hours) x a
  have gP := fun x a => z_get (A := A) hA (t := TyS.hours) x a
  have sP := fun x a => z_sub (A := A) hA (t := TyS.hours) x a
  have kP := fun x a => Ao1 (A := A) hA (t := TyS.hours) x a
  have l0 := As3 (A := A) hA (t := TyS.hours)
  have e0 := Ao0 (A := A) hA (t := TyS.hours)
  have hs : ∀ u v, A.3 .lss u v = std.scmp .lss u v := fun u v => by rw [hA]
  unfold cx
  generalize Tryz.prog = P
  cases a with
  | nil =>
   cases b with
   | nil =>
    iterate 2 ((try cbv); (try simp only [lP, l0, eP, e0, iP, gP, sP, kP, hs, z_nt hA, z_nf hA, z_of hA, z_at hA, z_ot hA, z_af hA]); (repeat (first | refine ⟨True.intro, ?_⟩ | refine ⟨⟨by kernel_rfl⟩, ?_⟩ | refine ⟨kP _ _, ?_⟩ | refine ⟨iP _ _, ?_⟩)))
    all_goals (try cbv) <;> (try (and_intros <;> (first | exact True.intro | rfl | (simp; done))))
   | cons y b =>
    iterate 2 ((try cbv); (try simp only [lP, l0, eP, e0, iP, gP, sP, kP, hs, z_nt hA, z_nf hA, z_of hA, z_at hA, z_ot hA, z_af hA]); (repeat (first | refine ⟨True.intro, ?_⟩ | refine ⟨⟨by kernel_rfl⟩, ?_⟩ | refine ⟨kP _ _, ?_⟩ | refine ⟨iP _ _, ?_⟩)))
    all_goals (try cbv) <;> (try (and_intros <;> (first | exact True.intro | rfl | (simp; done))))
  | cons x a =>
   iterate 2 ((try cbv); (try simp only [lP, l0, eP, e0, iP, gP, sP, kP, hs, z_nt hA, z_nf hA, z_of hA, z_at hA, z_ot hA, z_af hA]); (repeat (first | refine ⟨True.intro, ?_⟩ | refine ⟨⟨by kernel_rfl⟩, ?_⟩ | refine ⟨kP _ _, ?_⟩ | refine ⟨iP _ _, ?_⟩)))
   all_goals (try cbv) <;> (try (and_intros <;> (first | exact True.intro | rfl | (simp; done))))
 ·intro a b g hab hne
  have lP := fun x a => As2 (A := A) hA (t := TyS.hours) x a
  have eP := fun x a => As4 (A := A) hA (t := TyS.hours) x a
  have iP := fun x a => z_inb (A := A) hA (t := TyS.hours) x a
  have gP := fun x a => z_get (A := A) hA (t := TyS.hours) x a
  have sP := fun x a => z_sub (A := A) hA (t := TyS.hours) x a
  have kP := fun x a => Ao1 (A := A) hA (t := TyS.hours) x a
  have l0 := As3 (A := A) hA (t := TyS.hours)
  have e0 := Ao0 (A := A) hA (t := TyS.hours)
  have hs : ∀ u v, A.3 .lss u v = std.scmp .lss u v := fun u v => by rw [hA]
  unfold cx at hn hl ⊢
  generalize Tryz.prog = P at hn hl ⊢
  cases a with
  | nil =>
   cases b with
   | nil => exact absurd ⟨rfl, rfl⟩ hne
   | cons y b =>
    show code _ _ _ _ (fun ex s => ex = .normal ∧ get s.env 1 = _ ∧ get s.env 3 = .d (.sl TyS.hours []) ∧ get s.env 4 = .d (.sl TyS.hours b) ∧ get s.env 5 = st ⟨#[43]⟩ ∧ get s.env 6 = st (nm y) ∧ s.sto = []) _
    iterate 2 ((try cbv); (try simp only [lP, l0, eP, e0, iP, gP, sP, kP, hs, z_nt hA, z_nf hA, z_of hA, z_at hA, z_ot hA, z_af hA]); (repeat (first | refine ⟨True.intro, ?_⟩ | refine ⟨⟨by kernel_rfl⟩, ?_⟩ | refine ⟨kP _ _, ?_⟩ | refine ⟨iP _ _, ?_⟩)))
    refine CallK.mk (st ⟨#[]⟩) rfl (fun h => by cases h) ?_
    iterate 2 ((try cbv); (try simp only [lP, l0, eP, e0, iP, gP, sP, kP, hs, z_nt hA, z_nf hA, z_of hA, z_at hA, z_ot hA, z_af hA]); (repeat (first | refine ⟨True.intro, ?_⟩ | refine ⟨⟨by kernel_rfl⟩, ?_⟩ | refine ⟨kP _ _, ?_⟩ | refine ⟨iP _ _, ?_⟩)))
    refine CallK.mk (st ⟨#[]⟩) rfl (fun h => by cases h) ?_
    iterate 2 ((try cbv); (try simp only [lP, l0, eP, e0, iP, gP, sP, kP, hs, z_nt hA, z_nf hA, z_of hA, z_at hA, z_ot hA, z_af hA]); (repeat (first | refine ⟨True.intro, ?_⟩ | refine ⟨⟨by kernel_rfl⟩, ?_⟩ | refine ⟨kP _ _, ?_⟩ | refine ⟨iP _ _, ?_⟩)))
    refine CallK.mk (st ⟨#[]⟩) rfl (fun h => by cases h) ?_
    iterate 2 ((try cbv); (try simp only [lP, l0, eP, e0, iP, gP, sP, kP, hs, z_nt hA, z_nf hA, z_of hA, z_at hA, z_ot hA, z_af hA]); (repeat (first | refine ⟨True.intro, ?_⟩ | refine ⟨⟨by kernel_rfl⟩, ?_⟩ | refine ⟨kP _ _, ?_⟩ | refine ⟨iP _ _, ?_⟩)))
    refine CallK.mk (st ⟨#[]⟩) rfl (fun h => by cases h) ?_
    iterate 2 ((try cbv); (try simp only [lP, l0, eP, e0, iP, gP, sP, kP, hs, z_nt hA, z_nf hA, z_of hA, z_at hA, z_ot hA, z_af hA]); (repeat (first | refine ⟨True.intro, ?_⟩ | refine ⟨⟨by kernel_rfl⟩, ?_⟩ | refine ⟨kP _ _, ?_⟩ | refine ⟨iP _ _, ?_⟩)))
    refine CallK.mk (st (nm y)) rfl (fun _ => hn y) ?_
    iterate 2 ((try cbv); (try simp only [lP, l0, eP, e0, iP, gP, sP, kP, hs, z_nt hA, z_nf hA, z_of hA, z_at hA, z_ot hA, z_af hA]); (repeat (first | refine ⟨True.intro, ?_⟩ | refine ⟨⟨by kernel_rfl⟩, ?_⟩ | refine ⟨kP _ _, ?_⟩ | refine ⟨iP _ _, ?_⟩)))
    all_goals (try cbv) <;> (try (and_intros <;> (first | exact True.intro | rfl | (simp; done))))
  | cons x a =>
   cases b with
   | nil =>
    show code _ _ _ _ (fun ex s => ex = .normal ∧ get s.env 1 = _ ∧ get s.env 3 = .d (.sl TyS.hours a) ∧ get s.env 4 = .d (.sl TyS.hours []) ∧ get s.env 5 = st ⟨#[45]⟩ ∧ get s.env 6 = st (nm x) ∧ s.sto = []) _
    iterate 2 ((try cbv); (try simp only [lP, l0, eP, e0, iP, gP, sP, kP, hs, z_nt hA, z_nf hA, z_of hA, z_at hA, z_ot hA, z_af hA]); (repeat (first | refine ⟨True.intro, ?_⟩ | refine ⟨⟨by kernel_rfl⟩, ?_⟩ | refine ⟨kP _ _, ?_⟩ | refine ⟨iP _ _, ?_⟩)))
    refine CallK.mk (st ⟨#[]⟩) rfl (fun h => by cases h) ?_
    iterate 2 ((try cbv); (try simp only [lP, l0, eP, e0, iP, gP, sP, kP, hs, z_nt hA, z_nf hA, z_of hA, z_at hA, z_ot hA, z_af hA]); (repeat (first | refine ⟨True.intro, ?_⟩ | refine ⟨⟨by kernel_rfl⟩, ?_⟩ | refine ⟨kP _ _, ?_⟩ | refine ⟨iP _ _, ?_⟩)))
    refine CallK.mk (st ⟨#[]⟩) rfl (fun h => by cases h) ?_
    iterate 2 ((try cbv); (try simp only [lP, l0, eP, e0, iP, gP, sP, kP, hs, z_nt hA, z_nf hA, z_of hA, z_at hA, z_ot hA, z_af hA]); (repeat (first | refine ⟨True.intro, ?_⟩ | refine ⟨⟨by kernel_rfl⟩, ?_⟩ | refine ⟨kP _ _, ?_⟩ | refine ⟨iP _ _, ?_⟩)))
    refine CallK.mk (st (nm x)) rfl (fun _ => hn x) ?_
    iterate 2 ((try cbv); (try simp only [lP, l0, eP, e0, iP, gP, sP, kP, hs, z_nt hA, z_nf hA, z_of hA, z_at hA, z_ot hA, z_af hA]); (repeat (first | refine ⟨True.intro, ?_⟩ | refine ⟨⟨by kernel_rfl⟩, ?_⟩ | refine ⟨kP _ _, ?_⟩ | refine ⟨iP _ _, ?_⟩)))
    all_goals (try cbv) <;> (try (and_intros <;> (first | exact True.intro | rfl | (simp; done))))
   | cons y b =>
    obtain ⟨S, hS⟩ : ∃ S, S = step2 nm lk (x :: a) (y :: b) := ⟨_, rfl⟩
    rw [← hS]
    simp only [step2] at hS
    iterate 2 ((try cbv); (try simp only [lP, l0, eP, e0, iP, gP, sP, kP, hs, z_nt hA, z_nf hA, z_of hA, z_at hA, z_ot hA, z_af hA]); (repeat (first | refine ⟨True.intro, ?_⟩ | refine ⟨⟨by kernel_rfl⟩, ?_⟩ | refine ⟨kP _ _, ?_⟩ | refine ⟨iP _ _, ?_⟩)))
    refine CallK.mk (st (nm x)) rfl (fun _ => hn x) ?_
    iterate 2 ((try cbv); (try simp only [lP, l0, eP, e0, iP, gP, sP, kP, hs, z_nt hA, z_nf hA, z_of hA, z_at hA, z_ot hA, z_af hA]); (repeat (first | refine ⟨True.intro, ?_⟩ | refine ⟨⟨by kernel_rfl⟩, ?_⟩ | refine ⟨kP _ _, ?_⟩ | refine ⟨iP _ _, ?_⟩)))
    refine CallK.mk (st (nm y)) rfl (fun _ => hn y) ?_
    iterate 2 ((try cbv); (try simp only [lP, l0, eP, e0, iP, gP, sP, kP, hs, z_nt hA, z_nf hA, z_of hA, z_at hA, z_ot hA, z_af hA]); (repeat (first | refine ⟨True.intro, ?_⟩ | refine ⟨⟨by kernel_rfl⟩, ?_⟩ | refine ⟨kP _ _, ?_⟩ | refine ⟨iP _ _, ?_⟩)))
    generalize std.scmp .lss (nm x) (nm y) = c at hS ⊢
    cases c with
    | true =>
     (try simp only [cond_true, cond_false] at hS); subst hS
     iterate 2 ((try cbv); (try simp only [lP, l0, eP, e0, iP, gP, sP, kP, hs, z_nt hA, z_nf hA, z_of hA, z_at hA, z_ot hA, z_af hA]); (repeat (first | refine ⟨True.intro, ?_⟩ | refine ⟨⟨by kernel_rfl⟩, ?_⟩ | refine ⟨kP _ _, ?_⟩ | refine ⟨iP _ _, ?_⟩)))
     refine CallK.mk (st (nm x)) rfl (fun _ => hn x) ?_
     iterate 2 ((try cbv); (try simp only [lP, l0, eP, e0, iP, gP, sP, kP, hs, z_nt hA, z_nf hA, z_of hA, z_at hA, z_ot hA, z_af hA]); (repeat (first | refine ⟨True.intro, ?_⟩ | refine ⟨⟨by kernel_rfl⟩, ?_⟩ | refine ⟨kP _ _, ?_⟩ | refine ⟨iP _ _, ?_⟩)))
     all_goals (try cbv) <;> (try (and_intros <;> (first | exact True.intro | rfl | (simp; done))))
    | false =>
     iterate 2 ((try cbv); (try simp only [lP, l0, eP, e0, iP, gP, sP, kP, hs, z_nt hA, z_nf hA, z_of hA, z_at hA, z_ot hA, z_af hA]); (repeat (first | refine ⟨True.intro, ?_⟩ | refine ⟨⟨by kernel_rfl⟩, ?_⟩ | refine ⟨kP _ _, ?_⟩ | refine ⟨iP _ _, ?_⟩)))
     refine CallK.mk (st (nm y)) rfl (fun _ => hn y) ?_
     iterate 2 ((try cbv); (try simp only [lP, l0, eP, e0, iP, gP, sP, kP, hs, z_nt hA, z_nf hA, z_of hA, z_at hA, z_ot hA, z_af hA]); (repeat (first | refine ⟨True.intro, ?_⟩ | refine ⟨⟨by kernel_rfl⟩, ?_⟩ | refine ⟨kP _ _, ?_⟩ | refine ⟨iP _ _, ?_⟩)))
     refine CallK.mk (st (nm x)) rfl (fun _ => hn x) ?_
     iterate 2 ((try cbv); (try simp only [lP, l0, eP, e0, iP, gP, sP, kP, hs, z_nt hA, z_nf hA, z_of hA, z_at hA, z_ot hA, z_af hA]); (repeat (first | refine ⟨True.intro, ?_⟩ | refine ⟨⟨by kernel_rfl⟩, ?_⟩ | refine ⟨kP _ _, ?_⟩ | refine ⟨iP _ _, ?_⟩)))
     generalize std.scmp .lss (nm y) (nm x) = c at hS ⊢
     cases c with
     | true =>
      (try simp only [cond_true, cond_false] at hS); subst hS
      iterate 2 ((try cbv); (try simp only [lP, l0, eP, e0, iP, gP, sP, kP, hs, z_nt hA, z_nf hA, z_of hA, z_at hA, z_ot hA, z_af hA]); (repeat (first | refine ⟨True.intro, ?_⟩ | refine ⟨⟨by kernel_rfl⟩, ?_⟩ | refine ⟨kP _ _, ?_⟩ | refine ⟨iP _ _, ?_⟩)))
      refine CallK.mk (st (nm y)) rfl (fun _ => hn y) ?_
      iterate 2 ((try cbv); (try simp only [lP, l0, eP, e0, iP, gP, sP, kP, hs, z_nt hA, z_nf hA, z_of hA, z_at hA, z_ot hA, z_af hA]); (repeat (first | refine ⟨True.intro, ?_⟩ | refine ⟨⟨by kernel_rfl⟩, ?_⟩ | refine ⟨kP _ _, ?_⟩ | refine ⟨iP _ _, ?_⟩)))
      all_goals (try cbv) <;> (try (and_intros <;> (first | exact True.intro | rfl | (simp; done))))
     | false =>
      iterate 2 ((try cbv); (try simp only [lP, l0, eP, e0, iP, gP, sP, kP, hs, z_nt hA, z_nf hA, z_of hA, z_at hA, z_ot hA, z_af hA]); (repeat (first | refine ⟨True.intro, ?_⟩ | refine ⟨⟨by kernel_rfl⟩, ?_⟩ | refine ⟨kP _ _, ?_⟩ | refine ⟨iP _ _, ?_⟩)))
      refine CallK.mk (st (nm x)) rfl (fun _ => hn x) ?_
      iterate 2 ((try cbv); (try simp only [lP, l0, eP, e0, iP, gP, sP, kP, hs, z_nt hA, z_nf hA, z_of hA, z_at hA, z_ot hA, z_af hA]); (repeat (first | refine ⟨True.intro, ?_⟩ | refine ⟨⟨by kernel_rfl⟩, ?_⟩ | refine ⟨kP _ _, ?_⟩ | refine ⟨iP _ _, ?_⟩)))
      obtain ⟨c, hc⟩ : ∃ c, c = lk x y := ⟨_, rfl⟩
      have hl2 := hl x (hab.1 x (List.mem_cons_self ..)) y (hab.2 y (List.mem_cons_self ..))
      rw [← hc] at hl2 hS
      refine CallK.mk (bl c) rfl (fun _ => hl2) ?_
      iterate 2 ((try cbv); (try simp only [lP, l0, eP, e0, iP, gP, sP, kP, hs, z_nt hA, z_nf hA, z_of hA, z_at hA, z_ot hA, z_af hA]); (repeat (first | refine ⟨True.intro, ?_⟩ | refine ⟨⟨by kernel_rfl⟩, ?_⟩ | refine ⟨kP _ _, ?_⟩ | refine ⟨iP _ _, ?_⟩)))
      cases c with
      | true =>
       (try simp only [cond_true, cond_false] at hS); subst hS
       iterate 2 ((try cbv); (try simp only [lP, l0, eP, e0, iP, gP, sP, kP, hs, z_nt hA, z_nf hA, z_of hA, z_at hA, z_ot hA, z_af hA]); (repeat (first | refine ⟨True.intro, ?_⟩ | refine ⟨⟨by kernel_rfl⟩, ?_⟩ | refine ⟨kP _ _, ?_⟩ | refine ⟨iP _ _, ?_⟩)))
       all_goals (try cbv) <;> (try (and_intros <;> (first | exact True.intro | rfl | (simp; done))))
      | false =>
       (try simp only [cond_true, cond_false] at hS); subst hS
       iterate 2 ((try cbv); (try simp only [lP, l0, eP, e0, iP, gP, sP, kP, hs, z_nt hA, z_nf hA, z_of hA, z_at hA, z_ot hA, z_af hA]); (repeat (first | refine ⟨True.intro, ?_⟩ | refine ⟨⟨by kernel_rfl⟩, ?_⟩ | refine ⟨kP _ _, ?_⟩ | refine ⟨iP _ _, ?_⟩)))
       all_goals (try cbv) <;> (try (and_intros <;> (first | exact True.intro | rfl | (simp; done))))
end Go.PL
namespace Go.PL
set_option linter.unusedSimpArgs false
set_option linter.unusedVariables false
set_option linter.unusedSectionVars false
open Tys (Ty U)
open Enc (sz enc dflt tb ofB toB)
open Dec (dec dok)
set_option maxRecDepth 100000
set_option maxHeartbeats 4000000
open Go.Proofs
variable [GM]
theorem Ayp (fz : Nat → Bool) (nf lf : Nat) (a b : List Rule) : PFun (cxF fz) 144 [.ag [.d (.sl .rule a), .d (.sl .rule b), .fn (.func nf) [] [], .fn (.func lf) [] []]] (.fn (.func 225) [] [.ip [.sl .rule a, .sl .rule b, .fun (.func nf) [] [], .fun (.func lf) [] []]]) := by
 refine PFun.fz (a := fun k => k == 1) (PFun.walk (As5 _) Tryz.func144 rfl rfl rfl fun A P R hA hP hR => ?_)
 cbv
 refine ⟨⟨by kernel_rfl⟩, ⟨by kernel_rfl⟩, ?_⟩
 subst hR
 exact LeP.refl _
theorem A0t {A : Ar} (hA : A = std) (nf lf : Nat) (nm : Rule → ByteArray) (lk : Rule → Rule → Bool) (kind : ByteArray) (a b : List Rule) (hn : ∀ x, PFun cx nf [Aeb x] (st (nm x))) (hl : ∀ x ∈ a, ∀ y ∈ b, PFun cx lf [Aeb x, Aeb y] (bl (lk x y)))
  (hk : ∀ p ∈ pairs2 nm lk a b, Avo A kind p) (ha : ∀ (acc : List ByteArray) p, acc.length < ([] : List ByteArray).length + (pairs2 nm lk a b).length → A.appOk TyS.str 16 acc [lineT A kind p]) :
  PFunM (cxF (fun k => k == 4 || k == 5)) 58 [.d (.v (.slice none 0 0)), st kind, .ag [.d (.sl .rule a), .d (.sl .rule b), .fn (.func nf) [] [], .fn (.func lf) [] []]] [] (.os 2000 1 .str ([] ++ (pairs2 nm lk a b).map (lineT A kind))) [⟨2000, 1, .tok 9 .str (A.nlen .str ([] ++ (pairs2 nm lk a b).map (lineT A kind)))⟩] := by
 have hC := As5 (fun k => k == 4 || k == 5)
 refine At5 (n := 24) (gf := 225) (xs := pairs2 nm lk a b) (cap := .ip [.sl .rule a, .sl .rule b, .fun (.func nf) [] [], .fun (.func lf) [] []]) hA hC Tryz.func58 rfl rfl rfl rfl (by decide) ?_ rfl ?_ ?_
  (E0 := [(3, .bx 3 2 0), (4, .ip [.v (.string kind)]), (5, .ip [.sl .rule a, .sl .rule b, .fun (.func nf) [] [], .fun (.func lf) [] []])]) (E1 := [(3, .bx 3 2 0), (4, .ip [.v (.string kind)]), (10, .fn (.func 225) [] [.ip [.sl .rule a, .sl .rule b, .fun (.func nf) [] [], .fun (.func lf) [] []]])]) (S0 := [⟨3, 2, .box 24 [.d (.v (.slice none 0 0))]⟩]) rfl ?_ ?_
  (lineT A kind) [] (fun acc gh => [⟨3, 2, .box 24 [.os 900 gh .str acc]⟩, ⟨900, gh, .tok 9 .str (A.nlen .str acc)⟩]) [] ⟨?_, ?_, ?_⟩ ?_ ?_
 ·have := A3x hA nf lf nm lk a b hn hl
  exact ⟨this.run⟩
 ·intro fn h
  cases h.symm.trans Tryz.func225
  exact ⟨rfl, rfl⟩
 ·exact ⟨_, Tryz.func225⟩
 ·unfold cxF
  generalize Tryz.prog = P
  cbv
  refine ⟨⟨by kernel_rfl⟩, ?_⟩
  (try (and_intros <;> (first | exact True.intro | rfl | (simp [get]; done) | (subst hA; rfl))))
 ·have h := Ayp (fun k => k == 4 || k == 5) nf lf a b
  unfold cxF at h ⊢
  generalize Tryz.prog = P at h ⊢
  cbv
  refine ⟨⟨by kernel_rfl⟩, ?_⟩
  refine CallK.mk _ rfl (fun _ => h) ?_
  cbv
  (try (and_intros <;> (first | exact True.intro | rfl | (simp [get]; done) | (subst hA; rfl))))
 ·cbv
 ·cbv
  (try (and_intros <;> (first | exact True.intro | rfl | (simp [get]; done) | (subst hA; rfl))))
 ·cbv
 ·rintro ⟨sg, nme⟩ acc gh g K Q hp hlt hK
  obtain ⟨k1, k2, k3, k4⟩ := hk _ hp
  have hap := ha acc (sg, nme) hlt
  unfold cxF
  generalize Tryz.prog = P
  cbv
  iterate 3 (refine ⟨⟨by kernel_rfl⟩, ?_⟩)
  refine ⟨k1, k2, k3, k4, hap, ?_⟩
  refine hK _ [(900, 22, g.succ.succ)] ⟨?_, ?_, ?_⟩
  ·cbv
  ·cbv
   subst hA
   cases acc <;> exact ⟨⟨rfl, True.intro⟩, rfl, True.intro⟩
  ·cbv
 ·intro gh g
  have hr : ∃ r : List ByteArray, ([] ++ (pairs2 nm lk a b).map (lineT A kind)) = r := ⟨_, rfl⟩
  obtain ⟨r, hr⟩ := hr
  show code _ _ _ _ _ ⟨_, [⟨3, 2, .box 24 [.os 900 gh .str ([] ++ (pairs2 nm lk a b).map (lineT A kind))]⟩, ⟨900, gh, .tok 9 .str (A.nlen .str ([] ++ (pairs2 nm lk a b).map (lineT A kind)))⟩], g⟩
  simp only [hr]
  unfold cxF
  generalize Tryz.prog = P
  cbv
  refine ⟨⟨by kernel_rfl⟩, .inr True.intro, [(900, gh)], ?_⟩
  refine ⟨?_, ?_, ?_, ?_⟩
  all_goals (cbv; (try (and_intros <;> (first | exact True.intro | rfl | (simp [get]; done) | (subst hA; rfl)))))
theorem twoAll_string (fz : Nat → Bool) (nf lf : Nat) (a b : List ByteArray) : PFun (cxF fz) 146 [.ag [.d (.sl .str a), .d (.sl .str b), .fn (.func nf) [] [], .fn (.func lf) [] []]] (.fn (.func 226) [] [.ip [.sl .str a, .sl .str b, .fun (.func nf) [] [], .fun (.func lf) [] []]]) := by
 refine PFun.fz (a := fun k => k == 1) (PFun.walk (As5 _) Tryz.func146 rfl rfl rfl fun A P R hA hP hR => ?_)
 cbv
 refine ⟨⟨by kernel_rfl⟩, ⟨by kernel_rfl⟩, ?_⟩
 subst hR
 exact LeP.refl _
theorem Awk {A : Ar} (hA : A = std) (nf lf : Nat) (nm : ByteArray → ByteArray) (lk : ByteArray → ByteArray → Bool) (x0 : List ByteArray) (kind : ByteArray) (a b : List ByteArray) (hn : ∀ x, PFun cx nf [st x] (st (nm x))) (hl : ∀ x ∈ a, ∀ y ∈ b, PFun cx lf [st x, st y] (bl (lk x y)))
  (hk : ∀ p ∈ pairs2 nm lk a b, Avo A kind p) (ha : ∀ (acc : List ByteArray) p, acc.length < (x0 : List ByteArray).length + (pairs2 nm lk a b).length → A.appOk TyS.str 16 acc [lineT A kind p]) :
  PFunM (cxF (fun k => k == 4 || k == 5)) 61 [.os 1000 0 .str x0, st kind, .ag [.d (.sl .str a), .d (.sl .str b), .fn (.func nf) [] [], .fn (.func lf) [] []]] [⟨1000, 0, .tok 9 .str (A.nlen .str x0)⟩] (.os 2000 1 .str (x0 ++ (pairs2 nm lk a b).map (lineT A kind))) [⟨2000, 1, .tok 9 .str (A.nlen .str (x0 ++ (pairs2 nm lk a b).map (lineT A kind)))⟩] := by
 have hC := As5 (fun k => k == 4 || k == 5)
 refine At5 (n := 24) (gf := 226) (xs := pairs2 nm lk a b) (cap := .ip [.sl .str a, .sl .str b, .fun (.func nf) [] [], .fun (.func lf) [] []]) hA hC Tryz.func61 rfl rfl rfl rfl (by decide) ?_ rfl ?_ ?_
  (E0 := [(3, .bx 3 2 0), (4, .ip [.v (.string kind)]), (5, .ip [.sl .str a, .sl .str b, .fun (.func nf) [] [], .fun (.func lf) [] []])]) (E1 := [(3, .bx 3 2 0), (4, .ip [.v (.string kind)]), (10, .fn (.func 226) [] [.ip [.sl .str a, .sl .str b, .fun (.func nf) [] [], .fun (.func lf) [] []]])]) (S0 := [⟨3, 2, .box 24 [.os 1000 0 .str x0]⟩, ⟨1000, 0, .tok 9 .str (A.nlen .str x0)⟩]) rfl ?_ ?_
  (lineT A kind) x0 (fun acc gh => [⟨3, 2, .box 24 [.os 900 gh .str acc]⟩, ⟨900, gh, .tok 9 .str (A.nlen .str acc)⟩]) [(900, 1000, 0)] ⟨?_, ?_, ?_⟩ ?_ ?_
 ·have := A0s hA nf lf nm lk a b hn hl
  exact ⟨this.run⟩
 ·intro fn h
  cases h.symm.trans Tryz.func226
  exact ⟨rfl, rfl⟩
 ·exact ⟨_, Tryz.func226⟩
 ·unfold cxF
  generalize Tryz.prog = P
  cbv
  refine ⟨⟨by kernel_rfl⟩, ?_⟩
  (try (and_intros <;> (first | exact True.intro | rfl | (simp [get]; done) | (subst hA; rfl))))
 ·have h := twoAll_string (fun k => k == 4 || k == 5) nf lf a b
  unfold cxF at h ⊢
  generalize Tryz.prog = P at h ⊢
  cbv
  refine ⟨⟨by kernel_rfl⟩, ?_⟩
  refine CallK.mk _ rfl (fun _ => h) ?_
  cbv
  (try (and_intros <;> (first | exact True.intro | rfl | (simp [get]; done) | (subst hA; rfl))))
 ·cbv
 ·cbv
  (try (and_intros <;> (first | exact True.intro | rfl | (simp [get]; done) | (subst hA; rfl))))
 ·cbv
 ·rintro ⟨sg, nme⟩ acc gh g K Q hp hlt hK
  obtain ⟨k1, k2, k3, k4⟩ := hk _ hp
  have hap := ha acc (sg, nme) hlt
  unfold cxF
  generalize Tryz.prog = P
  cbv
  iterate 3 (refine ⟨⟨by kernel_rfl⟩, ?_⟩)
  refine ⟨k1, k2, k3, k4, hap, ?_⟩
  refine hK _ [(900, 22, g.succ.succ)] ⟨?_, ?_, ?_⟩
  ·cbv
  ·cbv
   subst hA
   cases acc <;> exact ⟨⟨rfl, True.intro⟩, rfl, True.intro⟩
  ·cbv
 ·intro gh g
  have hr : ∃ r : List ByteArray, (x0 ++ (pairs2 nm lk a b).map (lineT A kind)) = r := ⟨_, rfl⟩
  obtain ⟨r, hr⟩ := hr
  show code _ _ _ _ _ ⟨_, [⟨3, 2, .box 24 [.os 900 gh .str (x0 ++ (pairs2 nm lk a b).map (lineT A kind))]⟩, ⟨900, gh, .tok 9 .str (A.nlen .str (x0 ++ (pairs2 nm lk a b).map (lineT A kind)))⟩], g⟩
  simp only [hr]
  unfold cxF
  generalize Tryz.prog = P
  cbv
  refine ⟨⟨by kernel_rfl⟩, .inr True.intro, [(900, gh)], ?_⟩
  refine ⟨?_, ?_, ?_, ?_⟩
  all_goals (cbv; (try (and_intros <;> (first | exact True.intro | rfl | (simp [get]; done) | (subst hA; rfl)))))
theorem twoAll_Hours (fz : Nat → Bool) (nf lf : Nat) (a b : List Hours) : PFun (cxF fz) 147 [.ag [.d (.sl .hours a), .d (.sl .hours b), .fn (.func nf) [] [], .fn (.func lf) [] []]] (.fn (.func 227) [] [.ip [.sl .hours a, .sl .hours b, .fun (.func nf) [] [], .fun (.func lf) [] []]]) := by
 refine PFun.fz (a := fun k => k == 1) (PFun.walk (As5 _) Tryz.func147 rfl rfl rfl fun A P R hA hP hR => ?_)
 cbv
 refine ⟨⟨by kernel_rfl⟩, ⟨by kernel_rfl⟩, ?_⟩
 subst hR
 exact LeP.refl _
theorem Ayq {A : Ar} (hA : A = std) (nf lf : Nat) (nm : Hours → ByteArray) (lk : Hours → Hours → Bool) (x0 : List ByteArray) (kind : ByteArray) (a b : List Hours) (hn : ∀ x, PFun cx nf [Ac4 x] (st (nm x))) (hl : ∀ x ∈ a, ∀ y ∈ b, PFun cx lf [Ac4 x, Ac4 y] (bl (lk x y)))
  (hk : ∀ p ∈ pairs2 nm lk a b, Avo A kind p) (ha : ∀ (acc : List ByteArray) p, acc.length < (x0 : List ByteArray).length + (pairs2 nm lk a b).length → A.appOk TyS.str 16 acc [lineT A kind p]) :
  PFunM (cxF (fun k => k == 4 || k == 5)) 64 [.os 1000 0 .str x0, st kind, .ag [.d (.sl .hours a), .d (.sl .hours b), .fn (.func nf) [] [], .fn (.func lf) [] []]] [⟨1000, 0, .tok 9 .str (A.nlen .str x0)⟩] (.os 2000 1 .str (x0 ++ (pairs2 nm lk a b).map (lineT A kind))) [⟨2000, 1, .tok 9 .str (A.nlen .str (x0 ++ (pairs2 nm lk a b).map (lineT A kind)))⟩] := by
 have hC := As5 (fun k => k == 4 || k == 5)
 refine At5 (n := 24) (gf := 227) (xs := pairs2 nm lk a b) (cap := .ip [.sl .hours a, .sl .hours b, .fun (.func nf) [] [], .fun (.func lf) [] []]) hA hC Tryz.func64 rfl rfl rfl rfl (by decide) ?_ rfl ?_ ?_
  (E0 := [(3, .bx 3 2 0), (4, .ip [.v (.string kind)]), (5, .ip [.sl .hours a, .sl .hours b, .fun (.func nf) [] [], .fun (.func lf) [] []])]) (E1 := [(3, .bx 3 2 0), (4, .ip [.v (.string kind)]), (10, .fn (.func 227) [] [.ip [.sl .hours a, .sl .hours b, .fun (.func nf) [] [], .fun (.func lf) [] []]])]) (S0 := [⟨3, 2, .box 24 [.os 1000 0 .str x0]⟩, ⟨1000, 0, .tok 9 .str (A.nlen .str x0)⟩]) rfl ?_ ?_
  (lineT A kind) x0 (fun acc gh => [⟨3, 2, .box 24 [.os 900 gh .str acc]⟩, ⟨900, gh, .tok 9 .str (A.nlen .str acc)⟩]) [(900, 1000, 0)] ⟨?_, ?_, ?_⟩ ?_ ?_
 ·have := A2d hA nf lf nm lk a b hn hl
  exact ⟨this.run⟩
 ·intro fn h
  cases h.symm.trans Tryz.func227
  exact ⟨rfl, rfl⟩
 ·exact ⟨_, Tryz.func227⟩
 ·unfold cxF
  generalize Tryz.prog = P
  cbv
  refine ⟨⟨by kernel_rfl⟩, ?_⟩
  (try (and_intros <;> (first | exact True.intro | rfl | (simp [get]; done) | (subst hA; rfl))))
 ·have h := twoAll_Hours (fun k => k == 4 || k == 5) nf lf a b
  unfold cxF at h ⊢
  generalize Tryz.prog = P at h ⊢
  cbv
  refine ⟨⟨by kernel_rfl⟩, ?_⟩
  refine CallK.mk _ rfl (fun _ => h) ?_
  cbv
  (try (and_intros <;> (first | exact True.intro | rfl | (simp [get]; done) | (subst hA; rfl))))
 ·cbv
 ·cbv
  (try (and_intros <;> (first | exact True.intro | rfl | (simp [get]; done) | (subst hA; rfl))))
 ·cbv
 ·rintro ⟨sg, nme⟩ acc gh g K Q hp hlt hK
  obtain ⟨k1, k2, k3, k4⟩ := hk _ hp
  have hap := ha acc (sg, nme) hlt
  unfold cxF
  generalize Tryz.prog = P
  cbv
  iterate 3 (refine ⟨⟨by kernel_rfl⟩, ?_⟩)
  refine ⟨k1, k2, k3, k4, hap, ?_⟩
  refine hK _ [(900, 22, g.succ.succ)] ⟨?_, ?_, ?_⟩
  ·cbv
  ·cbv
   subst hA
   cases acc <;> exact ⟨⟨rfl, True.intro⟩, rfl, True.intro⟩
  ·cbv
 ·intro gh g
  have hr : ∃ r : List ByteArray, (x0 ++ (pairs2 nm lk a b).map (lineT A kind)) = r := ⟨_, rfl⟩
  obtain ⟨r, hr⟩ := hr
  show code _ _ _ _ _ ⟨_, [⟨3, 2, .box 24 [.os 900 gh .str (x0 ++ (pairs2 nm lk a b).map (lineT A kind))]⟩, ⟨900, gh, .tok 9 .str (A.nlen .str (x0 ++ (pairs2 nm lk a b).map (lineT A kind)))⟩], g⟩
  simp only [hr]
  unfold cxF
  generalize Tryz.prog = P
  cbv
  refine ⟨⟨by kernel_rfl⟩, .inr True.intro, [(900, gh)], ?_⟩
  refine ⟨?_, ?_, ?_, ?_⟩
  all_goals (cbv; (try (and_intros <;> (first | exact True.intro | rfl | (simp [get]; done) | (subst hA; rfl)))))
end Go.PL
