/- Contracts of the program's functions, first part. Conditions: those that each states (sizes). -/
import Derived.Test.YtmmpeenkjgnhbaaDoorLc
import Derived.Test.YtmmpeenkjgnhbaaDoorProg
import Derived.KernelRfl
import Derived.Lib.ItoaNum
import Derived.Shelf.RegionOpenPlain
import Derived.Lib.Strings
import Derived.Lib.Slices
import Derived.Lib.Walk
import Derived.Lib.UnsafeStr
import Derived.WalkKit
import Derived.Test.YtmmpeenkjgnhbaaDoorSh
/-! The Lean types of the slices' elements. Printed by gentypes.py. -/
namespace Go.PL
set_option linter.unusedSimpArgs false
set_option linter.unusedVariables false
set_option linter.unusedSectionVars false
open Tys (Ty U)
open Enc (sz enc dflt tb ofB toB)
open Dec (dec dok)
structure Deed where
  Kind : Int
  Nums : List Int
  Texts : List ByteArray
structure Plan where
  Format : Int
  Rules : ByteArray
  Routes : ByteArray
  Deeds : List Deed
inductive TyS where
  | int | byte | str | deed
  deriving DecidableEq
@[reducible] def US : TyS → Type
  | .int => Int
  | .byte => UInt8
  | .str => ByteArray
  | .deed => Deed
instance : Tys := ⟨TyS, US⟩
def szS : TyS → Nat
  | .int => 1
  | .byte => 1
  | .str => 1
  | .deed => 3
def encS : (t : TyS) → US t → List D
  | .int, x => [.v (.int .i64 x)]
  | .byte, x => [.v (.int .u8 ((x : UInt8).toNat : Int))]
  | .str, x => [.v (.string x)]
  | .deed, x => [.v (.int .i64 x.Kind), .sl .int x.Nums, .sl .str x.Texts]
def dfltS : (t : TyS) → US t
  | .int => 0
  | .byte => 0
  | .str => .empty
  | .deed => ⟨0, [], []⟩
instance : Enc where
  sz := szS
  enc := encS
  dflt := dfltS
  len t x := by cases t <;> rfl
  pos t := by cases t <;> decide
  tb := .byte
  ofB x := x
  toB x := x
  one t x d hd y hy := by subst hy; cases t <;> simp [encS] at hd <;> (try (repeat' (obtain hd | hd := (hd : _ ∨ _)))) <;> (subst hd; rfl)
  agF t x d hd ds := by intro e; subst e; cases t <;> simp [encS] at hd
  encB x := rfl
  toOf c := rfl
def castS (t t' : TyS) (xs : List (US t)) : Option (List (US t')) := if h : t = t' then some (h ▸ xs) else none
theorem castS_ok (t t' : TyS) (xs : List (US t)) (ys : List (US t')) (h : castS t t' xs = some ys) : (⟨t, xs⟩ : (t : TyS) × List (US t)) = ⟨t', ys⟩ := by
  unfold castS at h
  split at h
  · rename_i e; subst e; cases h; rfl
  · cases h
def slS (t : TyS) : D → Option (List (US t))
  | .v (.slice none 0 0) => some []
  | .sl t' xs => castS t' t xs
  | _ => none
def intS : D → Option Int
  | .v (.int .i64 n) => some n
  | _ => none
def u8S : D → Option UInt8
  | .v (.int .u8 n) => some (UInt8.ofNat n.toNat)
  | _ => none
def boolS : D → Option Bool
  | .v (.bool n) => some n
  | _ => none
def strS : D → Option ByteArray
  | .v (.string n) => some n
  | _ => none
theorem slS_ok {t : TyS} {d : D} {xs : List (US t)} (h : slS t d = some xs) {w : World} {Z : Nat → Nat → Prop} {y : Value} (hy : RD w Z y d) : RD w Z y (.sl t xs) := by
  unfold slS at h
  split at h
  · cases h; cases hy; exact .nil _ _ _
  · rename_i t' xs'
    have h1 := castS_ok _ _ _ _ h
    have h2 : (fun p : (t : TyS) × List (US t) => (D.sl p.1 p.2 : D)) ⟨t', xs'⟩ = (fun p : (t : TyS) × List (US t) => (D.sl p.1 p.2 : D)) ⟨t, xs⟩ := by rw [h1]
    have h3 : (D.sl t' xs' : D) = .sl t xs := h2
    rw [← h3]; exact hy
  · cases h
theorem intS_ok {d : D} {x : Int} (h : intS d = some x) : d = .v (.int .i64 x) := by
  unfold intS at h; split at h <;> cases h; rfl
theorem boolS_ok {d : D} {x : Bool} (h : boolS d = some x) : d = .v (.bool x) := by
  unfold boolS at h; split at h <;> cases h; rfl
theorem strS_ok {d : D} {x : ByteArray} (h : strS d = some x) : d = .v (.string x) := by
  unfold strS at h; split at h <;> cases h; rfl
def dec_int : List D → Option Int
  | [d0] =>
    match intS d0 with
    | none => none
    | some a0 =>
      some a0
  | _ => none
def dec_byte (f : Int → UInt8) : List D → Option UInt8
  | [.v (.int .u8 n)] => some (f n)
  | _ => none
def dok_byte (f : Int → Prop) : List D → Prop
  | [.v (.int .u8 n)] => f n
  | _ => True
def dec_str : List D → Option ByteArray
  | [d0] =>
    match strS d0 with
    | none => none
    | some a0 =>
      some a0
  | _ => none
def dec_deed : List D → Option Deed
  | [d0, d1, d2] =>
    match intS d0 with
    | none => none
    | some a0 =>
      match slS .int d1 with
      | none => none
      | some a1 =>
        match slS .str d2 with
        | none => none
        | some a2 =>
          some ⟨a0, a1, a2⟩
  | _ => none
theorem dec_int_ok (ds : List D) (x : US .int) (h : dec_int ds = some x) : ds.length = szS .int ∧ ∀ (w : World) (Z : Nat → Nat → Prop) (i : Nat) (y : Value) (d d' : D), ds[i]? = some d → (encS .int x)[i]? = some d' → RD w Z y d → RD w Z y d' := by
  unfold dec_int at h
  split at h
  · rename_i d0
    split at h
    · cases h
    rename_i a0 h0
    cases h
    refine ⟨rfl, fun w Z i y d d' hd he hy => ?_⟩
    rcases i with _ | i
    · cases hd; cases he; rw [← intS_ok h0]; exact hy
    cases hd
  · cases h
theorem dec_byte_ok (ds : List D) (x : UInt8) (h : dec_byte (fun n => UInt8.ofNat n.toNat) ds = some x) : ds.length = 1 ∧ (dok_byte (fun n => 0 ≤ n ∧ n < 256) ds → ds = encS .byte x) := by
  unfold dec_byte at h
  split at h
  · rename_i n
    cases h
    refine ⟨rfl, fun hn => ?_⟩
    simp only [dok_byte] at hn
    have h1 : (UInt8.ofNat n.toNat).toNat = n.toNat := by simp; omega
    simp only [encS, h1]
    congr 3; omega
  · cases h
theorem dec_str_ok (ds : List D) (x : US .str) (h : dec_str ds = some x) : ds.length = szS .str ∧ ∀ (w : World) (Z : Nat → Nat → Prop) (i : Nat) (y : Value) (d d' : D), ds[i]? = some d → (encS .str x)[i]? = some d' → RD w Z y d → RD w Z y d' := by
  unfold dec_str at h
  split at h
  · rename_i d0
    split at h
    · cases h
    rename_i a0 h0
    cases h
    refine ⟨rfl, fun w Z i y d d' hd he hy => ?_⟩
    rcases i with _ | i
    · cases hd; cases he; rw [← strS_ok h0]; exact hy
    cases hd
  · cases h
theorem dec_deed_ok (ds : List D) (x : US .deed) (h : dec_deed ds = some x) : ds.length = szS .deed ∧ ∀ (w : World) (Z : Nat → Nat → Prop) (i : Nat) (y : Value) (d d' : D), ds[i]? = some d → (encS .deed x)[i]? = some d' → RD w Z y d → RD w Z y d' := by
  unfold dec_deed at h
  split at h
  · rename_i d0 d1 d2
    split at h
    · cases h
    rename_i a0 h0
    split at h
    · cases h
    rename_i a1 h1
    split at h
    · cases h
    rename_i a2 h2
    cases h
    refine ⟨rfl, fun w Z i y d d' hd he hy => ?_⟩
    rcases i with _ | i
    · cases hd; cases he; rw [← intS_ok h0]; exact hy
    rcases i with _ | i
    · cases hd; cases he; exact slS_ok h1 hy
    rcases i with _ | i
    · cases hd; cases he; exact slS_ok h2 hy
    cases hd
  · cases h
def decS (f : Int → UInt8) : (t : TyS) → List D → Option (US t)
  | .int => dec_int
  | .byte => dec_byte f
  | .str => dec_str
  | .deed => dec_deed
def dokS (f : Int → Prop) : TyS → List D → Prop
  | .byte => dok_byte f
  | _ => fun _ => True
instance : Dec where
  dec := decS
  dok := dokS
  dec_ok t ds x h := by
    cases t
    · obtain ⟨h1, h2⟩ := dec_int_ok ds x h; exact ⟨h1, fun _ => h2⟩
    · obtain ⟨h1, h2⟩ := dec_byte_ok ds x h; exact ⟨h1, fun hok w Z i y d d' hd he hy => by have h3 := h2 hok; subst h3; rw [show enc _ x = encS .byte x from rfl, hd] at he; cases he; exact hy⟩
    · obtain ⟨h1, h2⟩ := dec_str_ok ds x h; exact ⟨h1, fun _ => h2⟩
    · obtain ⟨h1, h2⟩ := dec_deed_ok ds x h; exact ⟨h1, fun _ => h2⟩
  cast := castS
  cast_ok := castS_ok
end Go.PL
/-! The seat's tables. Printed by gentab.py. -/
namespace Go.PL
set_option linter.unusedSimpArgs false
set_option linter.unusedVariables false
set_option linter.unusedSectionVars false
open Tys (Ty U)
open Enc (sz enc dflt tb ofB toB)
open Dec (dec dok)
open Go.Proofs
theorem TOk.mk0 {P : Program} {t : TypeId} {r : TR} {i : TypeInfo} {d : TypeDesc} {z : Value} (h1 : P.types[t]? = some i) (h2 : P.underlying t = some d) (h3 : i.size = r.size) (h4 : i.bytes = r.bytes) (h5 : i.zero = some z) (h6 : z.cells.toList = r.zero) (h7 : KOk d r.k) (h8 : r.zero.length = r.size := by rfl) (h9 : i.zero = some (zeroV r) := by rfl) : TOk P t r :=
  ⟨i, d, (by have hlt : t < P.types.size := (Array.getElem?_eq_some_iff.1 h1).1; rw [Tables.info?.eq_1, if_pos hlt]; exact h1), h2, h3, ⟨h4, h8, h9⟩, ⟨z, h5, h6⟩, h7⟩
noncomputable def tiS : TypeId → Option TR
  | 0 => some ⟨.other, 1, 0, [Value.tuple #[]]⟩
  | 2 => some ⟨.int .i64, 1, 8, [Value.int IntKind.i64 0]⟩
  | 3 => some ⟨.int .i64, 1, 8, [Value.int IntKind.i64 0]⟩
  | 4 => some ⟨.bool, 1, 1, [Value.bool false]⟩
  | 5 => some ⟨.int .u8, 1, 1, [Value.int IntKind.u8 0]⟩
  | 6 => some ⟨.int .u8, 1, 1, [Value.int IntKind.u8 0]⟩
  | 7 => some ⟨.struct [(0, 2), (1, 3), (2, 4), (3, 6)], 4, 24, [Value.int IntKind.i64 0, Value.int IntKind.i64 0, Value.bool false, Value.int IntKind.u8 0]⟩
  | 8 => some ⟨.struct [(0, 2), (1, 3), (2, 4), (3, 6)], 4, 24, [Value.int IntKind.i64 0, Value.int IntKind.i64 0, Value.bool false, Value.int IntKind.u8 0]⟩
  | 9 => some ⟨.string, 1, 16, [Value.string { data := #[] }]⟩
  | 10 => some ⟨.string, 1, 16, [Value.string { data := #[] }]⟩
  | 11 => some ⟨.string, 1, 16, [Value.string { data := #[] }]⟩
  | 12 => some ⟨.int .u64, 1, 8, [Value.int IntKind.u64 0]⟩
  | 13 => some ⟨.struct [(0, 9), (1, 12)], 2, 24, [Value.string { data := #[] }, Value.int IntKind.u64 0]⟩
  | 14 => some ⟨.struct [(0, 9), (1, 12)], 2, 24, [Value.string { data := #[] }, Value.int IntKind.u64 0]⟩
  | 15 => some ⟨.ptr 121, 1, 8, [Value.pointer none]⟩
  | 16 => some ⟨.ptr 124, 1, 8, [Value.pointer none]⟩
  | 17 => some ⟨.ptr 132, 1, 8, [Value.pointer none]⟩
  | 18 => some ⟨.struct [(0, 17)], 1, 8, [Value.pointer none]⟩
  | 19 => some ⟨.struct [(0, 17)], 1, 8, [Value.pointer none]⟩
  | 21 => some ⟨.int .i32, 1, 4, [Value.int IntKind.i32 0]⟩
  | 22 => some ⟨.slice 42, 1, 24, [Value.slice none 0 0]⟩
  | 23 => some ⟨.struct [(0, 3), (1, 9), (2, 9), (3, 22)], 4, 64, [Value.int IntKind.i64 0, Value.string { data := #[] }, Value.string { data := #[] }, Value.slice none 0 0]⟩
  | 24 => some ⟨.struct [(0, 3), (1, 9), (2, 9), (3, 22)], 4, 64, [Value.int IntKind.i64 0, Value.string { data := #[] }, Value.string { data := #[] }, Value.slice none 0 0]⟩
  | 26 => some ⟨.int .i64, 1, 8, [Value.int IntKind.i64 0]⟩
  | 27 => some ⟨.other, 1, 0, [Value.tuple #[Value.string { data := #[] }, Value.int IntKind.i64 0]]⟩
  | 29 => some ⟨.other, 1, 0, [Value.tuple #[Value.agg #[Value.int IntKind.i64 0, Value.string { data := #[] }, Value.string { data := #[] }, Value.slice none 0 0], Value.int IntKind.i64 0, Value.int IntKind.i64 0]]⟩
  | 36 => some ⟨.other, 1, 0, [Value.tuple #[Value.agg #[Value.int IntKind.i64 0, Value.string { data := #[] }, Value.string { data := #[] }, Value.slice none 0 0], Value.int IntKind.i64 0]]⟩
  | 39 => some ⟨.slice 3, 1, 24, [Value.slice none 0 0]⟩
  | 40 => some ⟨.slice 9, 1, 24, [Value.slice none 0 0]⟩
  | 41 => some ⟨.struct [(0, 3), (1, 39), (2, 40)], 3, 56, [Value.int IntKind.i64 0, Value.slice none 0 0, Value.slice none 0 0]⟩
  | 42 => some ⟨.struct [(0, 3), (1, 39), (2, 40)], 3, 56, [Value.int IntKind.i64 0, Value.slice none 0 0, Value.slice none 0 0]⟩
  | 47 => some ⟨.ptr 50, 1, 8, [Value.pointer none]⟩
  | 48 => some ⟨.slice 5, 1, 24, [Value.slice none 0 0]⟩
  | 49 => some ⟨.struct [(0, 47), (1, 48)], 2, 32, [Value.pointer none, Value.slice none 0 0]⟩
  | 50 => some ⟨.struct [(0, 47), (1, 48)], 2, 32, [Value.pointer none, Value.slice none 0 0]⟩
  | 53 => some ⟨.other, 1, 0, [Value.tuple #[Value.int IntKind.i64 0, Value.nilIface]]⟩
  | 56 => some ⟨.struct [(0, 9), (1, 3), (2, 3)], 3, 32, [Value.string { data := #[] }, Value.int IntKind.i64 0, Value.int IntKind.i64 0]⟩
  | 57 => some ⟨.struct [(0, 9), (1, 3), (2, 3)], 3, 32, [Value.string { data := #[] }, Value.int IntKind.i64 0, Value.int IntKind.i64 0]⟩
  | 58 => some ⟨.map 3 57, 1, 8, [Value.map none]⟩
  | 61 => some ⟨.other, 1, 0, [Value.tuple #[Value.string { data := #[] }, Value.string { data := #[] }, Value.bool false]]⟩
  | 63 => some ⟨.other, 1, 0, [Value.tuple #[Value.agg #[Value.int IntKind.i64 0, Value.string { data := #[] }, Value.string { data := #[] }, Value.slice none 0 0], Value.bool false]]⟩
  | 65 => some ⟨.other, 1, 0, [Value.tuple #[Value.agg #[Value.int IntKind.i64 0, Value.slice none 0 0, Value.slice none 0 0], Value.bool false]]⟩
  | 77 => some ⟨.int .u64, 1, 8, [Value.int IntKind.u64 0]⟩
  | 78 => some ⟨.ptr 5, 1, 8, [Value.pointer none]⟩
  | 83 => some ⟨.other, 1, 0, [Value.tuple #[Value.agg #[Value.string { data := #[] }, Value.int IntKind.i64 0, Value.int IntKind.i64 0], Value.bool false]]⟩
  | 88 => some ⟨.other, 1, 0, [Value.tuple #[Value.string { data := #[] }, Value.bool false]]⟩
  | 90 => some ⟨.uns, 1, 8, [Value.pointer none]⟩
  | 98 => some ⟨.array 24 5, 24, 24, [Value.int IntKind.u8 0, Value.int IntKind.u8 0, Value.int IntKind.u8 0, Value.int IntKind.u8 0, Value.int IntKind.u8 0, Value.int IntKind.u8 0, Value.int IntKind.u8 0, Value.int IntKind.u8 0, Value.int IntKind.u8 0, Value.int IntKind.u8 0, Value.int IntKind.u8 0, Value.int IntKind.u8 0, Value.int IntKind.u8 0, Value.int IntKind.u8 0, Value.int IntKind.u8 0, Value.int IntKind.u8 0, Value.int IntKind.u8 0, Value.int IntKind.u8 0, Value.int IntKind.u8 0, Value.int IntKind.u8 0, Value.int IntKind.u8 0, Value.int IntKind.u8 0, Value.int IntKind.u8 0, Value.int IntKind.u8 0]⟩
  | 99 => some ⟨.int .u64, 1, 8, [Value.int IntKind.u64 0]⟩
  | 102 => some ⟨.other, 1, 0, [Value.tuple #[Value.slice none 0 0, Value.string { data := #[] }]]⟩
  | 104 => some ⟨.int .u32, 1, 4, [Value.int IntKind.u32 0]⟩
  | 105 => some ⟨.other, 1, 0, [Value.tuple #[Value.int IntKind.u32 0, Value.int IntKind.u32 0]]⟩
  | 107 => some ⟨.other, 1, 0, [Value.tuple #[Value.int IntKind.i32 0, Value.int IntKind.i64 0]]⟩
  | 110 => some ⟨.array 20 99, 20, 160, [Value.int IntKind.u64 0, Value.int IntKind.u64 0, Value.int IntKind.u64 0, Value.int IntKind.u64 0, Value.int IntKind.u64 0, Value.int IntKind.u64 0, Value.int IntKind.u64 0, Value.int IntKind.u64 0, Value.int IntKind.u64 0, Value.int IntKind.u64 0, Value.int IntKind.u64 0, Value.int IntKind.u64 0, Value.int IntKind.u64 0, Value.int IntKind.u64 0, Value.int IntKind.u64 0, Value.int IntKind.u64 0, Value.int IntKind.u64 0, Value.int IntKind.u64 0, Value.int IntKind.u64 0, Value.int IntKind.u64 0]⟩
  | 115 => some ⟨.struct [(0, 5), (1, 5)], 2, 2, [Value.int IntKind.u8 0, Value.int IntKind.u8 0]⟩
  | 116 => some ⟨.struct [(0, 5), (1, 5)], 2, 2, [Value.int IntKind.u8 0, Value.int IntKind.u8 0]⟩
  | 117 => some ⟨.array 16 116, 32, 32, [Value.int IntKind.u8 0, Value.int IntKind.u8 0, Value.int IntKind.u8 0, Value.int IntKind.u8 0, Value.int IntKind.u8 0, Value.int IntKind.u8 0, Value.int IntKind.u8 0, Value.int IntKind.u8 0, Value.int IntKind.u8 0, Value.int IntKind.u8 0, Value.int IntKind.u8 0, Value.int IntKind.u8 0, Value.int IntKind.u8 0, Value.int IntKind.u8 0, Value.int IntKind.u8 0, Value.int IntKind.u8 0, Value.int IntKind.u8 0, Value.int IntKind.u8 0, Value.int IntKind.u8 0, Value.int IntKind.u8 0, Value.int IntKind.u8 0, Value.int IntKind.u8 0, Value.int IntKind.u8 0, Value.int IntKind.u8 0, Value.int IntKind.u8 0, Value.int IntKind.u8 0, Value.int IntKind.u8 0, Value.int IntKind.u8 0, Value.int IntKind.u8 0, Value.int IntKind.u8 0, Value.int IntKind.u8 0, Value.int IntKind.u8 0]⟩
  | 118 => some ⟨.array 32 5, 32, 32, [Value.int IntKind.u8 0, Value.int IntKind.u8 0, Value.int IntKind.u8 0, Value.int IntKind.u8 0, Value.int IntKind.u8 0, Value.int IntKind.u8 0, Value.int IntKind.u8 0, Value.int IntKind.u8 0, Value.int IntKind.u8 0, Value.int IntKind.u8 0, Value.int IntKind.u8 0, Value.int IntKind.u8 0, Value.int IntKind.u8 0, Value.int IntKind.u8 0, Value.int IntKind.u8 0, Value.int IntKind.u8 0, Value.int IntKind.u8 0, Value.int IntKind.u8 0, Value.int IntKind.u8 0, Value.int IntKind.u8 0, Value.int IntKind.u8 0, Value.int IntKind.u8 0, Value.int IntKind.u8 0, Value.int IntKind.u8 0, Value.int IntKind.u8 0, Value.int IntKind.u8 0, Value.int IntKind.u8 0, Value.int IntKind.u8 0, Value.int IntKind.u8 0, Value.int IntKind.u8 0, Value.int IntKind.u8 0, Value.int IntKind.u8 0]⟩
  | 120 => some ⟨.struct [(0, 17), (1, 17), (2, 17), (3, 9)], 4, 40, [Value.pointer none, Value.pointer none, Value.pointer none, Value.string { data := #[] }]⟩
  | 121 => some ⟨.struct [(0, 17), (1, 17), (2, 17), (3, 9)], 4, 40, [Value.pointer none, Value.pointer none, Value.pointer none, Value.string { data := #[] }]⟩
  | 122 => some ⟨.array 0 16, 0, 0, []⟩
  | 123 => some ⟨.struct [(0, 122)], 0, 0, []⟩
  | 124 => some ⟨.struct [(0, 122)], 0, 0, []⟩
  | 126 => some ⟨.int .u8, 1, 1, [Value.int IntKind.u8 0]⟩
  | 127 => some ⟨.int .u8, 1, 1, [Value.int IntKind.u8 0]⟩
  | 129 => some ⟨.int .i32, 1, 4, [Value.int IntKind.i32 0]⟩
  | 130 => some ⟨.int .i32, 1, 4, [Value.int IntKind.i32 0]⟩
  | 131 => some ⟨.struct [(0, 12), (1, 12), (2, 104), (3, 126), (4, 5), (5, 5), (6, 127), (7, 128), (8, 78), (9, 129), (10, 130)], 11, 48, [Value.int IntKind.u64 0, Value.int IntKind.u64 0, Value.int IntKind.u32 0, Value.int IntKind.u8 0, Value.int IntKind.u8 0, Value.int IntKind.u8 0, Value.int IntKind.u8 0, Value.nilFunc, Value.pointer none, Value.int IntKind.i32 0, Value.int IntKind.i32 0]⟩
  | 132 => some ⟨.struct [(0, 12), (1, 12), (2, 104), (3, 126), (4, 5), (5, 5), (6, 127), (7, 128), (8, 78), (9, 129), (10, 130)], 11, 48, [Value.int IntKind.u64 0, Value.int IntKind.u64 0, Value.int IntKind.u32 0, Value.int IntKind.u8 0, Value.int IntKind.u8 0, Value.int IntKind.u8 0, Value.int IntKind.u8 0, Value.nilFunc, Value.pointer none, Value.int IntKind.i32 0, Value.int IntKind.i32 0]⟩
  | _ => none
theorem tiS_ok (t : TypeId) (r : TR) (h : tiS t = some r) : TOk Tryd.prog t r := by
  unfold tiS at h
  split at h
  · cases h; exact TOk.mk0 Tryd.type0 Tryd.underlying0 rfl rfl rfl rfl trivial
  · cases h; exact TOk.mk0 Tryd.type2 Tryd.underlying2 rfl rfl rfl rfl rfl
  · cases h; exact TOk.mk0 Tryd.type3 Tryd.underlying3 rfl rfl rfl rfl rfl
  · cases h; exact TOk.mk0 Tryd.type4 Tryd.underlying4 rfl rfl rfl rfl trivial
  · cases h; exact TOk.mk0 Tryd.type5 Tryd.underlying5 rfl rfl rfl rfl rfl
  · cases h; exact TOk.mk0 Tryd.type6 Tryd.underlying6 rfl rfl rfl rfl rfl
  · cases h; exact TOk.mk0 Tryd.type7 Tryd.underlying7 rfl rfl rfl rfl rfl
  · cases h; exact TOk.mk0 Tryd.type8 Tryd.underlying8 rfl rfl rfl rfl rfl
  · cases h; exact TOk.mk0 Tryd.type9 Tryd.underlying9 rfl rfl rfl rfl trivial
  · cases h; exact TOk.mk0 Tryd.type10 Tryd.underlying10 rfl rfl rfl rfl trivial
  · cases h; exact TOk.mk0 Tryd.type11 Tryd.underlying11 rfl rfl rfl rfl trivial
  · cases h; exact TOk.mk0 Tryd.type12 Tryd.underlying12 rfl rfl rfl rfl rfl
  · cases h; exact TOk.mk0 Tryd.type13 Tryd.underlying13 rfl rfl rfl rfl rfl
  · cases h; exact TOk.mk0 Tryd.type14 Tryd.underlying14 rfl rfl rfl rfl rfl
  · cases h; exact TOk.mk0 Tryd.type15 Tryd.underlying15 rfl rfl rfl rfl rfl
  · cases h; exact TOk.mk0 Tryd.type16 Tryd.underlying16 rfl rfl rfl rfl rfl
  · cases h; exact TOk.mk0 Tryd.type17 Tryd.underlying17 rfl rfl rfl rfl rfl
  · cases h; exact TOk.mk0 Tryd.type18 Tryd.underlying18 rfl rfl rfl rfl rfl
  · cases h; exact TOk.mk0 Tryd.type19 Tryd.underlying19 rfl rfl rfl rfl rfl
  · cases h; exact TOk.mk0 Tryd.type21 Tryd.underlying21 rfl rfl rfl rfl rfl
  · cases h; exact TOk.mk0 Tryd.type22 Tryd.underlying22 rfl rfl rfl rfl rfl
  · cases h; exact TOk.mk0 Tryd.type23 Tryd.underlying23 rfl rfl rfl rfl rfl
  · cases h; exact TOk.mk0 Tryd.type24 Tryd.underlying24 rfl rfl rfl rfl rfl
  · cases h; exact TOk.mk0 Tryd.type26 Tryd.underlying26 rfl rfl rfl rfl rfl
  · cases h; exact TOk.mk0 Tryd.type27 Tryd.underlying27 rfl rfl rfl rfl trivial
  · cases h; exact TOk.mk0 Tryd.type29 Tryd.underlying29 rfl rfl rfl rfl trivial
  · cases h; exact TOk.mk0 Tryd.type36 Tryd.underlying36 rfl rfl rfl rfl trivial
  · cases h; exact TOk.mk0 Tryd.type39 Tryd.underlying39 rfl rfl rfl rfl rfl
  · cases h; exact TOk.mk0 Tryd.type40 Tryd.underlying40 rfl rfl rfl rfl rfl
  · cases h; exact TOk.mk0 Tryd.type41 Tryd.underlying41 rfl rfl rfl rfl rfl
  · cases h; exact TOk.mk0 Tryd.type42 Tryd.underlying42 rfl rfl rfl rfl rfl
  · cases h; exact TOk.mk0 Tryd.type47 Tryd.underlying47 rfl rfl rfl rfl rfl
  · cases h; exact TOk.mk0 Tryd.type48 Tryd.underlying48 rfl rfl rfl rfl rfl
  · cases h; exact TOk.mk0 Tryd.type49 Tryd.underlying49 rfl rfl rfl rfl rfl
  · cases h; exact TOk.mk0 Tryd.type50 Tryd.underlying50 rfl rfl rfl rfl rfl
  · cases h; exact TOk.mk0 Tryd.type53 Tryd.underlying53 rfl rfl rfl rfl trivial
  · cases h; exact TOk.mk0 Tryd.type56 Tryd.underlying56 rfl rfl rfl rfl rfl
  · cases h; exact TOk.mk0 Tryd.type57 Tryd.underlying57 rfl rfl rfl rfl rfl
  · cases h; exact TOk.mk0 Tryd.type58 Tryd.underlying58 rfl rfl rfl rfl ⟨rfl, rfl⟩
  · cases h; exact TOk.mk0 Tryd.type61 Tryd.underlying61 rfl rfl rfl rfl trivial
  · cases h; exact TOk.mk0 Tryd.type63 Tryd.underlying63 rfl rfl rfl rfl trivial
  · cases h; exact TOk.mk0 Tryd.type65 Tryd.underlying65 rfl rfl rfl rfl trivial
  · cases h; exact TOk.mk0 Tryd.type77 Tryd.underlying77 rfl rfl rfl rfl rfl
  · cases h; exact TOk.mk0 Tryd.type78 Tryd.underlying78 rfl rfl rfl rfl rfl
  · cases h; exact TOk.mk0 Tryd.type83 Tryd.underlying83 rfl rfl rfl rfl trivial
  · cases h; exact TOk.mk0 Tryd.type88 Tryd.underlying88 rfl rfl rfl rfl trivial
  · cases h; exact TOk.mk0 Tryd.type90 Tryd.underlying90 rfl rfl rfl rfl trivial
  · cases h; exact TOk.mk0 Tryd.type98 Tryd.underlying98 rfl rfl rfl rfl ⟨rfl, rfl⟩
  · cases h; exact TOk.mk0 Tryd.type99 Tryd.underlying99 rfl rfl rfl rfl rfl
  · cases h; exact TOk.mk0 Tryd.type102 Tryd.underlying102 rfl rfl rfl rfl trivial
  · cases h; exact TOk.mk0 Tryd.type104 Tryd.underlying104 rfl rfl rfl rfl rfl
  · cases h; exact TOk.mk0 Tryd.type105 Tryd.underlying105 rfl rfl rfl rfl trivial
  · cases h; exact TOk.mk0 Tryd.type107 Tryd.underlying107 rfl rfl rfl rfl trivial
  · cases h; exact TOk.mk0 Tryd.type110 Tryd.underlying110 rfl rfl rfl rfl ⟨rfl, rfl⟩
  · cases h; exact TOk.mk0 Tryd.type115 Tryd.underlying115 rfl rfl rfl rfl rfl
  · cases h; exact TOk.mk0 Tryd.type116 Tryd.underlying116 rfl rfl rfl rfl rfl
  · cases h; exact TOk.mk0 Tryd.type117 Tryd.underlying117 rfl rfl rfl rfl ⟨rfl, rfl⟩
  · cases h; exact TOk.mk0 Tryd.type118 Tryd.underlying118 rfl rfl rfl rfl ⟨rfl, rfl⟩
  · cases h; exact TOk.mk0 Tryd.type120 Tryd.underlying120 rfl rfl rfl rfl rfl
  · cases h; exact TOk.mk0 Tryd.type121 Tryd.underlying121 rfl rfl rfl rfl rfl
  · cases h; exact TOk.mk0 Tryd.type122 Tryd.underlying122 rfl rfl rfl rfl ⟨rfl, rfl⟩
  · cases h; exact TOk.mk0 Tryd.type123 Tryd.underlying123 rfl rfl rfl rfl rfl
  · cases h; exact TOk.mk0 Tryd.type124 Tryd.underlying124 rfl rfl rfl rfl rfl
  · cases h; exact TOk.mk0 Tryd.type126 Tryd.underlying126 rfl rfl rfl rfl rfl
  · cases h; exact TOk.mk0 Tryd.type127 Tryd.underlying127 rfl rfl rfl rfl rfl
  · cases h; exact TOk.mk0 Tryd.type129 Tryd.underlying129 rfl rfl rfl rfl rfl
  · cases h; exact TOk.mk0 Tryd.type130 Tryd.underlying130 rfl rfl rfl rfl rfl
  · cases h; exact TOk.mk0 Tryd.type131 Tryd.underlying131 rfl rfl rfl rfl rfl
  · cases h; exact TOk.mk0 Tryd.type132 Tryd.underlying132 rfl rfl rfl rfl rfl
  · cases h
def etyS : TypeId → Option Ty
  | 3 => some .int
  | 5 => some .byte
  | 9 => some .str
  | 42 => some .deed
  | 26 => some .int
  | _ => none
end Go.PL
namespace Go.PL
set_option linter.unusedSimpArgs false
set_option linter.unusedVariables false
set_option linter.unusedSectionVars false
open Tys (Ty U)
open Enc (sz enc dflt tb ofB toB)
open Dec (dec dok)
open Go.Proofs
def liesS : TypeId → Bool
  | 50 => true
  | _ => false
/-- what the package-level variables hold: internal/bytealg.MaxLen is some number -/
class GM where
  m : Int
  tab : Bool
def gtS [GM] : Nat → Option (List D)
  | 0 => some [.v (.int .i64 GM.m)]
  | 1 => match GM.tab with
    | true => some (Lib.pow10Tab.map fun z => .v (.int .u64 z))
    | false => none
  | _ => none
noncomputable def cx [GM] : Ctx := ⟨Tryd.prog, tiS, etyS, gtS, liesS⟩
variable [GM]
theorem cx_ok : cx.OK where
  ti := tiS_ok
  ety e t h := by
    unfold cx etyS at h
    simp only at h
    split at h <;> cases h <;> exact ⟨_, rfl, rfl⟩
  mixed := by kernel_rfl
  lies t h := by
    unfold cx liesS at h
    simp only at h
    split at h
    · exact ⟨_, rfl, by kernel_rfl⟩
    · cases h
def planPV (p : Plan) : PV := .ag [it .i64 p.Format, st p.Rules, st p.Routes, .d (.sl .deed p.Deeds)]
def deedPV (p : Deed) : PV := .ag [it .i64 p.Kind, .d (.sl .int p.Nums), .d (.sl .str p.Texts)]
end Go.PL
namespace Go.PL
set_option linter.unusedSimpArgs false
set_option linter.unusedVariables false
set_option linter.unusedSectionVars false
open Tys (Ty U)
open Enc (sz enc dflt tb ofB toB)
open Dec (dec dok)
set_option maxRecDepth 100000
open Go.Proofs
variable [GM]
theorem ofB_id (l : List UInt8) : List.map (ofB : UInt8 → U tb) l = l := List.map_id l
theorem toB_id (l : List UInt8) : List.map (toB : U tb → UInt8) l = l := List.map_id l
def nilP : PV := .d (.v (.pointer none))
def nilS : PV := .d (.v (.slice none 0 0))
/-- a builder that is fresh; one that has been written on -/
def bFresh : List En := [⟨1000, 0, .box 50 [nilP, nilS]⟩]
def bUsed (bs : List UInt8) (n : Nat) : List En := [⟨1000, 0, .box 50 [.bx 1000 0 0, .os 1001 0 .byte bs]⟩, ⟨1001, 0, .tok 5 .byte n⟩]
def bNew (bs : List UInt8) (n : Nat) : List En := [⟨1000, 0, .box 50 [.bx 1000 0 0, .os 2000 1 .byte bs]⟩, ⟨2000, 1, .tok 5 .byte n⟩]

theorem noEscape_run (x : Value) (w : World) : (callFunc 59 #[x]).run Tryd.prog w = .ok (.value x) w := by
  rw [run_callFunc_extern Tryd.func59 (by kernel_rfl) (by kernel_rfl) (by kernel_rfl) (e := Extern.AbiNoEscape.same) (by kernel_rfl)]
  rfl
theorem noEscape_ok (c : Cell) : PFunM cx 59 [.bx 1000 0 0] [⟨1000, 0, c⟩] (.bx 1000 0 0) [⟨1000, 0, c⟩] := by
  refine ⟨fun μ w Z vals hv hw hg hno => .inr ?_⟩
  have h1 := hv.1
  match vals, h1 with
  | [x], _ => exact ⟨x, w, noEscape_run x w, x, μ, Z, rfl, hv.2 0 x _ rfl rfl, hw, .refl⟩

theorem copyCheck_U (bs : List UInt8) (n : Nat) : PFunM cx 42 [.bx 1000 0 0] (bUsed bs n) (.tu []) (bUsed bs n) := by
  refine PFunM.walk cx_ok Tryd.func42 rfl rfl fun A P R hA hP hR => ?_
  cbv
  refine hR _ _ ⟨[], ?_, ?_, ?_, ?_⟩ <;> cbv
theorem copyCheck_F : PFunM cx 42 [.bx 1000 0 0] bFresh (.tu []) [⟨1000, 0, .box 50 [.bx 1000 0 0, nilS]⟩] := by
  refine PFunM.walk cx_ok Tryd.func42 rfl rfl fun A P R hA hP hR => ?_
  cbv
  refine CallK.mem 10 rfl rfl [(1000, 0)] [.bx 1000 0 0] _ (.bx 1000 0 0) _ (fun _ => by rw [hP]; exact noEscape_ok (.box 50 [nilP, nilS])) ?_ ?_ ?_ ?_ ?_ ?_
  · cbv
  · intro _; cbv
  · cbv; simp
  · cbv
  · cbv
  cbv
  refine hR _ _ ⟨[], ?_, ?_, ?_, ?_⟩ <;> cbv; simp
theorem WriteString_F (s : ByteArray) (bs' : List UInt8) (n' : Nat) (h1 : bs' = s.data.toList) (h2 : n' = bs'.length) (hs : s.size ≤ 70368744177664) : PFunM cx 19 [.bx 1000 0 0, st s] bFresh (.tu [it .i64 s.size, .d (.v .nilIface)]) (bNew bs' n') := by
  refine PFunM.walk cx_ok Tryd.func19 rfl rfl fun A P R hA hP hR => ?_
  obtain ⟨m, hm⟩ : ∃ m : Int, m = s.size := ⟨_, rfl⟩
  rw [← hm] at hR
  cbv
  refine CallK.mem 7 rfl rfl [(1000, 0)] [.bx 1000 0 0] _ (.tu []) _ (fun _ => by rw [hP]; exact copyCheck_F) ?_ ?_ ?_ ?_ ?_ ?_
  · cbv
  · intro _; cbv
  · cbv; simp
  · cbv
  · cbv
  cbv
  refine ⟨?_, hR _ _ ⟨[(14, 4)], ?_, ?_, ?_, ?_⟩⟩
  · subst hA; simp [std]; omega
  · cbv
  · cbv; subst hA; simp [std, hm]
  · cbv
  · cbv; subst hA; simp [std, h1, h2, ofB_id]; try rfl
theorem WriteString_U (bs : List UInt8) (n : Nat) (s : ByteArray) (bs' : List UInt8) (n' : Nat) (hn : n = bs.length) (h1 : bs' = bs ++ s.data.toList) (h2 : n' = bs'.length) (hs : n' ≤ 70368744177664) : PFunM cx 19 [.bx 1000 0 0, st s] (bUsed bs n) (.tu [it .i64 s.size, .d (.v .nilIface)]) (bNew bs' n') := by
  have hl : bs.length + s.size = n' := by rw [h2, h1]; simp
  refine PFunM.walk cx_ok Tryd.func19 rfl rfl fun A P R hA hP hR => ?_
  obtain ⟨m, hm⟩ : ∃ m : Int, m = s.size := ⟨_, rfl⟩
  rw [← hm] at hR
  cbv
  refine CallK.mem 7 rfl rfl [(1000, 0), (1001, 0)] [.bx 1000 0 0] _ (.tu []) _ (fun _ => by rw [hP]; exact copyCheck_U bs n) ?_ ?_ ?_ ?_ ?_ ?_
  · cbv
  · intro _; cbv
  · cbv
  · cbv
  · cbv
  cbv
  refine ⟨?_, ?_, hR _ _ ⟨[(14, 4)], ?_, ?_, ?_, ?_⟩⟩
  · subst hA; simp [std, hn]
  · subst hA; simp [std]; omega
  · cbv
  · cbv; subst hA; simp [std, hm]
  · cbv
  · cbv; subst hA; simp [std, h1, h2, ofB_id]; try rfl
theorem WriteByte_U (bs : List UInt8) (n : Nat) (c : UInt8) (bs' : List UInt8) (n' : Nat) (hn : n = bs.length) (h1 : bs' = bs ++ [c]) (h2 : n' = bs'.length) (hs : n' ≤ 70368744177664) : PFunM cx 44 [.bx 1000 0 0, it .u8 c.toNat] (bUsed bs n) (.d (.v .nilIface)) (bNew bs' n') := by
  have hl : bs.length + 1 = n' := by rw [h2, h1]; simp
  obtain ⟨x, hx⟩ : ∃ x : Int, x = c.toNat := ⟨_, rfl⟩
  rw [← hx]
  have hx0 : 0 ≤ x ∧ x < 256 := by have := c.toNat_lt; omega
  have hxc : UInt8.ofNat x.toNat = c := by rw [hx]; simp
  refine PFunM.walk cx_ok Tryd.func44 rfl rfl fun A P R hA hP hR => ?_
  cbv
  refine CallK.mem 6 rfl rfl [(1000, 0), (1001, 0)] [.bx 1000 0 0] _ (.tu []) _ (fun _ => by rw [hP]; exact copyCheck_U bs n) ?_ ?_ ?_ ?_ ?_ ?_
  · cbv
  · intro _; cbv
  · cbv
  · cbv
  · cbv
  cbv
  and_intros
  · subst hA; simp only [std]; exact hx0
  · trivial
  · subst hA; simp [std, hn]
  · subst hA; simp [std]; omega
  · refine hR _ _ ⟨[(14, 4)], ?_, ?_, ?_, ?_⟩
    · cbv
    · cbv
    · cbv
    · cbv; subst hA; simp [std, h1, h2, hxc]; try rfl
end Go.PL
namespace Go.Proofs
set_option linter.unusedSimpArgs false
set_option linter.unusedVariables false
set_option linter.unusedSectionVars false
set_option maxHeartbeats 1000000 in
set_option maxRecDepth 100000 in
theorem str_row (b g cap : Nat) (cur : Array Value) (p : Value) (l : List UInt8) (w : World) (hbk : w.heap[b]? = some (.cells #[p, .slice (some ⟨g, 0, none⟩) l.length cap] 50 (0, 0))) (hg : w.heap[g]? = some (.cells cur 5 (0, 0))) (h0 : l ≠ [])
    (hcap : l.length ≤ cap) (hcs : l.length ≤ cur.size) (h63 : l.length ≤ 9223372036854775807) (hcell : ∀ j x, l[j]? = some x → w.cell? ((⟨g, 0, none⟩ : Addr).add j) = some (.int .u8 x.toNat)) :
    Calls Tryd.prog 22 #[.pointer (some ⟨b, 0, none⟩)] w fun e w' => e = .returned (.string ⟨l.toArray⟩) ∧ w' = w.drew.freeze ⟨g, 0, none⟩ l.length := by
  have hl0 : l.length ≠ 0 := by simpa using h0
  have c1 : w.drew.cell? ⟨b, 1, none⟩ = some (.slice (some ⟨g, 0, none⟩) l.length cap) := by
    have : w.drew.heap[b]? = some (.cells #[p, .slice (some ⟨g, 0, none⟩) l.length cap] 50 (0, 0)) := hbk
    rw [Lib.cell_of_heap this]; rfl
  have hSD : (Builtin.unsafeSliceData_ #[48] 78 #[.slice (some ⟨g, 0, none⟩) l.length cap]).run Tryd.prog w.drew = .ok (.pointer (some ⟨g, 0, none⟩)) w.drew :=
    Lib.run_unsafeSliceData_row _ _ _ _ _ _ (by omega)
  have hUS : (Builtin.unsafeString_ #[78, 3] 9 #[.pointer (some ⟨g, 0, none⟩), .int .i64 l.length]).run Tryd.prog w.drew = .ok (.string ⟨l.toArray⟩) (w.drew.freeze ⟨g, 0, none⟩ l.length) := by
    refine Lib.run_unsafeString_row w.drew 78 3 9 5 Tryd.underlying78 (by kernel_rfl) g cur.size (by have hg' : w.drew.heap[g]? = some (.cells cur 5 (0, 0)) := hg; simp [World.shape?, hg']) l h0 (by omega) h63 hcell
  have mixed : Tryd.prog.follows .mixedOrders = true := by kernel_rfl
  have t47 := Tryd.underlying47; have a47 := Tryd.isAgg47; have z47 := Tryd.zeroValue47; have v47 := Tryd.sizeOf47; have u47 := Tryd.runUnderlying47
  have t50 := Tryd.underlying50; have a50 := Tryd.isAgg50; have z50 := Tryd.zeroValue50; have v50 := Tryd.sizeOf50; have u50 := Tryd.runUnderlying50
  have t48 := Tryd.underlying48; have a48 := Tryd.isAgg48; have z48 := Tryd.zeroValue48; have v48 := Tryd.sizeOf48; have u48 := Tryd.runUnderlying48
  have t78 := Tryd.underlying78; have a78 := Tryd.isAgg78; have z78 := Tryd.zeroValue78; have v78 := Tryd.sizeOf78; have u78 := Tryd.runUnderlying78
  have t3 := Tryd.underlying3; have a3 := Tryd.isAgg3; have z3 := Tryd.zeroValue3; have v3 := Tryd.sizeOf3; have u3 := Tryd.runUnderlying3
  have t9 := Tryd.underlying9; have a9 := Tryd.isAgg9; have z9 := Tryd.zeroValue9; have v9 := Tryd.sizeOf9; have u9 := Tryd.runUnderlying9
  have t5 := Tryd.underlying5; have a5 := Tryd.isAgg5; have z5 := Tryd.zeroValue5; have v5 := Tryd.sizeOf5; have u5 := Tryd.runUnderlying5
  go_enter Tryd.func22, Tryd.ntmps22
  go_wp2
  go_region_o
  all_goals (go_wp2; go_ret; exact ⟨rfl, rfl⟩)

theorem unsString_none (W : World) (q : Option Addr) : (Builtin.unsafeString_ #[78, 3] 9 #[.pointer q, .int .i64 0]).run Tryd.prog W = .ok (.string .empty) W :=
  Lib.run_unsafeString_none W _ _ _ q
set_option maxHeartbeats 1000000 in
set_option maxRecDepth 100000 in
theorem str_nil (b : Nat) (p : Value) (w : World) (hbk : w.heap[b]? = some (.cells #[p, .slice none 0 0] 50 (0, 0))) :
    Calls Tryd.prog 22 #[.pointer (some ⟨b, 0, none⟩)] w fun e w' => e = .returned (.string ⟨#[]⟩) ∧ w' = w.drew := by
  have hUS := unsString_none
  have c1 : w.drew.cell? ⟨b, 1, none⟩ = some (.slice none 0 0) := by
    have : w.drew.heap[b]? = some (.cells #[p, .slice none 0 0] 50 (0, 0)) := hbk
    rw [Lib.cell_of_heap this]; rfl
  have hSD : (Builtin.unsafeSliceData_ #[48] 78 #[.slice none 0 0]).run Tryd.prog w.drew = .ok (.pointer none) w.drew := rfl
  have mixed : Tryd.prog.follows .mixedOrders = true := by kernel_rfl
  have t47 := Tryd.underlying47; have a47 := Tryd.isAgg47; have z47 := Tryd.zeroValue47; have v47 := Tryd.sizeOf47; have u47 := Tryd.runUnderlying47
  have t50 := Tryd.underlying50; have a50 := Tryd.isAgg50; have z50 := Tryd.zeroValue50; have v50 := Tryd.sizeOf50; have u50 := Tryd.runUnderlying50
  have t48 := Tryd.underlying48; have a48 := Tryd.isAgg48; have z48 := Tryd.zeroValue48; have v48 := Tryd.sizeOf48; have u48 := Tryd.runUnderlying48
  have t78 := Tryd.underlying78; have a78 := Tryd.isAgg78; have z78 := Tryd.zeroValue78; have v78 := Tryd.sizeOf78; have u78 := Tryd.runUnderlying78
  have t3 := Tryd.underlying3; have a3 := Tryd.isAgg3; have z3 := Tryd.zeroValue3; have v3 := Tryd.sizeOf3; have u3 := Tryd.runUnderlying3
  have t9 := Tryd.underlying9; have a9 := Tryd.isAgg9; have z9 := Tryd.zeroValue9; have v9 := Tryd.sizeOf9; have u9 := Tryd.runUnderlying9
  have t5 := Tryd.underlying5; have a5 := Tryd.isAgg5; have z5 := Tryd.zeroValue5; have v5 := Tryd.sizeOf5; have u5 := Tryd.runUnderlying5
  go_enter Tryd.func22, Tryd.ntmps22
  go_wp2
  go_region_o
  all_goals (go_wp2; go_ret; exact ⟨rfl, rfl⟩)
set_option maxHeartbeats 1000000 in
set_option maxRecDepth 100000 in
theorem str_room (b g cap : Nat) (p : Value) (w : World) (hc0 : cap ≠ 0) (hbk : w.heap[b]? = some (.cells #[p, .slice (some ⟨g, 0, none⟩) 0 cap] 50 (0, 0))) :
    Calls Tryd.prog 22 #[.pointer (some ⟨b, 0, none⟩)] w fun e w' => e = .returned (.string ⟨#[]⟩) ∧ w' = w.drew := by
  have hUS := unsString_none
  have c1 : w.drew.cell? ⟨b, 1, none⟩ = some (.slice (some ⟨g, 0, none⟩) 0 cap) := by
    have : w.drew.heap[b]? = some (.cells #[p, .slice (some ⟨g, 0, none⟩) 0 cap] 50 (0, 0)) := hbk
    rw [Lib.cell_of_heap this]; rfl
  have hSD : (Builtin.unsafeSliceData_ #[48] 78 #[.slice (some ⟨g, 0, none⟩) 0 cap]).run Tryd.prog w.drew = .ok (.pointer (some ⟨g, 0, none⟩)) w.drew :=
    Lib.run_unsafeSliceData_row _ _ _ _ _ _ hc0
  clear hc0
  have mixed : Tryd.prog.follows .mixedOrders = true := by kernel_rfl
  have t47 := Tryd.underlying47; have a47 := Tryd.isAgg47; have z47 := Tryd.zeroValue47; have v47 := Tryd.sizeOf47; have u47 := Tryd.runUnderlying47
  have t50 := Tryd.underlying50; have a50 := Tryd.isAgg50; have z50 := Tryd.zeroValue50; have v50 := Tryd.sizeOf50; have u50 := Tryd.runUnderlying50
  have t48 := Tryd.underlying48; have a48 := Tryd.isAgg48; have z48 := Tryd.zeroValue48; have v48 := Tryd.sizeOf48; have u48 := Tryd.runUnderlying48
  have t78 := Tryd.underlying78; have a78 := Tryd.isAgg78; have z78 := Tryd.zeroValue78; have v78 := Tryd.sizeOf78; have u78 := Tryd.runUnderlying78
  have t3 := Tryd.underlying3; have a3 := Tryd.isAgg3; have z3 := Tryd.zeroValue3; have v3 := Tryd.sizeOf3; have u3 := Tryd.runUnderlying3
  have t9 := Tryd.underlying9; have a9 := Tryd.isAgg9; have z9 := Tryd.zeroValue9; have v9 := Tryd.sizeOf9; have u9 := Tryd.runUnderlying9
  have t5 := Tryd.underlying5; have a5 := Tryd.isAgg5; have z5 := Tryd.zeroValue5; have v5 := Tryd.sizeOf5; have u5 := Tryd.runUnderlying5
  go_enter Tryd.func22, Tryd.ntmps22
  go_wp2
  go_region_o
  all_goals (go_wp2; go_ret; exact ⟨rfl, rfl⟩)
set_option maxHeartbeats 1000000 in
set_option maxRecDepth 100000 in
theorem str_noroom (b g : Nat) (p : Value) (cur : Array Value) (w : World) (hbk : w.heap[b]? = some (.cells #[p, .slice (some ⟨g, 0, none⟩) 0 0] 50 (0, 0))) (hg : w.heap[g]? = some (.cells cur 5 (0, 0))) :
    Calls Tryd.prog 22 #[.pointer (some ⟨b, 0, none⟩)] w fun e w' => e = .returned (.string ⟨#[]⟩) ∧ w'.heap = w.heap.push (.view ⟨g, 0, none⟩ 5) ∧ w'.os = w.os ∧ w'.output = w.output := by
  have hUS := unsString_none
  have hlt : b < w.heap.size := by
    rcases Nat.lt_or_ge b w.heap.size with h' | h'
    · exact h'
    · simp [Array.getElem?_eq_none h'] at hbk
  have c1 : w.drew.cell? ⟨b, 1, none⟩ = some (.slice (some ⟨g, 0, none⟩) 0 0) := by
    have : w.drew.heap[b]? = some (.cells #[p, .slice (some ⟨g, 0, none⟩) 0 0] 50 (0, 0)) := hbk
    rw [Lib.cell_of_heap this]; rfl
  have hSD : (Builtin.unsafeSliceData_ #[48] 78 #[.slice (some ⟨g, 0, none⟩) 0 0]).run Tryd.prog w.drew = .ok (.pointer (some ⟨w.drew.heap.size, 0, none⟩)) (w.drew.alloc (.view ⟨g, 0, none⟩ 5)) :=
    Lib.run_unsafeSliceData_zero w.drew _ _ 5 Tryd.underlying78 ⟨g, 0, none⟩ 0 (5, cur.size) (by have hg' : w.drew.heap[g]? = some (.cells cur 5 (0, 0)) := hg; simp [World.shape?, hg'])
  have c2 : (w.drew.alloc (.view ⟨g, 0, none⟩ 5)).cell? ⟨b, 1, none⟩ = some (.slice (some ⟨g, 0, none⟩) 0 0) := by
    have : (w.drew.alloc (.view ⟨g, 0, none⟩ 5)).heap[b]? = _ := (Lib.alloc_old w.drew _ b hlt).trans hbk
    rw [Lib.cell_of_heap this]; rfl
  have c3 : (w.alloc (.view ⟨g, 0, none⟩ 5)).drew.cell? ⟨b, 1, none⟩ = some (.slice (some ⟨g, 0, none⟩) 0 0) := c2
  have c0 : w.cell? ⟨b, 1, none⟩ = some (.slice (some ⟨g, 0, none⟩) 0 0) := c1
  have mixed : Tryd.prog.follows .mixedOrders = true := by kernel_rfl
  have t47 := Tryd.underlying47; have a47 := Tryd.isAgg47; have z47 := Tryd.zeroValue47; have v47 := Tryd.sizeOf47; have u47 := Tryd.runUnderlying47
  have t50 := Tryd.underlying50; have a50 := Tryd.isAgg50; have z50 := Tryd.zeroValue50; have v50 := Tryd.sizeOf50; have u50 := Tryd.runUnderlying50
  have t48 := Tryd.underlying48; have a48 := Tryd.isAgg48; have z48 := Tryd.zeroValue48; have v48 := Tryd.sizeOf48; have u48 := Tryd.runUnderlying48
  have t78 := Tryd.underlying78; have a78 := Tryd.isAgg78; have z78 := Tryd.zeroValue78; have v78 := Tryd.sizeOf78; have u78 := Tryd.runUnderlying78
  have t3 := Tryd.underlying3; have a3 := Tryd.isAgg3; have z3 := Tryd.zeroValue3; have v3 := Tryd.sizeOf3; have u3 := Tryd.runUnderlying3
  have t9 := Tryd.underlying9; have a9 := Tryd.isAgg9; have z9 := Tryd.zeroValue9; have v9 := Tryd.sizeOf9; have u9 := Tryd.runUnderlying9
  have t5 := Tryd.underlying5; have a5 := Tryd.isAgg5; have z5 := Tryd.zeroValue5; have v5 := Tryd.sizeOf5; have u5 := Tryd.runUnderlying5
  go_enter Tryd.func22, Tryd.ntmps22
  go_wp2
  go_region_o
  all_goals (go_wp2; go_ret; exact ⟨rfl, rfl, rfl, rfl⟩)
end Go.Proofs
namespace Go.PL
set_option linter.unusedSimpArgs false
set_option linter.unusedVariables false
set_option linter.unusedSectionVars false
open Tys (Ty U)
open Enc (sz enc dflt tb ofB toB)
open Dec (dec dok)
open Go.Proofs
variable [GM]
theorem freeze_heap (w : World) (g n : Nat) (cur : Array Value) (T : TypeId) (hg : w.heap[g]? = some (.cells cur T (0, 0))) (k : Nat) :
    (w.freeze ⟨g, 0, none⟩ n).heap[k]? = w.heap[k]? ∨ (k = g ∧ (w.freeze ⟨g, 0, none⟩ n).heap[k]? = some (.cells cur T (0, n))) := by
  unfold World.freeze
  split
  · exact .inl rfl
  · by_cases hk : k = g
    · subst hk
      refine .inr ⟨rfl, ?_⟩
      simp [Array.getElem?_modify, hg]
    · refine .inl ?_
      simp only [Array.getElem?_modify]
      rw [if_neg (fun e => hk e.symm)]

theorem freeze_size (w : World) (p : Addr) (n : Nat) : (w.freeze p n).heap.size = w.heap.size := by
  unfold World.freeze
  split <;> simp

theorem RD.slcell {w : World} {Z : Nat → Nat → Prop} {v : Value} {t : Ty} {xs : List (U t)} {b off n cap : Nat} (h : RD w Z v (.sl t xs)) (hv : v = .slice (some ⟨b, off, none⟩) n cap) (j i : Nat) (x : U t) (d : D) (hx : xs[j]? = some x) (hd : (enc t x)[i]? = some d) :
    ∃ u, w.cell? ⟨b, off + (j * sz t + i), none⟩ = some u ∧ RD w Z u d := by
  cases h with
  | nil => simp at hx
  | sl _ _ b' off' cap' vs hl hc hr =>
    have e := hv
    injection e with e1 e2 e3
    injection e1 with e1
    injection e1 with e1 e4 e5
    subst e1; subst e4
    have hj : j < xs.length := by
      rcases Nat.lt_or_ge j xs.length with h | h
      · exact h
      · rw [List.getElem?_eq_none h] at hx; cases hx
    have hi : i < sz t := by
      rcases Nat.lt_or_ge i (sz t) with h | h
      · exact h
      · rw [List.getElem?_eq_none (by rw [Enc.len]; exact h)] at hd; cases hd
    exact ⟨_, (hc j i hj hi).1, hr j i x d hx hd⟩

/-- what a call of String does to the heap: rows keep their cells; the builder's block is as it was -/
def bStr : List En := [⟨1000, 0, .box 50 [.bx 1000 0 0, .any]⟩]

theorem str_post {μ : Nmap} {Z : Nat → Nat → Prop} {w w' : World} {bs : List UInt8} {n : Nat} (hw : WR μ (den (bUsed bs n)) Z w)
    (hsize : w.heap.size ≤ w'.heap.size) (hcell : ∀ b o, b < w.heap.size → w'.cell? ⟨b, o, none⟩ = w.cell? ⟨b, o, none⟩) (hshp : ∀ b s, w.shape? b = some s → w'.shape? b = some s)
    (hframe : ∀ k, k < w.heap.size → μ 1001 0 ≠ some (some k) → w'.heap[k]? = w.heap[k]?) (hos : w'.os = w.os) (hout : w'.output = w.output) : WR μ (den bStr) Z w' ∧ Adv μ (den (bUsed bs n)) Z w μ (den bStr) Z w' := by
  have hbox := hw.ent 1000 0 (.box 50 [.bx 1000 0 0, .os 1001 0 .byte bs]) rfl
  have htok := hw.ent 1001 0 (.tok 5 .byte n) rfl
  have only : ∀ k g c, den bStr k g = some c → k = 1000 ∧ g = 0 ∧ c = .box 50 [.bx 1000 0 0, .any] := by
    intro k g c h
    simp only [bStr, den] at h
    split at h
    · rename_i e; cases h; exact ⟨e.1.symm, e.2.symm, rfl⟩
    · cases h
  have ha : Adv μ (den (bUsed bs n)) Z w μ (den bStr) Z w' := by
    refine ⟨fun _ _ _ h => h, fun _ _ h => h, fun b o h => hcell b o (hw.zlt b o h), hshp, hsize, fun b hb hn => hframe b hb (fun h => hn 1001 0 _ rfl h), fun _ _ h => .inl h, fun k g c b h h' => ?_, hos, hout⟩
    obtain ⟨rfl, rfl, rfl⟩ := only k g c h
    exact .inr ⟨1000, 0, _, rfl, h'⟩
  refine ⟨⟨fun k g c h => ?_, fun k g k' g' c c' b h h' _ _ => ?_, fun b o h => Nat.lt_of_lt_of_le (hw.zlt b o h) hsize⟩, ha⟩
  · obtain ⟨rfl, rfl, rfl⟩ := only k g c h
    obtain ⟨b, cs, h1, h2, h3, h4⟩ := hbox
    have hne : μ 1001 0 ≠ some (some b) := fun e => by
      have := hw.dis 1000 0 1001 0 _ _ b rfl rfl h1 e
      omega
    refine ⟨b, cs, h1, by rw [hframe b (EntOK.lt (c := .box 50 [.bx 1000 0 0, .os 1001 0 .byte bs]) ⟨b, cs, h1, h2, h3, h4⟩ h1) hne]; exact h2, ⟨h3.1, fun i x p hx hp => ?_⟩, h4⟩
    match i, hp with
    | 0, hp =>
      cases hp
      have := h3.2 0 x (.bx 1000 0 0) hx rfl
      exact this.adv ha
    | 1, hp => cases hp; exact .any _
    | i + 2, hp => simp at hp
  · obtain ⟨rfl, rfl, _⟩ := only k g c h
    obtain ⟨rfl, rfl, _⟩ := only k' g' c' h'
    exact ⟨rfl, rfl⟩

theorem String_U (bs : List UInt8) (n : Nat) (s : ByteArray) (hs : s = ⟨bs.toArray⟩) (hlen : bs.length ≤ 9223372036854775807) : PFunM cx 22 [.bx 1000 0 0] (bUsed bs n) (st s) bStr := by
  subst hs
  refine ⟨fun μ w Z vals hv hw hg hno => .inl ⟨Tryd.call22 _ _, ?_⟩⟩
  obtain ⟨b, cs, h1, h2, h3, h4⟩ := hw.ent 1000 0 (.box 50 [.bx 1000 0 0, .os 1001 0 .byte bs]) rfl
  have htok := hw.ent 1001 0 (.tok 5 .byte n) rfl
  -- the argument
  obtain ⟨x, rfl⟩ : ∃ x, vals = [x] := List.length_eq_one_iff.1 (by simpa using hv.1)
  have hx := hv.2 0 x _ rfl rfl
  cases hx with
  | bx _ _ _ b' hb' =>
  rw [h1] at hb'; obtain rfl := Option.some.inj (Option.some.inj hb')
  -- the cells
  obtain ⟨p, q, hcs⟩ : ∃ p q, cs = #[p, q] := by
    have hl : cs.toList.length = 2 := h3.1
    match hcs : cs.toList, hl with
    | [p, q], _ => exact ⟨p, q, by rw [← Array.toArray_toList (xs := cs), hcs]⟩
  subst hcs
  have hq : RP μ w Z q (.os 1001 0 .byte bs) := h3.2 1 q _ rfl rfl
  have fin : ∀ w', (w.heap.size ≤ w'.heap.size) → (∀ b o, b < w.heap.size → w'.cell? ⟨b, o, none⟩ = w.cell? ⟨b, o, none⟩) → (∀ b s, w.shape? b = some s → w'.shape? b = some s) →
      (∀ k, k < w.heap.size → μ 1001 0 ≠ some (some k) → w'.heap[k]? = w.heap[k]?) → w'.os = w.os → w'.output = w.output → ∃ v μ' Z', Ending.returned (.string ⟨bs.toArray⟩) = .returned v ∧ RP μ' w' Z' v (st ⟨bs.toArray⟩) ∧ WR μ' (den bStr) Z' w' ∧ Adv μ (den (bUsed bs n)) Z w μ' (den bStr) Z' w' := by
    intro w' a1 a2 a3 a4 a5 a6
    obtain ⟨p1, p2⟩ := str_post hw a1 a2 a3 a4 a5 a6
    exact ⟨_, μ, Z, rfl, RP.ofVal .., p1, p2⟩
  have same : ∀ w' : World, w'.heap = w.heap → w'.os = w.os → w'.output = w.output → ∃ v μ' Z', Ending.returned (.string ⟨bs.toArray⟩) = .returned v ∧ RP μ' w' Z' v (st ⟨bs.toArray⟩) ∧ WR μ' (den bStr) Z' w' ∧ Adv μ (den (bUsed bs n)) Z w μ' (den bStr) Z' w' := by
    intro w' e e1 e2
    exact fin w' (by rw [e]; exact Nat.le_refl _) (fun b o _ => by simp only [World.cell?, e]) (fun b s h => by simp only [World.shape?, e] at h ⊢; exact h) (fun k _ _ => by rw [e]) e1 e2
  cases hq with
  | osN _ _ _ hn =>
    refine (str_nil b p w h2).mono ?_
    rintro e w' ⟨rfl, rfl⟩
    exact same _ rfl rfl rfl
  | os _ _ _ _ g nn cap m T hμ hrd hnn hc hsh hm =>
    subst hnn
    rcases htok with ⟨h5, _⟩ | ⟨g', cur, h5, h6, h7⟩
    · rw [hμ] at h5; cases h5
    · rw [hμ] at h5; obtain rfl := Option.some.inj (Option.some.inj h5)
      simp only [World.shape?, h6, Option.some.injEq, Prod.mk.injEq] at hsh
      obtain ⟨rfl, rfl⟩ := hsh
      have hm' : cap ≤ cur.size := by simpa [sz, szS] using hm
      cases bs with
      | nil =>
        by_cases hc0 : cap = 0
        · subst hc0
          refine (str_noroom b g p cur w h2 h6).mono ?_
          rintro e w' ⟨rfl, hh, hh1, hh2⟩
          refine fin w' (by rw [hh]; simp) (fun b o hb => ?_) (fun b s hs => ?_) (fun k hk _ => ?_) ?_ ?_
          · have : w'.heap[b]? = w.heap[b]? := by rw [hh, Array.getElem?_push, if_neg (by omega)]
            simp only [World.cell?, this]
          · have hb : b < w.heap.size := by
              rcases Nat.lt_or_ge b w.heap.size with h | h
              · exact h
              · simp [World.shape?, Array.getElem?_eq_none h] at hs
            have : w'.heap[b]? = w.heap[b]? := by rw [hh, Array.getElem?_push, if_neg (by omega)]
            simp only [World.shape?, this] at hs ⊢; exact hs
          · rw [hh, Array.getElem?_push, if_neg (by omega)]
          · exact hh1
          · exact hh2
        · refine (str_room b g cap p w hc0 h2).mono ?_
          rintro e w' ⟨rfl, rfl⟩
          exact same _ rfl rfl rfl
      | cons c0 bs =>
        refine (str_row b g cap cur p (c0 :: bs) w h2 h6 (by simp) hc (by omega) hlen ?_).mono ?_
        · intro j x hx
          obtain ⟨u, h8, h9⟩ := hrd.slcell rfl j 0 x (.v (.int .u8 x.toNat)) hx rfl
          cases h9
          have : (⟨g, 0, none⟩ : Addr).add j = ⟨g, 0 + (j * sz TyS.byte + 0), none⟩ := by simp [Addr.add, sz, szS]; exact fun h => h.symm
          rw [this]; exact h8
        · rintro e w' ⟨rfl, rfl⟩
          have hf := freeze_heap w.drew g (c0 :: bs).length cur 5 h6
          refine fin _ ?_ (fun b o hb => ?_) (fun b s hs => ?_) (fun k hk hne => ?_) (by unfold World.freeze; split <;> rfl) (by unfold World.freeze; split <;> rfl)
          · rw [freeze_size]; exact Nat.le_refl _
          · rcases hf b with h | ⟨rfl, h⟩
            · simp only [World.cell?, h]; rfl
            · simp only [World.cell?, h, h6]
          · rcases hf b with h | ⟨rfl, h⟩
            · simp only [World.shape?, h]; exact hs
            · simp only [World.shape?, h]; simp only [World.shape?, h6] at hs; exact hs
          · rcases hf k with h | ⟨rfl, h⟩
            · rw [h]; rfl
            · exact absurd hμ hne
end Go.PL
/-! Builders: calls of their methods, as steps. -/
namespace Go.PL
set_option linter.unusedSimpArgs false
set_option linter.unusedVariables false
set_option linter.unusedSectionVars false
open Tys (Ty U)
open Enc (sz enc dflt tb ofB toB)
open Dec (dec dok)
set_option maxRecDepth 100000
open Go.Proofs
variable [GM]
/-- the result of writing a text -/
def wsR (n : Int) : PV := .tu [it .i64 n, .d (.v .nilIface)]
section
variable {P : Program} (hP : P = Tryd.prog) {fl : List Nat × Bool} {s : St} {d : Nat} {k : PV → List En → Prop}
include hP
theorem bld_call {f : Nat} {rest : List PV} {r : PV} (kb gb kt gt : Nat) (bs bs' : List UInt8) (n n' : Nat)
    (h : PFunM cx f (.bx 1000 0 0 :: rest) (bUsed bs n) r (bNew bs' n')) (hr : ∀ g, ren g r = r) (hrest : ∀ g, ren.rens g rest = rest) (hrok : ∀ g, rok.roks g rest = true)
    (h1 : find s.sto kb = some (gb, .box 50 [.bx kb gb 0, .os kt gt .byte bs])) (h2 : find s.sto kt = some (gt, .tok 5 .byte n))
    (hfl : (nodupB [kb, kt] && !fl.2 && (subs d ++ [kb, kt]).all (fl.1.contains ·)) = true)
    (hk : k r (⟨kb, gb, .box 50 [.bx kb gb 0, .os d s.gen .byte bs']⟩ :: ⟨d, s.gen, .tok 5 .byte n'⟩ :: dels [kb, kt] s.sto)) :
    CallK ⟨P, tiS, etyS, gtS, liesS⟩ true true s (some d) fl f (.bx kb gb 0 :: rest) k := by
  subst hP
  refine CallK.mem d rfl rfl [(kb, gb), (kt, gt)] (.bx 1000 0 0 :: rest) _ r _ (fun _ => h) ?_ (fun _ => ?_) ?_ ?_ ?_ ?_
  · simp [rok.roks, rok, cin, lk, hrok]
  · simp only [ren.rens, ren, cin, lk, if_true, hrest]
    exact ⟨rfl, LePs.refl _⟩
  · simp [InOK, bUsed, rokC, rok.roks, rok, cin, lk, h1, h2, LeC, renC, ren.rens, ren, LeP.LePs, LeP]
  · simp [outOK, bNew, rokC, rok.roks, rok, cout, lk, nn]
  · simpa using hfl
  · rw [hr]
    simpa [outE, bNew, cout, lk, nn, renC, ren.rens, ren] using hk
theorem wsU (kb gb kt gt : Nat) (bs : List UInt8) (n : Nat) (x : ByteArray) (hn : n = bs.length) (hs : n + x.size ≤ 70368744177664)
    (h1 : find s.sto kb = some (gb, .box 50 [.bx kb gb 0, .os kt gt .byte bs])) (h2 : find s.sto kt = some (gt, .tok 5 .byte n))
    (hfl : (nodupB [kb, kt] && !fl.2 && (subs d ++ [kb, kt]).all (fl.1.contains ·)) = true)
    (hk : ∀ (bs' : List UInt8) (n' : Nat) (m : Int), bs' = bs ++ x.data.toList → n' = bs'.length → k (wsR m) (⟨kb, gb, .box 50 [.bx kb gb 0, .os d s.gen .byte bs']⟩ :: ⟨d, s.gen, .tok 5 .byte n'⟩ :: dels [kb, kt] s.sto)) :
    CallK ⟨P, tiS, etyS, gtS, liesS⟩ true true s (some d) fl 19 [.bx kb gb 0, st x] k :=
  bld_call hP (rest := [st x]) kb gb kt gt bs (bs ++ x.data.toList) n (bs ++ x.data.toList).length (WriteString_U bs n x _ _ hn rfl rfl (by simp; rw [← hn]; exact hs)) (fun _ => rfl) (fun _ => rfl) (fun _ => rfl) h1 h2 hfl (hk _ _ _ rfl rfl)
theorem wbU (kb gb kt gt : Nat) (bs : List UInt8) (n : Nat) (c : UInt8) (hn : n = bs.length) (hs : n + 1 ≤ 70368744177664) {y : Int} (hy : y = c.toNat)
    (h1 : find s.sto kb = some (gb, .box 50 [.bx kb gb 0, .os kt gt .byte bs])) (h2 : find s.sto kt = some (gt, .tok 5 .byte n))
    (hfl : (nodupB [kb, kt] && !fl.2 && (subs d ++ [kb, kt]).all (fl.1.contains ·)) = true)
    (hk : ∀ (bs' : List UInt8) (n' : Nat), bs' = bs ++ [c] → n' = bs'.length → k (.d (.v .nilIface)) (⟨kb, gb, .box 50 [.bx kb gb 0, .os d s.gen .byte bs']⟩ :: ⟨d, s.gen, .tok 5 .byte n'⟩ :: dels [kb, kt] s.sto)) :
    CallK ⟨P, tiS, etyS, gtS, liesS⟩ true true s (some d) fl 44 [.bx kb gb 0, it .u8 y] k := by
  subst hy
  exact bld_call hP (rest := [it .u8 c.toNat]) kb gb kt gt bs (bs ++ [c]) n (bs ++ [c]).length (WriteByte_U bs n c _ _ hn rfl rfl (by simp; omega)) (fun _ => rfl) (fun _ => rfl) (fun _ => rfl) h1 h2 hfl (hk _ _ rfl rfl)
theorem wsF (kb gb : Nat) (x : ByteArray) (hs : x.size ≤ 70368744177664)
    (h1 : find s.sto kb = some (gb, .box 50 [nilP, nilS]))
    (hfl : (nodupB [kb] && !fl.2 && (subs d ++ [kb]).all (fl.1.contains ·)) = true)
    (hk : ∀ (bs' : List UInt8) (n' : Nat) (m : Int), bs' = x.data.toList → n' = bs'.length → k (wsR m) (⟨kb, gb, .box 50 [.bx kb gb 0, .os d s.gen .byte bs']⟩ :: ⟨d, s.gen, .tok 5 .byte n'⟩ :: dels [kb] s.sto)) :
    CallK ⟨P, tiS, etyS, gtS, liesS⟩ true true s (some d) fl 19 [.bx kb gb 0, st x] k := by
  subst hP
  refine CallK.mem d rfl rfl [(kb, gb)] [.bx 1000 0 0, st x] _ _ _ (fun _ => WriteString_F x _ _ rfl rfl hs) ?_ (fun _ => ?_) ?_ ?_ ?_ ?_
  · simp [rok.roks, rok, cin, lk, st]
  · exact ⟨rfl, LePs.refl _⟩
  · simp [InOK, bFresh, rokC, rok.roks, rok, cin, lk, h1, LeC, renC, ren.rens, ren, LeP.LePs, LeP, nilP, nilS, LeD]
  · simp [outOK, bNew, rokC, rok.roks, rok, cout, lk, nn]
  · simpa using hfl
  · exact hk x.data.toList _ x.size rfl rfl
theorem strU (kb gb kt gt : Nat) (bs : List UInt8) (n : Nat) (hs : bs.length ≤ 9223372036854775807)
    (h1 : find s.sto kb = some (gb, .box 50 [.bx kb gb 0, .os kt gt .byte bs])) (h2 : find s.sto kt = some (gt, .tok 5 .byte n))
    (hfl : (nodupB [kb, kt] && !fl.2 && (subs d ++ [kb, kt]).all (fl.1.contains ·)) = true)
    (hk : ∀ r : ByteArray, r = ⟨bs.toArray⟩ → k (st r) (⟨kb, gb, .box 50 [.bx kb gb 0, .any]⟩ :: dels [kb, kt] s.sto)) :
    CallK ⟨P, tiS, etyS, gtS, liesS⟩ true true s (some d) fl 22 [.bx kb gb 0] k := by
  subst hP
  refine CallK.mem d rfl rfl [(kb, gb), (kt, gt)] [.bx 1000 0 0] _ _ _ (fun _ => String_U bs n _ rfl hs) ?_ (fun _ => ?_) ?_ ?_ ?_ ?_
  · simp [rok.roks, rok, cin, lk]
  · exact ⟨rfl, LePs.refl _⟩
  · simp [InOK, bUsed, rokC, rok.roks, rok, cin, lk, h1, h2, LeC, renC, ren.rens, ren, LeP.LePs, LeP]
  · simp [outOK, bStr, rokC, rok.roks, rok, cout, lk]
  · simpa using hfl
  · exact hk _ rfl
end
end Go.PL
namespace Go.PL
set_option linter.unusedSimpArgs false
set_option linter.unusedVariables false
set_option linter.unusedSectionVars false
open Tys (Ty U)
open Enc (sz enc dflt tb ofB toB)
open Dec (dec dok)
set_option maxRecDepth 100000
open Go.Proofs
variable [GM]
theorem size1 {x : UInt8} : (ByteArray.mk (List.toArray [x])).size = 1 := rfl
def decB (n : Nat) : ByteArray := if n < 10 then ⟨#[UInt8.ofNat (48 + n)]⟩ else decB (n / 10) ++ ⟨#[UInt8.ofNat (48 + n % 10)]⟩
theorem digits_ok (n : Nat) (hn : n ≤ 4611686018427387904) : PFun cx 43 [it .i64 n] (st (decB n)) := by
  refine PFun.walk cx_ok Tryd.func43 rfl rfl rfl fun A P R hA hP hR => ?_
  cbv
  refine LoopK.mk (X := {x : Nat × ByteArray // decB x.1 ++ x.2 = decB n ∧ x.2.size + x.1 ≤ 4611686018427387904 }) (fun x _ => [(0, it .i64 x.1.1), (3, st x.1.2)]) (fun _ _ => []) (fun x => x.1.1) ⟨(n, .empty), by simp; omega⟩ [] ⟨?_, ?_, ?_⟩ ?_
  · cbv
  · cbv
  · cbv
  · intro ⟨⟨m, s⟩, hx1, hx2⟩ gh g K hK
    cbv
    simp only [] at hx1 hx2
    have e3 : (48 + (m : Int) % 10).toNat = 48 + m % 10 := by omega
    and_intros
    · subst hA; simp only [std]; decide
    · subst hA; simp only [std]; exact w8r
    · trivial
    · subst hA; simp only [std, List.map, size1]; omega
    · subst hA; simp only [std]; decide
    · split
      · rename_i h
        cbv
        subst hA hP hR
        simp (disch := omega) only [std, arStd, cmpStd, List.map, Int.ofNat_eq_natCast, tmod0, tdiv0, w64, w8, e3, beq_iff_eq] at h ⊢
        have h0 : m < 10 := by omega
        simp only [LeP, LeD, st]
        rw [← hx1]
        unfold decB
        simp only [h0, Nat.mod_eq_of_lt h0, if_true]
        rfl
      · rename_i h
        cbv
        subst hA hP
        simp (disch := omega) only [std, arStd, cmpStd, List.map, Int.ofNat_eq_natCast, tmod0, tdiv0, w64, w8, e3, beq_eq_false_iff_ne] at h ⊢
        have h0 : ¬ m < 10 := by omega
        refine hK _ ⟨(m / 10, (⟨#[UInt8.ofNat (48 + m % 10)]⟩ : ByteArray) ++ s), ?_, ?_⟩ [] ?_ ⟨?_, ?_, rfl⟩
        · simp only []
          rw [← hx1, ← ByteArray.append_assoc]
          conv => rhs; unfold decB
          simp [h0]
        · simp only [ByteArray.size_append, size1]; omega
        · show m / 10 < m; omega
        · simp [LeEnv, LeR, LeP, LeD, get, it, st]
          rfl
        · exact trivial
end Go.PL
namespace Go.PL
set_option linter.unusedSimpArgs false
set_option linter.unusedVariables false
set_option linter.unusedSectionVars false
open Tys (Ty U)
open Enc (sz enc dflt tb ofB toB)
open Dec (dec dok)
set_option maxRecDepth 100000
open Go.Proofs
variable [GM]
def decI (n : Int) : ByteArray := decB n.toNat
theorem digits_i (n : Int) (h0 : 0 ≤ n) (hn : n ≤ 4611686018427387904) : PFun cx 43 [it .i64 n] (st (decI n)) := by
  have := digits_ok n.toNat (by omega)
  rw [Int.toNat_of_nonneg h0] at this; exact this
def lnN (ns : List Int) : List UInt8 := ns.flatMap fun n => 32 :: (decI n).data.toList
def hexs : ByteArray := ⟨#[48, 49, 50, 51, 52, 53, 54, 55, 56, 57, 97, 98, 99, 100, 101, 102]⟩
def hexd (n : Nat) : UInt8 := hexs.data.getD n 0
def hexB (s : List UInt8) : List UInt8 := s.flatMap fun c => [hexd (c.toNat / 16), hexd (c.toNat % 16)]
def lnT (ts : List ByteArray) : List UInt8 := ts.flatMap fun s => 32 :: 120 :: hexB s.data.toList
def lineL (w : ByteArray) (ns : List Int) (ts : List ByteArray) : List UInt8 := w.data.toList ++ (lnN ns ++ (lnT ts ++ [10]))
theorem hexHi {A : Ar} (hA : A = std) (c : UInt8) : A.ar .shr .u8 (c.toNat : Int) 4 = ((c.toNat / 16 : Nat) : Int) := by
  subst hA
  show Int.fdiv _ _ = _
  rw [Int.fdiv_eq_ediv_of_nonneg _ (by decide)]; rfl
theorem hexLo {A : Ar} (hA : A = std) (c : UInt8) : A.ar .and .u8 (c.toNat : Int) 15 = ((c.toNat % 16 : Nat) : Int) := by
  subst hA
  show IntKind.u8.wrap _ = _
  have h1 : (BitVec.ofInt (IntKind.bits .u8) (c.toNat : Int) &&& BitVec.ofInt (IntKind.bits .u8) 15).toNat = c.toNat % 16 := by
    show (BitVec.ofInt 8 (c.toNat : Int) &&& BitVec.ofInt 8 15).toNat = _
    have e1 : BitVec.ofInt 8 (c.toNat : Int) = BitVec.ofNat 8 c.toNat := by rw [BitVec.ofInt_natCast]
    rw [e1]
    have e2 : (BitVec.ofInt 8 15) = BitVec.ofNat 8 15 := rfl
    rw [e2, BitVec.toNat_and, BitVec.toNat_ofNat, BitVec.toNat_ofNat]
    have := c.toNat_lt
    rw [Nat.mod_eq_of_lt this]
    exact Nat.and_two_pow_sub_one_eq_mod c.toNat 4
  rw [h1, w8 (by omega)]
theorem hexAt {A : Ar} (hA : A = std) (n : Nat) : A.sget hexs (n : Int) = (hexd n).toNat := by subst hA; rfl
theorem hexIn {A : Ar} (hA : A = std) (n : Nat) (h : n < 16) : A.inb (n : Int) (A.slen hexs) := by
  subst hA
  show 0 ≤ (n : Int) ∧ (n : Int) < 16
  omega
theorem hexIn' {A : Ar} (hA : A = std) {y : Int} {n : Nat} (e : y = n) (h : n < 16) : A.inb y (A.slen hexs) := e ▸ hexIn hA n h
theorem hexB_len : ∀ l : List UInt8, (hexB l).length = 2 * l.length
  | [] => rfl
  | c :: l => by have := hexB_len l; simp only [hexB, List.flatMap_cons, List.length_append, List.length_cons, List.length_nil] at this ⊢; omega
theorem line_ok (w : ByteArray) (ns : List Int) (ts : List ByteArray) (hns : ∀ n ∈ ns, 0 ≤ n ∧ n ≤ 4611686018427387904) (hnl : ns.length ≤ 4611686018427387904) (htl : ts.length ≤ 4611686018427387904) (hl : (lineL w ns ts).length ≤ 70368744177664) : PFun cx 20 [st w, .d (.sl .int ns), .d (.sl .str ts)] (st ⟨(lineL w ns ts).toArray⟩) := by
  obtain ⟨dec, hdec, c43⟩ : ∃ f, f = decI ∧ ∀ n, 0 ≤ n → n ≤ 4611686018427387904 → PFun cx 43 [it .i64 n] (st (f n)) := ⟨_, rfl, digits_i⟩
  obtain ⟨T, hT⟩ : ∃ T, T = lineL w ns ts := ⟨_, rfl⟩
  rw [← hT] at hl ⊢
  refine PFun.walk cx_ok Tryd.func20 rfl rfl rfl fun A P R hA hP hR => ?_
  have hw : w.data.toList ++ (lnN ns ++ (lnT ts ++ [10])) = T := hT.symm
  have hTl := congrArg List.length hw
  simp only [List.length_append, List.length_singleton, Array.length_toList] at hTl
  have hws : w.size = w.data.size := rfl
  cbv
  refine wsF hP 7 1 w (by omega) rfl rfl fun b1 n1 m1 hb1 hn1 => ?_
  cbv
  refine LoopK.mk (X := {p : Nat × List UInt8 × Nat // p.1 ≤ ns.length ∧ p.2.2 = p.2.1.length ∧ p.2.1 ++ (lnN (ns.drop p.1) ++ (lnT ts ++ [10])) = T}) (fun p gh => [(18, it .i64 p.1.1)]) (fun p gh => [⟨7, 1, .box 50 [.bx 7 1 0, .os 900 gh .byte p.1.2.1]⟩, ⟨900, gh, .tok 5 .byte p.1.2.2⟩]) (fun p => ns.length - p.1.1) ⟨(0, b1, n1), by simp [hn1, hb1, hw]⟩ [(900, 15, 2)] ⟨?_, ?_, ?_⟩ ?_
  · cbv; simp
  · cbv
  · cbv
  intro ⟨⟨i, bs, n⟩, hi, hn, hinv⟩ gh g K hK
  simp only [] at hi hn hinv
  have hil := congrArg List.length hinv
  simp only [List.length_append, List.length_singleton] at hil
  cbv
  split
  · rename_i h
    have hlt := i_lt hA h
    obtain ⟨x, hx, hxm, hd, _⟩ := i_at hlt
    rw [hd] at hinv hil
    simp only [lnN, List.flatMap_cons, List.length_cons, List.length_append] at hil
    have h0 := hns x hxm
    cbv
    refine ⟨i_in hA hlt, ?_⟩
    have hg := i_all (t := TyS.int) hA hns hlt
    refine CallK.mk _ rfl (fun _ => by rw [hP]; exact c43 _ hg.1 hg.2) ?_
    cbv
    have hcat : A.cat ⟨#[32]⟩ (dec (A.get TyS.int ns (Int.ofNat i))) = ⟨#[32]⟩ ++ decI x := by subst hA; simp [std, hx, hdec]
    have hds : (decI x).size = (decI x).data.size := rfl
    simp only [Array.length_toList] at hil
    refine ⟨by subst hA; simp [std, hx, hdec, size1]; omega, ?_⟩
    refine wsU hP 7 1 900 gh bs n _ hn ?_ rfl rfl rfl fun b2 n2 m2 hb2 hn2 => ?_
    · subst hA; simp [std, hx, hdec, size1]; omega
    cbv
    refine hK _ ⟨(i + 1, b2, n2), by simp; omega, hn2, ?_⟩ [(900, 25, g + 2)] ?_ ⟨?_, ?_, ?_⟩
    · rw [hb2, hcat]; simp [← hinv, lnN]
    · simp; omega
    · cbv; exact ⟨i_succ hA (by omega), trivial⟩
    · cbv
    · cbv
  · rename_i h
    rw [i_end (i_ge hA h)] at hinv hil
    cbv
    refine LoopK.mk (X := {p : Nat × List UInt8 × Nat // p.1 ≤ ts.length ∧ p.2.2 = p.2.1.length ∧ p.2.1 ++ (lnT (ts.drop p.1) ++ [10]) = T}) (fun p gh => [(29, it .i64 p.1.1)]) (fun p gh => [⟨7, 1, .box 50 [.bx 7 1 0, .os 901 gh .byte p.1.2.1]⟩, ⟨901, gh, .tok 5 .byte p.1.2.2⟩]) (fun p => ts.length - p.1.1) ⟨(0, bs, n), by simp [hn, hinv]; simpa [lnN] using hinv⟩ [(901, 900, gh)] ⟨?_, ?_, ?_⟩ ?_
    · cbv; simp
    · cbv
    · cbv
    clear hinv hil hn hi hK
    intro ⟨⟨i, bs, n⟩, hi, hn, hinv⟩ gh g K hK
    simp only [] at hi hn hinv
    cbv
    split
    · rename_i h
      have hlt := i_lt hA h
      obtain ⟨x, hx, hxm, hd, _⟩ := i_at hlt
      have hil := congrArg List.length hinv
      rw [hd] at hinv hil
      simp only [lnT, List.flatMap_cons, List.length_cons, List.length_append, List.length_singleton] at hil
      cbv
      refine ⟨i_in hA hlt, ?_⟩
      refine wsU hP 7 1 901 gh bs n _ hn ?_ rfl rfl rfl fun b2 n2 m2 hb2 hn2 => ?_
      · rw [szmk, List.length_cons, List.length_cons, List.length_nil]
        have : x.size = x.data.size := rfl
        omega
      cbv
      obtain ⟨xb, hxb⟩ : ∃ xb : List UInt8, xb = x.data.toList := ⟨_, rfl⟩
      have hxl : xb.length ≤ 70368744177664 := by have := hexB_len x.data.toList; rw [hxb]; omega
      have hA22 : A.s2b (A.get TyS.str ts (Int.ofNat i)) = xb := by rw [i_get (t := TyS.str) hA (by assumption)]; subst hA; simp [std, ofB_id, hxb]
      refine LoopK.mk (X := {p : Nat × List UInt8 × Nat // p.1 ≤ xb.length ∧ p.2.2 = p.2.1.length ∧ p.2.1 ++ (hexB (xb.drop p.1) ++ (lnT (ts.drop (i + 1)) ++ [10])) = T}) (fun p gh => [(37, it .i64 p.1.1)]) (fun p gh => [⟨7, 1, .box 50 [.bx 7 1 0, .os 902 gh .byte p.1.2.1]⟩, ⟨902, gh, .tok 5 .byte p.1.2.2⟩]) (fun p => xb.length - p.1.1) ⟨(0, b2, n2), by simp [hn2, hb2, ← hinv, lnT, hxb]⟩ [(902, 33, g + 2)] ⟨?_, ?_, ?_⟩ ?_
      · cbv; simp
      · cbv
      · cbv
      intro ⟨⟨j, bs', n'⟩, hj, hn', hinv'⟩ gh' g' K' hK'
      simp only [] at hj hn' hinv'
      cbv
      split
      · rename_i h'
        have hlt' : j < (A.s2b (A.get TyS.str ts (Int.ofNat i))).length := i_lt hA h'
        have hin' := i_in (t := TyS.byte) hA hlt'
        rw [hA22] at hlt'
        obtain ⟨c, hc, hcm, hd', _⟩ := i_at hlt'
        have hil' := congrArg List.length hinv'
        rw [hd'] at hinv' hil'
        simp only [hexB, List.flatMap_cons, List.length_cons, List.length_append, List.length_singleton, List.length_nil] at hil'
        have hgc : A.get TyS.byte (A.s2b (A.get TyS.str ts (Int.ofNat i))) (Int.ofNat j) = c := i_get (t := TyS.byte) hA (by rw [hA22]; exact hc)
        cbv
        have hh := hexHi hA c
        have hl' := hexLo hA c
        rw [← hgc] at hh hl'
        refine ⟨hin', by subst hA; simp [std], hexIn' hA hh (by rw [hgc]; have := c.toNat_lt; omega), ?_⟩
        refine wbU hP 7 1 902 gh' bs' n' (hexd (c.toNat / 16)) hn' (by omega) ((congrArg _ hh).trans (by rw [hgc]; exact hexAt hA _)) rfl rfl rfl fun b3 n3 hb3 hn3 => ?_
        cbv
        refine ⟨hexIn' hA hl' (by rw [hgc]; omega), ?_⟩
        refine wbU hP 7 1 44 (g' + 2) b3 n3 (hexd (c.toNat % 16)) hn3 (by rw [hn3, hb3]; simp; omega) ((congrArg _ hl').trans (by rw [hgc]; exact hexAt hA _)) rfl rfl rfl fun b4 n4 hb4 hn4 => ?_
        cbv
        refine hK' _ ⟨(j + 1, b4, n4), by simp; omega, hn4, ?_⟩ [(902, 48, g' + 3)] ?_ ⟨?_, ?_, ?_⟩
        · simp [hb4, hb3, ← hinv', hexB]
        · simp; omega
        · cbv; exact ⟨i_succ hA (by omega), trivial⟩
        · cbv
        · cbv
      · rename_i h'
        have hge : (A.s2b (A.get TyS.str ts (Int.ofNat i))).length ≤ j := i_ge hA h'
        rw [hA22] at hge
        rw [i_end hge] at hinv'
        cbv
        refine hK _ ⟨(i + 1, bs', n'), by simp; omega, hn', ?_⟩ [(901, 902, gh')] ?_ ⟨?_, ?_, ?_⟩
        · simpa [hexB] using hinv'
        · simp; omega
        · cbv; exact ⟨i_succ hA (by omega), trivial⟩
        · cbv
        · cbv
    · rename_i h
      rw [i_end (i_ge hA h)] at hinv
      have hil := congrArg List.length hinv
      simp only [lnT, List.flatMap_nil, List.length_append, List.length_singleton, List.length_nil] at hil
      cbv
      refine wbU hP 7 1 901 gh bs n 10 hn (by omega) rfl rfl rfl rfl fun b2 n2 hb2 hn2 => ?_
      cbv
      refine strU hP 7 1 51 (g + 1) b2 n2 (by rw [hb2]; simp; omega) rfl rfl rfl fun r hr => ?_
      cbv
      subst hR
      simp only [LeP, LeD, st, hr, hb2]
      rw [← hinv]; rfl
end Go.PL
namespace Go.PL
set_option linter.unusedSimpArgs false
set_option linter.unusedVariables false
set_option linter.unusedSectionVars false
open Tys (Ty U)
open Enc (sz enc dflt tb ofB toB)
open Dec (dec dok)
set_option maxRecDepth 100000
open Go.Proofs
variable [GM]
theorem begins_ok (p : Plan) (b : Bool) (hb : b = ((p.Format == 1 || p.Format == 2) && (decide (p.Rules.size ≤ 8192) && decide (p.Routes.size ≤ 8192)))) : PFun cx 27 [planPV p] (bl b) := by
  refine PFun.walk cx_ok Tryd.func27 rfl rfl rfl fun A P R hA hP hR => ?_
  cbv
  subst hA hP hR
  simp [vcm, std, cmpStd, LeP, LeD, bl, hb]
  cases p
  have e : ∀ n : Nat, decide ((n : Int) ≤ 8192) = decide (n ≤ 8192) := fun n => by
    rw [Bool.eq_iff_iff]; simp only [decide_eq_true_eq]; omega
  simp only [e, Bool.and_assoc]
def shp (w : ByteArray) (n t : Int) : PV := .ag [st w, it .i64 n, it .i64 t]
def kw : Nat → ByteArray
  | 1 => ⟨#[115, 97, 109, 112, 108, 101]⟩ | 2 => ⟨#[116, 105, 109, 101]⟩ | 3 => ⟨#[113, 117, 105, 101, 116]⟩ | 4 => ⟨#[101, 120, 112, 105, 114, 101]⟩
  | 5 => ⟨#[116, 97, 107, 101]⟩ | 6 => ⟨#[115, 116, 101, 112]⟩ | 7 => ⟨#[99, 114, 97, 115, 104]⟩ | 8 => ⟨#[98, 97, 99, 107]⟩
  | _ => .empty
def kn : Nat → Nat
  | 1 => 3 | 2 => 1 | 3 => 3 | 4 => 2 | 5 => 1 | 7 => 1 | _ => 0
def kt : Nat → Nat
  | 1 => 2 | 3 => 1 | 7 => 1 | _ => 0
def shapesM : List (Value × PV) := [
  (.int .i64 1, shp ⟨#[115, 97, 109, 112, 108, 101]⟩ 3 2), (.int .i64 2, shp ⟨#[116, 105, 109, 101]⟩ 1 0), (.int .i64 3, shp ⟨#[113, 117, 105, 101, 116]⟩ 3 1), (.int .i64 4, shp ⟨#[101, 120, 112, 105, 114, 101]⟩ 2 0),
  (.int .i64 5, shp ⟨#[116, 97, 107, 101]⟩ 1 0), (.int .i64 6, shp ⟨#[115, 116, 101, 112]⟩ 0 0), (.int .i64 7, shp ⟨#[99, 114, 97, 115, 104]⟩ 1 1), (.int .i64 8, shp ⟨#[98, 97, 99, 107]⟩ 0 0)]
theorem shapes_ok : PFunM cx 21 [] [] (.mp 2000 1) [⟨2000, 1, .map shapesM⟩] := by
  refine PFunM.walk cx_ok Tryd.func21 rfl rfl fun A P R hA hP hR => ?_
  cbv
  and_intros
  all_goals try (subst hA; simp [std, cmpStd]; done)
  refine hR _ _ ⟨[(1, 3)], ?_, ?_, ?_, ?_⟩ <;> cbv <;> simp
theorem kw_out {n : Nat} (h : ¬ (1 ≤ n ∧ n ≤ 8)) : kw n = .empty ∧ kn n = 0 ∧ kt n = 0 := by
  match n, h with
  | 0, _ => exact ⟨rfl, rfl, rfl⟩
  | 1, h | 2, h | 3, h | 4, h | 5, h | 6, h | 7, h | 8, h => exact absurd ⟨by decide, by decide⟩ h
  | n + 9, _ => exact ⟨rfl, rfl, rfl⟩
def isK (n : Int) : Bool := decide (1 ≤ n) && decide (n ≤ 8)
def shpI (n : Int) : PV := shp (kw n.toNat) (kn n.toNat : Nat) (kt n.toNat : Nat)
theorem shapes_look {A : Ar} (hA : A = std) (n : Int) : lookC A (.int .i64 n) shapesM (.ag [st .empty, it .i64 0, it .i64 0]) fun q b => LeQ q (shpI n) ∧ b = isK n := by
  have hit : ∀ k : Int, keyEq A (.int .i64 n) (.int .i64 k) = true → n = k := by
    intro k h; subst hA; simpa [keyEq, std, cmpStd] using h
  have miss : ∀ k : Int, keyEq A (.int .i64 n) (.int .i64 k) = false → n ≠ k := by
    intro k h; subst hA; simpa [keyEq, std, cmpStd] using h
  have id : ∀ q : PV, LeQ q q := fun _ _ _ _ _ h => h
  simp only [shapesM, lookC]
  split
  · rename_i h; have := hit _ h; subst this; exact ⟨id _, rfl⟩
  rename_i m1
  split
  · rename_i h; have := hit _ h; subst this; exact ⟨id _, rfl⟩
  rename_i m2
  split
  · rename_i h; have := hit _ h; subst this; exact ⟨id _, rfl⟩
  rename_i m3
  split
  · rename_i h; have := hit _ h; subst this; exact ⟨id _, rfl⟩
  rename_i m4
  split
  · rename_i h; have := hit _ h; subst this; exact ⟨id _, rfl⟩
  rename_i m5
  split
  · rename_i h; have := hit _ h; subst this; exact ⟨id _, rfl⟩
  rename_i m6
  split
  · rename_i h; have := hit _ h; subst this; exact ⟨id _, rfl⟩
  rename_i m7
  split
  · rename_i h; have := hit _ h; subst this; exact ⟨id _, rfl⟩
  rename_i m8
  have n1 := miss _ m1; have n2 := miss _ m2; have n3 := miss _ m3; have n4 := miss _ m4
  have n5 := miss _ m5; have n6 := miss _ m6; have n7 := miss _ m7; have n8 := miss _ m8
  have ho : ¬ (1 ≤ n ∧ n ≤ 8) := by omega
  obtain ⟨o1, o2, o3⟩ := kw_out (n := n.toNat) (by omega)
  refine ⟨?_, ?_⟩
  · rw [shpI, o1, o2, o3]; exact id _
  · simp only [isK]; by_cases h1 : 1 ≤ n
    · have : ¬ n ≤ 8 := fun h => ho ⟨h1, h⟩
      simp [this]
    · simp [h1]
end Go.PL
namespace Go.PL
set_option linter.unusedSimpArgs false
set_option linter.unusedVariables false
set_option linter.unusedSectionVars false
open Tys (Ty U)
open Enc (sz enc dflt tb ofB toB)
open Dec (dec dok)
set_option maxRecDepth 100000
open Go.Proofs
variable [GM]
def fnV (g : Nat) : PV := .d (.v (.func (.func g) #[] #[]))
theorem right1_ok (n : Int) (b : Bool) (hb : b = (decide (n < 0) || decide (1099511627776 < n))) : PFun cx 51 [it .i64 n] (bl b) := by
  refine PFun.walk cx_ok Tryd.func51 rfl rfl rfl fun A P R hA hP hR => ?_
  cbv
  subst hA hP hR
  simp [vcm, std, cmpStd, LeP, LeD, bl, hb]
theorem IndexFunc_int (g : Nat) (q : Int → Bool) (xs : List Int) (hg : ∀ x ∈ xs, PFun cx g [it .i64 x] (bl (q x))) (hl : xs.length ≤ 4611686018427387904) (r : Int) (hr : r = if xs.any q then (xs.findIdx q : Int) else -1) : PFun cx 62 [.d (.sl .int xs), fnV g] (it .i64 r) := by
  refine PFun.walk cx_ok Tryd.func62 rfl rfl rfl fun A P R hA hP hR => ?_
  cbv
  refine LoopK.mk (X := {i : Nat // i ≤ xs.length ∧ ∀ x ∈ xs.take i, q x = false}) (fun i _ => [(8, it .i64 i.1)]) (fun _ _ => []) (fun i => xs.length - i.1) ⟨0, by simp⟩ [] ⟨?_, ?_, ?_⟩ ?_
  · cbv; simp
  · cbv
  · cbv
  · intro ⟨i, hi, hq⟩ gh gg K hK
    cbv
    split
    · rename_i h
      have hlt : i < xs.length := by subst hA; simpa [std, cmpStd] using h
      cbv
      obtain ⟨x, hx⟩ : ∃ x, xs[i]? = some x := ⟨_, List.getElem?_eq_getElem hlt⟩
      obtain ⟨b, hb⟩ : ∃ b, b = q x := ⟨_, rfl⟩
      refine ⟨by subst hA; simp [std]; omega, CallV.le [it .i64 x] (bl b) rfl (fun _ => ?_) (fun _ => by rw [hP, hb]; exact .val _ _ _ (hg x (List.mem_of_getElem? hx))) ?_⟩
      · subst hA; simp [LeP.LePs, LeP, LeD, it, std, hx]
      cbv
      cases b with
      | true =>
        cbv
        subst hA hP hR
        simp only [LeP, LeD, it, true_and]
        have ha : xs.any q = true := List.any_eq_true.2 ⟨x, List.mem_of_getElem? hx, hb.symm⟩
        rw [hr, if_pos ha]
        have h1 : List.findIdx q xs = i := by
          rw [List.findIdx_eq hlt]
          refine ⟨by rw [List.getElem?_eq_getElem hlt] at hx; cases hx; exact hb.symm, fun j hj => ?_⟩
          exact hq _ (List.mem_of_getElem? (i := j) (by rw [List.getElem?_take, if_pos hj]; exact List.getElem?_eq_getElem _))
        rw [h1]; rfl
      | false =>
        cbv
        subst hA hP hR
        refine hK _ ⟨i + 1, by omega, ?_⟩ [] ?_ ⟨?_, trivial, rfl⟩
        · intro y hy
          rw [List.take_add_one, hx] at hy
          simp only [List.mem_append, Option.mem_toList] at hy
          rcases hy with hy | hy
          · exact hq y hy
          · cases hy; exact hb.symm
        · show xs.length - (i + 1) < xs.length - i; omega
        · simp [LeEnv, LeR, LeP, LeD, get, it, std, arStd]
          rw [w64 (by omega)]
    · rename_i h
      have hge : i = xs.length := by subst hA; simp [std, cmpStd] at h; omega
      cbv
      subst hA hP hR
      simp only [LeP, LeD, it, true_and]
      have ha : ¬ xs.any q = true := by
        rw [List.any_eq_true]
        rintro ⟨x, hx, h1⟩
        rw [hge, List.take_length] at hq
        rw [hq x hx] at h1; cases h1
      rw [hr, if_neg ha]
theorem ContainsFunc_int (g : Nat) (q : Int → Bool) (xs : List Int) (hg : ∀ x ∈ xs, PFun cx g [it .i64 x] (bl (q x))) (hl : xs.length ≤ 4611686018427387904) (b : Bool) (hb : b = xs.any q) : PFun cx 50 [.d (.sl .int xs), fnV g] (bl b) := by
  obtain ⟨r, hr⟩ : ∃ r : Int, r = if xs.any q then (xs.findIdx q : Int) else -1 := ⟨_, rfl⟩
  refine PFun.walk cx_ok Tryd.func50 rfl rfl rfl fun A P R hA hP hR => ?_
  cbv
  refine CallK.mk (it .i64 r) rfl (fun _ => by rw [hP]; exact IndexFunc_int g q xs hg hl r hr) ?_
  cbv
  subst hA hP hR
  simp only [LeP, LeD, bl, std, cmpStd, hb, hr]
  cases h : xs.any q <;> simp
theorem IndexFunc_str (g : Nat) (q : ByteArray → Bool) (xs : List ByteArray) (hg : ∀ x ∈ xs, PFun cx g [st x] (bl (q x))) (hl : xs.length ≤ 4611686018427387904) (r : Int) (hr : r = if xs.any q then (xs.findIdx q : Int) else -1) : PFun cx 63 [.d (.sl .str xs), fnV g] (it .i64 r) := by
  refine PFun.walk cx_ok Tryd.func63 rfl rfl rfl fun A P R hA hP hR => ?_
  cbv
  refine LoopK.mk (X := {i : Nat // i ≤ xs.length ∧ ∀ x ∈ xs.take i, q x = false}) (fun i _ => [(8, it .i64 i.1)]) (fun _ _ => []) (fun i => xs.length - i.1) ⟨0, by simp⟩ [] ⟨?_, ?_, ?_⟩ ?_
  · cbv; simp
  · cbv
  · cbv
  · intro ⟨i, hi, hq⟩ gh gg K hK
    cbv
    split
    · rename_i h
      have hlt : i < xs.length := by subst hA; simpa [std, cmpStd] using h
      cbv
      obtain ⟨x, hx⟩ : ∃ x, xs[i]? = some x := ⟨_, List.getElem?_eq_getElem hlt⟩
      obtain ⟨b, hb⟩ : ∃ b, b = q x := ⟨_, rfl⟩
      refine ⟨by subst hA; simp [std]; omega, CallV.le [st x] (bl b) rfl (fun _ => ?_) (fun _ => by rw [hP, hb]; exact .val _ _ _ (hg x (List.mem_of_getElem? hx))) ?_⟩
      · subst hA; simp [LeP.LePs, LeP, LeD, it, st, deedPV, std, hx]
      cbv
      cases b with
      | true =>
        cbv
        subst hA hP hR
        simp only [LeP, LeD, it, true_and]
        have ha : xs.any q = true := List.any_eq_true.2 ⟨x, List.mem_of_getElem? hx, hb.symm⟩
        rw [hr, if_pos ha]
        have h1 : List.findIdx q xs = i := by
          rw [List.findIdx_eq hlt]
          refine ⟨by rw [List.getElem?_eq_getElem hlt] at hx; cases hx; exact hb.symm, fun j hj => ?_⟩
          exact hq _ (List.mem_of_getElem? (i := j) (by rw [List.getElem?_take, if_pos hj]; exact List.getElem?_eq_getElem _))
        rw [h1]; rfl
      | false =>
        cbv
        subst hA hP hR
        refine hK _ ⟨i + 1, by omega, ?_⟩ [] ?_ ⟨?_, trivial, rfl⟩
        · intro y hy
          rw [List.take_add_one, hx] at hy
          simp only [List.mem_append, Option.mem_toList] at hy
          rcases hy with hy | hy
          · exact hq y hy
          · cases hy; exact hb.symm
        · show xs.length - (i + 1) < xs.length - i; omega
        · simp [LeEnv, LeR, LeP, LeD, get, it, std, arStd]
          rw [w64 (by omega)]
    · rename_i h
      have hge : i = xs.length := by subst hA; simp [std, cmpStd] at h; omega
      cbv
      subst hA hP hR
      simp only [LeP, LeD, it, true_and]
      have ha : ¬ xs.any q = true := by
        rw [List.any_eq_true]
        rintro ⟨x, hx, h1⟩
        rw [hge, List.take_length] at hq
        rw [hq x hx] at h1; cases h1
      rw [hr, if_neg ha]
theorem ContainsFunc_str (g : Nat) (q : ByteArray → Bool) (xs : List ByteArray) (hg : ∀ x ∈ xs, PFun cx g [st x] (bl (q x))) (hl : xs.length ≤ 4611686018427387904) (b : Bool) (hb : b = xs.any q) : PFun cx 52 [.d (.sl .str xs), fnV g] (bl b) := by
  obtain ⟨r, hr⟩ : ∃ r : Int, r = if xs.any q then (xs.findIdx q : Int) else -1 := ⟨_, rfl⟩
  refine PFun.walk cx_ok Tryd.func52 rfl rfl rfl fun A P R hA hP hR => ?_
  cbv
  refine CallK.mk (it .i64 r) rfl (fun _ => by rw [hP]; exact IndexFunc_str g q xs hg hl r hr) ?_
  cbv
  subst hA hP hR
  simp only [LeP, LeD, bl, std, cmpStd, hb, hr]
  cases h : xs.any q <;> simp
theorem IndexFunc_deed (g : Nat) (q : Deed → Bool) (xs : List Deed) (hg : ∀ x ∈ xs, PFun cx g [deedPV x] (bl (q x))) (hl : xs.length ≤ 4611686018427387904) (r : Int) (hr : r = if xs.any q then (xs.findIdx q : Int) else -1) : PFun cx 49 [.d (.sl .deed xs), fnV g] (it .i64 r) := by
  refine PFun.walk cx_ok Tryd.func49 rfl rfl rfl fun A P R hA hP hR => ?_
  cbv
  refine LoopK.mk (X := {i : Nat // i ≤ xs.length ∧ ∀ x ∈ xs.take i, q x = false}) (fun i _ => [(8, it .i64 i.1)]) (fun _ _ => []) (fun i => xs.length - i.1) ⟨0, by simp⟩ [] ⟨?_, ?_, ?_⟩ ?_
  · cbv; simp
  · cbv
  · cbv
  · intro ⟨i, hi, hq⟩ gh gg K hK
    cbv
    split
    · rename_i h
      have hlt : i < xs.length := by subst hA; simpa [std, cmpStd] using h
      cbv
      obtain ⟨x, hx⟩ : ∃ x, xs[i]? = some x := ⟨_, List.getElem?_eq_getElem hlt⟩
      obtain ⟨b, hb⟩ : ∃ b, b = q x := ⟨_, rfl⟩
      refine ⟨by subst hA; simp [std]; omega, CallV.le [deedPV x] (bl b) rfl (fun _ => ?_) (fun _ => by rw [hP, hb]; exact .val _ _ _ (hg x (List.mem_of_getElem? hx))) ?_⟩
      · subst hA; simp [LeP.LePs, LeP, LeD, it, st, deedPV, std, hx]
      cbv
      cases b with
      | true =>
        cbv
        subst hA hP hR
        simp only [LeP, LeD, it, true_and]
        have ha : xs.any q = true := List.any_eq_true.2 ⟨x, List.mem_of_getElem? hx, hb.symm⟩
        rw [hr, if_pos ha]
        have h1 : List.findIdx q xs = i := by
          rw [List.findIdx_eq hlt]
          refine ⟨by rw [List.getElem?_eq_getElem hlt] at hx; cases hx; exact hb.symm, fun j hj => ?_⟩
          exact hq _ (List.mem_of_getElem? (i := j) (by rw [List.getElem?_take, if_pos hj]; exact List.getElem?_eq_getElem _))
        rw [h1]; rfl
      | false =>
        cbv
        subst hA hP hR
        refine hK _ ⟨i + 1, by omega, ?_⟩ [] ?_ ⟨?_, trivial, rfl⟩
        · intro y hy
          rw [List.take_add_one, hx] at hy
          simp only [List.mem_append, Option.mem_toList] at hy
          rcases hy with hy | hy
          · exact hq y hy
          · cases hy; exact hb.symm
        · show xs.length - (i + 1) < xs.length - i; omega
        · simp [LeEnv, LeR, LeP, LeD, get, it, std, arStd]
          rw [w64 (by omega)]
    · rename_i h
      have hge : i = xs.length := by subst hA; simp [std, cmpStd] at h; omega
      cbv
      subst hA hP hR
      simp only [LeP, LeD, it, true_and]
      have ha : ¬ xs.any q = true := by
        rw [List.any_eq_true]
        rintro ⟨x, hx, h1⟩
        rw [hge, List.take_length] at hq
        rw [hq x hx] at h1; cases h1
      rw [hr, if_neg ha]
theorem ContainsFunc_deed (g : Nat) (q : Deed → Bool) (xs : List Deed) (hg : ∀ x ∈ xs, PFun cx g [deedPV x] (bl (q x))) (hl : xs.length ≤ 4611686018427387904) (b : Bool) (hb : b = xs.any q) : PFun cx 28 [.d (.sl .deed xs), fnV g] (bl b) := by
  obtain ⟨r, hr⟩ : ∃ r : Int, r = if xs.any q then (xs.findIdx q : Int) else -1 := ⟨_, rfl⟩
  refine PFun.walk cx_ok Tryd.func28 rfl rfl rfl fun A P R hA hP hR => ?_
  cbv
  refine CallK.mk (it .i64 r) rfl (fun _ => by rw [hP]; exact IndexFunc_deed g q xs hg hl r hr) ?_
  cbv
  subst hA hP hR
  simp only [LeP, LeD, bl, std, cmpStd, hb, hr]
  cases h : xs.any q <;> simp
end Go.PL
namespace Go.PL
set_option linter.unusedSimpArgs false
set_option linter.unusedVariables false
set_option linter.unusedSectionVars false
open Tys (Ty U)
open Enc (sz enc dflt tb ofB toB)
open Dec (dec dok)
set_option maxRecDepth 100000
open Go.Proofs
variable [GM]
theorem right2_ok (s : ByteArray) : PFun cx 53 [st s] (bl (decide (1000 < s.size))) := by
  obtain ⟨b, hb⟩ : ∃ b, b = decide (1000 < s.size) := ⟨_, rfl⟩
  rw [← hb]
  refine PFun.walk cx_ok Tryd.func53 rfl rfl rfl fun A P R hA hP hR => ?_
  cbv
  subst hA hP hR
  simp only [LeP, LeD, bl, std, cmpStd, hb]
  rw [Bool.eq_iff_iff]; simp; omega
def far (n : Int) : Bool := decide (n < 0) || decide (1099511627776 < n)
/-- a kind's numbers and texts -/
def kindNums : Int → Option (Nat × Nat)
  | 1 => some (3, 2) | 2 => some (1, 0) | 3 => some (3, 1) | 4 => some (2, 0) | 5 => some (1, 0) | 6 => some (0, 0) | 7 => some (1, 1) | 8 => some (0, 0)
  | _ => none
def rightD (d : Deed) : Bool := match kindNums d.Kind with
  | some (n, t) => !d.Nums.any far && (d.Nums.length == n) && (d.Texts.length == t) && !d.Texts.any (fun s => decide (1000 < s.size))
  | none => false
theorem eqn {n : Nat} {k : Nat} {x : Int} (h : x = k) : ((n : Int) == x) = (n == k) := by
  rw [Bool.eq_iff_iff]; simp [h]; omega
theorem kinds_eq (n : Int) : kindNums n = if isK n = true then some (kn n.toNat, kt n.toNat) else none := by
  unfold kindNums
  split <;> first | rfl | skip
  rename_i n1 n2 n3 n4 n5 n6 n7 n8
  have : isK n = false := by
    simp only [isK]
    by_cases h1 : 1 ≤ n
    · have : ¬ n ≤ 8 := fun h => by
        have h2 : n = 1 ∨ n = 2 ∨ n = 3 ∨ n = 4 ∨ n = 5 ∨ n = 6 ∨ n = 7 ∨ n = 8 := by omega
        rcases h2 with h | h | h | h | h | h | h | h <;> contradiction
      simp [this]
    · simp [h1]
  rw [this]; rfl
theorem right_ok (d : Deed) (b : Bool) (hb : b = rightD d) (h1 : d.Nums.length ≤ 4611686018427387904) (h2 : d.Texts.length ≤ 4611686018427387904) : PFun cx 30 [deedPV d] (bl b) := by
  obtain ⟨dk, dn, dt⟩ := d
  simp only [] at h1 h2
  obtain ⟨f1, hf1⟩ : ∃ f1, f1 = dn.any far := ⟨_, rfl⟩
  obtain ⟨f2, hf2⟩ : ∃ f2, f2 = dt.any (fun s => decide (1000 < s.size)) := ⟨_, rfl⟩
  obtain ⟨w, hw⟩ : ∃ w, w = kw dk.toNat := ⟨_, rfl⟩
  obtain ⟨vn, hvn⟩ : ∃ v : Int, v = (kn dk.toNat : Nat) := ⟨_, rfl⟩
  obtain ⟨vt, hvt⟩ : ∃ v : Int, v = (kt dk.toNat : Nat) := ⟨_, rfl⟩
  obtain ⟨is, his⟩ : ∃ b, b = isK dk := ⟨_, rfl⟩
  refine PFun.walk cx_ok Tryd.func30 rfl rfl rfl fun A P R hA hP hR => ?_
  have hlook := shapes_look hA dk
  rw [shpI, ← hw, ← hvn, ← hvt, ← his] at hlook
  cbv
  refine CallK.mem 7 rfl rfl [] [] [] (.mp 2000 1) [⟨2000, 1, .map shapesM⟩] (fun _ => by rw [hP]; exact shapes_ok) rfl (fun _ => trivial) trivial rfl rfl ?_
  cbv
  refine LookK.one _ is hlook ?_
  cbv
  refine CallK.mk (bl f1) rfl (fun _ => by rw [hP]; exact ContainsFunc_int 51 far dn (fun x _ => right1_ok x _ rfl) h1 _ hf1) ?_
  cbv
  repeat (refine And.intro (by split <;> first | exact True.intro | rfl | assumption) ?_)
  refine CallK.mk (bl f2) rfl (fun _ => by rw [hP]; exact ContainsFunc_str 53 (fun s => decide (1000 < s.size)) dt (fun x _ => right2_ok x) h2 _ hf2) ?_
  cbv
  repeat (refine And.intro (by split <;> first | exact True.intro | rfl | assumption) ?_)
  replace hvn : vn = ((kn dk.toNat : Nat) : Int) := hvn
  replace hvt : vt = ((kt dk.toNat : Nat) : Int) := hvt
  subst hA hP hR
  simp only [LeP, LeD, bl, hb, rightD, kinds_eq, his, hvn, hvt, hf1, hf2, s_land, s_not, s_eql, s_len]
  show (_ && _ && _ && _ && _) = _
  cases isK dk with
  | false => simp
  | true =>
    simp only [Bool.true_and, if_true]
    congr 1
    congr 1
    · congr 1
      rw [Bool.eq_iff_iff]; simp; omega
    · rw [Bool.eq_iff_iff]; simp; omega
end Go.PL
namespace Go.PL
set_option linter.unusedSimpArgs false
set_option linter.unusedVariables false
set_option linter.unusedSectionVars false
open Tys (Ty U)
open Enc (sz enc dflt tb ofB toB)
open Dec (dec dok)
set_option maxRecDepth 100000
open Go.Proofs
variable [GM]
def smallD (d : Deed) : Prop := d.Nums.length ≤ 4611686018427387904 ∧ d.Texts.length ≤ 4611686018427387904
theorem Right1_ok (d : Deed) (h : smallD d) : PFun cx 29 [deedPV d] (bl (!rightD d)) := by
  obtain ⟨b, hb⟩ : ∃ b, b = rightD d := ⟨_, rfl⟩
  rw [← hb]
  obtain ⟨c, hc⟩ : ∃ c, c = !b := ⟨_, rfl⟩
  rw [← hc]
  refine PFun.walk cx_ok Tryd.func29 rfl rfl rfl fun A P R hA hP hR => ?_
  cbv
  refine CallK.mk (bl b) rfl (fun _ => by rw [hP]; exact right_ok d b hb h.1 h.2) ?_
  cbv
  subst hA hP hR
  simp [LeP, LeD, bl, std, hc]
def beginsP (p : Plan) : Bool := (p.Format == 1 || p.Format == 2) && (decide (p.Rules.size ≤ 8192) && decide (p.Routes.size ≤ 8192))
def rightP (p : Plan) : Bool := beginsP p && (decide (p.Deeds.length ≤ 200) && !p.Deeds.any fun d => !rightD d)
theorem Right_ok (p : Plan) (b : Bool) (hb : b = rightP p) (h : ∀ d ∈ p.Deeds, smallD d) (hl : p.Deeds.length ≤ 4611686018427387904) : PFun cx 12 [planPV p] (bl b) := by
  obtain ⟨f1, hf1⟩ : ∃ f1, f1 = beginsP p := ⟨_, rfl⟩
  obtain ⟨f2, hf2⟩ : ∃ f2, f2 = p.Deeds.any fun d => !rightD d := ⟨_, rfl⟩
  refine PFun.walk cx_ok Tryd.func12 rfl rfl rfl fun A P R hA hP hR => ?_
  cbv
  refine CallK.mk (bl f1) rfl (fun _ => by rw [hP]; exact begins_ok p f1 hf1) ?_
  cbv
  and_intros
  all_goals try (subst hA; simp only [vcm, std, cmpStd]; simp; done)
  refine CallK.mk (bl f2) rfl (fun _ => by rw [hP]; exact ContainsFunc_deed 29 (fun d => !rightD d) p.Deeds (fun d hd => Right1_ok d (h d hd)) hl _ hf2) ?_
  cbv
  subst hA hP hR
  simp only [vcm, std, cmpStd]
  simp [LeP, LeD, bl, hb, rightP, hf1, hf2]
  have e : ∀ n : Nat, decide ((n : Int) ≤ 200) = decide (n ≤ 200) := fun n => by
    rw [Bool.eq_iff_iff]; simp only [decide_eq_true_eq]; omega
  cases p
  simp only [e, Bool.and_assoc]
end Go.PL
namespace Go.PL
set_option linter.unusedSimpArgs false
set_option linter.unusedVariables false
set_option linter.unusedSectionVars false
open Tys (Ty U)
open Enc (sz enc dflt tb ofB toB)
open Dec (dec dok)
set_option maxRecDepth 100000
open Go.Proofs
variable [GM]
def numL (l : List UInt8) : Int := l.foldl (fun n c => 10 * n + ((c.toNat % 16 : Nat) : Int)) 0
def numS (s : ByteArray) : Int := numL (s.data.toList.take 14)
theorem numL_snoc (l : List UInt8) (c : UInt8) : numL (l ++ [c]) = 10 * numL l + ((c.toNat % 16 : Nat) : Int) := by simp [numL]
theorem and15 {A : Ar} (hA : A = std) (c : UInt8) : A.conv .i64 (A.ar .and .u8 (c.toNat : Int) 15) = ((c.toNat % 16 : Nat) : Int) := by
  rw [hexLo hA]
  subst hA
  simp only [std]
  rw [w64 (by omega)]
theorem numAcc {m d : Int} {j : Nat} (h0 : 0 ≤ m) (h1 : 9 * m ≤ 15 * (10 ^ j - 1)) (hj : j < 14) (hd : 0 ≤ d) (hd' : d < 16) : 10 * m ≤ 1000000000000000 ∧ 10 * m + d ≤ 1000000000000000 ∧ 9 * (10 * m + d) ≤ 15 * (10 ^ (j + 1) - 1) := by
  have e : (10 : Int) ^ j = ((10 ^ j : Nat) : Int) := by simp
  have h2 : 10 ^ j ≤ 10 ^ 13 := Nat.pow_le_pow_right (by decide) (by omega)
  have h3 : (10 : Nat) ^ 13 = 10000000000000 := rfl
  rw [Int.pow_succ, e]
  rw [e] at h1
  generalize 10 ^ j = P at *
  omega
theorem byteAt {s : ByteArray} {j : Nat} (h : j < s.size) : ∃ c, s.data.toList[j]? = some c ∧ s.data.toList.take (j + 1) = s.data.toList.take j ++ [c] ∧ s.data.toList.drop j = c :: s.data.toList.drop (j + 1) ∧ ∀ {A : Ar}, A = std → A.sget s (Int.ofNat j) = (c.toNat : Int) := by
  have hl : j < s.data.toList.length := by simpa using h
  refine ⟨s.data.toList[j], List.getElem?_eq_getElem hl, List.take_succ_eq_append_getElem hl, List.drop_eq_getElem_cons hl, ?_⟩
  rintro A rfl
  show ((s.data.getD j 0).toNat : Int) = _
  have hl' : j < s.data.size := h
  simp only [Array.getD]
  rw [dif_pos hl']
  simp
theorem s_in {A : Ar} {s : ByteArray} {i : Nat} (hA : A = std) (h : i < s.size) : A.inb (Int.ofNat i) (A.slen s) := by subst hA; simp only [std]; simp; omega
theorem numbers_ok (l : List ByteArray) (hl : l.length ≤ 1099511627776) : PFun cx 47 [.d (.sl .str l)] (.d (.sl .int (l.map numS))) := by
  obtain ⟨T, hT⟩ : ∃ T : List Int, T = l.map numS := ⟨_, rfl⟩
  rw [← hT]
  refine PFun.walk cx_ok Tryd.func47 rfl rfl rfl fun A P R hA hP hR => ?_
  cbv
  refine LoopK.mk (X := {p : Nat × List Int × Nat // p.1 ≤ l.length ∧ p.2.2 = p.2.1.length ∧ p.2.1.length ≤ p.1 ∧ p.2.1 ++ (l.drop p.1).map numS = T}) (fun p gh => [(10, it .i64 p.1.1), (3, .os 900 gh .int p.1.2.1)]) (fun p gh => [⟨900, gh, .tok 3 .int p.1.2.2⟩]) (fun p => l.length - p.1.1) ⟨(0, [], 0), by simp [hT]⟩ [] ⟨?_, ?_, ?_⟩ ?_
  · (cbv <;> (try (and_intros <;> (first | exact True.intro | exact i_succ hA (by omega) | rfl | simp))))
  · (cbv <;> (try (and_intros <;> (first | exact True.intro | rfl | simp))))
  · cbv
  intro ⟨⟨i, acc, n⟩, hi, hn, ha, hinv⟩ gh g K hK
  simp only [] at hi hn hinv ha
  cbv
  split
  · rename_i h
    have hlt := i_lt hA h
    obtain ⟨x, hx, hxm, hd, _⟩ := i_at hlt
    have hgx : A.get TyS.str l (Int.ofNat i) = x := i_get (t := TyS.str) hA hx
    rw [hd, List.map_cons] at hinv
    cbv
    repeat (refine And.intro (by first | exact True.intro | exact i_in hA (by assumption) | (subst hA; simp [std]; done) | (split <;> first | exact True.intro | rfl | assumption) | (subst hA; simp [std]; omega)) ?_)
    have hmn : A.mn (A.slen (A.get TyS.str l (Int.ofNat i))) 14 = ((min x.size 14 : Nat) : Int) := by rw [hgx]; subst hA; simp only [std]; omega
    refine LoopK.mk (X := {p : Nat × Int // p.1 ≤ min x.size 14 ∧ p.2 = numL (x.data.toList.take p.1) ∧ 0 ≤ p.2 ∧ 9 * p.2 ≤ 15 * (10 ^ p.1 - 1)}) (fun p gh => [(17, it .i64 p.1.1), (6, it .i64 p.1.2)]) (fun _ _ => [⟨900, gh, .tok 3 .int n⟩]) (fun p => min x.size 14 - p.1.1) ⟨(0, 0), by simp [numL]⟩ [] ⟨?_, ?_, ?_⟩ ?_
    · (cbv <;> (try (and_intros <;> (first | exact True.intro | exact i_succ hA (by omega) | rfl | simp))))
    · (cbv <;> (try (and_intros <;> (first | exact True.intro | rfl | simp))))
    · cbv
    intro ⟨⟨j, m⟩, hj, hm, hm0, hm1⟩ gh' g' K' hK'
    simp only [] at hj hm hm0 hm1
    cbv
    split
    · rename_i h'
      have hlt' : j < min x.size 14 := by
        have h2 : A.cmp .lss (Int.ofNat j) (A.mn (A.slen (A.get TyS.str l (Int.ofNat i))) 14) = true := h'
        rw [hmn] at h2; subst hA; simpa [std, cmpStd] using h2
      cbv
      obtain ⟨c, hc, htk, _, hgj⟩ := byteAt (s := x) (j := j) (by omega)
      have hgj := hgj hA
      rw [← hgx] at hgj
      have hd15 := and15 hA c
      rw [← hgj] at hd15
      obtain ⟨b1, b2, b3⟩ := numAcc (d := ((c.toNat % 16 : Nat) : Int)) hm0 hm1 (by omega) (by omega) (by omega)
      have hm' : A.ar .add .i64 (A.ar .mul .i64 10 m) (A.conv .i64 (A.ar .and .u8 (A.sget (A.get TyS.str l (Int.ofNat i)) (Int.ofNat j)) 15)) = 10 * m + ((c.toNat % 16 : Nat) : Int) := by
        rw [hd15]
        subst hA
        show IntKind.i64.wrap (IntKind.i64.wrap (10 * m) + _) = _
        rw [w64 (n := 10 * m) (by omega), w64 (by omega)]
      have hlj : j < (A.get TyS.str l (Int.ofNat i)).size := by rw [hgx]; omega
      refine ⟨s_in hA hlj, ?_⟩
      refine hK' _ ⟨(j + 1, A.ar .add .i64 (A.ar .mul .i64 10 m) (A.conv .i64 (A.ar .and .u8 (A.sget (A.get TyS.str l (Int.ofNat i)) (Int.ofNat j)) 15))), by simp only []; omega, ?_, ?_, ?_⟩ [] ?_ ⟨?_, ?_, ?_⟩
      · simp only []; rw [hm', htk, numL_snoc, ← hm]
      · simp only []; rw [hm']; omega
      · simp only []; rw [hm']; exact b3
      · simp; omega
      · (cbv <;> (try (and_intros <;> (first | exact True.intro | exact i_succ hA (by omega) | rfl | simp))))
      · (cbv <;> (try (and_intros <;> (first | exact True.intro | rfl | simp))))
      · cbv
    · rename_i h'
      have hge' : min x.size 14 ≤ j := by
        have h2 : A.cmp .lss (Int.ofNat j) (A.mn (A.slen (A.get TyS.str l (Int.ofNat i))) 14) = false := h'
        rw [hmn] at h2; subst hA; simpa [std, cmpStd] using h2
      have hmx : m = numS x := by
        rw [hm, numS]
        congr 1
        have : j = min x.size 14 := by omega
        rw [this]
        rcases Nat.le_total x.size 14 with h0 | h0
        · have e : x.data.toList.length = x.size := by simp
          rw [Nat.min_eq_left h0, List.take_of_length_le (by omega), List.take_of_length_le (by omega)]
        · rw [Nat.min_eq_right h0]
      cbv
      repeat (refine And.intro (by first | exact ⟨True.intro, True.intro⟩ | (subst hA; simp [std, hn]; done) | exact True.intro | exact i_in hA (by assumption) | (subst hA; simp [std]; done) | (split <;> first | exact True.intro | rfl | assumption) | (subst hA; simp [std]; omega)) ?_)
      refine hK _ ⟨(i + 1, A.app TyS.int acc [m], A.nlen TyS.int (A.app TyS.int acc [m])), by simp only []; omega, ?_, ?_, ?_⟩ [(900, 32, g' + 1)] ?_ ⟨?_, ?_, ?_⟩
      · subst hA; rfl
      · subst hA; simp [std]; omega
      · rw [← hinv, hmx]; subst hA; simp [std]
      · simp; omega
      · (cbv <;> (try (and_intros <;> (first | exact True.intro | exact i_succ hA (by omega) | rfl | simp))))
      · (cbv <;> (try (and_intros <;> (first | exact True.intro | rfl | simp))))
      · cbv
  · rename_i h
    rw [i_end (i_ge hA h)] at hinv
    cbv
    subst hR
    simp only [LeP, LeD]
    simpa using hinv
end Go.PL
/-! The library's contracts, as contracts of data. -/
namespace Go.PL
set_option linter.unusedSimpArgs false
set_option linter.unusedVariables false
set_option linter.unusedSectionVars false
open Tys (Ty U)
open Enc (sz enc dflt tb ofB toB)
open Dec (dec dok)
set_option maxRecDepth 100000
open Go.Proofs
variable [GM]
theorem adv_ext {Z : Nat → Nat → Prop} {w w' : World} {os : Array Obj} (h : w'.heap = w.heap ++ os) (hos : w'.os = w.os) (hout : w'.output = w.output) (hz : ZLt Z w) : ZLt Z w' ∧ Adv noNames emp Z w noNames emp Z w' := by
  have hold : ∀ b, b < w.heap.size → w'.heap[b]? = w.heap[b]? := fun b hb => by rw [h, Array.getElem?_append_left hb]
  have hs : w.heap.size ≤ w'.heap.size := by rw [h]; simp
  refine ⟨fun b o hb => Nat.lt_of_lt_of_le (hz b o hb) hs, fun _ _ _ h => h, fun _ _ h => h, fun b o hb => ?_, fun b s hb => ?_, hs, fun b hb _ => hold b hb, fun _ _ h => .inl h, fun k g c b h => by simp [emp] at h, hos, hout⟩
  · simp only [World.cell?, hold b (hz b o hb)]
  · have hb' : b < w.heap.size := by
      rcases Nat.lt_or_ge b w.heap.size with h1 | h1
      · exact h1
      · simp [World.shape?, Array.getElem?_eq_none h1] at hb
    simp only [World.shape?, hold b hb'] at hb ⊢; exact hb
/-- a contract of the kit's kind, at data, whose world only grows -/
theorem pfun_of {f : Nat} {vs : List Value} {v : Value} (hc : ∀ (args : Array Value) (w : World), (callFunc f args).run Tryd.prog w = .ok (.enter f args) w)
    (h : ∀ (w : World) (Z : Nat → Nat → Prop), GI cx noNames w Z → Calls Tryd.prog f vs.toArray w fun e w' => e = .returned v ∧ (∃ os : Array Obj, w'.heap = w.heap ++ os) ∧ w'.os = w.os ∧ w'.output = w.output) : PFun cx f (vs.map fun x => .d (.v x)) (.d (.v v)) := by
  refine ⟨fun w Z vals hv hg hz => .inl ⟨hc _ _, ?_⟩⟩
  have e : vals = vs := by
    apply List.ext_getElem?
    intro i
    have hl : vals.length = vs.length := by simpa using hv.1
    rcases Nat.lt_or_ge i vals.length with hi | hi
    · have hi' : i < vs.length := by omega
      have := hv.2 i vals[i] (.d (.v vs[i])) (List.getElem?_eq_getElem hi) (by rw [List.getElem?_map, List.getElem?_eq_getElem hi']; rfl)
      rw [List.getElem?_eq_getElem hi, List.getElem?_eq_getElem hi', this.val]
    · rw [List.getElem?_eq_none hi, List.getElem?_eq_none (by omega)]
  subst e
  refine (h w Z hg).mono fun e w' h => ?_
  obtain ⟨rfl, ⟨os, ho⟩, ho1, ho2⟩ := h
  obtain ⟨h1, h2⟩ := adv_ext ho ho1 ho2 hz
  exact ⟨v, Z, rfl, RP.ofVal .., h1, h2⟩
theorem maxLen_of {w : World} {Z : Nat → Nat → Prop} (hg : GI cx noNames w Z) : w.cell? ⟨0, 0, none⟩ = some (.int .i64 GM.m) := by
  have h := (hg 0 [.v (.int .i64 GM.m)] rfl).rp
  cases h with
  | ip _ _ _ vs h =>
    obtain ⟨h1, _, h2⟩ := h 0 _ rfl
    generalize vs 0 = u at h1 h2
    cases h2
    exact h1
theorem pow10_of (ht : GM.tab = true) {w : World} {Z : Nat → Nat → Prop} (hg : GI cx noNames w Z) : Lib.TabIs Tryd.prog w "internal/strconv.uint64pow10" .u64 Lib.pow10Tab := by
  obtain ⟨h, T, hs⟩ := hg 1 (Lib.pow10Tab.map fun z => .v (.int .u64 z)) (by show gtS 1 = _; simp only [gtS, ht])
  have hn : Tryd.prog.globalNamed "internal/strconv.uint64pow10" = some 1 := by kernel_rfl
  obtain ⟨cs, fr, hb⟩ : ∃ cs fr, w.heap[1]? = some (.cells cs T fr) ∧ cs.size = 20 := by
    simp only [World.shape?] at hs
    split at hs
    · rename_i cs T' fr hb
      simp only [Option.some.injEq, Prod.mk.injEq] at hs
      obtain ⟨rfl, hs⟩ := hs
      exact ⟨cs, fr, hb, by rw [hs]; simp [Lib.pow10Tab_length]⟩
    · cases hs
  cases h with
  | ip _ _ _ vs h =>
    unfold Lib.TabIs World.var?
    rw [hn]
    simp only [Option.bind_some, hb.1]
    congr 1
    apply Array.ext_getElem?
    intro i
    rcases Nat.lt_or_ge i 20 with hi | hi
    · have hz : (Lib.pow10Tab.map fun z => D.v (.int .u64 z))[i]? = some (.v (.int .u64 (Lib.pow10Tab[i]'(by rw [Lib.pow10Tab_length]; exact hi)))) := by
        rw [List.getElem?_map, List.getElem?_eq_getElem (by rw [Lib.pow10Tab_length]; exact hi)]; rfl
      obtain ⟨h1, _, h2⟩ := h i _ hz
      generalize vs i = u at h1 h2
      cases h2
      have h3 : w.cell? ⟨1, 0 + i, none⟩ = cs[i]? := by simp [World.cell?, hb.1]
      rw [← h3, h1]
      simp [Lib.pow10Tab_length, hi]
    · rw [Array.getElem?_eq_none (by omega), Array.getElem?_eq_none (by simp [Lib.pow10Tab_length]; omega)]
theorem IndexByte_ok (s : ByteArray) (c : Int) : PFun cx 61 [st s, it .u8 c] (it .i64 (Lib.indexByte s.data.toList c.toNat.toUInt8)) :=
  pfun_of (vs := [.string s, .int .u8 c]) Tryd.call61 fun w Z _ => (Tryd.strings_IndexByte s c w).mono fun e w' ⟨h1, h2⟩ => ⟨h1, ⟨#[], by rw [h2]; simp⟩, by rw [h2], by rw [h2]⟩
theorem Itoa_ok (ht : GM.tab = true) (n : Int) (h0 : -9223372036854775808 ≤ n) (h1 : n ≤ 9223372036854775807) : PFun cx 32 [it .i64 n] (st ⟨(Lib.itoa n).toArray⟩) :=
  pfun_of (vs := [.int .i64 n]) Tryd.call32 fun w Z hg => (Tryd.strconv_Itoa n h0 h1 w (pow10_of ht hg)).mono fun e w' ⟨h1, k, os, h2⟩ => ⟨h1, ⟨os, by rw [h2]; rfl⟩, by rw [h2]; rfl, by rw [h2]; rfl⟩
theorem CountOne_ok (s : ByteArray) (c : UInt8) : PFun cx 16 [st s, st ⟨#[c]⟩] (it .i64 (Lib.countByte s.data.toList c)) :=
  pfun_of (vs := [.string s, .string ⟨#[c]⟩]) Tryd.call16 fun w Z _ => (Tryd.strings_Count_one s c w).mono fun e w' ⟨h1, h2⟩ => ⟨h1, ⟨#[], by rw [h2]; simp⟩, by rw [h2], by rw [h2]⟩
theorem Cut_ok (s sep : ByteArray) (hs : s.size < 4294967281) : PFun cx 23 [st s, st sep] (.tu [st ⟨(Lib.cut s.data.toList sep.data.toList).1.toArray⟩, st ⟨(Lib.cut s.data.toList sep.data.toList).2.1.toArray⟩, bl (Lib.cut s.data.toList sep.data.toList).2.2]) := by
  have := pfun_of (vs := [.string s, .string sep]) Tryd.call23 fun w Z hg => (Tryd.strings_Cut s sep GM.m w hs (maxLen_of hg)).mono fun e w' ⟨h1, n, h2⟩ => ⟨h1, ⟨#[], by rw [h2]; simp [World.drewN]⟩, by rw [h2]; rfl, by rw [h2]; rfl⟩
  refine ⟨fun w Z vals hv hg hz => ?_⟩
  rcases this.run w Z vals hv hg hz with ⟨h1, h2⟩ | ⟨v, w', h1, h2⟩
  · refine .inl ⟨h1, h2.mono fun e w' h => ?_⟩
    obtain ⟨v, Z', rfl, h3, h4⟩ := h
    refine ⟨v, Z', rfl, ?_, h4⟩
    rw [h3.val]
    exact RP.tu _ [_, _, _] rfl fun i x p hx hp => by
      match i, hx, hp with
      | 0, hx, hp => cases hx; cases hp; exact RP.ofVal ..
      | 1, hx, hp => cases hx; cases hp; exact RP.ofVal ..
      | 2, hx, hp => cases hx; cases hp; exact RP.ofVal ..
      | i + 3, hx, hp => simp at hx
  · refine .inr ⟨v, w', h1, ?_⟩
    obtain ⟨v', Z', h0, h3, h4⟩ := h2
    refine ⟨v', Z', h0, ?_, h4⟩
    rw [h3.val]
    exact RP.tu _ [_, _, _] rfl fun i x p hx hp => by
      match i, hx, hp with
      | 0, hx, hp => cases hx; cases hp; exact RP.ofVal ..
      | 1, hx, hp => cases hx; cases hp; exact RP.ofVal ..
      | 2, hx, hp => cases hx; cases hp; exact RP.ofVal ..
      | i + 3, hx, hp => simp at hx
/-- the parts of a text -/
def splitL (s sep : ByteArray) : List ByteArray := Lib.splitB sep 0 (Lib.countB s sep) s
theorem Split_ok (s sep : ByteArray) (hs : s.size < 4294967281) (h1 : 1 ≤ sep.size) : PFun cx 46 [st s, st sep] (.d (.sl .str (splitL s sep))) := by
  refine ⟨fun w Z vals hv hg hz => .inl ⟨Tryd.call46 _ _, ?_⟩⟩
  obtain ⟨x, y, rfl⟩ : ∃ x y, vals = [x, y] := by
    have := hv.1
    match vals, this with
    | [x, y], _ => exact ⟨x, y, rfl⟩
  have hx := (hv.2 0 x (st s) rfl rfl).val
  have hy := (hv.2 1 y (st sep) rfl rfl).val
  subst hx; subst hy
  refine (Tryd.strings_Split s sep GM.m w hs (maxLen_of hg) h1).mono fun e w' h => ?_
  obtain ⟨rfl, rfl⟩ := h
  have hlen : (splitL s sep).length = Lib.countB s sep + 1 := by
    rw [splitL, Lib.splitB_all sep h1 0 _ s rfl]
  have hgr : Grown w (w.alloc (.cells ((splitL s sep).map Value.string).toArray 9)) (.cells ((splitL s sep).map Value.string).toArray 9 (0, 0)) := ⟨rfl, rfl, rfl⟩
  have hwr : WR noNames emp Z w := ⟨fun k g c h => by simp [emp] at h, fun k g k' g' c c' b h => by simp [emp] at h, hz⟩
  obtain ⟨h8, h9, h10⟩ := new_plain (t := TyS.str) (xs := splitL s sep) (cap := (splitL s sep).length) hgr hwr (Nat.le_refl _) (by
    intro j i y d hy hd
    match i, hd with
    | 0, hd =>
      cases hd
      exact ⟨.string y, by
        have e : (splitL s sep)[j]? = some y := hy
        show ((splitL s sep).map Value.string).toArray[j * 1 + 0]? = _
        simp [e], RD.v _⟩
    | i + 1, hd => simp [enc, encS] at hd)
  rw [← hlen]
  exact ⟨_, _, rfl, h8, h9.zlt, h10⟩
end Go.PL
namespace Go.PL
set_option linter.unusedSimpArgs false
set_option linter.unusedVariables false
set_option linter.unusedSectionVars false
open Tys (Ty U)
open Enc (sz enc dflt tb ofB toB)
open Dec (dec dok)
set_option maxRecDepth 100000
open Go.Proofs
variable [GM]
def hv (c : UInt8) : Nat := (Lib.indexByte hexs.data.toList c).toNat
theorem idx_lt : ∀ (l : List UInt8) (c : UInt8), Lib.indexByte l c < l.length
  | [], _ => by simp [Lib.indexByte]
  | b :: l, c => by
    have := idx_lt l c
    simp only [Lib.indexByte, List.length_cons]
    split
    · omega
    · split
      · omega
      · omega
theorem hv_lt (c : UInt8) : hv c < 16 := by
  have h : Lib.indexByte hexs.data.toList c < 16 := idx_lt hexs.data.toList c
  have := Lib.indexByte_ge hexs.data.toList c
  unfold hv; omega
def unhL : List UInt8 → List UInt8
  | a :: b :: r => UInt8.ofNat (hv a * 16 + hv b) :: unhL r
  | _ => []
def textS (w : ByteArray) : ByteArray := ⟨(unhL (w.data.toList.drop 1)).toArray⟩
theorem or16 : ∀ p q : Fin 16, arStd .or .i64 (arStd .shl .i64 ((p.val : Nat) : Int) 4) ((q.val : Nat) : Int) = ((p.val * 16 + q.val : Nat) : Int) := by decide
theorem unhByte {A : Ar} (hA : A = std) {x y : Int} {a b : UInt8} (hx : x = Lib.indexByte hexs.data.toList a) (hy : y = Lib.indexByte hexs.data.toList b) :
    A.conv .u8 (A.ar .or .i64 (A.ar .shl .i64 (A.mx x 0) 4) (A.mx y 0)) = ((hv a * 16 + hv b : Nat) : Int) := by
  have h1 : A.mx x 0 = ((hv a : Nat) : Int) := by
    subst hA; show max x 0 = _
    have := Lib.indexByte_ge hexs.data.toList a
    unfold hv; rw [hx]; omega
  have h2 : A.mx y 0 = ((hv b : Nat) : Int) := by
    subst hA; show max y 0 = _
    have := Lib.indexByte_ge hexs.data.toList b
    unfold hv; rw [hy]; omega
  rw [h1, h2]
  have := or16 ⟨hv a, hv_lt a⟩ ⟨hv b, hv_lt b⟩
  subst hA
  show IntKind.u8.wrap (arStd .or .i64 (arStd .shl .i64 _ 4) _) = _
  rw [this, w8 (by have := hv_lt a; have := hv_lt b; omega)]
theorem byteV {A : Ar} (hA : A = std) {s : ByteArray} {i : Nat} {c : UInt8} (h : s.data.toList[i]? = some c) : A.sget s (Int.ofNat i) = (c.toNat : Int) := by
  subst hA
  show ((s.data.getD i 0).toNat : Int) = _
  have : s.data[i]? = some c := by simpa using h
  rw [Array.getD_eq_getD_getElem?, this]; rfl
theorem u8k {A : Ar} (hA : A = std) {Y : Int} {n : Nat} (h : Y = n) (hn : n < 256) : A.u8ok Y ∧ A.u8 Y = UInt8.ofNat n := by
  subst hA; subst h
  exact ⟨⟨by omega, by omega⟩, by show UInt8.ofNat (Int.toNat _) = _; rw [Int.toNat_natCast]⟩
theorem texts_ok (l : List ByteArray) (hl : l.length ≤ 1099511627776) (hs : ∀ x ∈ l, x.size ≤ 1099511627776) : PFun cx 48 [.d (.sl .str l)] (.d (.sl .str (l.map textS))) := by
  obtain ⟨T, hT⟩ : ∃ T : List ByteArray, T = l.map textS := ⟨_, rfl⟩
  obtain ⟨ix, hix, c61⟩ : ∃ ix : ByteArray → Int → Int, ix = (fun s c => Lib.indexByte s.data.toList c.toNat.toUInt8) ∧ ∀ s c, PFun cx 61 [st s, it .u8 c] (it .i64 (ix s c)) := ⟨_, rfl, IndexByte_ok⟩
  have hixc : ∀ c : UInt8, ix hexs (c.toNat : Int) = Lib.indexByte hexs.data.toList c := fun c => by rw [hix]; simp
  rw [← hT]
  refine PFun.walk cx_ok Tryd.func48 rfl rfl rfl fun A P R hA hP hR => ?_
  cbv
  refine LoopK.mk (X := {p : Nat × List ByteArray × Nat // p.1 ≤ l.length ∧ p.2.2 = p.2.1.length ∧ p.2.1.length ≤ p.1 ∧ p.2.1 ++ (l.drop p.1).map textS = T}) (fun p gh => [(10, it .i64 p.1.1), (3, .os 900 gh .str p.1.2.1)]) (fun p gh => [⟨900, gh, .tok 9 .str p.1.2.2⟩]) (fun p => l.length - p.1.1) ⟨(0, [], 0), by simp [hT]⟩ [] ⟨?_, ?_, ?_⟩ ?_
  · (cbv <;> (try (and_intros <;> (first | exact True.intro | exact i_succ hA (by omega) | rfl | simp))))
  · (cbv <;> (try (and_intros <;> (first | exact True.intro | rfl | simp))))
  · cbv
  intro ⟨⟨i, acc, n⟩, hi, hn, ha, hinv⟩ gh g K hK
  simp only [] at hi hn hinv ha
  cbv
  split
  · rename_i h
    have hlt := i_lt hA h
    obtain ⟨x, hx, hxm, hd, _⟩ := i_at hlt
    have hgx : A.get TyS.str l (Int.ofNat i) = x := i_get (t := TyS.str) hA hx
    have hxs := hs x hxm
    rw [hd, List.map_cons] at hinv
    cbv
    repeat (refine And.intro (by first | exact True.intro | exact i_in hA (by assumption) | (subst hA; simp [std]; done) | (split <;> first | exact True.intro | rfl | assumption) | (subst hA; simp [std]; omega)) ?_)
    refine LoopK.mk (X := {p : Nat × List UInt8 × Nat // p.1 ≤ x.size + 1 ∧ p.2.2 = p.2.1.length ∧ p.2.1.length ≤ p.1 ∧ p.2.1 ++ unhL (x.data.toList.drop p.1) = unhL (x.data.toList.drop 1)}) (fun p gh => [(7, it .i64 p.1.1), (6, .os 901 gh .byte p.1.2.1)]) (fun p gh' => [⟨900, gh, .tok 9 .str n⟩, ⟨901, gh', .tok 5 .byte p.1.2.2⟩]) (fun p => x.size + 1 - p.1.1) ⟨(1, [], 0), by simp⟩ [] ⟨?_, ?_, ?_⟩ ?_
    · (cbv <;> (try (and_intros <;> (first | exact True.intro | exact i_succ hA (by omega) | rfl | simp))))
    · (cbv <;> (try (and_intros <;> (first | exact True.intro | rfl | simp))))
    · cbv
    intro ⟨⟨j, bs, m⟩, hj, hm, hm0, hm1⟩ gh' g' K' hK'
    simp only [] at hj hm hm0 hm1
    have hj1 : A.ar .add .i64 (Int.ofNat j) 1 = Int.ofNat (j + 1) := i_succ hA (by omega)
    cbv
    split
    · rename_i h'
      have hlt' : j + 1 < x.size := by
        have h2 : A.cmp .lss (A.ar .add .i64 (Int.ofNat j) 1) (A.slen (A.get TyS.str l (Int.ofNat i))) = true := h'
        rw [hj1, hgx] at h2; subst hA; simp [std, cmpStd] at h2; omega
      cbv
      obtain ⟨a, ha1, _, had, _⟩ := byteAt (s := x) (j := j) (by omega)
      obtain ⟨b, hb1, _, hbd, _⟩ := byteAt (s := x) (j := j + 1) (by omega)
      have hga : A.sget (A.get TyS.str l (Int.ofNat i)) (Int.ofNat j) = (a.toNat : Int) := by rw [hgx]; exact byteV hA ha1
      have hgb : A.sget (A.get TyS.str l (Int.ofNat i)) (A.ar .add .i64 (Int.ofNat j) 1) = (b.toNat : Int) := by rw [hgx, hj1]; exact byteV hA hb1
      have hin1 : A.inb (Int.ofNat j) (A.slen (A.get TyS.str l (Int.ofNat i))) := s_in hA (by rw [hgx]; omega)
      have hin2 : A.inb (A.ar .add .i64 (Int.ofNat j) 1) (A.slen (A.get TyS.str l (Int.ofNat i))) := by rw [hj1]; exact s_in hA (by rw [hgx]; omega)
      have hbyte := unhByte hA (x := ix hexs (A.sget (A.get TyS.str l (Int.ofNat i)) (Int.ofNat j))) (y := ix hexs (A.sget (A.get TyS.str l (Int.ofNat i)) (A.ar .add .i64 (Int.ofNat j) 1))) (a := a) (b := b) (by rw [hga, hixc]) (by rw [hgb, hixc])
      rw [had, hbd] at hm1
      refine ⟨hin1, ?_⟩
      refine CallK.mk _ rfl (fun _ => by rw [hP]; exact c61 _ _) ?_
      cbv
      refine ⟨by subst hA; simp [std], hin2, ?_⟩
      refine CallK.mk _ rfl (fun _ => by rw [hP]; exact c61 _ _) ?_
      cbv
      have hab : hv a * 16 + hv b < 256 := by have := hv_lt a; have := hv_lt b; omega
      obtain ⟨Y, hY⟩ : ∃ Y, Y = A.conv .u8 (A.ar .or .i64 (A.ar .shl .i64 (A.mx (ix hexs (A.sget (A.get TyS.str l (Int.ofNat i)) (Int.ofNat j))) 0) 4) (A.mx (ix hexs (A.sget (A.get TyS.str l (Int.ofNat i)) (A.ar .add .i64 (Int.ofNat j) 1))) 0)) := ⟨_, rfl⟩
      obtain ⟨hu8, hu8v⟩ := u8k hA (hY.trans hbyte) hab
      have happ : A.appOk TyS.byte 1 bs [A.u8 Y] := by subst hA; simp [std]; omega
      have hlen : m = A.nlen TyS.byte bs := by subst hA; simp [std, hm]
      have hj2 : A.ar .add .i64 (Int.ofNat j) 2 = Int.ofNat (j + 2) := by
        subst hA; show IntKind.i64.wrap _ = _; rw [w64 (by simp; omega)]; rfl
      subst hY
      refine ⟨⟨hu8, True.intro⟩, hlen, happ, ?_⟩
      refine hK' _ ⟨(j + 2, A.app TyS.byte bs [A.u8 (A.conv .u8 (A.ar .or .i64 (A.ar .shl .i64 (A.mx (ix hexs (A.sget (A.get TyS.str l (Int.ofNat i)) (Int.ofNat j))) 0) 4) (A.mx (ix hexs (A.sget (A.get TyS.str l (Int.ofNat i)) (A.ar .add .i64 (Int.ofNat j) 1))) 0)))], A.nlen TyS.byte (A.app TyS.byte bs [A.u8 (A.conv .u8 (A.ar .or .i64 (A.ar .shl .i64 (A.mx (ix hexs (A.sget (A.get TyS.str l (Int.ofNat i)) (Int.ofNat j))) 0) 4) (A.mx (ix hexs (A.sget (A.get TyS.str l (Int.ofNat i)) (A.ar .add .i64 (Int.ofNat j) 1))) 0)))])), by simp only []; omega, ?_, ?_, ?_⟩ [(901, 37, g' + 1)] ?_ ⟨?_, ?_, ?_⟩
      · subst hA; rfl
      · rw [hu8v]; subst hA; simp [std]; omega
      · rw [hu8v, ← hm1]; subst hA; simp [std, unhL]
      · simp; omega
      · (cbv <;> (try (and_intros <;> (first | exact True.intro | exact i_succ hA (by omega) | exact hj2 | rfl | simp))))
      · (cbv <;> (try (and_intros <;> (first | exact True.intro | exact hj2 | rfl | simp))))
      · cbv
    · rename_i h'
      have hge' : x.size ≤ j + 1 := by
        have h2 : A.cmp .lss (A.ar .add .i64 (Int.ofNat j) 1) (A.slen (A.get TyS.str l (Int.ofNat i))) = false := h'
        rw [hj1, hgx] at h2; subst hA; simp [std, cmpStd] at h2; omega
      have hbs : bs = unhL (x.data.toList.drop 1) := by
        rw [← hm1]
        have hl2 : (x.data.toList.drop j).length ≤ 1 := by simp; omega
        match hq : x.data.toList.drop j, hl2 with
        | [], _ => simp [unhL]
        | [c], _ => simp [unhL]
      cbv
      repeat (refine And.intro (by first | exact ⟨True.intro, True.intro⟩ | (subst hA; simp [std, hn]; done) | exact True.intro | exact i_in hA (by assumption) | (subst hA; simp [std]; done) | (split <;> first | exact True.intro | rfl | assumption) | (subst hA; simp [std]; omega)) ?_)
      refine hK _ ⟨(i + 1, A.app TyS.str acc [A.b2s bs], A.nlen TyS.str (A.app TyS.str acc [A.b2s bs])), by simp only []; omega, ?_, ?_, ?_⟩ [(900, 42, g' + 1)] ?_ ⟨?_, ?_, ?_⟩
      · subst hA; rfl
      · subst hA; simp [std]; omega
      · rw [← hinv, textS, ← hbs]; subst hA; simp [std, toB_id]
      · simp; omega
      · (cbv <;> (try (and_intros <;> (first | exact True.intro | exact i_succ hA (by omega) | rfl | simp))))
      · (cbv <;> (try (and_intros <;> (first | exact True.intro | rfl | simp))))
      · cbv
  · rename_i h
    rw [i_end (i_ge hA h)] at hinv
    cbv
    subst hR
    simp only [LeP, LeD]
    simpa using hinv
end Go.PL
