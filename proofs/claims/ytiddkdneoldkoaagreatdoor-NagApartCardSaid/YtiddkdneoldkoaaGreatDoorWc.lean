/- Texts of this claim: plain laws of what the program's functions compute. No condition of their own. -/
import Derived.Test.YtiddkdneoldkoaaGreatDoorWb
import Derived.Lib.ItoaLen
import Derived.Lib.SplitLaws
import Derived.Lib.Replace
import Derived.Lib.Repeat
import Derived.KernelRfl
import Derived.Lib.IndexBytes
namespace Go.PL
set_option linter.unusedSimpArgs false
set_option linter.unusedVariables false
set_option linter.unusedSectionVars false
open Tys (Ty U)
open Enc (sz enc dflt tb ofB toB)
open Dec (dec dok)
set_option maxRecDepth 100000
theorem replaceK_len (old new : List UInt8) : ∀ (k : Nat) (s : List UInt8), (Lib.replaceK old new k s).length ≤ s.length + k * new.length
 | 0, s => by simp [Lib.replaceK]
 | k + 1, s => by
  rw [Lib.replaceK]
  split
  ·exact Nat.le_add_right ..
  ·have h := replaceK_len old new k (s.drop ((Lib.index s old).toNat + old.length))
   simp only [List.length_append, List.length_take, List.length_drop, Nat.succ_mul] at h ⊢
   omega
theorem replace_some (s old new : ByteArray) (h0 : 1 ≤ old.size) (h2 : new.size = 2) (hs : s.size ≤ 1000) : ∃ t, strings_ReplaceAll std s old new = some t ∧ t.size ≤ 3 * s.size := by
 have hc := Lib.countB_le old h0 s.size s (Nat.le_refl _)
 unfold strings_ReplaceAll
 refine ⟨_, ck_t ⟨by omega, h0, by rw [h2]; omega⟩, ?_⟩
 rw [size_bytes, bytes_mk]
 unfold Lib.replaceAll Lib.replace
 split
 ·show (bytes s).length ≤ _
  rw [len_bytes]; omega
 ·have h := replaceK_len old.data.toList new.data.toList (Lib.replaceNum s.data.toList old.data.toList (-1)) s.data.toList
  have e : Lib.replaceNum s.data.toList old.data.toList (-1) = Lib.countB s old := by
   unfold Lib.replaceNum
   rw [if_pos (.inl (by omega))]
  have l1 : s.data.toList.length = s.size := len_bytes s
  have l2 : new.data.toList.length = 2 := (len_bytes new).trans h2
  rw [e] at h ⊢
  rw [l1, l2] at h
  omega
theorem mark_some (x : label_mark) (h1 : x.Name.size ≤ 64) (h2 : x.Value.size ≤ 64) : ∃ t, label_mark_text std x = some t ∧ t.size ≤ 1000 := by
 unfold label_mark_text
 have q2 : (ByteArray.mk (Array.mk [61, 34])).size = 2 := rfl
 have q1 : (ByteArray.mk (Array.mk [34])).size = 1 := rfl
 obtain ⟨a, ha, la⟩ := replace_some x.Value (ByteArray.mk (Array.mk [92])) (ByteArray.mk (Array.mk [92, 92])) (by decide) rfl (by omega)
 obtain ⟨b, hb, lb⟩ := replace_some a (ByteArray.mk (Array.mk [34])) (ByteArray.mk (Array.mk [92, 34])) (by decide) rfl (by omega)
 rw [ha, bd_some, hb, bd_some]
 have z1 : (x.Name ++ ByteArray.mk (Array.mk [61, 34])).size = x.Name.size + 2 := by rw [ByteArray.size_append, q2]
 have z2 : (x.Name ++ ByteArray.mk (Array.mk [61, 34]) ++ b).size = x.Name.size + 2 + b.size := by rw [ByteArray.size_append, z1]
 rw [s_cat, s_cat, s_cat, ck_t (show std.catOk _ _ by rw [s_catOk, q2]; omega), ck_t (show std.catOk _ _ by rw [s_catOk, z1]; omega), ck_t (show std.catOk _ _ by rw [s_catOk, z2, q1]; omega)]
 exact ⟨_, rfl, by rw [ByteArray.size_append, z2, q1]; omega⟩
theorem join_len (sep : List UInt8) : ∀ (l : List (List UInt8)) (m : Nat), (∀ x ∈ l, x.length ≤ m) → (Lib.join l sep).length ≤ l.length * (m + sep.length)
 | [], m, _ => by simp [Lib.join]
 | x :: l, m, h => by
  have key : ∀ l : List (List UInt8), (∀ x ∈ l, x.length ≤ m) → (Lib.joinTail sep l).length ≤ l.length * (m + sep.length) := by
   intro l
   induction l with
   | nil => intro _; simp [Lib.joinTail]
   | cons y l ih =>
    intro h
    have h1 := ih fun x hx => h x (List.mem_cons_of_mem _ hx)
    have h2 := h y (List.mem_cons_self ..)
    simp only [Lib.joinTail, List.map_cons, List.flatten_cons, List.length_append, List.length_cons, Nat.succ_mul] at h1 ⊢
    omega
  rw [Lib.join_cons]
  have h1 := key l fun x hx => h x (List.mem_cons_of_mem _ hx)
  have h2 := h x (List.mem_cons_self ..)
  simp only [List.length_append, List.length_cons, Nat.succ_mul]
  omega
theorem label_Text_some (xs : List Label) (hf : fitL labelFit xs) (h : labelsS xs = true) : ∃ s, label_Text std xs = some (s, 0) ∧ s.size ≤ 10000 := by
 have hl : xs.length ≤ 8 := by
  simp only [labelsS, Bool.and_eq_true, decide_eq_true_eq] at h; exact h.2
 have hm := labelsS_mem h
 unfold label_Text
 rw [label_Right_eq xs hf, bd_some, h, s_not, Bool.not_true, br_false]
 have e1 : label_marks std xs = some (xs.map fun l => (⟨l.Name, l.Value⟩ : label_mark)) := by
  unfold label_marks
  have := Loop_each (B := label_marks_B1 std xs) (fun i (_ : Unit) => ((xs.take i).map fun l => (⟨l.Name, l.Value⟩ : label_mark), (i : Int))) xs (fun _ _ (_ : Unit) => (.inl () : Unit ⊕ List label_mark)) (fun _ => xs.map fun l => (⟨l.Name, l.Value⟩ : label_mark)) (fun i x u hx hi => by
   unfold label_marks_B1
   simp only
   rw [len_nat, lssT hi, br_true, ck_t (inbT hi), get_nat (t := TyS.label) hx, ck_t (show std.appOk TyS.mark 32 ((xs.take i).map fun l => (⟨l.Name, l.Value⟩ : label_mark)) [⟨x.Name, x.Value⟩] from ⟨by simp; omega, by simp; omega⟩), s_add, wrap_succ hi (by unfold big63; omega), take_snoc hx, List.map_append]
   rfl) (fun _ => by
   unfold label_marks_B1
   simp only
   rw [len_nat, lssF, br_false, List.take_length]
   rfl) ()
  rw [runL_end] at this
  exact this
 rw [e1, bd_some]
 -- texts of marks
 have hmk : ∀ l ∈ xs, ∃ t, label_mark_text std ⟨l.Name, l.Value⟩ = some t ∧ t.size ≤ 1000 := fun l hl => by
  have := hm l hl
  simp only [labelS, Bool.and_eq_true, nameS, valueS, decide_eq_true_eq] at this
  exact mark_some _ this.1.2 this.2.2
 let f : Label → ByteArray := fun l => ((label_mark_text std ⟨l.Name, l.Value⟩).getD ⟨#[]⟩)
 have hf2 : ∀ l ∈ xs, label_mark_text std ⟨l.Name, l.Value⟩ = some (f l) ∧ (f l).size ≤ 1000 := fun l hl => by
  obtain ⟨t, h1, h2⟩ := hmk l hl
  have : f l = t := by show ((label_mark_text std ⟨l.Name, l.Value⟩).getD ⟨#[]⟩) = t; rw [h1]; rfl
  rw [this]; exact ⟨h1, h2⟩
 have hjl : (Lib.join ((xs.map f).map (·.data.toList)) [44]).length ≤ 8008 := by
  have := join_len [44] ((xs.map f).map (·.data.toList)) 1000 (fun x hx => by
   obtain ⟨y, hy, rfl⟩ := List.mem_map.1 hx
   obtain ⟨l, hl, rfl⟩ := List.mem_map.1 hy
   have := (hf2 l hl).2
   show (bytes (f l)).length ≤ 1000
   rw [len_bytes]; exact this)
  simp only [List.length_map, List.length_singleton] at this
  omega
 have hlen : (xs.map fun l => (⟨l.Name, l.Value⟩ : label_mark)).length = xs.length := List.length_map ..
 have hj : strings_Join std (xs.map f) (ByteArray.mk (Array.mk [44])) = some ⟨(Lib.join ((xs.map f).map (·.data.toList)) [44]).toArray⟩ := by
  unfold strings_Join
  exact ck_t ⟨by rw [List.length_map]; omega, by show (Lib.join ((xs.map f).map (·.data.toList)) [44]).length ≤ _; omega⟩
 have jz : (ByteArray.mk (Lib.join ((xs.map f).map (·.data.toList)) [44]).toArray).size ≤ 8008 := by rw [size_bytes, bytes_mk]; exact hjl
 generalize ByteArray.mk (Lib.join ((xs.map f).map (·.data.toList)) [44]).toArray = J at hj jz
 have q1 : (ByteArray.mk (Array.mk [123])).size = 1 := rfl
 have q2 : (ByteArray.mk (Array.mk [125])).size = 1 := rfl
 have := Loop_each (B := label_Text_B1 std (xs.map fun l => (⟨l.Name, l.Value⟩ : label_mark))) (fun i (_ : Unit) => ((xs.take i).map f, (i : Int))) xs (fun _ _ (_ : Unit) => (.inl () : Unit ⊕ (ByteArray × Int))) (fun _ => (ByteArray.mk (Array.mk [123]) ++ J ++ ByteArray.mk (Array.mk [125]), 0)) (fun i x u hx hi => by
  unfold label_Text_B1
  simp only
  have hx2 : (xs.map fun l => (⟨l.Name, l.Value⟩ : label_mark))[i]? = some ⟨x.Name, x.Value⟩ := by rw [List.getElem?_map, hx]; rfl
  rw [len_nat, hlen, lssT hi, br_true, ck_t (inbT hi), get_nat (t := TyS.mark) hx2, (hf2 x (mem_at hx)).1, bd_some, ck_t (show std.appOk TyS.str 16 ((xs.take i).map f) [f x] from ⟨by simp; omega, by simp; omega⟩), s_add, wrap_succ hi (by unfold big63; omega), take_snoc hx, List.map_append]
  rfl) (fun _ => by
  unfold label_Text_B1
  simp only
  rw [len_nat, hlen, lssF, br_false, List.take_length, hj, bd_some, s_cat, s_cat, ck_t (show std.catOk _ _ by rw [s_catOk, q1]; omega), ck_t (show std.catOk _ _ by rw [s_catOk, ByteArray.size_append, q1, q2]; omega)]
  rfl) ()
 rw [runL_end] at this
 exact ⟨_, this, by rw [ByteArray.size_append, ByteArray.size_append, q1, q2]; omega⟩
end Go.PL
namespace Go.PL
set_option linter.unusedSimpArgs false
set_option linter.unusedVariables false
set_option linter.unusedSectionVars false
open Tys (Ty U)
open Enc (sz enc dflt tb ofB toB)
open Dec (dec dok)
set_option maxRecDepth 100000
theorem Loop_go {S ε α σ : Type} {B : S → Option (S ⊕ ε)} (enc : Nat → σ → S) (xs : List α) (next : Nat → α → σ → σ) (I : Nat → σ → Prop) (G : ε → Prop)
  (h1 : ∀ i x s, xs[i]? = some x → I i s → B (enc i s) = some (.inl (enc (i + 1) (next i x s))) ∧ I (i + 1) (next i x s))
  (h2 : ∀ s, I xs.length s → ∃ e, B (enc xs.length s) = some (.inr e) ∧ G e) (s0 : σ) (h0 : I 0 s0) : ∃ e, Loop B (enc 0 s0) = some e ∧ G e := by
 have key : ∀ (n i : Nat) (s : σ), i + n = xs.length → I i s → ∃ e, Loop B (enc i s) = some e ∧ G e := by
  intro n
  induction n with
  | zero =>
   intro i s hi hI
   obtain rfl : i = xs.length := by omega
   obtain ⟨e, he, hg⟩ := h2 s hI
   exact ⟨e, by rw [Loop_eq, he], hg⟩
  | succ n ih =>
   intro i s hi hI
   have hl : i < xs.length := by omega
   obtain ⟨h3, h4⟩ := h1 i xs[i] s (List.getElem?_eq_getElem hl) hI
   obtain ⟨e, he, hg⟩ := ih (i + 1) _ (by omega) h4
   exact ⟨e, by rw [Loop_eq, h3]; exact he, hg⟩
 exact key xs.length 0 s0 (by omega) h0
theorem app_len {α : Type} {l : List α} {n : Nat} (x : α) (h : l.length ≤ n) : (l ++ [x]).length ≤ n + 1 := by
 rw [List.length_append, List.length_singleton]; omega
theorem hours_two_some (n : Int) (h0 : 0 ≤ n) (h1 : n ≤ 99) : ∃ t, hours_two std n = some t ∧ t.size = 2 := by
 unfold hours_two
 have q1 : std.ar .quo .i64 n 10 = n / 10 := by rw [s_quo, tdiv0 h0, w64 (by omega)]
 have q2 : std.ar .rem .i64 n 10 = n % 10 := by rw [s_rem, tmod0 h0]
 have a1 : std.ar .add .i64 48 (n / 10) = 48 + n / 10 := by rw [s_add, w64 (by omega)]
 have a2 : std.ar .add .i64 48 (n % 10) = 48 + n % 10 := by rw [s_add, w64 (by omega)]
 rw [q1, q2, a1, a2, s_conv, s_conv, w8 (by omega), w8 (by omega), ck_t (show std.u8ok _ from ⟨by omega, by omega⟩), ck_t (show std.u8ok _ from ⟨by omega, by omega⟩), b2s_eq]
 exact ⟨_, rfl, rfl⟩
theorem hours_clock_some (n : Int) (h0 : 0 ≤ n) (h1 : n ≤ 1440) : ∃ t, hours_clock std n = some t ∧ t.size = 5 := by
 unfold hours_clock
 have q1 : std.ar .quo .i64 n 60 = n / 60 := by rw [s_quo, tdiv0 h0, w64 (by omega)]
 have q2 : std.ar .rem .i64 n 60 = n % 60 := by rw [s_rem, tmod0 h0]
 obtain ⟨a, ha, la⟩ := hours_two_some (n / 60) (by omega) (by omega)
 obtain ⟨b, hb, lb⟩ := hours_two_some (n % 60) (by omega) (by omega)
 have z : (ByteArray.mk (Array.mk [58])).size = 1 := rfl
 rw [q1, q2, ha, bd_some, ck_t (show std.catOk _ _ by rw [s_catOk, la, z]; omega), hb, bd_some, s_cat, s_cat, ck_t (show std.catOk _ _ by rw [s_catOk, ByteArray.size_append, la, lb, z]; omega)]
 exact ⟨_, rfl, by rw [ByteArray.size_append, ByteArray.size_append, la, lb, z]⟩
def dayT (i : Nat) : ByteArray := std.sel [ByteArray.mk (Array.mk [109, 111, 110]), ByteArray.mk (Array.mk [116, 117, 101]), ByteArray.mk (Array.mk [119, 101, 100]), ByteArray.mk (Array.mk [116, 104, 117]), ByteArray.mk (Array.mk [102, 114, 105]), ByteArray.mk (Array.mk [115, 97, 116]), ByteArray.mk (Array.mk [115, 117, 110])] (i : Int)
theorem dayT_size (i : Nat) (h : i < 7) : (dayT i).size = 3 := by
 have : i = 0 ∨ i = 1 ∨ i = 2 ∨ i = 3 ∨ i = 4 ∨ i = 5 ∨ i = 6 := by omega
 rcases this with rfl | rfl | rfl | rfl | rfl | rfl | rfl <;> rfl
theorem hours_Text_some (h : Hours) (hs : hourS h = true) : ∃ v, hours_Text std h = some v := by
 have h0 := hs
 simp only [hourS, Bool.and_eq_true, decide_eq_true_eq] at h0
 obtain ⟨⟨⟨⟨⟨⟨_, _⟩, _⟩, f0⟩, f1⟩, f2⟩, t1⟩ := h0
 obtain ⟨a, ha, la⟩ := hours_clock_some h.From f0 (by omega)
 obtain ⟨b, hb, lb⟩ := hours_clock_some h.To (by omega) t1
 unfold hours_Text
 rw [hours_Right_eq h, bd_some, hs, s_not, Bool.not_true, br_false]
 have := Loop_go (B := hours_Text_B1 std h) (fun i (l : List ByteArray) => (l, (i : Int))) (List.range 7) (fun i _ l => if std.cmp .eql (std.ar .and .i64 (std.ar .shr .i64 h.Days (i : Int)) 1) 1 = true then l ++ [dayT i] else l) (fun i l => i ≤ 7 ∧ l.length ≤ i ∧ ∀ x ∈ l, x.size ≤ 3) (fun _ => True) (fun i n l hx ⟨hi7, hI, hz⟩ => by
  have hi : i < 7 := by have := lt_of_at hx; simpa using this
  refine ⟨?_, by omega, ?_, ?_⟩
  ·unfold hours_Text_B1
   simp only
   rw [show std.cmp .lss (i : Int) 7 = true from lssT (n := 7) hi, br_true, ck_t (show std.inb (i : Int) (Int.ofNat 7) from inbT (n := 7) hi), ck_t (show std.nn (i : Int) by show (0 : Int) ≤ _; omega), s_add, wrap_succ (n := 7) hi (by unfold big63; omega)]
   cases std.cmp .eql (std.ar .and .i64 (std.ar .shr .i64 h.Days (i : Int)) 1) 1 with
   | true =>
    rw [br_true, if_pos rfl]
    have hA : std.appOk TyS.str 16 l [dayT i] := ⟨by simp; omega, by simp; omega⟩
    exact ck_t hA
   | false => rfl
  ·split
   ·exact app_len _ hI
   ·omega
  ·split
   ·intro x hx
    rcases List.mem_append.1 hx with hx | hx
    ·exact hz x hx
    ·rw [List.mem_singleton.1 hx, dayT_size i hi]; omega
   ·exact hz) (fun l ⟨_, hI, hz⟩ => by
  simp only [List.length_range] at hI
  unfold hours_Text_B1
  simp only [List.length_range]
  have hj := join_len [44] (l.map (·.data.toList)) 3 (fun x hx => by
   obtain ⟨y, hy, rfl⟩ := List.mem_map.1 hx
   show (bytes y).length ≤ 3
   rw [len_bytes]; exact hz y hy)
  simp only [List.length_map, List.length_singleton] at hj
  have hJ : strings_Join std l (ByteArray.mk (Array.mk [44])) = some ⟨(Lib.join (l.map (·.data.toList)) [44]).toArray⟩ := by
   unfold strings_Join
   exact ck_t ⟨by omega, by show (Lib.join (l.map (·.data.toList)) [44]).length ≤ _; omega⟩
  have jz : (ByteArray.mk (Lib.join (l.map (·.data.toList)) [44]).toArray).size ≤ 28 := by rw [size_bytes, bytes_mk]; omega
  generalize ByteArray.mk (Lib.join (l.map (·.data.toList)) [44]).toArray = J at hJ jz
  have z1 : (ByteArray.mk (Array.mk [32])).size = 1 := rfl
  have z2 : (ByteArray.mk (Array.mk [45])).size = 1 := rfl
  rw [show std.cmp .lss ((7 : Nat) : Int) 7 = false from rfl, br_false, hJ, bd_some, s_cat, ck_t (show std.catOk _ _ by rw [s_catOk, z1]; omega), ha, bd_some, s_cat, ck_t (show std.catOk _ _ by rw [s_catOk, ByteArray.size_append, z1, la]; omega), s_cat, ck_t (show std.catOk _ _ by rw [s_catOk, ByteArray.size_append, ByteArray.size_append, z1, z2, la]; omega), hb, bd_some, s_cat, ck_t (show std.catOk _ _ by rw [s_catOk, ByteArray.size_append, ByteArray.size_append, ByteArray.size_append, z1, z2, la, lb]; omega)]
  exact ⟨_, rfl, trivial⟩) [] ⟨by omega, by simp, fun x hx => by cases hx⟩
 obtain ⟨e, he, _⟩ := this
 exact ⟨e, he⟩
end Go.PL
namespace Go.PL
set_option linter.unusedSimpArgs false
set_option linter.unusedVariables false
set_option linter.unusedSectionVars false
open Tys (Ty U)
open Enc (sz enc dflt tb ofB toB)
open Dec (dec dok)
set_option maxRecDepth 100000
end Go.PL
namespace Go.PL
set_option linter.unusedSimpArgs false
set_option linter.unusedVariables false
set_option linter.unusedSectionVars false
open Tys (Ty U)
open Enc (sz enc dflt tb ofB toB)
open Dec (dec dok)
set_option maxRecDepth 100000
def shortM (m : Matcher) : Bool := decide ((textS m).size ≤ 200)
def shortS (l : List Matcher) : Bool := l.all shortM
def flatS : Nat → Route → Bool
 | 0, _ => false
 | d + 1, r => shortS r.Match && r.Routes.all (flatS d)
def bareC (c : Config) : Config := ⟨[], c.Route, c.Receivers, c.Inhibits, c.Hours⟩
def shortI (x : Inhibit) : Bool := shortS x.Source && shortS x.Target
def holdsA (c : Config) : Bool := configS (bareC c) && (flatS 3 c.Route && c.Inhibits.all shortI)
end Go.PL
namespace Go.PL
set_option linter.unusedSimpArgs false
set_option linter.unusedVariables false
set_option linter.unusedSectionVars false
open Tys (Ty U)
open Enc (sz enc dflt tb ofB toB)
open Dec (dec dok)
set_option maxRecDepth 100000
def wordN (s : ByteArray) : Node := ⟨1, s, [], []⟩
def rowN (l : List Node) : Node := ⟨2, ⟨#[]⟩, [], l⟩
def mapN (names : List ByteArray) (l : List Node) : Node := ⟨3, ⟨#[]⟩, names, l⟩
def matchN (m : Matcher) : Node := wordN (textS m)
def numN (n : Int) : Node := wordN ⟨(Lib.itoa n).toArray⟩
def quietN (x : Inhibit) : Node := mapN [ByteArray.mk (Array.mk [115, 111, 117, 114, 99, 101]), ByteArray.mk (Array.mk [116, 97, 114, 103, 101, 116]), ByteArray.mk (Array.mk [101, 113, 117, 97, 108])] [rowN (x.Source.map matchN), rowN (x.Target.map matchN), rowN (x.Equal.map wordN)]
noncomputable def hoursT (h : Hours) : ByteArray := ((hours_Text std h).getD (⟨#[]⟩, 0)).1
theorem hoursT_eq (h : Hours) (hs : hourS h = true) : ∃ e, hours_Text std h = some (hoursT h, e) := by
 obtain ⟨v, hv⟩ := hours_Text_some h hs
 unfold hoursT
 rw [hv]
 exact ⟨v.2, rfl⟩
noncomputable def spanN (h : Hours) : Node := mapN [ByteArray.mk (Array.mk [110, 97, 109, 101]), ByteArray.mk (Array.mk [115, 112, 97, 110])] [wordN h.Name, wordN (hoursT h)]
def onW (b : Bool) : ByteArray := cond b (ByteArray.mk (Array.mk [116, 114, 117, 101])) (ByteArray.mk (Array.mk [102, 97, 108, 115, 101]))
end Go.PL
namespace Go.PL
set_option linter.unusedSimpArgs false
set_option linter.unusedVariables false
set_option linter.unusedSectionVars false
open Tys (Ty U)
open Enc (sz enc dflt tb ofB toB)
open Dec (dec dok)
set_option maxRecDepth 100000
def owordS (s : ByteArray) : Bool := (bytes s).all plainC && decide (s.size ≤ 200)
def keyP (l : List ByteArray) (i : Nat) (s : ByteArray) : Bool := wordS s && onceP l i s
def namesN (l : List ByteArray) (k : Nat) : Bool := allI (keyP l) 0 l && decide (l.length = k)
theorem contains_take (l : List ByteArray) (i : Nat) (s : ByteArray) (h : l.length ≤ big63) : slices_Contains_string_string std (std.lsub TyS.str l 0 (i : Int)) s = some (hasS (l.take i) s) := by
 rw [s_lsub, Int.toNat_natCast, show Int.toNat 0 = 0 from rfl, List.drop_zero, contains_s _ _ (by rw [List.length_take]; omega), hasS_comm]
def mayN : Nat → Node → Bool
 | 0, _ => false
 | d + 1, n => if n.Kind = 1 then owordS n.Word && decide (n.Names.length = 0) && decide (n.Items.length = 0)
  else if n.Kind = 2 then decide (n.Word.size = 0) && decide (n.Items.length ≤ 64) && namesN n.Names 0 && n.Items.all (mayN d)
  else if n.Kind = 3 then decide (n.Word.size = 0) && decide (n.Items.length ≤ 64) && namesN n.Names n.Items.length && n.Items.all (mayN d)
  else false
inductive NodeFit : Node → Prop where
 | mk (n : Node) (h1 : n.Names.length ≤ big63) (h2 : n.Items.length ≤ big63) (h3 : ∀ k ∈ n.Items, NodeFit k) : NodeFit n
end Go.PL
namespace Go.PL
set_option linter.unusedSimpArgs false
set_option linter.unusedVariables false
set_option linter.unusedSectionVars false
open Tys (Ty U)
open Enc (sz enc dflt tb ofB toB)
open Dec (dec dok)
set_option maxRecDepth 100000
def itemsL (f : Nat → Node → List UInt8) : Nat → List Node → List UInt8
 | _, [] => []
 | i, x :: xs => f i x ++ itemsL f (i + 1) xs
def headL (n : Node) (i : Nat) : List UInt8 := if n.Kind = 3 then bytes (n.Names.getD i ⟨#[]⟩) ++ [58] else [45]
end Go.PL
namespace Go.PL
set_option linter.unusedSimpArgs false
set_option linter.unusedVariables false
set_option linter.unusedSectionVars false
open Tys (Ty U)
open Enc (sz enc dflt tb ofB toB)
open Dec (dec dok)
set_option maxRecDepth 100000
def wN : Nat → Node → Nat
 | 0, _ => 0
 | d + 1, n => (n.Items.map fun x => 1 + wN d x).sum
theorem norm_hours_len (c : Config) : (normS c).Hours.length = c.Hours.length := sortI_len _ _
theorem norm_recv_len (c : Config) : (normS c).Receivers.length = c.Receivers.length := sortI_len _ _
theorem norm_hours_mem {c : Config} {x : Hours} (h : x ∈ (normS c).Hours) : x ∈ c.Hours := (sortI_perm _ _).mem_iff.1 h
end Go.PL
namespace Go.PL
set_option linter.unusedSimpArgs false
set_option linter.unusedVariables false
set_option linter.unusedSectionVars false
open Tys (Ty U)
open Enc (sz enc dflt tb ofB toB)
open Dec (dec dok)
set_option maxRecDepth 100000
def oplC (c : UInt8) : Bool := wordC c || upC c || inC 45 47 c || inC 58 58 c
def oplW (s : ByteArray) : Bool := (bytes s).all oplC && decide (1 ≤ s.size) && decide (s.size ≤ 200) && !decide ((bytes s).head? = some 45)
def valueP (n : Node) : ByteArray := if n.Kind = 1 then ByteArray.mk (Array.mk [32]) ++ n.Word else if 0 < n.Items.length then ByteArray.mk (Array.mk []) else if n.Kind = 2 then ByteArray.mk (Array.mk [32, 91, 93]) else ByteArray.mk (Array.mk [32, 123, 125])
def linesP : Nat → Nat → Node → List UInt8
 | 0, _, _ => []
 | d + 1, k, n => itemsL (fun i x => Lib.repeatL [32] (2 * k) ++ headL n i ++ bytes (valueP x) ++ [10] ++ linesP d (k + 1) x) 0 n.Items
def plainN : Nat → Node → Bool
 | 0, _ => true
 | d + 1, n => n.Items.all fun x => (if x.Kind = 1 then oplW x.Word else true) && plainN d x
def aliveD : Config := ⟨[], ⟨opsT, [], [], 0, 1, 1, [], false, []⟩, [opsT], [], []⟩
theorem aliveD_fit : configFit aliveD := ⟨fitL_nil, .mk _ (size_le 3 rfl (by omega)) fitL_nil fitL_nil fitL_nil (by simp [aliveD]) (fun k hk => by cases hk), ⟨by show 1 ≤ big63; unfold big63; omega, fun x hx => by
 rw [List.mem_singleton.1 hx]; exact size_le 3 rfl (by omega)⟩, fitL_nil, fitL_nil⟩
end Go.PL
namespace Go.PL
set_option linter.unusedSimpArgs false
set_option linter.unusedVariables false
set_option linter.unusedSectionVars false
open Tys (Ty U)
open Enc (sz enc dflt tb ofB toB)
open Dec (dec dok)
set_option maxRecDepth 100000
def semiC (c : UInt8) : Bool := plainC c && !inC 59 59 c
def dvalueS (s : ByteArray) : Bool := decide (1 ≤ s.size) && decide (s.size ≤ 200) && decide ((⟨(Lib.trimB (bytes s) 32).toArray⟩ : ByteArray) = s) && (bytes s).all semiC
theorem block_value_eq (s : ByteArray) : block_value std s = some (dvalueS s) := by
 unfold block_value
 have h0 : std.and (std.scmp .neq s (ByteArray.mk (Array.mk []))) (std.cmp .leq (std.slen s) 200) = (decide (1 ≤ s.size) && decide (s.size ≤ 200)) := by
  rw [s_land, s_sneq, empty_size, s_leq, s_slen]; congr 1; exact leN (b := 200)
 rw [h0]
 unfold dvalueS
 by_cases h : (decide (1 ≤ s.size) && decide (s.size ≤ 200)) = true
 ·have h200 : s.size ≤ 200 := by simp only [Bool.and_eq_true, decide_eq_true_eq] at h; exact h.2
  have ht : strings_Trim std s (ByteArray.mk (Array.mk [32])) = some ⟨(Lib.trimB (bytes s) 32).toArray⟩ := by
   show ck ((32 : UInt8).toNat < 128 ∧ s.size ≤ 9223372036854775807) _ = _
   exact ck_t ⟨by decide, by omega⟩
  have hc : slices_ContainsFunc_byte_byte std (std.s2b s) (fun y0 => block_value_1 std y0) = some ((bytes s).any fun c => !semiC c) := by
   rw [s2b_eq]
   exact contains_byte _ (fun c => !semiC c) _ (fun c _ => by
    unfold block_value_1
    simp only [s_lor, s_lss, s_gtr, s_eql]
    congr 1
    rw [Bool.eq_iff_iff]
    simp [semiC, plainC, inC]
    omega) (by rw [len_bytes]; unfold big63; omega)
  rw [h, gd_t, ht, bd_some, gd_b (fun _ => hc), bd_some, all_not_any]
  simp only [s_land, s_not, s_seql, Bool.true_and]
  cases decide ((⟨(Lib.trimB (bytes s) 32).toArray⟩ : ByteArray) = s) <;> simp
 ·simp only [Bool.not_eq_true] at h
  rw [h, gd_f, bd_some]
  simp only [s_land, Bool.false_and, gd_f, bd_some]
def mayD (d : Def) : Bool := allI (keyP d.Keys) 0 d.Keys && (wordS d.Typ && decide (d.Keys.length ≤ 64) && decide (d.Keys.length = d.Values.length) && d.Values.all dvalueS)
def defFit (d : Def) : Prop := d.Keys.length ≤ big63 ∧ d.Values.length ≤ big63
theorem block_may_eq (d : Def) (hf : defFit d) : block_may std d = some (mayD d) := by
 unfold block_may mayD
 have hcv : slices_ContainsFunc_string_string std d.3 (fun y0 => block_may_1 std y0) = some (d.Values.any fun v => !dvalueS v) := contains_string d.3 (fun v => !dvalueS v) _ (fun v _ => by
  unfold block_may_1
  rw [block_value_eq, bd_some, s_not]) hf.2
 have hend : (bd (block_word std d.1) fun w5 => bd (gd false (std.and (std.and w5 (std.cmp .leq (std.len TyS.str d.2) 64)) (std.cmp .eql (std.len TyS.str d.2) (std.len TyS.str d.3))) (slices_ContainsFunc_string_string std d.3 fun y0 => block_may_1 std y0)) fun w6 => some (std.and (std.and (std.and w5 (std.cmp .leq (std.len TyS.str d.2) 64)) (std.cmp .eql (std.len TyS.str d.2) (std.len TyS.str d.3))) (std.not w6))) = some (wordS d.Typ && decide (d.Keys.length ≤ 64) && decide (d.Keys.length = d.Values.length) && d.Values.all dvalueS) := by
  have e1 : std.cmp .leq (std.len TyS.str d.2) 64 = decide (d.Keys.length ≤ 64) := leq_len (t := TyS.str) d.2 64
  have e2 : std.cmp .eql (std.len TyS.str d.2) (std.len TyS.str d.3) = decide (d.Keys.length = d.Values.length) := by
   rw [len_nat, len_nat, s_eql, Bool.eq_iff_iff]; simp; omega
  rw [block_word_eq, bd_some, e1, e2, gd_b (fun _ => hcv), bd_some, all_not_any]
  simp only [s_land, s_not]
  cases (wordS d.Typ && decide (d.Keys.length ≤ 64) && decide (d.Keys.length = d.Values.length)) <;> simp
 refine Loop_elems (t := TyS.str) (B := block_may_B1 std d) (fun i => i) d.2 hf.1 (keyP d.Keys) _ _ _ (fun i => rfl) (fun i s hs hi => ?_) (fun _ => hend) (fun _ => ⟨_, hend⟩)
 rw [get_nat (t := TyS.str) hs, block_word_eq, bd_some, ck_t (vc_of fun _ => by show (0 : Int) ≤ 0 ∧ (0 : Int) ≤ i ∧ (i : Int) ≤ (d.2.length : Int); omega), contains_take d.2 i s hf.1]
 unfold keyP onceP
 cases wordS s <;> cases hasS (d.2.take i) s <;> rfl
def rightD (l : List Def) : Bool := decide (l.length ≤ 64) && l.all mayD
theorem block_Right_eq (l : List Def) (hl : l.length ≤ big63) (hf : ∀ d ∈ l, defFit d) : block_Right std l = some (rightD l) := by
 unfold block_Right rightD
 rw [show std.cmp .leq (std.len TyS.dfn l) 64 = decide (l.length ≤ 64) from leq_len (t := TyS.dfn) l 64]
 rw [gd_b (fun _ => contains_Def l (fun d => !mayD d) _ (fun d hd => by
  unfold block_Right_1
  rw [block_may_eq d (hf d hd), bd_some, s_not]) hl), bd_some, all_not_any]
 simp only [s_land, s_not]
 cases decide (l.length ≤ 64) <;> simp
def keyL (k v : ByteArray) : List UInt8 := [9] ++ bytes k ++ [9] ++ bytes v ++ [10]
def keysL : List ByteArray → List ByteArray → List UInt8
 | k :: ks, v :: vs => keyL k v ++ keysL ks vs
 | _, _ => []
def defL (d : Def) : List UInt8 := [100, 101, 102, 105, 110, 101, 32] ++ bytes d.Typ ++ [32, 123] ++ [10] ++ keysL d.Keys d.Values ++ [125, 10]
def defsL (l : List Def) : List UInt8 := (l.map defL).flatten
theorem keysL_take : ∀ (ks vs : List ByteArray) (i : Nat) (k v : ByteArray), ks[i]? = some k → vs[i]? = some v → keysL (ks.take (i + 1)) (vs.take (i + 1)) = keysL (ks.take i) (vs.take i) ++ keyL k v
 | [], vs, i, k, v, hk, _ => by cases hk
 | a :: ks, [], i, k, v, _, hv => by cases hv
 | a :: ks, b :: vs, 0, k, v, hk, hv => by cases hk; cases hv; simp [keysL]
 | a :: ks, b :: vs, i + 1, k, v, hk, hv => by
  have := keysL_take ks vs i k v (by simpa using hk) (by simpa using hv)
  simp only [List.take_succ_cons, keysL] at this ⊢
  rw [this, List.append_assoc]
theorem keysL_le : ∀ (ks vs : List ByteArray), (∀ k ∈ ks, k.size ≤ 64) → (∀ v ∈ vs, v.size ≤ 200) → (keysL ks vs).length ≤ ks.length * 300
 | [], vs, _, _ => by simp [keysL]
 | k :: ks, [], _, _ => by simp [keysL]
 | k :: ks, v :: vs, h1, h2 => by
  have h3 := keysL_le ks vs (fun x hx => h1 x (List.mem_cons_of_mem _ hx)) (fun x hx => h2 x (List.mem_cons_of_mem _ hx))
  have h4 := h1 k (List.mem_cons_self ..)
  have h5 := h2 v (List.mem_cons_self ..)
  simp only [keysL, keyL, List.length_append, len_bytes, List.length_cons, List.length_nil, Nat.succ_mul]
  omega
structure DefOK (d : Def) : Prop where
 typ : d.Typ.size ≤ 64
 few : d.Keys.length ≤ 64
 len : d.Values.length = d.Keys.length
 keys : ∀ k ∈ d.Keys, k.size ≤ 64
 vals : ∀ v ∈ d.Values, v.size ≤ 200
theorem mayD_ok {d : Def} (h : mayD d = true) : DefOK d := by
 simp only [mayD, wordS, Bool.and_eq_true, decide_eq_true_eq, List.all_eq_true] at h
 obtain ⟨h1, ⟨⟨⟨_, h2⟩, h3⟩, h4⟩, h5⟩ := h
 refine ⟨h2, h3, h4.symm, fun k hk => ?_, fun v hv => ?_⟩
 ·obtain ⟨j, hj⟩ := allI_mem h1 k hk
  simp only [keyP, wordS, Bool.and_eq_true, decide_eq_true_eq] at hj
  exact hj.1.2
 ·have := h5 v hv
  simp only [dvalueS, Bool.and_eq_true, decide_eq_true_eq] at this
  exact this.1.1.2
theorem defL_le {d : Def} (ok : DefOK d) : (defL d).length ≤ 20000 := by
 have h1 := keysL_le d.Keys d.Values ok.keys ok.vals
 have h2 := ok.typ
 have h3 : d.Keys.length * 300 ≤ 64 * 300 := Nat.mul_le_mul_right _ ok.few
 simp only [defL, List.length_append, len_bytes, List.length_cons, List.length_nil]
 omega
theorem cat5 (a b c d e : ByteArray) (h : a.size + b.size + c.size + d.size + e.size ≤ 100000) : std.catOk a b ∧ std.catOk (a ++ b) c ∧ std.catOk (a ++ b ++ c) d ∧ std.catOk (a ++ b ++ c ++ d) e := by
 refine ⟨?_, ?_, ?_, ?_⟩ <;> rw [s_catOk] <;> (try simp only [ByteArray.size_append]) <;> omega
noncomputable def printD (l : List Def) : ByteArray × Int := cond (rightD l) (cond (decide ((defsL l).length ≤ 8192)) (⟨(defsL l).toArray⟩, 0) (ByteArray.mk (Array.mk []), 2)) (ByteArray.mk (Array.mk []), 1)
theorem block_keys_eq (l : List Def) (i : Nat) (d : Def) (hd : l[i]? = some d) (ok : DefOK d) (acc : List UInt8) (ha : acc.length ≤ 10000000) (hi : i < 1000) : Loop (block_Print_B1 std l (i : Int)) (0, acc) = some (.inl (((i + 1 : Nat) : Int), acc ++ keysL d.Keys d.Values ++ [125, 10])) := by
 have hl : ∀ j, (keysL (d.Keys.take j) (d.Values.take j)).length ≤ 64 * 300 := fun j => by
  have h1 := keysL_le (d.Keys.take j) (d.Values.take j) (fun k hk => ok.keys k (List.mem_of_mem_take hk)) (fun k hk => ok.vals k (List.mem_of_mem_take hk))
  have h2 : (d.Keys.take j).length ≤ 64 := by rw [List.length_take]; have := ok.few; omega
  have h3 : (d.Keys.take j).length * 300 ≤ 64 * 300 := Nat.mul_le_mul_right _ h2
  omega
 have := Loop_each (B := block_Print_B1 std l (i : Int)) (fun j (_ : Unit) => ((j : Int), acc ++ keysL (d.Keys.take j) (d.Values.take j))) d.Keys (fun _ _ (_ : Unit) => (.inl () : Unit ⊕ ((Int × List UInt8) ⊕ (ByteArray × Int)))) (fun _ => .inl (((i + 1 : Nat) : Int), acc ++ keysL d.Keys d.Values ++ [125, 10])) (fun j k u hk hj => by
  obtain ⟨v, hv⟩ := at_some (xs := d.Values) (i := j) (by have := ok.len; omega)
  have hlj := hl j
  have sk := ok.keys k (mem_at hk)
  have sv := ok.vals v (mem_at hv)
  have q9 : (ByteArray.mk (Array.mk [9])).size = 1 := rfl
  have q10 : (ByteArray.mk (Array.mk [10])).size = 1 := rfl
  obtain ⟨c1, c2, c3, c4⟩ := cat5 (ByteArray.mk (Array.mk [9])) k (ByteArray.mk (Array.mk [9])) v (ByteArray.mk (Array.mk [10])) (by omega)
  unfold block_Print_B1
  simp only
  have hg : std.get TyS.dfn l (i : Int) = d := get_nat (t := TyS.dfn) hd
  simp only [hg, get_nat (t := TyS.str) hk, get_nat (t := TyS.str) hv, s_cat]
  rw [len_nat, len_nat, lssT hj, br_true, ck_t (inbT hj), ck_t c1, ck_t c2, ck_t (show std.inb (j : Int) (d.Values.length : Int) from inbT (by have := ok.len; omega)), ck_t c3, ck_t c4]
  have hb : bytes (ByteArray.mk (Array.mk [9]) ++ k ++ ByteArray.mk (Array.mk [9]) ++ v ++ ByteArray.mk (Array.mk [10])) = keyL k v := by
   rw [bytes_app, bytes_app, bytes_app, bytes_app]; rfl
  have hz : (ByteArray.mk (Array.mk [9]) ++ k ++ ByteArray.mk (Array.mk [9]) ++ v ++ ByteArray.mk (Array.mk [10])).size ≤ 1000 := by
   simp only [ByteArray.size_append]; omega
  rw [write_eq _ _ (by simp only [List.length_append]; omega), bd_some, hb, s_add, wrap_succ hj (by have := ok.few; unfold big63; omega), keysL_take _ _ _ _ _ hk hv, List.append_assoc]) (fun _ => by
  have hlj := hl d.Keys.length
  have hg : std.get TyS.dfn l (i : Int) = d := get_nat (t := TyS.dfn) hd
  unfold block_Print_B1
  simp only [hg]
  have e2 : d.Values.take d.Keys.length = d.Values := by rw [← ok.len, List.take_length]
  rw [len_nat, lssF, br_false, write_eq _ _ (by simp only [List.length_append]; show acc.length + _ + 2 ≤ _; omega), bd_some, show std.ar .add .i64 (i : Int) 1 = ((i + 1 : Nat) : Int) from wrap_succ (n := 1000) hi (by unfold big63; omega), List.take_length, e2]
  rfl) ()
 rw [runL_end] at this
 have e0 : acc ++ keysL (d.Keys.take 0) (d.Values.take 0) = acc := by simp [keysL]
 simp only [e0] at this
 exact this
theorem block_Print_eq (l : List Def) (hl : l.length ≤ big63) (hf : ∀ d ∈ l, defFit d) : block_Print std l = some (printD l) := by
 unfold block_Print printD
 rw [block_Right_eq l hl hf, bd_some]
 cases hr : rightD l with
 | false => rfl
 | true =>
  simp only [rightD, Bool.and_eq_true, decide_eq_true_eq, List.all_eq_true] at hr
  have hok := fun d hd => mayD_ok (hr.2 d hd)
  have hlen : ∀ j, (defsL (l.take j)).length ≤ 64 * 20000 := fun j => by
   have h1 := flatten_le 20000 ((l.take j).map defL) fun x hx => by
    obtain ⟨d, hd, rfl⟩ := List.mem_map.1 hx
    exact defL_le (hok d (List.mem_of_mem_take hd))
   rw [List.length_map, List.length_take] at h1
   have h2 : min j l.length * 20000 ≤ 64 * 20000 := Nat.mul_le_mul_right _ (by omega)
   exact Nat.le_trans h1 h2
  rw [s_not, Bool.not_true, br_false]
  have := Loop_each (B := block_Print_B2 std l) (fun i (_ : Unit) => ((i : Int), defsL (l.take i))) l (fun _ _ (_ : Unit) => (.inl () : Unit ⊕ (ByteArray × Int))) (fun _ => cond (decide ((defsL l).length ≤ 8192)) (⟨(defsL l).toArray⟩, 0) (ByteArray.mk (Array.mk []), 2)) (fun i d u hd hi => by
   have ok := hok d (mem_at hd)
   have hli := hlen i
   have st := ok.typ
   have q7 : (ByteArray.mk (Array.mk [100, 101, 102, 105, 110, 101, 32])).size = 7 := rfl
   have q2 : (ByteArray.mk (Array.mk [32, 123])).size = 2 := rfl
   have q1 : (ByteArray.mk (Array.mk [10])).size = 1 := rfl
   have c1 : std.catOk (ByteArray.mk (Array.mk [100, 101, 102, 105, 110, 101, 32])) d.Typ := by rw [s_catOk, q7]; omega
   have c2 : std.catOk (ByteArray.mk (Array.mk [100, 101, 102, 105, 110, 101, 32]) ++ d.Typ) (ByteArray.mk (Array.mk [32, 123])) := by rw [s_catOk, ByteArray.size_append, q7, q2]; omega
   have c3 : std.catOk (ByteArray.mk (Array.mk [100, 101, 102, 105, 110, 101, 32]) ++ d.Typ ++ ByteArray.mk (Array.mk [32, 123])) (ByteArray.mk (Array.mk [10])) := by rw [s_catOk, ByteArray.size_append, ByteArray.size_append, q7, q2, q1]; omega
   unfold block_Print_B2
   simp only [get_nat (t := TyS.dfn) hd, s_cat]
   rw [len_nat, lssT hi, br_true, ck_t (inbT hi), ck_t c1, ck_t c2, ck_t c3]
   have hb : bytes (ByteArray.mk (Array.mk [100, 101, 102, 105, 110, 101, 32]) ++ d.Typ ++ ByteArray.mk (Array.mk [32, 123]) ++ ByteArray.mk (Array.mk [10])) = [100, 101, 102, 105, 110, 101, 32] ++ bytes d.Typ ++ [32, 123] ++ [10] := by
    rw [bytes_app, bytes_app, bytes_app]
   have hz : (ByteArray.mk (Array.mk [100, 101, 102, 105, 110, 101, 32]) ++ d.Typ ++ ByteArray.mk (Array.mk [32, 123]) ++ ByteArray.mk (Array.mk [10])).size ≤ 1000 := by
    simp only [ByteArray.size_append]; omega
   rw [write_eq _ _ (by omega), bd_some, hb, block_keys_eq l i d hd ok _ (by simp only [List.length_append, len_bytes, List.length_cons, List.length_nil]; omega) (by omega)]
   unfold defsL
   rw [take_flat defL hd]
   simp only [defL, List.append_assoc]) (fun _ => by
   have hli := hlen l.length
   rw [List.take_length] at hli
   unfold block_Print_B2 strings_Builder_Len
   simp only
   rw [len_nat, lssF, br_false, bd_some, List.take_length, show std.cmp .gtr (std.len TyS.byte (defsL l)) 8192 = !decide ((defsL l).length ≤ 8192) from gtr_len (t := TyS.byte) (defsL l) 8192]
   by_cases h8 : (defsL l).length ≤ 8192
   ·rw [decide_eq_true h8, Bool.not_true, br_false]
    unfold strings_Builder_String
    rw [ck_t (by omega), bd_some]
    rfl
   ·rw [decide_eq_false h8, Bool.not_false, br_true]
    rfl) ()
  rw [runL_end] at this
  exact this
end Go.PL
namespace Go.PL
set_option linter.unusedSimpArgs false
set_option linter.unusedVariables false
set_option linter.unusedSectionVars false
open Tys (Ty U)
open Enc (sz enc dflt tb ofB toB)
open Dec (dec dok)
set_option maxRecDepth 100000
def oddS (x : Label) : Bool := Lib.contains (bytes x.Value) [59] || Lib.hasSuffix (bytes x.Value) [32]
theorem nagfile_odd_eq (x : Label) (h : x.Value.size ≤ 64) : nagfile_odd std x = some (oddS x) := by
 unfold nagfile_odd oddS strings_Contains strings_HasSuffix
 rw [ck_t (by omega), bd_some, ck_t (by omega), gd_b (fun _ => rfl), bd_some]
 simp only [s_lor, s_not]
 show some (Lib.contains (bytes x.Value) [59] || (!Lib.contains (bytes x.Value) [59] && Lib.hasSuffix (bytes x.Value) [32])) = _
 cases Lib.contains (bytes x.Value) [59] <;> rfl
def oddR (r : Rule) : Bool := r.Labels.any oddS
def six (c : Config) (a b d : Bool) : List WhyW := [WhyW.mk (ByteArray.mk (Array.mk [114, 111, 117, 116, 101, 115])) (std.cmp .gtr (std.len TyS.route c.2.9) 0), WhyW.mk (ByteArray.mk (Array.mk [103, 114, 111, 117, 112])) (std.cmp .gtr (std.len TyS.str c.2.3) 0), WhyW.mk (ByteArray.mk (Array.mk [105, 110, 104, 105, 98, 105, 116])) (std.cmp .gtr (std.len TyS.inhibit c.4) 0), WhyW.mk (ByteArray.mk (Array.mk [102, 111, 114])) a, WhyW.mk (ByteArray.mk (Array.mk [107, 101, 101, 112])) b, WhyW.mk (ByteArray.mk (Array.mk [108, 97, 98, 101, 108])) d]
def saidW (l : List WhyW) : List ByteArray := (l.filter (·.is)).map (·.word)
def whyS (c : Config) : List ByteArray := saidW (six c (c.Rules.any fun r => r.For != 0) (c.Rules.any fun r => r.Keep != 0) (c.Rules.any oddR))
theorem said_le (l : List WhyW) : (saidW l).length ≤ l.length := by
 unfold saidW
 rw [List.length_map]; exact List.length_filter_le ..
theorem why_loop (B : List ByteArray × Int → Option ((List ByteArray × Int) ⊕ List ByteArray)) (xs : List WhyW) (hl : xs.length ≤ 100)
  (hB : ∀ out i, B (out, i) = br (std.cmp .lss i (std.len TyS.whyw xs)) (ck (std.inb i (std.len TyS.whyw xs)) <| br (std.get TyS.whyw xs i).2 (ck (std.appOk TyS.str 16 out [(std.get TyS.whyw xs i).1]) <| some (.inl (std.app TyS.str out [(std.get TyS.whyw xs i).1], std.ar .add .i64 i 1))) (some (.inl (out, std.ar .add .i64 i 1)))) (rt (some out))) : Loop B ([], 0) = some (saidW xs) := by
 have := Loop_each (B := B) (fun i (_ : Unit) => (saidW (xs.take i), (i : Int))) xs (fun _ _ (_ : Unit) => (.inl () : Unit ⊕ List ByteArray)) (fun _ => saidW xs) (fun i x u hx hi => by
  rw [hB, len_nat, lssT hi, br_true, ck_t (inbT hi), get_nat (t := TyS.whyw) hx, s_add, wrap_succ hi (by unfold big63; omega), take_snoc hx]
  have h1 := said_le (xs.take i)
  rw [List.length_take] at h1
  unfold saidW at h1 ⊢
  rw [List.filter_append, List.map_append]
  cases hx2 : x.2 with
  | true =>
   rw [br_true, ck_t (show std.appOk TyS.str 16 _ [x.1] from ⟨by simp only [List.length_singleton]; omega, by simp only [List.length_singleton]; omega⟩)]
   simp [hx2]
  | false => simp [br_false, hx2]) (fun _ => by
  rw [hB, len_nat, lssF, br_false, List.take_length]
  rfl) ()
 rw [runL_end] at this
 exact this
theorem rules_labels {c : Config} (h : configS c = true) : ∀ r ∈ c.Rules, labelsS r.Labels = true ∧ r.Labels.length ≤ 4 := fun r hr => by
 have := (configS_ok h).rules.2.1 r hr
 simp only [ruleS, Bool.and_eq_true, decide_eq_true_eq] at this
 exact ⟨this.1.2, this.1.1.2⟩
theorem nagfile_Why_eq (c : Config) (hf : configFit c) : nagfile_Why std c = some (cond (configS c) (whyS c) []) := by
 unfold nagfile_Why
 rw [config_Right_eq c hf, bd_some]
 cases hp : configS c with
 | false => rfl
 | true =>
  have hl := rules_labels hp
  have e1 : ∀ (p : Rule → Bool) (q : Rule → Option Bool), (∀ r ∈ c.Rules, q r = some (p r)) → nagfile_Why_1 std q c = some (c.Rules.any p) := fun p q hq => by
   unfold nagfile_Why_1
   rw [contains_Rule c.1 p q hq hf.1.1, bd_some]
  rw [s_not, Bool.not_true, br_false, e1 (fun r => r.For != 0) (fun y0 => nagfile_Why_2 std y0) (fun r _ => rfl), bd_some, e1 (fun r => r.Keep != 0) (fun y0 => nagfile_Why_3 std y0) (fun r _ => rfl), bd_some, e1 oddR (fun y0 => nagfile_Why_4 std y0) (fun r hr => by
   unfold nagfile_Why_4
   obtain ⟨h1, h2⟩ := hl r hr
   have hm := labelsS_mem h1
   have : slices_ContainsFunc_Label_Label std r.8 (fun y0 => nagfile_odd std y0) = some (r.Labels.any oddS) := by
    have h3 : slices_IndexFunc_Label_Label std r.8 (fun y0 => nagfile_odd std y0) = some (fnd r.Labels oddS) := index_Label r.Labels oddS _ (fun x hx => nagfile_odd_eq x (by
     have := hm x hx
     simp only [labelS, valueS, Bool.and_eq_true, decide_eq_true_eq] at this
     exact this.2.2)) (by unfold big63; omega)
    unfold slices_ContainsFunc_Label_Label
    rw [h3, bd_some, s_geq, any_find]
   rw [this, bd_some]
   rfl), bd_some]
  exact why_loop (nagfile_Why_B1 std c _ _ _) (six c _ _ _) (by show 6 ≤ 100; omega) (fun out i => rfl)
def holdsN (c : Config) : Bool := configS c && decide ((whyS c).length = 0)
theorem nagfile_Holds_eq (c : Config) (hf : configFit c) : nagfile_Holds std c = some (holdsN c) := by
 unfold nagfile_Holds holdsN
 rw [config_Right_eq c hf, bd_some, nagfile_Why_eq c hf]
 cases hp : configS c with
 | false => rfl
 | true =>
  rw [gd_t, bd_some, cond_true]
  have : std.cmp .eql (std.len TyS.str (whyS c)) 0 = decide ((whyS c).length = 0) := by rw [len_nat, s_eql, Bool.eq_iff_iff]; simp
  rw [this]; rfl
def contactD (s : ByteArray) : Def := ⟨ByteArray.mk (Array.mk [99, 111, 110, 116, 97, 99, 116]), [ByteArray.mk (Array.mk [110, 97, 109, 101])], [s]⟩
def itoaS (n : Int) : ByteArray := ⟨(Lib.itoa n).toArray⟩
def aliveN : Def := ⟨ByteArray.mk (Array.mk [110, 111, 116, 105, 102, 121]), [ByteArray.mk (Array.mk [99, 111, 110, 116, 97, 99, 116]), ByteArray.mk (Array.mk [119, 97, 105, 116]), ByteArray.mk (Array.mk [101, 118, 101, 114, 121]), ByteArray.mk (Array.mk [114, 101, 112, 101, 97, 116])], [opsT, itoaS 0, itoaS 1, itoaS 1]⟩
theorem aliveD_ok : configS aliveD = true := by kernel_rfl
theorem aliveD_normN : normS aliveD = aliveD := by kernel_rfl
theorem aliveD_why : holdsN aliveD = true := by kernel_rfl
theorem itoa_some (n : Int) (h : -1000 ≤ n ∧ n ≤ 1000) : strconv_Itoa std n = some (itoaS n) := by
 unfold strconv_Itoa
 exact ck_t ⟨by omega, by omega⟩
theorem aliveD_notify : nagfile_notifies std aliveD.Route = some aliveN := by
 unfold nagfile_notifies
 rw [show aliveD.Route.4 = 0 from rfl, show aliveD.Route.5 = 1 from rfl, show aliveD.Route.6 = 1 from rfl, itoa_some 0 (by omega), bd_some, itoa_some 1 (by omega), bd_some, bd_some]
 have : ∀ d s, nagfile_listed std d s [] = some d := fun d s => by
  unfold nagfile_listed
  rw [Loop_eq]; rfl
 show (bd (nagfile_listed std _ _ []) fun w4 => some w4) = _
 rw [this, bd_some]
 rfl
theorem aliveD_blocks : nagfile_blocks std aliveD = some [contactD opsT, aliveN] := by
 unfold nagfile_blocks
 have e1 : nagfile_blocks_B2 std aliveD ([], 0) = some (.inl ([contactD opsT], 1)) := by
  unfold nagfile_blocks_B2
  simp only
  rw [show std.cmp .lss 0 (std.len TyS.str aliveD.3) = true from rfl, br_true, ck_t (show std.inb 0 (std.len TyS.str aliveD.3) from ⟨by omega, by show (0 : Int) < 1; omega⟩)]
  unfold nagfile_contacts
  rw [bd_some, ck_t (show std.appOk TyS.dfn 64 [] [_] from ⟨by simp, by simp⟩)]
  rfl
 have e2 : nagfile_blocks_B2 std aliveD ([contactD opsT], 1) = some (.inr [contactD opsT, aliveN]) := by
  unfold nagfile_blocks_B2
  simp only
  rw [show std.cmp .lss 1 (std.len TyS.str aliveD.3) = false from rfl, br_false, show aliveD.2 = aliveD.Route from rfl, aliveD_notify, bd_some, ck_t (show std.appOk TyS.dfn 64 [contactD opsT] [aliveN] from ⟨by simp, by simp⟩), Loop_eq]
  rfl
 have e3 : Loop (nagfile_blocks_B2 std aliveD) ([], 0) = some [contactD opsT, aliveN] := by
  rw [Loop_eq, e1]
  show Loop (nagfile_blocks_B2 std aliveD) ([contactD opsT], 1) = _
  rw [Loop_eq, e2]
 rw [Loop_eq, show nagfile_blocks_B3 std aliveD ([], 0) = rt (Loop (nagfile_blocks_B2 std aliveD) ([], 0)) from rfl, e3]
 rfl
theorem aliveD_right : rightD [contactD opsT, aliveN] = true := by kernel_rfl
theorem aliveD_text : defsL [contactD opsT, aliveN] = [100, 101, 102, 105, 110, 101, 32, 99, 111, 110, 116, 97, 99, 116, 32, 123, 10, 9, 110, 97, 109, 101, 9, 111, 112, 115, 10, 125, 10, 100, 101, 102, 105, 110, 101, 32, 110, 111, 116, 105, 102, 121, 32, 123, 10, 9, 99, 111, 110, 116, 97, 99, 116, 9, 111, 112, 115, 10, 9, 119, 97, 105, 116, 9, 48, 10, 9, 101, 118, 101, 114, 121, 9, 49, 10, 9, 114, 101, 112, 101, 97, 116, 9, 49, 10, 125, 10] := by kernel_rfl
theorem alive13_eq : transhipmentlaw13_alive std = some true := by
 unfold transhipmentlaw13_alive
 have h1 : nagfile_Export std (Config.mk [] (Route.mk (ByteArray.mk (Array.mk [111, 112, 115])) [] [] 0 1 1 [] false []) [ByteArray.mk (Array.mk [111, 112, 115])] [] []) = some (⟨(defsL [contactD opsT, aliveN]).toArray⟩, 0) := by
  show nagfile_Export std aliveD = _
  unfold nagfile_Export
  rw [config_Normal_eq aliveD aliveD_fit, aliveD_ok, cond_true, aliveD_normN, bd_some]
  simp only
  rw [show std.cmp .neq 0 0 = false from rfl, br_false, nagfile_Holds_eq aliveD aliveD_fit, aliveD_why, bd_some, s_not, Bool.not_true, br_false, aliveD_blocks, bd_some, block_Print_eq _ (by show 2 ≤ big63; unfold big63; omega) (fun d hd => by
   simp only [List.mem_cons, List.mem_nil_iff, or_false] at hd
   rcases hd with rfl | rfl
   ·exact ⟨by show 1 ≤ big63; unfold big63; omega, by show 1 ≤ big63; unfold big63; omega⟩
   ·exact ⟨by show 4 ≤ big63; unfold big63; omega, by show 4 ≤ big63; unfold big63; omega⟩), bd_some]
  unfold printD
  rw [aliveD_right, cond_true, decide_eq_true (show (defsL [contactD opsT, aliveN]).length ≤ 8192 by rw [aliveD_text]; decide), cond_true]
 rw [h1, bd_some, aliveD_text]
 simp only
 rw [s_seql, decide_eq_true rfl]
 rfl
theorem many13_some : ∀ (n : Nat) (r : Route) (m : Int), SizeOf.sizeOf r < n → RouteFit r → ∃ v, transhipmentlaw13_many_N std n r m = some v
 | 0, r, m, h, _ => absurd h (Nat.not_lt_zero _)
 | n + 1, r, m, h, hf => by
  obtain ⟨_, _, _, _, h5, h6⟩ := fit_route hf
  rw [transhipmentlaw13_many_N, transhipmentlaw13_many_S]
  refine ⟨_, Loop_each (B := transhipmentlaw13_many_S_B1 std (transhipmentlaw13_many_N std n) r m) (fun i (s : Int) => (s, (i : Int))) r.Routes (fun _ k s => if decide (m < s) = true then (.inr s : Int ⊕ Int) else .inl (std.ar .add .i64 s ((transhipmentlaw13_many_N std n k (std.ar .sub .i64 m s)).getD 0))) (fun s => s) (fun i k s hk hi => ?_) (fun s => ?_) 1⟩
  ·unfold transhipmentlaw13_many_S_B1
   simp only
   obtain ⟨v, hv⟩ := many13_some n k (std.ar .sub .i64 m s) (by have := route_lt (mem_at hk); omega) (h6 k (mem_at hk))
   rw [len_nat, lssT hi, br_true, ck_t (inbT hi), get_nat (t := TyS.route) hk, s_gtr, hv, bd_some, s_add (a := (i : Int)), wrap_succ hi h5]
   cases decide (m < s) <;> rfl
  ·unfold transhipmentlaw13_many_S_B1
   simp only
   rw [len_nat, lssF, br_false]
   rfl
theorem big13_some (c : Config) (h : configFit c) : ∃ b, transhipmentlaw13_big std c = some b ∧ (b = false → Small c) := by
 unfold transhipmentlaw13_big
 obtain ⟨v, hv⟩ := many13_some (SizeOf.sizeOf c.Route + 1) c.Route 40 (Nat.lt_succ_self _) h.2.1
 unfold transhipmentlaw13_many
 rw [hv, bd_some]
 refine ⟨_, rfl, fun hb => ?_⟩
 simp only [s_lor, s_gtr, Bool.or_eq_false_iff, decide_eq_false_iff_not, s_len] at hb
 exact ⟨by omega, by omega, by omega, by omega⟩
def plainR (r : Rule) : Rule := ⟨r.1, r.2, r.3, r.4, 0, 0, r.7, []⟩
def plainT (r : Route) : Route := ⟨r.1, r.2, [], r.4, r.5, r.6, r.7, r.8, []⟩
def plainF (c : Config) : Config := ⟨c.Rules.map plainR, plainT c.Route, c.Receivers, [], c.Hours⟩
end Go.PL
namespace Go.PL
set_option linter.unusedSimpArgs false
set_option linter.unusedVariables false
set_option linter.unusedSectionVars false
open Tys (Ty U)
open Enc (sz enc dflt tb ofB toB)
open Dec (dec dok)
set_option maxRecDepth 100000
def putL (c : UInt8) (new : List UInt8) (s : List UInt8) : List UInt8 := (s.map fun b => if b = c then new else [b]).flatten
def escL (s : List UInt8) : List UInt8 := (s.map fun b => if b = 34 ∨ b = 92 then [92, b] else [b]).flatten
def plainQ (s : ByteArray) : Bool := (bytes s).all oplC && decide (1 ≤ s.size) && !decide ((bytes s).head? = some 45)
def quoteL (s : ByteArray) : List UInt8 := if plainQ s = true then bytes s else [34] ++ escL (bytes s) ++ [34]
end Go.PL
namespace Go.PL
set_option linter.unusedSimpArgs false
set_option linter.unusedVariables false
set_option linter.unusedSectionVars false
open Tys (Ty U)
open Enc (sz enc dflt tb ofB toB)
open Dec (dec dok)
set_option maxRecDepth 100000
end Go.PL
namespace Go.PL
set_option linter.unusedSimpArgs false
set_option linter.unusedVariables false
set_option linter.unusedSectionVars false
open Tys (Ty U)
open Enc (sz enc dflt tb ofB toB)
open Dec (dec dok)
set_option maxRecDepth 100000
def bitB (d : Int) (j : Nat) : Bool := std.cmp .eql (std.ar .and .i64 (std.ar .shr .i64 d (j : Int)) 1) 1
def daysL (d : Int) : Nat → List ByteArray
 | 0 => []
 | i + 1 => daysL d i ++ (if bitB d i = true then [dayT i] else [])
theorem days_ok (d : Int) : ∀ i, i ≤ 7 → (daysL d i).length ≤ i ∧ ∀ x ∈ daysL d i, x.size = 3
 | 0, _ => ⟨Nat.le_refl _, fun x hx => by cases hx⟩
 | i + 1, h => by
  obtain ⟨h1, h2⟩ := days_ok d i (by omega)
  rw [daysL]
  split
  ·refine ⟨app_len _ h1, fun x hx => ?_⟩
   rcases List.mem_append.1 hx with hx | hx
   ·exact h2 x hx
   ·rw [List.mem_singleton.1 hx]; exact dayT_size i (by omega)
  ·rw [List.append_nil]; exact ⟨by omega, h2⟩
def comL : List ByteArray → List UInt8
 | [] => []
 | w :: r => bytes w ++ (r.map fun x => 44 :: bytes x).flatten
theorem join_com (ws : List ByteArray) : Lib.join (ws.map (·.data.toList)) [44] = comL ws := by
 cases ws with
 | nil => rfl
 | cons w r =>
  rw [List.map_cons, Lib.join_cons]
  simp only [comL, Lib.joinTail, List.map_map]
  rfl
theorem com_le (l : List ByteArray) (h : ∀ x ∈ l, x.size = 3) : (comL l).length ≤ 4 * l.length := by
 cases l with
 | nil => simp [comL]
 | cons w r =>
  have h1 := h w (List.mem_cons_self ..)
  have h2 := flat_le (fun x : ByteArray => 44 :: bytes x) 4 r fun x hx => by
   have := h x (List.mem_cons_of_mem _ hx)
   rw [List.length_cons, len_bytes]; omega
  simp only [comL, List.length_append, len_bytes, List.length_cons]
  omega
noncomputable def clk (n : Int) : ByteArray := (hours_clock std n).getD ⟨#[]⟩
theorem clk_eq (n : Int) (h0 : 0 ≤ n) (h1 : n ≤ 1440) : hours_clock std n = some (clk n) ∧ (clk n).size = 5 := by
 obtain ⟨t, h2, h3⟩ := hours_clock_some n h0 h1
 have : clk n = t := by unfold clk; rw [h2]; rfl
 rw [this]; exact ⟨h2, h3⟩
noncomputable def hoursV (h : Hours) : ByteArray := (⟨(comL (daysL h.Days 7)).toArray⟩ : ByteArray) ++ ByteArray.mk (Array.mk [32]) ++ clk h.From ++ ByteArray.mk (Array.mk [45]) ++ clk h.To
theorem hours_Text_eq (h : Hours) (hs : hourS h = true) : hours_Text std h = some (hoursV h, 0) := by
 have h0 := hs
 simp only [hourS, Bool.and_eq_true, decide_eq_true_eq] at h0
 obtain ⟨⟨⟨⟨⟨⟨_, _⟩, _⟩, f0⟩, f1⟩, f2⟩, t1⟩ := h0
 obtain ⟨ha, la⟩ := clk_eq h.From f0 (by omega)
 obtain ⟨hb, lb⟩ := clk_eq h.To (by omega) t1
 unfold hours_Text
 rw [hours_Right_eq h, bd_some, hs, s_not, Bool.not_true, br_false]
 have := Loop_each (B := hours_Text_B1 std h) (fun i (_ : Unit) => (daysL h.Days i, (i : Int))) (List.range 7) (fun _ _ (_ : Unit) => (.inl () : Unit ⊕ (ByteArray × Int))) (fun _ => (hoursV h, 0)) (fun i n u hx hi => by
  rw [List.length_range] at hi
  obtain ⟨hI, hz⟩ := days_ok h.Days i (by omega)
  unfold hours_Text_B1
  simp only
  rw [show std.cmp .lss (i : Int) 7 = true from lssT (n := 7) hi, br_true, ck_t (show std.inb (i : Int) (Int.ofNat 7) from inbT (n := 7) hi), ck_t (show std.nn (i : Int) by show (0 : Int) ≤ _; omega), s_add, wrap_succ (n := 7) hi (by unfold big63; omega), daysL]
  unfold bitB
  cases std.cmp .eql (std.ar .and .i64 (std.ar .shr .i64 h.Days (i : Int)) 1) 1 with
  | true =>
   rw [br_true, if_pos rfl]
   have hA : std.appOk TyS.str 16 (daysL h.Days i) [dayT i] := ⟨by simp; omega, by simp; omega⟩
   exact ck_t hA
  | false => rw [br_false, if_neg (by simp), List.append_nil]) (fun _ => by
  obtain ⟨hI, hz⟩ := days_ok h.Days 7 (by omega)
  rw [List.length_range]
  unfold hours_Text_B1
  simp only
  have hj := com_le (daysL h.Days 7) hz
  have hJ : strings_Join std (daysL h.Days 7) (ByteArray.mk (Array.mk [44])) = some ⟨(comL (daysL h.Days 7)).toArray⟩ := by
   unfold strings_Join
   have e : Lib.join ((daysL h.Days 7).map (·.data.toList)) (ByteArray.mk (Array.mk [44])).data.toList = comL (daysL h.Days 7) := join_com _
   rw [e]
   exact ck_t ⟨by omega, by omega⟩
  have jz : (ByteArray.mk (comL (daysL h.Days 7)).toArray).size ≤ 28 := by rw [size_bytes, bytes_mk]; omega
  have z1 : (ByteArray.mk (Array.mk [32])).size = 1 := rfl
  have z2 : (ByteArray.mk (Array.mk [45])).size = 1 := rfl
  rw [show std.cmp .lss ((7 : Nat) : Int) 7 = false from rfl, br_false, hJ, bd_some, s_cat, ck_t (show std.catOk _ _ by rw [s_catOk, z1]; omega), ha, bd_some, s_cat, ck_t (show std.catOk _ _ by rw [s_catOk, ByteArray.size_append, z1, la]; omega), s_cat, ck_t (show std.catOk _ _ by rw [s_catOk, ByteArray.size_append, ByteArray.size_append, z1, z2, la]; omega), hb, bd_some, s_cat, ck_t (show std.catOk _ _ by rw [s_catOk, ByteArray.size_append, ByteArray.size_append, ByteArray.size_append, z1, z2, la, lb]; omega)]
  rfl) ()
 rw [runL_end] at this
 exact this
theorem hoursT_val (h : Hours) (hs : hourS h = true) : hoursT h = hoursV h := by
 unfold hoursT
 rw [hours_Text_eq h hs]
 rfl
theorem bits_all : ((List.range 128).all fun d => (List.range 7).all fun i => bitB (d : Int) i == decide (d / 2 ^ i % 2 = 1)) = true := by kernel_rfl
theorem bit_eq (d i : Nat) (hd : d ≤ 127) (hi : i < 7) : bitB (d : Int) i = decide (d / 2 ^ i % 2 = 1) := by
 have := bits_all
 rw [List.all_eq_true] at this
 have h1 := this d (List.mem_range.2 (by omega))
 rw [List.all_eq_true] at h1
 simpa using h1 i (List.mem_range.2 hi)
end Go.PL
namespace Go.PL
set_option linter.unusedSimpArgs false
set_option linter.unusedVariables false
set_option linter.unusedSectionVars false
open Tys (Ty U)
open Enc (sz enc dflt tb ofB toB)
open Dec (dec dok)
set_option maxRecDepth 100000
end Go.PL
namespace Go.PL
set_option linter.unusedSimpArgs false
set_option linter.unusedVariables false
set_option linter.unusedSectionVars false
open Tys (Ty U)
open Enc (sz enc dflt tb ofB toB)
open Dec (dec dok)
set_option maxRecDepth 100000
end Go.PL
namespace Go.PL
set_option linter.unusedSimpArgs false
set_option linter.unusedVariables false
set_option linter.unusedSectionVars false
open Tys (Ty U)
open Enc (sz enc dflt tb ofB toB)
open Dec (dec dok)
set_option maxRecDepth 100000
def signW (n : Int) : ByteArray := std.sel [ByteArray.mk (Array.mk []), ByteArray.mk (Array.mk [62]), ByteArray.mk (Array.mk [62, 61]), ByteArray.mk (Array.mk [60]), ByteArray.mk (Array.mk [60, 61]), ByteArray.mk (Array.mk [61, 61])] n
noncomputable def labelT (l : List Label) : ByteArray := ((label_Text std l).getD (⟨#[]⟩, 0)).1
theorem labelT_eq (l : List Label) (hf : fitL labelFit l) (h : labelsS l = true) : label_Text std l = some (labelT l, 0) := by
 obtain ⟨s, hs, _⟩ := label_Text_some l hf h
 unfold labelT
 rw [hs]; rfl
noncomputable def wordsR (r : Rule) : List ByteArray := [r.Name, r.Metric, signW r.How, itoaS r.Limit, itoaS r.For, itoaS r.Keep, itoaS r.Tries, labelT r.Labels]
theorem itoaS_eq (n : Int) (h : -9223372036854775808 ≤ n ∧ n ≤ 9223372036854775807) : strconv_Itoa std n = some (itoaS n) := by
 unfold strconv_Itoa
 exact ck_t h
theorem rules_Words_eq (r : Rule) (hf : ruleFit r) (h : ruleS r = true) : rules_Words std r = some (wordsR r, 0) := by
 have h0 := h
 simp only [ruleS, timeS, Bool.and_eq_true, decide_eq_true_eq] at h0
 obtain ⟨⟨⟨⟨⟨⟨⟨⟨⟨⟨⟨⟨_, _⟩, a1⟩, a2⟩, b1, b2⟩, c1, c2⟩, d1⟩, d2⟩, e1⟩, e2⟩, _⟩, hl⟩, _⟩ := h0
 unfold rules_Words
 rw [rules_Right_eq r hf, bd_some, h, s_not, Bool.not_true, br_false, labelT_eq r.Labels hf.2.2 hl, bd_some]
 have hw : rules_ways std = some () := rfl
 rw [hw, bd_some, ck_t (show std.inb r.How (Int.ofNat 6) from ⟨by omega, by show r.How < 6; omega⟩)]
 have hn : ∀ n ∈ [r.Limit, r.For, r.Keep, r.Tries], -9223372036854775808 ≤ n ∧ n ≤ 9223372036854775807 := by
  intro n hn
  simp only [List.mem_cons, List.mem_nil_iff, or_false] at hn
  rcases hn with rfl | rfl | rfl | rfl <;> omega
 have := Loop_each (B := rules_Words_B1 std r (labelT r.Labels, 0)) (fun i (_ : Unit) => ([r.Name, r.Metric, signW r.How] ++ ([r.Limit, r.For, r.Keep, r.Tries].take i).map itoaS, (i : Int))) [r.Limit, r.For, r.Keep, r.Tries] (fun _ _ (_ : Unit) => (.inl () : Unit ⊕ (List ByteArray × Int))) (fun _ => (wordsR r, 0)) (fun i n u hx hi => by
  unfold rules_Words_B1
  simp only
  have hi4 : i < 4 := hi
  rw [len_nat, lssT hi, br_true, ck_t (inbT hi), get_nat (t := TyS.int) hx, itoaS_eq n (hn n (mem_at hx)), bd_some, ck_t (show std.appOk TyS.str 16 _ [itoaS n] from ⟨by simp; omega, by simp; omega⟩), s_add, wrap_succ hi (by simp; unfold big63; omega), take_snoc hx, List.map_append, ← List.append_assoc]
  rfl) (fun _ => by
  unfold rules_Words_B1
  simp only
  rw [len_nat, lssF, br_false, List.take_length, ck_t (show std.appOk TyS.str 16 _ [labelT r.Labels] from ⟨by simp, by simp⟩)]
  rfl) ()
 rw [runL_end] at this
 exact this
def keysN (name : ByteArray) (n : Nat) : List ByteArray := (List.range n).map fun (i : Nat) => name ++ itoaS ((i : Nat) : Int)
def listedD (d : Def) (name : ByteArray) (l : List ByteArray) : Def := ⟨d.Typ, d.Keys ++ keysN name l.length, d.Values ++ l⟩
theorem keysN_succ (name : ByteArray) (n : Nat) : keysN name (n + 1) = keysN name n ++ [name ++ itoaS (n : Int)] := by
 unfold keysN
 rw [List.range_succ, List.map_append]; rfl
theorem keysN_len (name : ByteArray) (n : Nat) : (keysN name n).length = n := by
 unfold keysN
 rw [List.length_map, List.length_range]
theorem itoaS_le (n : Int) (h : -9223372036854775808 ≤ n ∧ n ≤ 9223372036854775807) : (itoaS n).size ≤ 21 := by
 unfold itoaS
 rw [size_bytes, bytes_mk]
 exact Lib.itoa_length_le n h.1 h.2
theorem nagfile_listed_eq (d : Def) (name : ByteArray) (l : List ByteArray) (hn : name.size ≤ 1000) (hl : l.length ≤ 1000) (hk : d.Keys.length ≤ 1000) (hv : d.Values.length ≤ 1000) : nagfile_listed std d name l = some (listedD d name l) := by
 unfold nagfile_listed
 have := Loop_each (B := nagfile_listed_B1 std d name l) (fun i (_ : Unit) => ((i : Int), d.Keys ++ keysN name i, d.Values ++ l.take i)) l (fun _ _ (_ : Unit) => (.inl () : Unit ⊕ Def)) (fun _ => listedD d name l) (fun i s u hs hi => by
  unfold nagfile_listed_B1
  simp only
  have hki := keysN_len name i
  have hit := itoaS_le (i : Int) (by omega)
  rw [len_nat, lssT hi, br_true, ck_t (inbT hi), itoaS_eq (i : Int) (by omega), bd_some, ck_t (show std.catOk name (itoaS (i : Int)) by rw [s_catOk]; omega), ck_t (show std.appOk TyS.str 16 (d.Keys ++ keysN name i) [_] from ⟨by rw [List.length_append, hki, List.length_singleton]; omega, by rw [List.length_append, hki, List.length_singleton]; omega⟩), get_nat (t := TyS.str) hs, ck_t (show std.appOk TyS.str 16 (d.Values ++ l.take i) [s] from ⟨by simp; omega, by simp; omega⟩), s_add, wrap_succ hi (by unfold big63; omega), keysN_succ, take_snoc hs, ← List.append_assoc, ← List.append_assoc]
  rfl) (fun _ => by
  unfold nagfile_listed_B1
  simp only
  rw [len_nat, lssF, br_false, List.take_length]
  rfl) ()
 rw [runL_end] at this
 have e0 : d.Keys ++ keysN name 0 = d.Keys := List.append_nil d.Keys
 have e1 : d.Values ++ l.take 0 = d.Values := by simp
 simp only [e0, e1] at this
 exact this
noncomputable def periodD (h : Hours) : Def := ⟨ByteArray.mk (Array.mk [116, 105, 109, 101, 112, 101, 114, 105, 111, 100]), [ByteArray.mk (Array.mk [110, 97, 109, 101]), ByteArray.mk (Array.mk [115, 112, 97, 110])], [h.Name, hoursT h]⟩
def notifyD (r : Route) : Def := listedD ⟨ByteArray.mk (Array.mk [110, 111, 116, 105, 102, 121]), [ByteArray.mk (Array.mk [99, 111, 110, 116, 97, 99, 116]), ByteArray.mk (Array.mk [119, 97, 105, 116]), ByteArray.mk (Array.mk [101, 118, 101, 114, 121]), ByteArray.mk (Array.mk [114, 101, 112, 101, 97, 116])], [r.Receiver, itoaS r.Wait, itoaS r.Every, itoaS r.Repeat]⟩ (ByteArray.mk (Array.mk [112, 101, 114, 105, 111, 100, 95])) r.Mute
def labelV (m : Label) : ByteArray := m.Name ++ ByteArray.mk (Array.mk [61]) ++ m.Value
def serviceD (r : Rule) : Def := listedD ⟨ByteArray.mk (Array.mk [115, 101, 114, 118, 105, 99, 101]), [ByteArray.mk (Array.mk [110, 97, 109, 101]), ByteArray.mk (Array.mk [109, 101, 116, 114, 105, 99]), ByteArray.mk (Array.mk [99, 104, 101, 99, 107]), ByteArray.mk (Array.mk [108, 105, 109, 105, 116]), ByteArray.mk (Array.mk [97, 116, 116, 101, 109, 112, 116, 115])], [r.Name, r.Metric, signW r.How, itoaS r.Limit, itoaS r.Tries]⟩ (ByteArray.mk (Array.mk [108, 97, 98, 101, 108, 95])) (r.Labels.map labelV)
theorem nagfile_notifies_eq (r : Route) (h : oneS r = true) : nagfile_notifies std r = some (notifyD r) := by
 simp only [oneS, orderS, fromS, Bool.and_eq_true, decide_eq_true_eq] at h
 obtain ⟨⟨⟨⟨⟨⟨⟨_, m1⟩, m2⟩, _, m3⟩, _, m4⟩, w1, w2⟩, e1, e2⟩, p1, p2⟩ := h
 unfold nagfile_notifies
 rw [itoaS_eq r.4 (by omega), bd_some, itoaS_eq r.5 (by omega), bd_some, itoaS_eq r.6 (by omega), bd_some, nagfile_listed_eq _ _ _ (by show (7 : Nat) ≤ 1000; omega) (by omega) (by show (4 : Nat) ≤ 1000; omega) (by show (4 : Nat) ≤ 1000; omega), bd_some]
 rfl
theorem nagfile_services_eq (r : Rule) (hf : ruleFit r) (h : ruleS r = true) : nagfile_services std r = some (serviceD r) := by
 have h0 := h
 simp only [ruleS, Bool.and_eq_true, decide_eq_true_eq] at h0
 obtain ⟨⟨⟨_, hl4⟩, hls⟩, _⟩ := h0
 have hm := labelsS_mem hls
 unfold nagfile_services
 rw [rules_Words_eq r hf h, bd_some]
 simp only
 rw [show std.cmp .lss (std.len TyS.str (wordsR r)) 7 = false from rfl, br_false]
 have hin : ∀ k : Nat, k < 8 → std.inb (k : Int) (std.len TyS.str (wordsR r)) := fun k hk => inbT (n := 8) hk
 rw [ck_t (show std.inb 0 _ from hin 0 (by omega)), ck_t (show std.inb 1 _ from hin 1 (by omega)), ck_t (show std.inb 2 _ from hin 2 (by omega)), ck_t (show std.inb 3 _ from hin 3 (by omega)), ck_t (show std.inb 6 _ from hin 6 (by omega))]
 have := Loop_each (B := nagfile_services_B1 std r (wordsR r, 0)) (fun i (_ : Unit) => ((r.Labels.take i).map labelV, (i : Int))) r.Labels (fun _ _ (_ : Unit) => (.inl () : Unit ⊕ Def)) (fun _ => serviceD r) (fun i m u hx hi => by
  have hlm := hm m (mem_at hx)
  simp only [labelS, nameS, valueS, Bool.and_eq_true, decide_eq_true_eq] at hlm
  have q1 : (ByteArray.mk (Array.mk [61])).size = 1 := rfl
  unfold nagfile_services_B1
  simp only [get_nat (t := TyS.label) hx]
  rw [len_nat, lssT hi, br_true, ck_t (inbT hi), ck_t (show std.catOk m.1 _ by rw [s_catOk, q1]; omega), ck_t (show std.catOk _ m.2 by rw [s_catOk, s_cat, ByteArray.size_append, q1]; omega), ck_t (show std.appOk TyS.str 16 ((r.Labels.take i).map labelV) [_] from ⟨by simp; omega, by simp; omega⟩), s_add, wrap_succ hi (by unfold big63; omega), take_snoc hx, List.map_append]
  rfl) (fun _ => by
  unfold nagfile_services_B1
  simp only
  rw [len_nat, lssF, br_false, List.take_length, nagfile_listed_eq _ _ _ (by show (6 : Nat) ≤ 1000; omega) (by rw [List.length_map]; omega) (by show (5 : Nat) ≤ 1000; omega) (by show (5 : Nat) ≤ 1000; omega), bd_some]
  rfl) ()
 rw [runL_end] at this
 exact this
noncomputable def blocksS (c : Config) : List Def := c.Hours.map periodD ++ c.Receivers.map contactD ++ [notifyD c.Route] ++ c.Rules.map serviceD
theorem nagfile_blocks_eq (c : Config) (hf : fitL ruleFit c.Rules) (ho : oneS c.Route = true) (hr : c.Receivers.length ≤ 16) (hh : c.Hours.length ≤ 8 ∧ ∀ x ∈ c.Hours, hourS x = true) (hu : c.Rules.length ≤ 16 ∧ ∀ r ∈ c.Rules, ruleS r = true) : nagfile_blocks std c = some (blocksS c) := by
 obtain ⟨h1, h2⟩ := hh
 obtain ⟨u1, u2⟩ := hu
 have ap : ∀ (l : List Def) (d : Def), l.length ≤ 1000 → std.appOk TyS.dfn 64 l [d] := fun l d h => ⟨by simp; omega, by simp; omega⟩
 have e1 : Loop (nagfile_blocks_B1 std c) (c.Hours.map periodD ++ c.Receivers.map contactD ++ [notifyD c.Route], 0) = some (blocksS c) := by
  have := Loop_each (B := nagfile_blocks_B1 std c) (fun i (_ : Unit) => (c.Hours.map periodD ++ c.Receivers.map contactD ++ [notifyD c.Route] ++ (c.Rules.take i).map serviceD, (i : Int))) c.Rules (fun _ _ (_ : Unit) => (.inl () : Unit ⊕ List Def)) (fun _ => blocksS c) (fun i r u hx hi => by
   unfold nagfile_blocks_B1
   simp only
   rw [len_nat, lssT hi, br_true, ck_t (inbT hi), get_nat (t := TyS.rule) hx, nagfile_services_eq r (hf.2 r (mem_at hx)) (u2 r (mem_at hx)), bd_some, ck_t (ap _ _ (by simp; omega)), s_add, wrap_succ hi (by unfold big63; omega), take_snoc hx, List.map_append, ← List.append_assoc]
   rfl) (fun _ => by
   unfold nagfile_blocks_B1
   simp only
   rw [len_nat, lssF, br_false, List.take_length]
   rfl) ()
  rw [runL_end] at this
  simp only [List.take_zero, List.map_nil, List.append_nil] at this
  exact this
 have e2 : Loop (nagfile_blocks_B2 std c) (c.Hours.map periodD, 0) = some (blocksS c) := by
  have := Loop_each (B := nagfile_blocks_B2 std c) (fun i (_ : Unit) => (c.Hours.map periodD ++ (c.Receivers.take i).map contactD, (i : Int))) c.Receivers (fun _ _ (_ : Unit) => (.inl () : Unit ⊕ List Def)) (fun _ => blocksS c) (fun i s u hx hi => by
   unfold nagfile_blocks_B2 nagfile_contacts
   simp only
   rw [len_nat, lssT hi, br_true, ck_t (inbT hi), get_nat (t := TyS.str) hx, bd_some, ck_t (ap _ _ (by simp; omega)), s_add, wrap_succ hi (by unfold big63; omega), take_snoc hx, List.map_append, ← List.append_assoc]
   rfl) (fun _ => by
   unfold nagfile_blocks_B2
   simp only
   rw [len_nat, lssF, br_false, List.take_length, nagfile_notifies_eq c.2 ho, bd_some, ck_t (ap _ _ (by simp; omega))]
   show rt (Loop (nagfile_blocks_B1 std c) (c.Hours.map periodD ++ c.Receivers.map contactD ++ [notifyD c.Route], 0)) = _
   rw [e1]
   rfl) ()
  rw [runL_end] at this
  simp only [List.take_zero, List.map_nil, List.append_nil] at this
  exact this
 unfold nagfile_blocks
 have := Loop_each (B := nagfile_blocks_B3 std c) (fun i (_ : Unit) => ((c.Hours.take i).map periodD, (i : Int))) c.Hours (fun _ _ (_ : Unit) => (.inl () : Unit ⊕ List Def)) (fun _ => blocksS c) (fun i h u hx hi => by
  obtain ⟨e, he⟩ := hoursT_eq h (h2 h (mem_at hx))
  unfold nagfile_blocks_B3 nagfile_timeperiod
  simp only
  rw [len_nat, lssT hi, br_true, ck_t (inbT hi), get_nat (t := TyS.hours) hx, he, bd_some, bd_some, ck_t (ap _ _ (by simp; omega)), s_add, wrap_succ hi (by unfold big63; omega), take_snoc hx, List.map_append]
  rfl) (fun _ => by
  unfold nagfile_blocks_B3
  simp only
  rw [len_nat, lssF, br_false, List.take_length, e2]
  rfl) ()
 rw [runL_end] at this
 exact this
end Go.PL
namespace Go.PL
set_option linter.unusedSimpArgs false
set_option linter.unusedVariables false
set_option linter.unusedSectionVars false
open Tys (Ty U)
open Enc (sz enc dflt tb ofB toB)
open Dec (dec dok)
set_option maxRecDepth 100000
theorem dec_dig : ∀ u : Nat, ∀ c ∈ Lib.decDigits u, 48 ≤ c.toNat ∧ c.toNat ≤ 57 := by
 intro u
 induction u using Nat.strongRecOn with
 | ind u ih =>
  have hd : ∀ k : Nat, k < 10 → 48 ≤ (UInt8.ofNat (48 + k)).toNat ∧ (UInt8.ofNat (48 + k)).toNat ≤ 57 := by decide
  rw [Lib.decDigits]
  split
  ·rename_i h
   intro c hc
   rw [List.mem_singleton.1 hc]; exact hd u h
  ·rename_i h
   intro c hc
   rcases List.mem_append.1 hc with hc | hc
   ·exact ih (u / 10) (by omega) c hc
   ·rw [List.mem_singleton.1 hc]; exact hd (u % 10) (by omega)
end Go.PL
namespace Go.PL
set_option linter.unusedSimpArgs false
set_option linter.unusedVariables false
set_option linter.unusedSectionVars false
open Tys (Ty U)
open Enc (sz enc dflt tb ofB toB)
open Dec (dec dok)
set_option maxRecDepth 100000
end Go.PL
namespace Go.PL
set_option linter.unusedSimpArgs false
set_option linter.unusedVariables false
set_option linter.unusedSectionVars false
open Tys (Ty U)
open Enc (sz enc dflt tb ofB toB)
open Dec (dec dok)
set_option maxRecDepth 100000
end Go.PL
namespace Go.PL
set_option linter.unusedSimpArgs false
set_option linter.unusedVariables false
set_option linter.unusedSectionVars false
open Tys (Ty U)
open Enc (sz enc dflt tb ofB toB)
open Dec (dec dok)
set_option maxRecDepth 100000
theorem norm_rules_mem {c : Config} {x : Rule} (h : x ∈ (normS c).Rules) : x ∈ c.Rules := (sortI_perm _ _).mem_iff.1 h
theorem norm_rules_len (c : Config) : (normS c).Rules.length = c.Rules.length := sortI_len _ _
noncomputable def exportN (c : Config) : ByteArray × Int := cond (configS c) (cond (holdsN c) (printD (blocksS (normS c))) (ByteArray.mk (Array.mk []), 11)) (ByteArray.mk (Array.mk []), 1)
structure NormOK (c : Config) : Prop where
 rules : c.Rules.length ≤ 16 ∧ ∀ r ∈ c.Rules, ruleS r = true
 recv : c.Receivers.length ≤ 16 ∧ ∀ s ∈ c.Receivers, wordS s = true
 hours : c.Hours.length ≤ 8 ∧ ∀ x ∈ c.Hours, hourS x = true
 route : oneS c.Route = true
theorem norm_ok {c : Config} (h : configS c = true) : NormOK (normS c) := by
 have ok := configS_ok h
 have ht := ok.top
 simp only [topS, routeS, Bool.and_eq_true, decide_eq_true_eq] at ht
 refine ⟨⟨by rw [norm_rules_len]; exact ok.rules.1, fun r hr => ok.rules.2.1 r (norm_rules_mem hr)⟩, ⟨by rw [norm_recv_len]; exact ok.recv.1, fun s hs => ok.recv.2.1 s ((sortI_perm _ _).mem_iff.1 hs)⟩, ⟨by rw [norm_hours_len]; exact ok.hours.1, fun x hx => ok.hours.2.1 x (norm_hours_mem hx)⟩, ht.1.1.1.1⟩
theorem def_fits (c : Config) (ok : NormOK c) : (blocksS c).length ≤ big63 ∧ ∀ d ∈ blocksS c, defFit d := by
 refine ⟨?_, fun d hd => ?_⟩
 ·unfold blocksS
  simp only [List.length_append, List.length_map, List.length_singleton]
  have := ok.rules.1
  have := ok.recv.1
  have := ok.hours.1
  unfold big63; omega
 ·have lk : ∀ (d : Def) (name : ByteArray) (l : List ByteArray), d.Keys.length ≤ 10 → d.Values.length ≤ 10 → l.length ≤ 100 → defFit (listedD d name l) := fun d name l h1 h2 h3 => by
   have := keysN_len name l.length
   refine ⟨?_, ?_⟩
   ·show (d.Keys ++ keysN name l.length).length ≤ big63
    rw [List.length_append, this]; unfold big63; omega
   ·show (d.Values ++ l).length ≤ big63
    rw [List.length_append]; unfold big63; omega
  have ho := ok.route
  simp only [oneS, orderS, Bool.and_eq_true, decide_eq_true_eq] at ho
  unfold blocksS at hd
  rcases List.mem_append.1 hd with hd | hd
  ·rcases List.mem_append.1 hd with hd | hd
   ·rcases List.mem_append.1 hd with hd | hd
    ·obtain ⟨x, hx, rfl⟩ := List.mem_map.1 hd
     exact ⟨by show 2 ≤ big63; unfold big63; omega, by show 2 ≤ big63; unfold big63; omega⟩
    ·obtain ⟨x, hx, rfl⟩ := List.mem_map.1 hd
     exact ⟨by show 1 ≤ big63; unfold big63; omega, by show 1 ≤ big63; unfold big63; omega⟩
   ·rw [List.mem_singleton.1 hd]
    exact lk _ _ _ (by show (4 : Nat) ≤ 10; omega) (by show (4 : Nat) ≤ 10; omega) (by have := ho.1.1.1.2.2; omega)
  ·obtain ⟨x, hx, rfl⟩ := List.mem_map.1 hd
   have := ok.rules.2 x hx
   simp only [ruleS, Bool.and_eq_true, decide_eq_true_eq] at this
   exact lk _ _ _ (by show (5 : Nat) ≤ 10; omega) (by show (5 : Nat) ≤ 10; omega) (by rw [List.length_map]; have := this.1.1.2; omega)
theorem nagfile_Export_eq (c : Config) (h : configFit c) : nagfile_Export std c = some (exportN c) := by
 unfold nagfile_Export exportN
 rw [config_Normal_eq c h]
 cases hp : configS c with
 | false => rfl
 | true =>
  simp only [cond_true, bd_some]
  rw [show std.cmp .neq 0 0 = false from rfl, br_false, nagfile_Holds_eq c h, bd_some]
  cases hh : holdsN c with
  | false => rfl
  | true =>
   have ok := norm_ok hp
   obtain ⟨f1, f2⟩ := def_fits _ ok
   rw [s_not, Bool.not_true, br_false, nagfile_blocks_eq _ (norm_fit h).1 ok.route ok.recv.1 ok.hours ok.rules, bd_some, block_Print_eq _ f1 f2, bd_some]
   rfl
end Go.PL
namespace Go.PL
set_option linter.unusedSimpArgs false
set_option linter.unusedVariables false
set_option linter.unusedSectionVars false
open Tys (Ty U)
open Enc (sz enc dflt tb ofB toB)
open Dec (dec dok)
set_option maxRecDepth 100000
def dvL (l : List UInt8) : Nat := l.foldl (fun n c => 10 * n + (c.toNat - 48)) 0
theorem dv_dec : ∀ u : Nat, dvL (Lib.decDigits u) = u := by
 intro u
 induction u using Nat.strongRecOn with
 | ind u ih =>
  have hd : ∀ k : Nat, k < 10 → (UInt8.ofNat (48 + k)).toNat - 48 = k := by decide
  rw [Lib.decDigits]
  split
  ·rename_i h
   show 10 * 0 + ((UInt8.ofNat (48 + u)).toNat - 48) = u
   rw [hd u h]; omega
  ·rename_i h
   have := ih (u / 10) (by omega)
   unfold dvL at this ⊢
   rw [List.foldl_append, this]
   show 10 * (u / 10) + ((UInt8.ofNat (48 + u % 10)).toNat - 48) = u
   rw [hd (u % 10) (by omega)]; omega
theorem dec_inj {a b : Nat} (h : Lib.decDigits a = Lib.decDigits b) : a = b := by
 rw [← dv_dec a, ← dv_dec b, h]
theorem itoa_inj {a b : Int} (h : Lib.itoa a = Lib.itoa b) : a = b := by
 have no : ∀ (u : Nat) (l : List UInt8), (45 : UInt8) :: l = Lib.decDigits u → False := fun u l e => by
  have := dec_dig u 45 (by rw [← e]; exact List.mem_cons_self ..)
  have h45 : (45 : UInt8).toNat = 45 := rfl
  omega
 unfold Lib.itoa at h
 split at h
 ·split at h
  ·have := dec_inj (List.cons.inj h).2
   omega
  ·exact (no _ _ h).elim
 ·split at h
  ·exact (no _ _ h.symm).elim
  ·have := dec_inj h
   omega
theorem itoaS_inj {a b : Int} (h : itoaS a = itoaS b) : a = b := by
 apply itoa_inj
 have := congrArg bytes h
 unfold itoaS at this
 rwa [bytes_mk, bytes_mk] at this
theorem flat_inj4 (f : ByteArray → List UInt8) (k : Nat) (hf : ∀ a b, f a = f b → a = b) : ∀ l m : List ByteArray, (∀ x ∈ l, (f x).length = k + 1) → (∀ x ∈ m, (f x).length = k + 1) → (l.map f).flatten = (m.map f).flatten → l = m
 | [], [], _, _, _ => rfl
 | [], b :: m, _, hm, h => by
  have := congrArg List.length h
  have h1 := hm b (List.mem_cons_self ..)
  simp only [List.map_cons, List.flatten_cons, List.length_append, List.map_nil, List.flatten_nil, List.length_nil] at this; omega
 | a :: l, [], hl, _, h => by
  have := congrArg List.length h
  have h1 := hl a (List.mem_cons_self ..)
  simp only [List.map_cons, List.flatten_cons, List.length_append, List.map_nil, List.flatten_nil, List.length_nil] at this; omega
 | a :: l, b :: m, hl, hm, h => by
  simp only [List.map_cons, List.flatten_cons] at h
  have h1 := hl a (List.mem_cons_self ..)
  have h2 := hm b (List.mem_cons_self ..)
  obtain ⟨h3, h4⟩ := List.append_inj h (by omega)
  rw [hf a b h3, flat_inj4 f k hf l m (fun x hx => hl x (List.mem_cons_of_mem _ hx)) (fun x hx => hm x (List.mem_cons_of_mem _ hx)) h4]
theorem com_inj : ∀ l m : List ByteArray, (∀ x ∈ l, x.size = 3) → (∀ x ∈ m, x.size = 3) → comL l = comL m → l = m
 | [], [], _, _, _ => rfl
 | [], b :: m, _, hm, h => by
  have := congrArg List.length h
  have h1 := hm b (List.mem_cons_self ..)
  simp only [comL, List.length_nil, List.length_append, len_bytes] at this; omega
 | a :: l, [], hl, _, h => by
  have := congrArg List.length h
  have h1 := hl a (List.mem_cons_self ..)
  simp only [comL, List.length_nil, List.length_append, len_bytes] at this; omega
 | a :: l, b :: m, hl, hm, h => by
  have h1 := hl a (List.mem_cons_self ..)
  have h2 := hm b (List.mem_cons_self ..)
  obtain ⟨h3, h4⟩ := List.append_inj h (by rw [len_bytes, len_bytes]; omega)
  rw [ba_ext h3, flat_inj4 (fun x : ByteArray => 44 :: bytes x) 3 (fun x y e => ba_ext (List.cons.inj e).2) l m (fun x hx => by
   rw [List.length_cons, len_bytes, hl x (List.mem_cons_of_mem _ hx)]) (fun x hx => by
   rw [List.length_cons, len_bytes, hm x (List.mem_cons_of_mem _ hx)]) h4]
theorem day_inj {i j : Nat} (hi : i < 7) (hj : j < 7) (h : dayT i = dayT j) : i = j := by
 have key : ((List.range 7).all fun i => (List.range 7).all fun j => decide (i = j) || !(bytes (dayT i) == bytes (dayT j))) = true := by kernel_rfl
 rw [List.all_eq_true] at key
 have h1 := key i (List.mem_range.2 hi)
 rw [List.all_eq_true] at h1
 have h2 := h1 j (List.mem_range.2 hj)
 rw [h] at h2
 simpa using h2
theorem days_mem (d : Int) (i : Nat) (hi : i < 7) : ∀ k, k ≤ 7 → (dayT i ∈ daysL d k ↔ i < k ∧ bitB d i = true)
 | 0, _ => by simp [daysL]
 | k + 1, hk => by
  have ih := days_mem d i hi k (by omega)
  rw [daysL, List.mem_append, ih]
  constructor
  ·rintro (⟨h1, h2⟩ | h)
   ·exact ⟨by omega, h2⟩
   ·split at h
    ·rename_i hb
     have := day_inj hi (by omega) (List.mem_singleton.1 h)
     subst this
     exact ⟨by omega, hb⟩
    ·cases h
  ·rintro ⟨h1, h2⟩
   by_cases he : i = k
   ·subst he; right; rw [if_pos h2]; exact List.mem_singleton.2 rfl
   ·left; exact ⟨by omega, h2⟩
theorem bits_inj (d e : Nat) (hd : d ≤ 127) (he : e ≤ 127) (h : daysL (d : Int) 7 = daysL (e : Int) 7) : d = e := by
 have hb : ∀ i, i < 7 → d / 2 ^ i % 2 = e / 2 ^ i % 2 := fun i hi => by
  have h1 := days_mem (d : Int) i hi 7 (by omega)
  have h2 := days_mem (e : Int) i hi 7 (by omega)
  rw [h, h2] at h1
  have h3 : bitB (d : Int) i = bitB (e : Int) i := by
   rw [Bool.eq_iff_iff]
   constructor
   ·intro hx; exact (h1.2 ⟨hi, hx⟩).2
   ·intro hx; exact (h1.1 ⟨hi, hx⟩).2
  rw [bit_eq d i hd hi, bit_eq e i he hi] at h3
  have h4 : (d / 2 ^ i % 2 = 1) ↔ (e / 2 ^ i % 2 = 1) := by simpa using h3
  omega
 have b0 := hb 0 (by omega)
 have b1 := hb 1 (by omega)
 have b2 := hb 2 (by omega)
 have b3 := hb 3 (by omega)
 have b4 := hb 4 (by omega)
 have b5 := hb 5 (by omega)
 have b6 := hb 6 (by omega)
 simp only [Nat.reducePow] at b0 b1 b2 b3 b4 b5 b6
 omega
theorem two_val (n : Nat) (h : n ≤ 99) : ∃ t, hours_two std (n : Int) = some t ∧ bytes t = [UInt8.ofNat (48 + n / 10), UInt8.ofNat (48 + n % 10)] := by
 have q : std.ar .add .i64 48 (std.ar .quo .i64 (n : Int) 10) = ((48 + n / 10 : Nat) : Int) := by
  rw [s_quo, tdiv0 (by omega), w64 (by omega), s_add, w64 (by omega)]; omega
 have r : std.ar .add .i64 48 (std.ar .rem .i64 (n : Int) 10) = ((48 + n % 10 : Nat) : Int) := by
  rw [s_rem, tmod0 (by omega), s_add, w64 (by omega)]; omega
 obtain ⟨a1, a2⟩ := u8_at (n := 48 + n / 10) (by omega)
 obtain ⟨b1, b2⟩ := u8_at (n := 48 + n % 10) (by omega)
 unfold hours_two
 rw [q, r, ck_t a1, ck_t b1, a2, b2, b2s_eq]
 exact ⟨_, rfl, bytes_mk _⟩
theorem clk_inj {a b : Int} (a0 : 0 ≤ a) (a1 : a ≤ 1440) (b0 : 0 ≤ b) (b1 : b ≤ 1440) (h : bytes (clk a) = bytes (clk b)) : a = b := by
 have val : ∀ n : Int, 0 ≤ n → n ≤ 1440 → bytes (clk n) = [UInt8.ofNat (48 + (n / 60).toNat / 10), UInt8.ofNat (48 + (n / 60).toNat % 10), 58, UInt8.ofNat (48 + (n % 60).toNat / 10), UInt8.ofNat (48 + (n % 60).toNat % 10)] := fun n h0 h1 => by
  have e := (clk_eq n h0 h1).1
  unfold hours_clock at e
  have q1 : std.ar .quo .i64 n 60 = ((n / 60).toNat : Int) := by rw [s_quo, tdiv0 h0, w64 (by omega)]; omega
  have q2 : std.ar .rem .i64 n 60 = ((n % 60).toNat : Int) := by rw [s_rem, tmod0 h0]; omega
  obtain ⟨x, hx, px⟩ := two_val (n / 60).toNat (by omega)
  obtain ⟨y, hy, py⟩ := two_val (n % 60).toNat (by omega)
  rw [q1, q2, hx, bd_some, hy, bd_some] at e
  obtain ⟨_, e⟩ := ck_e e
  obtain ⟨_, e⟩ := ck_e e
  rw [← Option.some.inj e, s_cat, s_cat, bytes_app, bytes_app, px, py]
  rfl
 rw [val a a0 a1, val b b0 b1] at h
 have hn : ∀ j k : Nat, j < 30 → k < 30 → UInt8.ofNat (48 + j) = UInt8.ofNat (48 + k) → j = k := fun j k hj hk e => by
  have := congrArg UInt8.toNat e
  rw [UInt8.toNat_ofNat', UInt8.toNat_ofNat'] at this
  omega
 simp only [List.cons.injEq, and_true, true_and] at h
 obtain ⟨g1, g2, g3, g4⟩ := h
 have k1 := hn _ _ (by omega) (by omega) g1
 have k2 := hn _ _ (by omega) (by omega) g2
 have k3 := hn _ _ (by omega) (by omega) g3
 have k4 := hn _ _ (by omega) (by omega) g4
 omega
theorem hours_inj {x y : Hours} (hx : hourS x = true) (hy : hourS y = true) (hn : x.Name = y.Name) (h : hoursT x = hoursT y) : x = y := by
 rw [hoursT_val x hx, hoursT_val y hy] at h
 simp only [hourS, Bool.and_eq_true, decide_eq_true_eq] at hx hy
 obtain ⟨⟨⟨⟨⟨⟨_, d1⟩, d2⟩, f0⟩, f1⟩, f2⟩, t1⟩ := hx
 obtain ⟨⟨⟨⟨⟨⟨_, d1'⟩, d2'⟩, f0'⟩, f1'⟩, f2'⟩, t1'⟩ := hy
 have hb := congrArg bytes h
 unfold hoursV at hb
 simp only [bytes_app, bytes_mk, List.append_assoc] at hb
 have no32 : ∀ d : Int, ∀ c ∈ comL (daysL d 7), (fun c : UInt8 => decide (c ≠ 32)) c = true := fun d c hc => by
  obtain ⟨_, hz⟩ := days_ok d 7 (by omega)
  have hday : ∀ i, i ≤ 7 → ∀ x ∈ daysL d i, ∀ c ∈ bytes x, c ≠ 32 := by
   intro i
   induction i with
   | zero => intro _ x hx; cases hx
   | succ i ih =>
    intro hi x hx
    rw [daysL] at hx
    rcases List.mem_append.1 hx with hx | hx
    ·exact ih (by omega) x hx
    ·split at hx
     ·rw [List.mem_singleton.1 hx]
      have : ((List.range 7).all fun j => (bytes (dayT j)).all fun c => !(c == 32)) = true := by kernel_rfl
      rw [List.all_eq_true] at this
      have := this i (List.mem_range.2 (by omega))
      rw [List.all_eq_true] at this
      intro c hc
      simpa using this c hc
     ·cases hx
  have hb := hday 7 (by omega)
  revert hc
  generalize daysL d 7 = ws at hb
  intro hc
  cases ws with
  | nil => cases hc
  | cons w r =>
   rw [decide_eq_true_eq]
   rcases List.mem_append.1 hc with hc | hc
   ·exact hb w (List.mem_cons_self ..) c hc
   ·rw [List.mem_flatten] at hc
    obtain ⟨l, hl, hc⟩ := hc
    obtain ⟨z, hz, rfl⟩ := List.mem_map.1 hl
    rcases List.mem_cons.1 hc with rfl | hc
    ·decide
    ·exact hb z (List.mem_cons_of_mem _ hz) c hc
 obtain ⟨h1, h2⟩ := span_inj (p := fun c : UInt8 => decide (c ≠ 32)) _ _ _ _ (no32 x.Days) (no32 y.Days) (fun c hc => by
  have : c = 32 := by simpa using hc.symm
  rw [this]; rfl) (fun c hc => by
  have : c = 32 := by simpa using hc.symm
  rw [this]; rfl) hb
 have h3 := (List.append_inj h2 rfl).2
 have la := (clk_eq x.From f0 (by omega)).2
 have lb := (clk_eq y.From f0' (by omega)).2
 obtain ⟨h4, h5⟩ := List.append_inj h3 (by rw [len_bytes, len_bytes, la, lb])
 have h6 := (List.append_inj h5 rfl).2
 have e1 := clk_inj f0 (by omega) f0' (by omega) h4
 have e2 := clk_inj (by omega) t1 (by omega) t1' h6
 have e3 := com_inj _ _ (days_ok x.Days 7 (by omega)).2 (days_ok y.Days 7 (by omega)).2 h1
 obtain ⟨d, hd⟩ : ∃ d : Nat, x.Days = (d : Int) := ⟨x.Days.toNat, by omega⟩
 obtain ⟨e, he⟩ : ∃ e : Nat, y.Days = (e : Int) := ⟨y.Days.toNat, by omega⟩
 rw [hd, he] at e3
 have := bits_inj d e (by omega) (by omega) e3
 cases x; cases y
 simp only at hn hd he e1 e2
 subst hn; subst hd; subst he; subst e1; subst e2; subst this
 rfl
end Go.PL
namespace Go.PL
set_option linter.unusedSimpArgs false
set_option linter.unusedVariables false
set_option linter.unusedSectionVars false
open Tys (Ty U)
open Enc (sz enc dflt tb ofB toB)
open Dec (dec dok)
set_option maxRecDepth 100000
theorem word_ne {s : ByteArray} (h : wordS s = true) (n : UInt8) (hn : wordC n = false) : ∀ c ∈ bytes s, (fun c : UInt8 => decide (c ≠ n)) c = true := fun c hc => by
 simp only [wordS, Bool.and_eq_true, List.all_eq_true] at h
 rw [decide_eq_true_eq]
 rintro rfl
 rw [h.1.1 c hc] at hn; cases hn
theorem dval_ne {s : ByteArray} (h : dvalueS s = true) (n : UInt8) (hn : semiC n = false) : ∀ c ∈ bytes s, (fun c : UInt8 => decide (c ≠ n)) c = true := fun c hc => by
 simp only [dvalueS, Bool.and_eq_true, List.all_eq_true] at h
 rw [decide_eq_true_eq]
 rintro rfl
 rw [h.2 c hc] at hn; cases hn
theorem head_ne (n : UInt8) (l : List UInt8) : ∀ c, (n :: l).head? = some c → (fun c : UInt8 => decide (c ≠ n)) c = false := fun c hc => by
 have : c = n := by simpa using hc.symm
 subst this; simp
theorem keysL_inj : ∀ (ks vs ks' vs' : List ByteArray) (R R' : List UInt8), vs.length = ks.length → vs'.length = ks'.length → (∀ k ∈ ks, wordS k = true) → (∀ k ∈ ks', wordS k = true) → (∀ v ∈ vs, dvalueS v = true) → (∀ v ∈ vs', dvalueS v = true) → keysL ks vs ++ 125 :: R = keysL ks' vs' ++ 125 :: R' → ks = ks' ∧ vs = vs' ∧ R = R'
 | [], [], [], [], R, R', _, _, _, _, _, _, h => ⟨rfl, rfl, (List.cons.inj h).2⟩
 | [], [], k :: ks, v :: vs, R, R', _, _, _, _, _, _, h => absurd (List.cons.inj h).1 (by decide)
 | k :: ks, v :: vs, [], [], R, R', _, _, _, _, _, _, h => absurd (List.cons.inj h).1 (by decide)
 | k :: ks, v :: vs, k' :: ks', v' :: vs', R, R', hl, hl', hk, hk', hv, hv', h => by
  simp only [keysL, keyL, List.append_assoc] at h
  have h1 := (List.append_inj h rfl).2
  obtain ⟨h2, h3⟩ := span_inj (p := fun c : UInt8 => decide (c ≠ 9)) _ _ _ _ (word_ne (hk k (List.mem_cons_self ..)) 9 (by decide)) (word_ne (hk' k' (List.mem_cons_self ..)) 9 (by decide)) (head_ne 9 _) (head_ne 9 _) h1
  have h4 := (List.cons.inj h3).2
  obtain ⟨h5, h6⟩ := span_inj (p := fun c : UInt8 => decide (c ≠ 10)) _ _ _ _ (dval_ne (hv v (List.mem_cons_self ..)) 10 (by decide)) (dval_ne (hv' v' (List.mem_cons_self ..)) 10 (by decide)) (head_ne 10 _) (head_ne 10 _) h4
  have h7 := (List.cons.inj h6).2
  obtain ⟨h8, h9, h10⟩ := keysL_inj ks vs ks' vs' R R' (by simpa using hl) (by simpa using hl') (fun x hx => hk x (List.mem_cons_of_mem _ hx)) (fun x hx => hk' x (List.mem_cons_of_mem _ hx)) (fun x hx => hv x (List.mem_cons_of_mem _ hx)) (fun x hx => hv' x (List.mem_cons_of_mem _ hx)) h7
  exact ⟨by rw [ba_ext h2, h8], by rw [ba_ext h5, h9], h10⟩
 | [], v :: vs, _, _, _, _, hl, _, _, _, _, _, _ => by simp at hl
 | k :: ks, [], _, _, _, _, hl, _, _, _, _, _, _ => by simp at hl
 | _, _, [], v :: vs, _, _, _, hl, _, _, _, _, _ => by simp at hl
 | _, _, k :: ks, [], _, _, _, hl, _, _, _, _, _ => by simp at hl
theorem mayD_parts {d : Def} (h : mayD d = true) : wordS d.Typ = true ∧ d.Values.length = d.Keys.length ∧ (∀ k ∈ d.Keys, wordS k = true) ∧ ∀ v ∈ d.Values, dvalueS v = true := by
 simp only [mayD, Bool.and_eq_true, decide_eq_true_eq, List.all_eq_true] at h
 refine ⟨h.2.1.1.1, h.2.1.2.symm, fun k hk => ?_, h.2.2⟩
 obtain ⟨j, hj⟩ := allI_mem h.1 k hk
 simp only [keyP, Bool.and_eq_true] at hj
 exact hj.1
theorem defs_inj : ∀ l m : List Def, (∀ d ∈ l, mayD d = true) → (∀ d ∈ m, mayD d = true) → defsL l = defsL m → l = m
 | [], [], _, _, _ => rfl
 | [], d :: m, _, _, h => by
  simp only [defsL, List.map_nil, List.flatten_nil, List.map_cons, List.flatten_cons, defL] at h
  have := congrArg List.length h
  simp at this
 | d :: l, [], _, _, h => by
  simp only [defsL, List.map_nil, List.flatten_nil, List.map_cons, List.flatten_cons, defL] at h
  have := congrArg List.length h
  simp at this
 | d :: l, e :: m, hl, hm, h => by
  obtain ⟨d1, d2, d3, d4⟩ := mayD_parts (hl d (List.mem_cons_self ..))
  obtain ⟨e1, e2, e3, e4⟩ := mayD_parts (hm e (List.mem_cons_self ..))
  simp only [defsL, List.map_cons, List.flatten_cons, defL, List.append_assoc] at h
  have h1 := (List.append_inj h rfl).2
  obtain ⟨h2, h3⟩ := span_inj (p := fun c : UInt8 => decide (c ≠ 32)) _ _ _ _ (word_ne d1 32 (by decide)) (word_ne e1 32 (by decide)) (head_ne 32 _) (head_ne 32 _) h1
  have h5 := (List.cons.inj (List.cons.inj (List.cons.inj h3).2).2).2
  obtain ⟨h6, h7, h8⟩ := keysL_inj _ _ _ _ (10 :: (l.map defL).flatten) (10 :: (m.map defL).flatten) d2 e2 d3 e3 d4 e4 h5
  have h9 := defs_inj l m (fun x hx => hl x (List.mem_cons_of_mem _ hx)) (fun x hx => hm x (List.mem_cons_of_mem _ hx)) (List.cons.inj h8).2
  have h10 : d = e := by
   cases d; cases e
   simp only at h2 h6 h7
   rw [ba_ext h2, h6, h7]
  rw [h10, h9]
theorem filter_yes {α β : Type} (g : α → β) (p : β → Bool) : ∀ l : List α, (∀ x, p (g x) = true) → (l.map g).filter p = l.map g
 | [], _ => rfl
 | x :: l, h => by rw [List.map_cons, List.filter_cons, if_pos (h x), filter_yes g p l h]
theorem filter_no {α β : Type} (g : α → β) (p : β → Bool) : ∀ l : List α, (∀ x, p (g x) = false) → (l.map g).filter p = []
 | [], _ => rfl
 | x :: l, h => by rw [List.map_cons, List.filter_cons, if_neg (by rw [h x]; simp), filter_no g p l h]
def typP (t : List UInt8) (d : Def) : Bool := bytes d.Typ == t
theorem blocks_parts {x y : Config} (h : blocksS x = blocksS y) : x.Hours.map periodD = y.Hours.map periodD ∧ x.Receivers.map contactD = y.Receivers.map contactD ∧ notifyD x.Route = notifyD y.Route ∧ x.Rules.map serviceD = y.Rules.map serviceD := by
 have sg : ∀ (d : Def) (p : Def → Bool), [d].filter p = if p d = true then [d] else [] := fun d p => by simp [List.filter_cons]
 refine ⟨?_, ?_, ?_, ?_⟩
 ·have nf : ∀ r : Route, (if typP [116, 105, 109, 101, 112, 101, 114, 105, 111, 100] (notifyD r) = true then [notifyD r] else []) = [] := fun r => rfl
  have := congrArg (List.filter (typP [116, 105, 109, 101, 112, 101, 114, 105, 111, 100])) h
  unfold blocksS at this
  simp only [List.filter_append, sg] at this
  rw [filter_yes periodD _ _ (fun _ => rfl), filter_yes periodD _ _ (fun _ => rfl), filter_no contactD _ _ (fun _ => rfl), filter_no contactD _ _ (fun _ => rfl), filter_no serviceD _ _ (fun _ => rfl), filter_no serviceD _ _ (fun _ => rfl), nf x.Route, nf y.Route] at this
  simpa using this
 ·have nf : ∀ r : Route, (if typP [99, 111, 110, 116, 97, 99, 116] (notifyD r) = true then [notifyD r] else []) = [] := fun r => rfl
  have := congrArg (List.filter (typP [99, 111, 110, 116, 97, 99, 116])) h
  unfold blocksS at this
  simp only [List.filter_append, sg] at this
  rw [filter_no periodD _ _ (fun _ => rfl), filter_no periodD _ _ (fun _ => rfl), filter_yes contactD _ _ (fun _ => rfl), filter_yes contactD _ _ (fun _ => rfl), filter_no serviceD _ _ (fun _ => rfl), filter_no serviceD _ _ (fun _ => rfl), nf x.Route, nf y.Route] at this
  simpa using this
 ·have nf : ∀ r : Route, (if typP [110, 111, 116, 105, 102, 121] (notifyD r) = true then [notifyD r] else []) = [notifyD r] := fun r => rfl
  have := congrArg (List.filter (typP [110, 111, 116, 105, 102, 121])) h
  unfold blocksS at this
  simp only [List.filter_append, sg] at this
  rw [filter_no periodD _ _ (fun _ => rfl), filter_no periodD _ _ (fun _ => rfl), filter_no contactD _ _ (fun _ => rfl), filter_no contactD _ _ (fun _ => rfl), filter_no serviceD _ _ (fun _ => rfl), filter_no serviceD _ _ (fun _ => rfl), nf x.Route, nf y.Route] at this
  simpa using this
 ·have nf : ∀ r : Route, (if typP [115, 101, 114, 118, 105, 99, 101] (notifyD r) = true then [notifyD r] else []) = [] := fun r => rfl
  have := congrArg (List.filter (typP [115, 101, 114, 118, 105, 99, 101])) h
  unfold blocksS at this
  simp only [List.filter_append, sg] at this
  rw [filter_no periodD _ _ (fun _ => rfl), filter_no periodD _ _ (fun _ => rfl), filter_no contactD _ _ (fun _ => rfl), filter_no contactD _ _ (fun _ => rfl), filter_yes serviceD _ _ (fun _ => rfl), filter_yes serviceD _ _ (fun _ => rfl), nf x.Route, nf y.Route] at this
  simpa using this
theorem labelV_inj {x y : Label} (hx : labelS x = true) (hy : labelS y = true) (h : labelV x = labelV y) : x = y := by
 simp only [labelS, nameS, Bool.and_eq_true] at hx hy
 have no : ∀ (s : ByteArray), allI nameP 0 (bytes s) = true → ∀ c ∈ bytes s, (fun c : UInt8 => decide (c ≠ 61)) c = true := fun s hs c hc => by
  obtain ⟨j, hj⟩ := allI_mem hs c hc
  rw [decide_eq_true_eq]
  rintro rfl
  simp [nameP, letC, lowC, upC, digC, barC, inC] at hj
 have hb := congrArg bytes h
 unfold labelV at hb
 rw [bytes_app, bytes_app, bytes_app, bytes_app, List.append_assoc, List.append_assoc] at hb
 obtain ⟨h1, h2⟩ := span_inj (p := fun c : UInt8 => decide (c ≠ 61)) _ _ _ _ (no _ hx.1.1.1) (no _ hy.1.1.1) (head_ne 61 _) (head_ne 61 _) hb
 have h3 := (List.cons.inj h2).2
 cases x; cases y
 simp only at h1 h3
 rw [ba_ext h1, ba_ext h3]
theorem sign_inj {a b : Int} (a1 : 1 ≤ a) (a5 : a ≤ 5) (b1 : 1 ≤ b) (b5 : b ≤ 5) (h : signW a = signW b) : a = b := by
 have ha : a = 1 ∨ a = 2 ∨ a = 3 ∨ a = 4 ∨ a = 5 := by omega
 have hb : b = 1 ∨ b = 2 ∨ b = 3 ∨ b = 4 ∨ b = 5 := by omega
 have h' := congrArg bytes h
 rcases ha with rfl | rfl | rfl | rfl | rfl <;> rcases hb with rfl | rfl | rfl | rfl | rfl <;> first | rfl | (exfalso; revert h'; decide)
structure SayR (r : Rule) : Prop where
 ok : ruleS r = true
 wait : r.For = 0
 keep : r.Keep = 0
theorem service_inj {r q : Rule} (hr : SayR r) (hq : SayR q) (h : serviceD r = serviceD q) : r = q := by
 have h1 := hr.ok
 have h2 := hq.ok
 simp only [ruleS, Bool.and_eq_true, decide_eq_true_eq] at h1 h2
 obtain ⟨⟨⟨⟨⟨⟨⟨⟨⟨⟨⟨⟨_, _⟩, a1⟩, a2⟩, _⟩, _⟩, _⟩, _⟩, _⟩, _⟩, _⟩, l1⟩, _⟩ := h1
 obtain ⟨⟨⟨⟨⟨⟨⟨⟨⟨⟨⟨⟨_, _⟩, b1⟩, b2⟩, _⟩, _⟩, _⟩, _⟩, _⟩, _⟩, _⟩, l2⟩, _⟩ := h2
 have hv : [r.Name, r.Metric, signW r.How, itoaS r.Limit, itoaS r.Tries] ++ r.Labels.map labelV = [q.Name, q.Metric, signW q.How, itoaS q.Limit, itoaS q.Tries] ++ q.Labels.map labelV := congrArg Def.Values h
 simp only [List.cons_append, List.nil_append, List.cons.injEq] at hv
 obtain ⟨e1, e2, e3, e4, e5, e6⟩ := hv
 have e7 := sign_inj a1 a2 b1 b2 e3
 have e8 := map_inj_on (P := fun x => labelS x = true) (fun x y hx hy => labelV_inj hx hy) _ _ (labelsS_mem l1) (labelsS_mem l2) e6
 have w1 := hr.wait
 have w2 := hq.wait
 have k1 := hr.keep
 have k2 := hq.keep
 have e9 := itoaS_inj e4
 have e10 := itoaS_inj e5
 cases r; cases q
 simp only at e1 e2 e7 e8 e9 e10 w1 w2 k1 k2
 subst e1; subst e2; subst e7; subst e8; subst e9; subst e10; subst w1; subst w2; subst k1; subst k2
 rfl
theorem said_nil {l : List WhyW} (h : saidW l = []) : ∀ w ∈ l, w.is = false := fun w hw => by
 cases hi : w.is with
 | false => rfl
 | true =>
  exfalso
  have : w.word ∈ saidW l := List.mem_map.2 ⟨w, List.mem_filter.2 ⟨hw, hi⟩, rfl⟩
  rw [h] at this; cases this
structure Says (c : Config) : Prop where
 ok : configS c = true
 routes : c.Route.Routes = []
 keys : c.Route.By = []
 inh : c.Inhibits = []
 wait : ∀ r ∈ c.Rules, r.For = 0
 keep : ∀ r ∈ c.Rules, r.Keep = 0
theorem gtr_nil {t : Ty} {xs : List (U t)} (h : std.cmp .gtr (std.len t xs) 0 = false) : xs = [] := by
 rw [s_gtr, decide_eq_false_iff_not, s_len] at h
 exact List.eq_nil_of_length_eq_zero (by omega)
theorem any_no {α : Type} {p : α → Bool} {l : List α} (h : l.any p = false) : ∀ x ∈ l, p x = false := fun x hx => by
 rw [List.any_eq_false] at h
 simpa using h x hx
theorem holds_says {c : Config} (h : holdsN c = true) : Says c := by
 simp only [holdsN, Bool.and_eq_true, decide_eq_true_eq] at h
 have h0 : saidW (six c _ _ _) = [] := List.eq_nil_of_length_eq_zero h.2
 have hm := said_nil h0
 have m := fun w hw => hm w (by unfold six; simp only [List.mem_cons]; exact hw)
 refine ⟨h.1, gtr_nil (m _ (.inl rfl)), gtr_nil (t := TyS.str) (m _ (.inr (.inl rfl))), gtr_nil (t := TyS.inhibit) (m _ (.inr (.inr (.inl rfl)))), fun r hr => ?_, fun r hr => ?_⟩
 ·have := any_no (m _ (.inr (.inr (.inr (.inl rfl))))) r hr
  simpa using this
 ·have := any_no (m _ (.inr (.inr (.inr (.inr (.inl rfl)))))) r hr
  simpa using this
theorem notify_inj {r q : Route} (a1 : r.Match = []) (a2 : r.By = []) (a3 : r.On = false) (a4 : r.Routes = []) (b1 : q.Match = []) (b2 : q.By = []) (b3 : q.On = false) (b4 : q.Routes = []) (h : notifyD r = notifyD q) : r = q := by
 have hv : [r.Receiver, itoaS r.Wait, itoaS r.Every, itoaS r.Repeat] ++ r.Mute = [q.Receiver, itoaS q.Wait, itoaS q.Every, itoaS q.Repeat] ++ q.Mute := congrArg Def.Values h
 simp only [List.cons_append, List.nil_append, List.cons.injEq] at hv
 obtain ⟨e1, e2, e3, e4, e5⟩ := hv
 have f2 := itoaS_inj e2
 have f3 := itoaS_inj e3
 have f4 := itoaS_inj e4
 cases r; cases q
 simp only at a1 a2 a3 a4 b1 b2 b3 b4 e1 f2 f3 f4 e5
 subst a1; subst a2; subst a3; subst a4; subst b1; subst b2; subst b3; subst b4; subst e1; subst f2; subst f3; subst f4; subst e5
 rfl
theorem norm_says {a b : Config} (ha : Says a) (hb : Says b) (h : blocksS (normS a) = blocksS (normS b)) : normS a = normS b := by
 obtain ⟨h1, h2, h3, h4⟩ := blocks_parts h
 have oa := norm_ok ha.ok
 have ob := norm_ok hb.ok
 have ta := (configS_ok ha.ok).top
 have tb := (configS_ok hb.ok).top
 simp only [topS, Bool.and_eq_true, decide_eq_true_eq] at ta tb
 have e1 : (normS a).Hours = (normS b).Hours := map_inj_on (P := fun x => hourS x = true) (fun x y hx hy e => by
  have hv : [x.Name, hoursT x] = [y.Name, hoursT y] := congrArg Def.Values e
  simp only [List.cons.injEq] at hv
  exact hours_inj hx hy hv.1 hv.2.1) _ _ oa.hours.2 ob.hours.2 h1
 have e2 : (normS a).Receivers = (normS b).Receivers := map_inj_on (P := fun _ => True) (fun x y _ _ e => by
  have hv : [x] = [y] := congrArg Def.Values e
  exact (List.cons.inj hv).1) _ _ (fun _ _ => trivial) (fun _ _ => trivial) h2
 have e3 : (normS a).Route = (normS b).Route := notify_inj (r := a.Route) (q := b.Route) (List.eq_nil_of_length_eq_zero ta.1.1.2) ha.keys (by simpa using ta.1.2) ha.routes (List.eq_nil_of_length_eq_zero tb.1.1.2) hb.keys (by simpa using tb.1.2) hb.routes h3
 have e4 : (normS a).Rules = (normS b).Rules := map_inj_on (P := SayR) (fun x y hx hy e => service_inj hx hy e) _ _ (fun x hx => ⟨oa.rules.2 x hx, ha.wait x (norm_rules_mem hx), ha.keep x (norm_rules_mem hx)⟩) (fun x hx => ⟨ob.rules.2 x hx, hb.wait x (norm_rules_mem hx), hb.keep x (norm_rules_mem hx)⟩) h4
 have e5 : (normS a).Inhibits = (normS b).Inhibits := by
  show compactK quietS (sortI (byName quietS) a.Inhibits) = compactK quietS (sortI (byName quietS) b.Inhibits)
  rw [ha.inh, hb.inh]
 generalize normS a = x at *
 generalize normS b = y at *
 cases x; cases y
 simp only at e1 e2 e3 e4 e5
 subst e1; subst e2; subst e3; subst e4; subst e5
 rfl
theorem export_zero {c : Config} (h : (exportN c).2 = 0) : holdsN c = true ∧ configS c = true ∧ rightD (blocksS (normS c)) = true ∧ (exportN c).1 = ⟨(defsL (blocksS (normS c))).toArray⟩ := by
 unfold exportN at h ⊢
 cases hp : configS c with
 | false => rw [hp] at h; cases h
 | true =>
  rw [hp, cond_true] at h
  cases hh : holdsN c with
  | false => rw [hh] at h; cases h
  | true =>
   rw [hh, cond_true] at h
   rw [cond_true, cond_true]
   unfold printD at h ⊢
   cases hr : rightD (blocksS (normS c)) with
   | false => rw [hr] at h; cases h
   | true =>
    rw [hr, cond_true] at h
    rw [cond_true]
    cases hl : decide ((defsL (blocksS (normS c))).length ≤ 8192) with
    | false => rw [hl] at h; cases h
    | true => exact ⟨rfl, rfl, rfl, rfl⟩
theorem right_may {l : List Def} (h : rightD l = true) : ∀ d ∈ l, mayD d = true := by
 unfold rightD at h
 rw [Bool.and_eq_true, List.all_eq_true] at h
 exact h.2
theorem NagApart_true (a b : Config) (ha : configFit a) (hb : configFit b) : transhipmentlaw13_NagApart std a b = some true := by
 unfold transhipmentlaw13_NagApart
 obtain ⟨w1, h1, s1⟩ := big13_some a ha
 obtain ⟨w2, h2, s2⟩ := big13_some b hb
 rw [h1, bd_some, h2, alive13_eq]
 cases w1 with
 | true => rfl
 | false =>
  rw [show std.not false = true from rfl, gd_t, bd_some]
  cases w2 with
  | true => rfl
  | false =>
   rw [show std.or false false = false from rfl, br_false, nagfile_Export_eq a ha, bd_some, nagfile_Export_eq b hb, bd_some]
   by_cases hz : (exportN a).2 = 0 ∧ (exportN b).2 = 0
   ·obtain ⟨za, zb⟩ := hz
    obtain ⟨a1, a2, a3, a4⟩ := export_zero za
    obtain ⟨b1, b2, b3, b4⟩ := export_zero zb
    rw [za, zb, show std.or (std.cmp .neq 0 0) (std.cmp .neq 0 0) = false from rfl, br_false, bd_some, gd_t, config_Same_eq a b ha hb, bd_some, a2, b2, Bool.true_and, Bool.true_and, normC_t a2, normC_t b2, a4, b4]
    have key : std.scmp .eql (ByteArray.mk (defsL (blocksS (normS a))).toArray) (ByteArray.mk (defsL (blocksS (normS b))).toArray) = eqB (normS a) (normS b) := by
     rw [s_seql, Bool.eq_iff_iff, decide_eq_true_eq, eqB_iff]
     constructor
     ·intro e
      have e' := congrArg bytes e
      rw [bytes_mk, bytes_mk] at e'
      exact norm_says (holds_says a1) (holds_says b1) (defs_inj _ _ (right_may a3) (right_may b3) e')
     ·intro e; rw [e]
    rw [key]
    cases eqB (normS a) (normS b) <;> rfl
   ·have : std.or (std.cmp .neq (exportN a).2 0) (std.cmp .neq (exportN b).2 0) = true := by
     rw [s_lor, s_neq, s_neq, Bool.or_eq_true, bne_iff_ne, bne_iff_ne]
     omega
    rw [this]
    rfl
end Go.PL
