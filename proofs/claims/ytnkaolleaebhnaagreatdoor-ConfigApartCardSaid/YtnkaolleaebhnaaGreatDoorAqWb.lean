/- Texts of this claim: plain laws of what the program's functions compute. No condition of their own. -/
import Derived.Test.YtnkaolleaebhnaaGreatDoorAqWa
namespace Go.PL
set_option linter.unusedSimpArgs false
set_option linter.unusedVariables false
set_option linter.unusedSectionVars false
open Tys (Ty U)
open Enc (sz enc dflt tb ofB toB)
open Dec (dec dok)
set_option maxRecDepth 100000
def numL (n : Nat) : List UInt8 := if h : n < 128 then [UInt8.ofNat n] else UInt8.ofNat (n % 128 + 128) :: numL (n / 128)
 termination_by n
 decreasing_by omega
def numS (n : Nat) : ByteArray := ⟨(numL n).toArray⟩
theorem A3v (l : List UInt8) : std.b2s l = ⟨l.toArray⟩ := by
 show (⟨(l.map Enc.toB).toArray⟩ : ByteArray) = _
 rw [show l.map Enc.toB = l from List.map_id _]
theorem u8_at {n : Nat} (h : n < 256) : std.u8ok (std.conv .u8 (n : Int)) ∧ std.u8 (std.conv .u8 (n : Int)) = UInt8.ofNat n := by
 have e : std.conv .u8 (n : Int) = (n : Int) := by rw [A29, w8 (by omega)]
 rw [e]
 exact ⟨⟨by omega, by omega⟩, by rw [s_u8, Int.toNat_natCast]⟩
theorem A6v (n : Nat) : std.ar .rem .i64 (n : Int) 128 = ((n % 128 : Nat) : Int) := by rw [s_rem, tmod0 (by omega)]; rfl
theorem A6w (n : Nat) (h : n ≤ big63) : std.ar .quo .i64 (n : Int) 128 = ((n / 128 : Nat) : Int) := by
 unfold big63 at h
 rw [s_quo, tdiv0 (by omega), w64 (by omega)]; rfl
theorem An5 : ∀ (n : Nat) (l : List UInt8), l.length + n ≤ 100000000000000 → Loop (Afa std) ((n : Int), l) = some (⟨(l ++ numL n).toArray⟩, 0)
 | n, l, h => by
  rw [Acn]
  unfold numL
  by_cases hn : n < 128
  ·rw [dif_pos hn]
   have hB : Afa std ((n : Int), l) = some (.inr (⟨(l ++ [UInt8.ofNat n]).toArray⟩, 0)) := by
    unfold Afa
    simp only
    obtain ⟨h1, h2⟩ := u8_at (n := n) (by omega)
    rw [show std.cmp .geq (n : Int) 128 = false by rw [s_geq]; exact decide_eq_false (by omega), br_false, ck_t h1, h2, ck_t (show std.appOk TyS.byte 1 l [UInt8.ofNat n] from ⟨by simp; omega, by simp; omega⟩)]
    rw [s_app, A3v]
    rfl
   rw [hB]
  ·rw [dif_neg hn]
   have hB : Afa std ((n : Int), l) = some (.inl (((n / 128 : Nat) : Int), l ++ [UInt8.ofNat (n % 128 + 128)])) := by
    unfold Afa
    simp only
    have e : std.ar .add .i64 (std.ar .rem .i64 (n : Int) 128) 128 = ((n % 128 + 128 : Nat) : Int) := by
     rw [A6v, s_add, w64 (by omega)]; rfl
    obtain ⟨h1, h2⟩ := u8_at (n := n % 128 + 128) (by omega)
    rw [show std.cmp .geq (n : Int) 128 = true by rw [s_geq]; exact decide_eq_true (by omega), Aag, e, ck_t h1, h2, ck_t (show std.appOk TyS.byte 1 l [UInt8.ofNat (n % 128 + 128)] from ⟨by simp; omega, by simp; omega⟩), A6w n (by unfold big63; omega)]
    rfl
   rw [hB]
   have := An5 (n / 128) (l ++ [UInt8.ofNat (n % 128 + 128)]) (by simp; omega)
   simp only
   rw [this, List.append_assoc]
   rfl
 termination_by n => n
 decreasing_by omega
theorem Ako (n : Nat) (h : n ≤ 10000000000000) : Agh std (n : Int) = some (numS n, 0) := by
 unfold Agh
 have e : std.or (std.cmp .lss (n : Int) 0) (std.cmp .geq (n : Int) 4611686018427387904) = false := by
  rw [s_lor, s_lss, s_geq, decide_eq_false (by omega), decide_eq_false (by omega)]; rfl
 rw [e, br_false, An5 n [] (by simp; omega)]
 rfl
end Go.PL
namespace Go.PL
set_option linter.unusedSimpArgs false
set_option linter.unusedVariables false
set_option linter.unusedSectionVars false
open Tys (Ty U)
open Enc (sz enc dflt tb ofB toB)
open Dec (dec dok)
set_option maxRecDepth 100000
def bindL (l : List ByteArray) : List UInt8 := (l.map fun p => numL p.size ++ bytes p).flatten
def bindS (l : List ByteArray) : ByteArray := ⟨(bindL l).toArray⟩
theorem mkb (s : ByteArray) : (⟨(bytes s).toArray⟩ : ByteArray) = s := by cases s; rfl
theorem Adh (l : List UInt8) : bytes ⟨l.toArray⟩ = l := by simp
theorem Ah5 (a b : ByteArray) : bytes (a ++ b) = bytes a ++ bytes b := by
 show (a ++ b).data.toList = _
 rw [ByteArray.data_append, Array.toList_append]
theorem As3 : ∀ n : Nat, n ≤ 100000000000 → (numL n).length ≤ 10 + n / 128
 | n, h => by
  unfold numL
  by_cases hn : n < 128
  ·rw [dif_pos hn, List.length_singleton]; omega
  ·rw [dif_neg hn]
   have := As3 (n / 128) (by omega)
   simp only [List.length_cons]
   omega
 termination_by n => n
 decreasing_by omega
theorem Aqm (l : List UInt8) : Ab0 std l = some l := by
 unfold Ab0 Ac4 Ac5 Anc
 simp only [bd_some]
 exact ck_t True.intro
theorem write_eq (l : List UInt8) (s : ByteArray) (h : l.length + s.size ≤ 100000000000000) : Abj std l s = some (l ++ bytes s) := by
 unfold Abj
 rw [Aqm, bd_some, Ax7, ck_t (show std.appOk TyS.byte 1 l (bytes s) from ⟨by rw [Aau]; omega, by rw [Aau]; omega⟩)]
 rfl
theorem Aye {l : List ByteArray} {i : Nat} {p : ByteArray} (h : l[i]? = some p) : bindL (l.take (i + 1)) = bindL (l.take i) ++ (numL p.size ++ bytes p) := by
 unfold bindL
 exact Ani (fun p : ByteArray => numL p.size ++ bytes p) h
theorem Aq8 : ∀ (l : List ByteArray) (m : Nat), m ≤ 100000000000 → (∀ p ∈ l, p.size ≤ m) → (bindL l).length ≤ l.length * (10 + 2 * m)
 | [], m, _, _ => by simp [bindL]
 | p :: l, m, hm, h => by
  have h1 := Aq8 l m hm fun p hp => h p (List.mem_cons_of_mem _ hp)
  have h2 := h p (List.mem_cons_self ..)
  have h3 := As3 p.size (by omega)
  simp only [bindL, List.map_cons, List.flatten_cons, List.length_append, List.length_cons, Aau, Nat.succ_mul] at h1 ⊢
  omega
def Akp (l : List ByteArray) : Bool := decide (l.length ≤ 512) && l.all fun p => decide (p.size ≤ 8192)
theorem Ao8 (l : List ByteArray) (h : Akp l = true) : Aij std l = some (bindS l, 0) := by
 simp only [Akp, Bool.and_eq_true, decide_eq_true_eq, List.all_eq_true] at h
 obtain ⟨hl, hp⟩ := h
 unfold Aij
 rw [show std.cmp .gtr (std.len TyS.str l) 512 = false by rw [show std.cmp .gtr (std.len TyS.str l) 512 = !decide (l.length ≤ 512) from Awt (t := TyS.str) l 512, decide_eq_true hl]; rfl, br_false]
 have hbl := Aq8 l 8192 (by omega) hp
 have := Ah3 (B := Afj std l) (fun i (_ : Unit) => ((i : Int), bindL (l.take i))) l (fun _ _ (_ : Unit) => (.inl () : Unit ⊕ (ByteArray × Int))) (fun _ => (bindS l, 0)) (fun i p u hx hi => by
  have hps := hp p (Adq hx)
  have htl := Aq8 (l.take i) 8192 (by omega) fun q hq => hp q (List.mem_of_mem_take hq)
  have h10 := As3 p.size (by omega)
  have hti : (l.take i).length ≤ 512 := by rw [List.length_take]; omega
  have hmul : (l.take i).length * (10 + 2 * 8192) ≤ 512 * (10 + 2 * 8192) := Nat.mul_le_mul_right _ hti
  unfold Afj
  simp only
  rw [Aad, lssT hi, Aag, ck_t (inbT hi), Aax (t := TyS.str) hx, An1, show std.cmp .gtr (p.size : Int) 8192 = false by rw [s_gtr]; exact decide_eq_false (by omega), br_false, Ako p.size (by omega), bd_some]
  have hn : (numS p.size).size = (numL p.size).length := by show (numL p.size).toArray.size = _; simp
  rw [write_eq _ _ (by rw [hn]; omega), bd_some, write_eq _ _ (by rw [List.length_append, show (bytes (numS p.size)) = numL p.size from Adh _]; omega), bd_some, s_add, wrap_succ hi (by unfold big63; omega), Aye hx, show (bytes (numS p.size)) = numL p.size from Adh _, List.append_assoc]) (fun _ => by
  unfold Afj
  simp only
  rw [Aad, lssF, br_false, List.take_length]
  have hmul : l.length * (10 + 2 * 8192) ≤ 512 * (10 + 2 * 8192) := Nat.mul_le_mul_right _ hl
  unfold strings_Builder_String
  rw [ck_t (by omega), bd_some]
  rfl) ()
 refine this.trans (congrArg some ?_)
 have key : ∀ (xs : List ByteArray) (i : Nat), runL (fun _ _ (_ : Unit) => (.inl () : Unit ⊕ (ByteArray × Int))) (fun _ => (bindS l, 0)) i xs () = (bindS l, 0) := by
  intro xs
  induction xs with
  | nil => intro i; rfl
  | cons x xs ih => intro i; exact ih (i + 1)
 exact key l 0
theorem ba_ext {a b : ByteArray} (h : bytes a = bytes b) : a = b := by rw [← mkb a, ← mkb b, h]
theorem Af0 (s : ByteArray) : s.size = (bytes s).length := (Aau s).symm
theorem Aok (l : List ByteArray) : bytes (bindS l) = bindL l := Adh _
theorem Alc (b : Bool) (l : List ByteArray) (h : Akp l = true) : Aa7 std b l = some (bindS l, b) := by
 unfold Aa7
 rw [Ao8 l h, bd_some]
 cases b <;> rfl
end Go.PL
namespace Go.PL
set_option linter.unusedSimpArgs false
set_option linter.unusedVariables false
set_option linter.unusedSectionVars false
open Tys (Ty U)
open Enc (sz enc dflt tb ofB toB)
open Dec (dec dok)
set_option maxRecDepth 100000
def signL (n : Int) : List UInt8 := if n = 1 then [61] else if n = 2 then [33, 61] else if n = 3 then [61, 126] else if n = 4 then [33, 126] else []
def barsL : List ByteArray → List UInt8
 | [] => []
 | w :: r => bytes w ++ (r.map fun x => 124 :: bytes x).flatten
def textL (m : Matcher) : List UInt8 := bytes m.Name ++ signL m.How ++ [34] ++ barsL m.Words ++ [34]
def textS (m : Matcher) : ByteArray := ⟨(textL m).toArray⟩
theorem Amk (m : Matcher) : bytes (textS m) = textL m := Adh _
theorem A3w (ws : List ByteArray) : Lib.join (ws.map (·.data.toList)) [124] = barsL ws := by
 cases ws with
 | nil => rfl
 | cons w r =>
  rw [List.map_cons, Lib.join_cons]
  simp only [barsL, Lib.joinTail, List.map_map]
  rfl
theorem A3x {n : Int} (h1 : 1 ≤ n) (h4 : n ≤ 4) : bytes (lookI std n [(1, ByteArray.mk (Array.mk [61])), (2, ByteArray.mk (Array.mk [33, 61])), (3, ByteArray.mk (Array.mk [61, 126])), (4, ByteArray.mk (Array.mk [33, 126]))] (ByteArray.mk (Array.mk []))).1 = signL n := by
 have : n = 1 ∨ n = 2 ∨ n = 3 ∨ n = 4 := by omega
 rcases this with rfl | rfl | rfl | rfl <;> rfl
theorem Ao9 {may : ByteArray → Bool} {xs : List ByteArray} (h : Au3 may xs = true) : ∀ x ∈ xs, may x = true := by
 rw [A3o, Bool.and_eq_true, List.all_eq_true] at h
 exact h.1
theorem Az6 {α : Type} (f : α → List UInt8) (m : Nat) : ∀ xs : List α, (∀ x ∈ xs, (f x).length ≤ m) → (xs.map f).flatten.length ≤ xs.length * m
 | [], _ => by simp
 | x :: xs, h => by
  have h1 := h x (List.mem_cons_self ..)
  have h2 := Az6 f m xs fun y hy => h y (List.mem_cons_of_mem _ hy)
  simp only [List.map_cons, List.flatten_cons, List.length_append, List.length_cons, Nat.succ_mul]
  omega
structure MatcherOK (m : Matcher) : Prop where
 name : m.Name.size ≤ 64
 how1 : 1 ≤ m.How
 how4 : m.How ≤ 4
 len : m.Words.length ≤ 8
 words : ∀ w ∈ m.Words, w.size ≤ 64
theorem Aml {m : Matcher} (h : Af9 m = true) : MatcherOK m := by
 simp only [Af9, Bool.and_eq_true, decide_eq_true_eq] at h
 obtain ⟨h1, ⟨⟨⟨⟨h2, h3⟩, h4⟩, _⟩, h5⟩, _⟩ := h
 refine ⟨?_, h3, h4, h5, fun w hw => ?_⟩
 ·simp only [nameS, Bool.and_eq_true, decide_eq_true_eq] at h2; exact h2.2
 ·have := Ao9 h1 w hw
  simp only [An4, Bool.and_eq_true, decide_eq_true_eq] at this
  exact this.2
theorem A3y {m : Matcher} (h : MatcherOK m) : (barsL m.Words).length ≤ 600 := by
 have hl := h.len
 have hw := h.words
 generalize m.Words = ws at hl hw
 cases ws with
 | nil => simp [barsL]
 | cons w r =>
  have h1 := hw w (List.mem_cons_self ..)
  have h2 := Az6 (fun x : ByteArray => 124 :: bytes x) 65 r fun x hx => by
   have := hw x (List.mem_cons_of_mem _ hx)
   rw [List.length_cons, Aau]; omega
  have h3 : r.length * 65 ≤ 7 * 65 := Nat.mul_le_mul_right _ (by simp only [List.length_cons] at hl; omega)
  simp only [barsL, List.length_append, Aau]
  omega
theorem A3z (n : Int) : (signL n).length ≤ 2 := by
 unfold signL
 split
 ·simp
 split
 ·simp
 split
 ·simp
 split <;> simp
theorem A58 {m : Matcher} (h : MatcherOK m) : (textL m).length ≤ 700 := by
 have h1 := A3y h
 have h2 := A3z m.How
 have h3 := h.name
 simp only [textL, List.length_append, Aau, List.length_singleton]
 omega
theorem As4 (m : Matcher) (hf : Afz m) (h : Af9 m = true) : Ajb std m = some (textS m, 0) := by
 have ok := Aml h
 have hb := A3y ok
 have hs := A3z m.How
 have hn := ok.name
 unfold Ajb Adr
 rw [Ajp m hf, bd_some, h, show std.not true = false from rfl, br_false, bd_some, bd_some]
 have hv := A3x ok.how1 ok.how4
 generalize (lookI std m.How [(1, ByteArray.mk (Array.mk [61])), (2, ByteArray.mk (Array.mk [33, 61])), (3, ByteArray.mk (Array.mk [61, 126])), (4, ByteArray.mk (Array.mk [33, 126]))] (ByteArray.mk (Array.mk []))).1 = sg at hv
 have hsg : sg.size = (signL m.How).length := by rw [Af0, hv]
 have hj : strings_Join std m.Words (ByteArray.mk (Array.mk [124])) = some ⟨(barsL m.Words).toArray⟩ := by
  unfold strings_Join
  have e : Lib.join (m.Words.map (·.data.toList)) (ByteArray.mk (Array.mk [124])).data.toList = barsL m.Words := A3w m.Words
  rw [e]
  exact ck_t ⟨by have := ok.len; omega, by omega⟩
 have hjs : (⟨(barsL m.Words).toArray⟩ : ByteArray).size = (barsL m.Words).length := by rw [Af0, Adh]
 have q1 : (ByteArray.mk (Array.mk [34])).size = 1 := rfl
 have z1 : (m.Name ++ sg).size = m.Name.size + sg.size := ByteArray.size_append
 have z2 : (m.Name ++ sg ++ ByteArray.mk (Array.mk [34])).size = m.Name.size + sg.size + 1 := by rw [ByteArray.size_append, z1, q1]
 have z3 : (m.Name ++ sg ++ ByteArray.mk (Array.mk [34]) ++ (⟨(barsL m.Words).toArray⟩ : ByteArray)).size = m.Name.size + sg.size + 1 + (barsL m.Words).length := by rw [ByteArray.size_append, z2, hjs]
 rw [ck_t (show std.catOk m.Name sg by rw [Aex]; omega), ck_t (show std.catOk (std.cat m.Name sg) (ByteArray.mk (Array.mk [34])) by rw [Aex, s_cat, z1, q1]; omega), hj, bd_some]
 rw [ck_t (show std.catOk (std.cat (std.cat m.Name sg) (ByteArray.mk (Array.mk [34]))) ⟨(barsL m.Words).toArray⟩ by rw [Aex, s_cat, s_cat, z2, hjs]; omega), ck_t (show std.catOk (std.cat (std.cat (std.cat m.Name sg) (ByteArray.mk (Array.mk [34]))) ⟨(barsL m.Words).toArray⟩) (ByteArray.mk (Array.mk [34])) by rw [Aex, s_cat, s_cat, s_cat, z3, q1]; omega)]
 congr 2
 rw [s_cat, s_cat, s_cat, s_cat]
 apply ba_ext
 rw [Ah5, Ah5, Ah5, Ah5, hv, Adh, Amk]
 rfl
end Go.PL
namespace Go.PL
set_option linter.unusedSimpArgs false
set_option linter.unusedVariables false
set_option linter.unusedSectionVars false
open Tys (Ty U)
open Enc (sz enc dflt tb ofB toB)
open Dec (dec dok)
set_option maxRecDepth 100000
def Akq (l : List Matcher) : ByteArray := bindS (l.map textS)
def Aa0 (x : Inhibit) : ByteArray := bindS [Akq x.Source, Akq x.Target, bindS x.Equal]
theorem Ap4 (l : List ByteArray) : (bindS l).size = (bindL l).length := by rw [Af0, Aok]
theorem A1z {m : Matcher} (h : MatcherOK m) : (textS m).size ≤ 700 := by rw [Af0, Amk]; exact A58 h
theorem Apa : ∀ (l : List ByteArray) (m : Nat), m ≤ 100000000000 → (∀ p ∈ l, p.size ≤ m) → (bindL l).length ≤ l.length * (10 + m / 128 + m)
 | [], m, _, _ => by simp [bindL]
 | p :: l, m, hm, h => by
  have h1 := Apa l m hm fun p hp => h p (List.mem_cons_of_mem _ hp)
  have h2 := h p (List.mem_cons_self ..)
  have h3 := As3 p.size (by omega)
  simp only [bindL, List.map_cons, List.flatten_cons, List.length_append, List.length_cons, Aau, Nat.succ_mul] at h1 ⊢
  omega
theorem Ak1 {l : List Matcher} (h : Aes l = true) : l.length ≤ 8 ∧ ∀ m ∈ l, Af9 m = true := by
 simp only [Aes, Bool.and_eq_true, decide_eq_true_eq, List.all_eq_true] at h
 exact ⟨h.2, h.1⟩
theorem Awx {l : List Matcher} (h : Aes l = true) : Akp (l.map textS) = true ∧ (Akq l).size ≤ 5720 := by
 obtain ⟨h1, h2⟩ := Ak1 h
 have hm : ∀ p ∈ l.map textS, p.size ≤ 700 := by
  intro p hp
  obtain ⟨m, hm, rfl⟩ := List.mem_map.1 hp
  exact A1z (Aml (h2 m hm))
 refine ⟨?_, ?_⟩
 ·simp only [Akp, Bool.and_eq_true, decide_eq_true_eq, List.all_eq_true, List.length_map]
  exact ⟨by omega, fun p hp => by have := hm p hp; omega⟩
 ·unfold Akq
  rw [Ap4]
  have := Apa (l.map textS) 700 (by omega) hm
  rw [List.length_map] at this
  have h3 : l.length * (10 + 700 / 128 + 700) ≤ 8 * (10 + 700 / 128 + 700) := Nat.mul_le_mul_right _ h1
  omega
theorem A01 {x : Inhibit} (h : Aek x = true) : Akp x.Equal = true ∧ (bindS x.Equal).size ≤ 5720 := by
 simp only [Aek, Bool.and_eq_true, decide_eq_true_eq] at h
 obtain ⟨hw, ⟨⟨_, he⟩, _⟩, _⟩ := h
 have hm : ∀ p ∈ x.Equal, p.size ≤ 64 := by
  intro p hp
  have := Ao9 hw p hp
  simp only [nameS, Bool.and_eq_true, decide_eq_true_eq] at this
  exact this.2
 refine ⟨?_, ?_⟩
 ·simp only [Akp, Bool.and_eq_true, decide_eq_true_eq, List.all_eq_true]
  exact ⟨by omega, fun p hp => by have := hm p hp; omega⟩
 ·rw [Ap4]
  have := Apa x.Equal 64 (by omega) hm
  have h3 : x.Equal.length * (10 + 64 / 128 + 64) ≤ 8 * (10 + 64 / 128 + 64) := Nat.mul_le_mul_right _ he
  omega
theorem A5a {x : Inhibit} (h : Aek x = true) : Akp [Akq x.Source, Akq x.Target, bindS x.Equal] = true := by
 have h0 := h
 simp only [Aek, Bool.and_eq_true, decide_eq_true_eq] at h
 have h1 := (Awx h.2.1.2).2
 have h2 := (Awx h.2.2).2
 have h3 := (A01 h0).2
 simp only [Akp, List.length_cons, List.length_nil, List.all_cons, List.all_nil, Bool.and_true, Bool.and_eq_true, decide_eq_true_eq]
 omega
theorem Ah6 (b : Bool) (l : List Matcher) (hf : fitL Afz l) (h : Aes l = true) : Aer std b l = some (Akq l, b) := by
 obtain ⟨h1, h2⟩ := Ak1 h
 unfold Aer
 have := Ah3 (B := Af7 std b l) (fun i (_ : Unit) => ((l.take i).map textS, (i : Int))) l (fun _ _ (_ : Unit) => (.inl () : Unit ⊕ (ByteArray × Bool))) (fun _ => (Akq l, b)) (fun i m u hm hi => by
  unfold Af7
  simp only
  rw [Aad, lssT hi, Aag, ck_t (inbT hi), Aax (t := TyS.matcher) hm, As4 m (hf.2 m (Adq hm)) (h2 m (Adq hm)), bd_some, ck_t (show std.appOk TyS.str 16 ((l.take i).map textS) [textS m] from ⟨by simp; omega, by simp; omega⟩), s_add, wrap_succ hi hf.1, take_snoc hm, List.map_append]
  rfl) (fun _ => by
  unfold Af7
  simp only
  rw [Aad, lssF, br_false, List.take_length, Alc b _ (Awx h).1, bd_some]
  rfl) ()
 refine this.trans (congrArg some ?_)
 have key : ∀ (xs : List Matcher) (i : Nat), runL (fun _ _ (_ : Unit) => (.inl () : Unit ⊕ (ByteArray × Bool))) (fun _ => (Akq l, b)) i xs () = (Akq l, b) := by
  intro xs
  induction xs with
  | nil => intro i; rfl
  | cons x xs ih => intro i; exact ih (i + 1)
 exact key l 0
theorem config_quiet_eq (b : Bool) (x : Inhibit) (hf : Ahr x) (h : Aek x = true) : Ac6 std x b = some (Aa0 x, b) := by
 have h0 := h
 simp only [Aek, Bool.and_eq_true, decide_eq_true_eq] at h
 unfold Ac6 Ae1
 rw [Ah6 b x.Source hf.1 h.2.1.2, bd_some, Ah6 b x.Target hf.2.1 h.2.2, bd_some, Alc b _ (A01 h0).1, bd_some, Alc b _ (A5a h0), bd_some, bd_some]
 rfl
end Go.PL
namespace Go.PL
set_option linter.unusedSimpArgs false
set_option linter.unusedVariables false
set_option linter.unusedSectionVars false
open Tys (Ty U)
open Enc (sz enc dflt tb ofB toB)
open Dec (dec dok)
set_option maxRecDepth 100000
theorem Awy (a b : UInt8) (l m : List UInt8) : Op.bytesLess (a :: l) (b :: m) = (decide (a < b) || (a == b && Op.bytesLess l m)) := by
 simp [Op.bytesLess]
theorem Ayf : ∀ l : List UInt8, Op.bytesLess l l = false
 | [] => rfl
 | a :: l => by rw [Awy, Ayf l]; simp
theorem A5s : ∀ l m : List UInt8, Op.bytesLess l m = false → Op.bytesLess m l = false → l = m
 | [], [], _, _ => rfl
 | [], _ :: _, h, _ => by simp [Op.bytesLess] at h
 | _ :: _, [], _, h => by simp [Op.bytesLess] at h
 | a :: l, b :: m, h1, h2 => by
  rw [Awy] at h1 h2
  simp only [Bool.or_eq_false_iff, decide_eq_false_iff_not, Bool.and_eq_false_iff, beq_eq_false_iff_ne] at h1 h2
  have e : a = b := by
   apply UInt8.toNat_inj.1
   have h3 := h1.1
   have h4 := h2.1
   rw [UInt8.lt_iff_toNat_lt] at h3 h4
   omega
  subst e
  rw [A5s l m (h1.2.resolve_left fun h => h rfl) (h2.2.resolve_left fun h => h rfl)]
theorem A02 : ∀ l m n : List UInt8, Op.bytesLess l m = true → Op.bytesLess m n = true → Op.bytesLess l n = true
 | [], [], _, h, _ => by simp [Op.bytesLess] at h
 | _ :: _, [], _, h, _ => by simp [Op.bytesLess] at h
 | _, _ :: _, [], _, h => by simp [Op.bytesLess] at h
 | [], _ :: _, _ :: _, _, _ => by simp [Op.bytesLess]
 | a :: l, b :: m, c :: n, h1, h2 => by
  rw [Awy] at h1 h2 ⊢
  simp only [Bool.or_eq_true, decide_eq_true_eq, Bool.and_eq_true, beq_iff_eq, UInt8.lt_iff_toNat_lt] at h1 h2 ⊢
  rcases h1 with h1 | ⟨rfl, h1⟩
  ·rcases h2 with h2 | ⟨rfl, h2⟩
   ·left; omega
   ·left; exact h1
  ·rcases h2 with h2 | ⟨rfl, h2⟩
   ·left; exact h2
   ·right; exact ⟨rfl, A02 l m n h1 h2⟩
theorem Anr (a b : ByteArray) : lessS a b = Op.bytesLess (bytes a) (bytes b) := by
 show Op.bytesLess a.toList b.toList = _
 rw [ByteArray.toList_eq, ByteArray.toList_eq]
theorem Az7 (a : ByteArray) : lessS a a = false := by rw [Anr]; exact Ayf _
theorem A03 {a b : ByteArray} (h1 : lessS a b = false) (h2 : lessS b a = false) : a = b := by
 rw [Anr] at h1 h2; exact ba_ext (A5s _ _ h1 h2)
theorem Ap5 {a b c : ByteArray} (h1 : lessS a b = true) (h2 : lessS b c = true) : lessS a c = true := by
 rw [Anr] at h1 h2 ⊢; exact A02 _ _ _ h1 h2
theorem Ava {a b : ByteArray} (h : lessS a b = true) : lessS b a = false := by
 cases h2 : lessS b a with
 | false => rfl
 | true => have := Ap5 h h2; rw [Az7] at this; cases this
theorem As5 : ∀ l m : List UInt8, Lib.compareBytes l m < 0 ↔ Op.bytesLess l m = true
 | [], [] => by simp [Lib.compareBytes, Op.bytesLess]
 | [], _ :: _ => by simp [Lib.compareBytes, Op.bytesLess]
 | _ :: _, [] => by simp [Lib.compareBytes, Op.bytesLess]
 | a :: l, b :: m => by
  rw [Awy]
  simp only [Lib.compareBytes]
  by_cases h1 : a < b
  ·rw [if_pos h1, decide_eq_true h1]; simp
  ·rw [if_neg h1, decide_eq_false h1, Bool.false_or]
   by_cases h2 : b < a
   ·rw [if_pos h2]
    have : (a == b) = false := by
     rw [beq_eq_false_iff_ne]; rintro rfl; exact h1 h2
    rw [this]; simp
   ·rw [if_neg h2]
    have : (a == b) = true := by
     rw [beq_iff_eq]
     apply UInt8.toNat_inj.1
     rw [UInt8.lt_iff_toNat_lt] at h1 h2
     omega
    rw [this, Bool.true_and]
    exact As5 l m
theorem Ak2 (a b : ByteArray) : decide (Lib.compareBytes a.data.toList b.data.toList < 0) = lessS a b := by
 rw [Anr, Bool.eq_iff_iff, decide_eq_true_eq]
 exact As5 _ _
end Go.PL
namespace Go.PL
set_option linter.unusedSimpArgs false
set_option linter.unusedVariables false
set_option linter.unusedSectionVars false
open Tys (Ty U)
open Enc (sz enc dflt tb ofB toB)
open Dec (dec dok)
set_option maxRecDepth 100000
section
variable {α : Type} (key : α → ByteArray)
def insL (x : α) : List α → List α
 | [] => [x]
 | y :: ys => if lessS (key y) (key x) then y :: insL x ys else x :: y :: ys
def hasK (l : List α) (x : α) : Bool := l.any fun y => decide (key y = key x)
def normL (l : List α) : List α := l.foldl (fun acc x => if hasK key acc x then acc else insL key x acc) []
def Asc (l : List α) : Prop := l.Pairwise fun x y => lessS (key x) (key y) = true
end
end Go.PL
namespace Go.PL
set_option linter.unusedSimpArgs false
set_option linter.unusedVariables false
set_option linter.unusedSectionVars false
open Tys (Ty U)
open Enc (sz enc dflt tb ofB toB)
open Dec (dec dok)
set_option maxRecDepth 100000
section
variable {α : Type}
theorem Avb (L R : List α) (x : α) : (L.reverse ++ x :: R)[L.length]? = some x := by
 rw [List.getElem?_append_right (by simp)]; simp
theorem Apb (L R : List α) (x y : α) : ((y :: L).reverse ++ x :: R)[L.length]? = some y := by
 rw [List.reverse_cons, List.append_assoc]
 exact Avb L (x :: R) y
theorem Aq9 (L R : List α) (x y : α) : (((y :: L).reverse ++ x :: R).set (L.length + 1) y).set L.length x = L.reverse ++ x :: y :: R := by
 apply List.ext_getElem?
 intro i
 simp only [List.reverse_cons, List.append_assoc, List.singleton_append, List.getElem?_set, List.length_set, List.length_append, List.length_reverse, List.length_cons]
 rcases Nat.lt_trichotomy i L.length with h | h | h
 ·rw [if_neg (by omega), if_neg (by omega), List.getElem?_append_left (by simpa using h), List.getElem?_append_left (by simpa using h)]
 ·subst h
  rw [if_pos rfl, if_pos (by omega), Avb]
 ·rw [if_neg (by omega), List.getElem?_append_right (by simp; omega), List.getElem?_append_right (by simp; omega), List.length_reverse]
  obtain ⟨k, rfl⟩ : ∃ k, i = L.length + 1 + k := ⟨i - L.length - 1, by omega⟩
  rw [show L.length + 1 + k - L.length = k + 1 by omega]
  cases k with
  | zero => simp
  | succ k => rw [if_neg (by omega)]; simp
def insR (less : α → α → Bool) (x : α) : List α → List α → List α
 | [], R => x :: R
 | y :: L, R => if less x y then insR less x L (y :: R) else (y :: L).reverse ++ x :: R
theorem As6 {less : α → α → Bool} {x y : α} {L R : List α} (h : less x y = true) : insR less x (y :: L) R = insR less x L (y :: R) := if_pos h
theorem As7 {less : α → α → Bool} {x y : α} {L R : List α} (h : less x y = false) : insR less x (y :: L) R = (y :: L).reverse ++ x :: R := if_neg (by rw [h]; simp)
theorem Ayg (less : α → α → Bool) (x : α) : ∀ L R : List α, (insR less x L R).Perm (L.reverse ++ x :: R)
 | [], R => .refl _
 | y :: L, R => by
  simp only [insR]
  split
  ·refine (Ayg less x L (y :: R)).trans ?_
   rw [List.reverse_cons, List.append_assoc]
   exact List.Perm.append_left _ (List.Perm.swap ..)
  ·exact .refl _
theorem Alx (less : α → α → Bool) (x : α) : ∀ L R : List α, insR less x L R = insR less x L [] ++ R
 | [], R => rfl
 | y :: L, R => by
  cases h : less x y with
  | true => rw [As6 h, As6 h, Alx less x L (y :: R), Alx less x L [y], List.append_assoc]; rfl
  | false => rw [As7 h, As7 h, List.append_assoc]; rfl
def sortI (less : α → α → Bool) (xs : List α) : List α := xs.foldl (fun P x => insR less x P.reverse []) []
theorem Aly (less : α → α → Bool) (xs : List α) (x : α) : sortI less (xs ++ [x]) = insR less x (sortI less xs).reverse [] := by
 unfold sortI; rw [List.foldl_append]; rfl
theorem Aeo (less : α → α → Bool) (xs : List α) : (sortI less xs).Perm xs := by
 have key : ∀ (xs P : List α), (xs.foldl (fun P x => insR less x P.reverse []) P).Perm (P ++ xs) := by
  intro xs
  induction xs with
  | nil => intro P; simp
  | cons x xs ih =>
   intro P
   rw [List.foldl_cons]
   refine (ih _).trans ?_
   have h1 := Ayg less x P.reverse []
   rw [List.reverse_reverse] at h1
   refine (h1.append_right xs).trans ?_
   rw [List.append_assoc]
   exact .refl _
 exact key xs []
theorem Adk (less : α → α → Bool) (xs : List α) : (sortI less xs).length = xs.length := (Aeo less xs).length_eq
end
end Go.PL
namespace Go.PL
set_option linter.unusedSimpArgs false
set_option linter.unusedVariables false
set_option linter.unusedSectionVars false
open Tys (Ty U)
open Enc (sz enc dflt tb ofB toB)
open Dec (dec dok)
set_option maxRecDepth 100000
theorem A04 (q : Rule → Rule → Option Int) (cmp : Rule → Rule → Int) (hq : ∀ x y, q x y = some (cmp x y)) (n i : Nat) (hn : n ≤ 1000) (hi : i ≤ 1000) : ∀ (L R : List Rule) (x : Rule), (L.reverse ++ x :: R).length = n →
  Loop (Aan std (n : Int) 0 q (i : Int)) ((L.length : Int), L.reverse ++ x :: R) = some (.inl (((i + 1 : Nat) : Int), insR (fun a b => decide (cmp a b < 0)) x L R))
 | [], R, x, hl => by
  rw [Acn]
  have hB : Aan std (n : Int) 0 q (i : Int) ((([] : List Rule).length : Int), ([] : List Rule).reverse ++ x :: R) = some (.inr (.inl (((i + 1 : Nat) : Int), x :: R))) := by
   unfold Aan
   simp only [List.length_nil, List.reverse_nil, List.nil_append]
   rw [show std.cmp .gtr ((0 : Nat) : Int) 0 = false from rfl]
   have hv : ∀ p : Prop, vc false p := fun p => True.intro
   rw [ck_t (hv _), ck_t (hv _), ck_t (hv _), ck_t (hv _), gd_f, bd_some, s_land, Bool.false_and, br_false, s_add, wrap_succ (n := 1001) (by omega) (by unfold big63; omega)]
   rfl
  rw [hB]
  rfl
 | y :: L, R, x, hl => by
  rw [Acn]
  have hlen : (y :: L).length + 1 ≤ n := by simp at hl ⊢; omega
  have hj : L.length + 1 < n := by simp only [List.length_cons] at hlen; omega
  have g1 : std.cmp .gtr (((y :: L).length : Nat) : Int) 0 = true := by rw [s_gtr]; exact decide_eq_true (by simp only [List.length_cons]; omega)
  have e1 : std.ar .sub .i64 (((y :: L).length : Nat) : Int) 1 = (L.length : Int) := by rw [prevI (by simp) (by unfold big63; simp only [List.length_cons]; omega)]; simp
  have p0 : ∀ k : Nat, std.pl 0 (k : Int) = (k : Int) := fun k => by rw [s_pl]; omega
  have ax := Aax (t := TyS.rule) (Avb (y :: L) R x)
  have ay := Aax (t := TyS.rule) (Apb L R x y)
  have hrl : std.len TyS.rule ((y :: L).reverse ++ x :: R) = (n : Int) := by rw [Aad, hl]
  have hB : Aan std (n : Int) 0 q (i : Int) (((y :: L).length : Int), (y :: L).reverse ++ x :: R) = some (if cmp x y < 0 then .inl ((L.length : Int), L.reverse ++ x :: y :: R) else .inr (.inl (((i + 1 : Nat) : Int), (y :: L).reverse ++ x :: R))) := by
   unfold Aan
   simp only
   rw [g1, e1, p0, p0, hrl]
   have hv : ∀ {p : Prop}, p → vc true p := fun h => h
   rw [ck_t (hv (inbT (by simp only [List.length_cons]; omega))), ck_t (hv (inbT (by simp only [List.length_cons]; omega))), ck_t (hv (inbT (by omega))), ck_t (hv (inbT (by omega))), gd_t, ax, ay, hq, bd_some, s_land, Bool.true_and, s_lss]
   by_cases hc : cmp x y < 0
   ·rw [decide_eq_true hc, Aag, if_pos hc, ck_t (inbT (by omega)), ck_t (inbT (by omega)), ck_t (inbT (by simp only [List.length_cons]; omega)), ck_t (inbT (by simp only [List.length_cons]; omega))]
    have hs : std.len TyS.rule (std.set TyS.rule ((y :: L).reverse ++ x :: R) (((y :: L).length : Nat) : Int) y) = (n : Int) := by
     rw [s_set, Aad, List.length_set, hl]
    rw [hs, ck_t (inbT (by omega)), s_set, s_set, Int.toNat_natCast, Int.toNat_natCast]
    have := Aq9 L R x y
    exact congrArg (fun r => some (Sum.inl ((L.length : Int), r))) this
   ·rw [decide_eq_false hc, br_false, if_neg hc, s_add, wrap_succ (n := 1001) (by omega) (by unfold big63; omega)]
    rfl
  rw [hB]
  by_cases hc : cmp x y < 0
  ·rw [if_pos hc, As6 (decide_eq_true hc)]
   exact A04 q cmp hq n i hn hi L (y :: R) x (by rw [← hl]; simp)
  ·rw [if_neg hc, As7 (decide_eq_false hc)]
theorem A30 (q : Rule → Rule → Option Int) (cmp : Rule → Rule → Int) (hq : ∀ x y, q x y = some (cmp x y)) (xs : List Rule) (hn : xs.length ≤ 1000) :
  Aay std xs (xs.length : Int) 0 (xs.length : Int) q = some (sortI (fun a b => decide (cmp a b < 0)) xs) := by
 unfold Aay
 rw [show std.ar .add .i64 0 1 = ((1 : Nat) : Int) from rfl]
 cases xs with
 | nil => rw [Acn]; rfl
 | cons x0 ys =>
  generalize hxs : x0 :: ys = xs at hn
  have h1 : 1 ≤ xs.length := by rw [← hxs]; simp
  have hstart : xs = sortI (fun a b => decide (cmp a b < 0)) (xs.take 1) ++ xs.drop 1 := by rw [← hxs]; rfl
  have := Agv (B := Abs std (xs.length : Int) 0 (xs.length : Int) q) (fun i (_ : Unit) => ((i : Int), sortI (fun a b => decide (cmp a b < 0)) (xs.take i) ++ xs.drop i)) xs (fun _ _ (_ : Unit) => (.inl () : Unit ⊕ List Rule)) (fun _ => sortI (fun a b => decide (cmp a b < 0)) xs) (fun _ _ => True)
   (fun i x u hx _ => by
    have hi := Adt hx
    refine ⟨fun s' _ => ⟨?_, trivial⟩, fun e he => by cases he⟩
    obtain ⟨x', hx', _, hd, ht⟩ := i_at (xs := xs) (i := i) hi
    rw [hx] at hx'; cases hx'
    unfold Abs
    simp only
    rw [lssT hi, Aag]
    have hlen : (sortI (fun a b => decide (cmp a b < 0)) (xs.take i)).reverse.length = i := by rw [List.length_reverse, Adk, List.length_take]; omega
    have := A04 q cmp hq xs.length i hn (by omega) (sortI (fun a b => decide (cmp a b < 0)) (xs.take i)).reverse (xs.drop (i + 1)) x (by
     rw [List.reverse_reverse, ← hd, List.length_append, Adk, List.length_take, List.length_drop]; omega)
    rw [hlen, List.reverse_reverse, ← hd] at this
    rw [this, ht, Aly, Alx]
    rfl)
   (fun s _ => by
    unfold Abs
    simp only
    rw [lssF, br_false, List.take_length, List.drop_length, List.append_nil]
    rfl) 1 h1 () trivial
  rw [← hstart] at this
  refine this.trans (congrArg some ?_)
  have key : ∀ (l : List Rule) (i : Nat), runL (fun _ _ (_ : Unit) => (.inl () : Unit ⊕ List Rule)) (fun _ => sortI (fun a b => decide (cmp a b < 0)) xs) i l () = sortI (fun a b => decide (cmp a b < 0)) xs := by
   intro l
   induction l with
   | nil => intro i; rfl
   | cons x xs ih => intro i; exact ih (i + 1)
  exact key _ _
theorem stable_Rule (q : Rule → Rule → Option Int) (cmp : Rule → Rule → Int) (hq : ∀ x y, q x y = some (cmp x y)) (xs : List Rule) (hn : xs.length < 20) :
  Ab1 std xs (xs.length : Int) (xs.length : Int) q = some (sortI (fun a b => decide (cmp a b < 0)) xs) := by
 unfold Ab1
 have hB : Aei std (xs.length : Int) (xs.length : Int) q (0, 20, xs) = some (.inr (sortI (fun a b => decide (cmp a b < 0)) xs)) := by
  unfold Aei
  simp only
  rw [show std.cmp .leq 20 (xs.length : Int) = false by rw [s_leq]; exact decide_eq_false (by omega), br_false, A30 q cmp hq xs (by omega), bd_some, Acn]
  have h2 : Aeh std (xs.length : Int) (sortI (fun a b => decide (cmp a b < 0)) xs) 20 = some (.inr (sortI (fun a b => decide (cmp a b < 0)) xs)) := by
   unfold Aeh
   simp only
   rw [show std.cmp .lss 20 (xs.length : Int) = false by rw [s_lss]; exact decide_eq_false (by omega), br_false]
   rfl
  rw [h2]
  rfl
 rw [Acn, hB]
theorem Avc (q : ByteArray → ByteArray → Option Int) (cmp : ByteArray → ByteArray → Int) (hq : ∀ x y, q x y = some (cmp x y)) (n i : Nat) (hn : n ≤ 1000) (hi : i ≤ 1000) : ∀ (L R : List ByteArray) (x : ByteArray), (L.reverse ++ x :: R).length = n →
  Loop (Aai std (n : Int) 0 q (i : Int)) ((L.length : Int), L.reverse ++ x :: R) = some (.inl (((i + 1 : Nat) : Int), insR (fun a b => decide (cmp a b < 0)) x L R))
 | [], R, x, hl => by
  rw [Acn]
  have hB : Aai std (n : Int) 0 q (i : Int) ((([] : List ByteArray).length : Int), ([] : List ByteArray).reverse ++ x :: R) = some (.inr (.inl (((i + 1 : Nat) : Int), x :: R))) := by
   unfold Aai
   simp only [List.length_nil, List.reverse_nil, List.nil_append]
   rw [show std.cmp .gtr ((0 : Nat) : Int) 0 = false from rfl]
   have hv : ∀ p : Prop, vc false p := fun p => True.intro
   rw [ck_t (hv _), ck_t (hv _), ck_t (hv _), ck_t (hv _), gd_f, bd_some, s_land, Bool.false_and, br_false, s_add, wrap_succ (n := 1001) (by omega) (by unfold big63; omega)]
   rfl
  rw [hB]
  rfl
 | y :: L, R, x, hl => by
  rw [Acn]
  have hlen : (y :: L).length + 1 ≤ n := by simp at hl ⊢; omega
  have hj : L.length + 1 < n := by simp only [List.length_cons] at hlen; omega
  have g1 : std.cmp .gtr (((y :: L).length : Nat) : Int) 0 = true := by rw [s_gtr]; exact decide_eq_true (by simp only [List.length_cons]; omega)
  have e1 : std.ar .sub .i64 (((y :: L).length : Nat) : Int) 1 = (L.length : Int) := by rw [prevI (by simp) (by unfold big63; simp only [List.length_cons]; omega)]; simp
  have p0 : ∀ k : Nat, std.pl 0 (k : Int) = (k : Int) := fun k => by rw [s_pl]; omega
  have ax := Aax (t := TyS.str) (Avb (y :: L) R x)
  have ay := Aax (t := TyS.str) (Apb L R x y)
  have hrl : std.len TyS.str ((y :: L).reverse ++ x :: R) = (n : Int) := by rw [Aad, hl]
  have hB : Aai std (n : Int) 0 q (i : Int) (((y :: L).length : Int), (y :: L).reverse ++ x :: R) = some (if cmp x y < 0 then .inl ((L.length : Int), L.reverse ++ x :: y :: R) else .inr (.inl (((i + 1 : Nat) : Int), (y :: L).reverse ++ x :: R))) := by
   unfold Aai
   simp only
   rw [g1, e1, p0, p0, hrl]
   have hv : ∀ {p : Prop}, p → vc true p := fun h => h
   rw [ck_t (hv (inbT (by simp only [List.length_cons]; omega))), ck_t (hv (inbT (by simp only [List.length_cons]; omega))), ck_t (hv (inbT (by omega))), ck_t (hv (inbT (by omega))), gd_t, ax, ay, hq, bd_some, s_land, Bool.true_and, s_lss]
   by_cases hc : cmp x y < 0
   ·rw [decide_eq_true hc, Aag, if_pos hc, ck_t (inbT (by omega)), ck_t (inbT (by omega)), ck_t (inbT (by simp only [List.length_cons]; omega)), ck_t (inbT (by simp only [List.length_cons]; omega))]
    have hs : std.len TyS.str (std.set TyS.str ((y :: L).reverse ++ x :: R) (((y :: L).length : Nat) : Int) y) = (n : Int) := by
     rw [s_set, Aad, List.length_set, hl]
    rw [hs, ck_t (inbT (by omega)), s_set, s_set, Int.toNat_natCast, Int.toNat_natCast]
    have := Aq9 L R x y
    exact congrArg (fun r => some (Sum.inl ((L.length : Int), r))) this
   ·rw [decide_eq_false hc, br_false, if_neg hc, s_add, wrap_succ (n := 1001) (by omega) (by unfold big63; omega)]
    rfl
  rw [hB]
  by_cases hc : cmp x y < 0
  ·rw [if_pos hc, As6 (decide_eq_true hc)]
   exact Avc q cmp hq n i hn hi L (y :: R) x (by rw [← hl]; simp)
  ·rw [if_neg hc, As7 (decide_eq_false hc)]
theorem Az8 (q : ByteArray → ByteArray → Option Int) (cmp : ByteArray → ByteArray → Int) (hq : ∀ x y, q x y = some (cmp x y)) (xs : List ByteArray) (hn : xs.length ≤ 1000) :
  Aaq std xs (xs.length : Int) 0 (xs.length : Int) q = some (sortI (fun a b => decide (cmp a b < 0)) xs) := by
 unfold Aaq
 rw [show std.ar .add .i64 0 1 = ((1 : Nat) : Int) from rfl]
 cases xs with
 | nil => rw [Acn]; rfl
 | cons x0 ys =>
  generalize hxs : x0 :: ys = xs at hn
  have h1 : 1 ≤ xs.length := by rw [← hxs]; simp
  have hstart : xs = sortI (fun a b => decide (cmp a b < 0)) (xs.take 1) ++ xs.drop 1 := by rw [← hxs]; rfl
  have := Agv (B := Abf std (xs.length : Int) 0 (xs.length : Int) q) (fun i (_ : Unit) => ((i : Int), sortI (fun a b => decide (cmp a b < 0)) (xs.take i) ++ xs.drop i)) xs (fun _ _ (_ : Unit) => (.inl () : Unit ⊕ List ByteArray)) (fun _ => sortI (fun a b => decide (cmp a b < 0)) xs) (fun _ _ => True)
   (fun i x u hx _ => by
    have hi := Adt hx
    refine ⟨fun s' _ => ⟨?_, trivial⟩, fun e he => by cases he⟩
    obtain ⟨x', hx', _, hd, ht⟩ := i_at (xs := xs) (i := i) hi
    rw [hx] at hx'; cases hx'
    unfold Abf
    simp only
    rw [lssT hi, Aag]
    have hlen : (sortI (fun a b => decide (cmp a b < 0)) (xs.take i)).reverse.length = i := by rw [List.length_reverse, Adk, List.length_take]; omega
    have := Avc q cmp hq xs.length i hn (by omega) (sortI (fun a b => decide (cmp a b < 0)) (xs.take i)).reverse (xs.drop (i + 1)) x (by
     rw [List.reverse_reverse, ← hd, List.length_append, Adk, List.length_take, List.length_drop]; omega)
    rw [hlen, List.reverse_reverse, ← hd] at this
    rw [this, ht, Aly, Alx]
    rfl)
   (fun s _ => by
    unfold Abf
    simp only
    rw [lssF, br_false, List.take_length, List.drop_length, List.append_nil]
    rfl) 1 h1 () trivial
  rw [← hstart] at this
  refine this.trans (congrArg some ?_)
  have key : ∀ (l : List ByteArray) (i : Nat), runL (fun _ _ (_ : Unit) => (.inl () : Unit ⊕ List ByteArray)) (fun _ => sortI (fun a b => decide (cmp a b < 0)) xs) i l () = sortI (fun a b => decide (cmp a b < 0)) xs := by
   intro l
   induction l with
   | nil => intro i; rfl
   | cons x xs ih => intro i; exact ih (i + 1)
  exact key _ _
theorem stable_string (q : ByteArray → ByteArray → Option Int) (cmp : ByteArray → ByteArray → Int) (hq : ∀ x y, q x y = some (cmp x y)) (xs : List ByteArray) (hn : xs.length < 20) :
  Abl std xs (xs.length : Int) (xs.length : Int) q = some (sortI (fun a b => decide (cmp a b < 0)) xs) := by
 unfold Abl
 have hB : Adx std (xs.length : Int) (xs.length : Int) q (0, 20, xs) = some (.inr (sortI (fun a b => decide (cmp a b < 0)) xs)) := by
  unfold Adx
  simp only
  rw [show std.cmp .leq 20 (xs.length : Int) = false by rw [s_leq]; exact decide_eq_false (by omega), br_false, Az8 q cmp hq xs (by omega), bd_some, Acn]
  have h2 : Adw std (xs.length : Int) (sortI (fun a b => decide (cmp a b < 0)) xs) 20 = some (.inr (sortI (fun a b => decide (cmp a b < 0)) xs)) := by
   unfold Adw
   simp only
   rw [show std.cmp .lss 20 (xs.length : Int) = false by rw [s_lss]; exact decide_eq_false (by omega), br_false]
   rfl
  rw [h2]
  rfl
 rw [Acn, hB]
theorem Ayh (q : Hours → Hours → Option Int) (cmp : Hours → Hours → Int) (hq : ∀ x y, q x y = some (cmp x y)) (n i : Nat) (hn : n ≤ 1000) (hi : i ≤ 1000) : ∀ (L R : List Hours) (x : Hours), (L.reverse ++ x :: R).length = n →
  Loop (Aak std (n : Int) 0 q (i : Int)) ((L.length : Int), L.reverse ++ x :: R) = some (.inl (((i + 1 : Nat) : Int), insR (fun a b => decide (cmp a b < 0)) x L R))
 | [], R, x, hl => by
  rw [Acn]
  have hB : Aak std (n : Int) 0 q (i : Int) ((([] : List Hours).length : Int), ([] : List Hours).reverse ++ x :: R) = some (.inr (.inl (((i + 1 : Nat) : Int), x :: R))) := by
   unfold Aak
   simp only [List.length_nil, List.reverse_nil, List.nil_append]
   rw [show std.cmp .gtr ((0 : Nat) : Int) 0 = false from rfl]
   have hv : ∀ p : Prop, vc false p := fun p => True.intro
   rw [ck_t (hv _), ck_t (hv _), ck_t (hv _), ck_t (hv _), gd_f, bd_some, s_land, Bool.false_and, br_false, s_add, wrap_succ (n := 1001) (by omega) (by unfold big63; omega)]
   rfl
  rw [hB]
  rfl
 | y :: L, R, x, hl => by
  rw [Acn]
  have hlen : (y :: L).length + 1 ≤ n := by simp at hl ⊢; omega
  have hj : L.length + 1 < n := by simp only [List.length_cons] at hlen; omega
  have g1 : std.cmp .gtr (((y :: L).length : Nat) : Int) 0 = true := by rw [s_gtr]; exact decide_eq_true (by simp only [List.length_cons]; omega)
  have e1 : std.ar .sub .i64 (((y :: L).length : Nat) : Int) 1 = (L.length : Int) := by rw [prevI (by simp) (by unfold big63; simp only [List.length_cons]; omega)]; simp
  have p0 : ∀ k : Nat, std.pl 0 (k : Int) = (k : Int) := fun k => by rw [s_pl]; omega
  have ax := Aax (t := TyS.hours) (Avb (y :: L) R x)
  have ay := Aax (t := TyS.hours) (Apb L R x y)
  have hrl : std.len TyS.hours ((y :: L).reverse ++ x :: R) = (n : Int) := by rw [Aad, hl]
  have hB : Aak std (n : Int) 0 q (i : Int) (((y :: L).length : Int), (y :: L).reverse ++ x :: R) = some (if cmp x y < 0 then .inl ((L.length : Int), L.reverse ++ x :: y :: R) else .inr (.inl (((i + 1 : Nat) : Int), (y :: L).reverse ++ x :: R))) := by
   unfold Aak
   simp only
   rw [g1, e1, p0, p0, hrl]
   have hv : ∀ {p : Prop}, p → vc true p := fun h => h
   rw [ck_t (hv (inbT (by simp only [List.length_cons]; omega))), ck_t (hv (inbT (by simp only [List.length_cons]; omega))), ck_t (hv (inbT (by omega))), ck_t (hv (inbT (by omega))), gd_t, ax, ay, hq, bd_some, s_land, Bool.true_and, s_lss]
   by_cases hc : cmp x y < 0
   ·rw [decide_eq_true hc, Aag, if_pos hc, ck_t (inbT (by omega)), ck_t (inbT (by omega)), ck_t (inbT (by simp only [List.length_cons]; omega)), ck_t (inbT (by simp only [List.length_cons]; omega))]
    have hs : std.len TyS.hours (std.set TyS.hours ((y :: L).reverse ++ x :: R) (((y :: L).length : Nat) : Int) y) = (n : Int) := by
     rw [s_set, Aad, List.length_set, hl]
    rw [hs, ck_t (inbT (by omega)), s_set, s_set, Int.toNat_natCast, Int.toNat_natCast]
    have := Aq9 L R x y
    exact congrArg (fun r => some (Sum.inl ((L.length : Int), r))) this
   ·rw [decide_eq_false hc, br_false, if_neg hc, s_add, wrap_succ (n := 1001) (by omega) (by unfold big63; omega)]
    rfl
  rw [hB]
  by_cases hc : cmp x y < 0
  ·rw [if_pos hc, As6 (decide_eq_true hc)]
   exact Ayh q cmp hq n i hn hi L (y :: R) x (by rw [← hl]; simp)
  ·rw [if_neg hc, As7 (decide_eq_false hc)]
theorem A10 (q : Hours → Hours → Option Int) (cmp : Hours → Hours → Int) (hq : ∀ x y, q x y = some (cmp x y)) (xs : List Hours) (hn : xs.length ≤ 1000) :
  Aas std xs (xs.length : Int) 0 (xs.length : Int) q = some (sortI (fun a b => decide (cmp a b < 0)) xs) := by
 unfold Aas
 rw [show std.ar .add .i64 0 1 = ((1 : Nat) : Int) from rfl]
 cases xs with
 | nil => rw [Acn]; rfl
 | cons x0 ys =>
  generalize hxs : x0 :: ys = xs at hn
  have h1 : 1 ≤ xs.length := by rw [← hxs]; simp
  have hstart : xs = sortI (fun a b => decide (cmp a b < 0)) (xs.take 1) ++ xs.drop 1 := by rw [← hxs]; rfl
  have := Agv (B := Abp std (xs.length : Int) 0 (xs.length : Int) q) (fun i (_ : Unit) => ((i : Int), sortI (fun a b => decide (cmp a b < 0)) (xs.take i) ++ xs.drop i)) xs (fun _ _ (_ : Unit) => (.inl () : Unit ⊕ List Hours)) (fun _ => sortI (fun a b => decide (cmp a b < 0)) xs) (fun _ _ => True)
   (fun i x u hx _ => by
    have hi := Adt hx
    refine ⟨fun s' _ => ⟨?_, trivial⟩, fun e he => by cases he⟩
    obtain ⟨x', hx', _, hd, ht⟩ := i_at (xs := xs) (i := i) hi
    rw [hx] at hx'; cases hx'
    unfold Abp
    simp only
    rw [lssT hi, Aag]
    have hlen : (sortI (fun a b => decide (cmp a b < 0)) (xs.take i)).reverse.length = i := by rw [List.length_reverse, Adk, List.length_take]; omega
    have := Ayh q cmp hq xs.length i hn (by omega) (sortI (fun a b => decide (cmp a b < 0)) (xs.take i)).reverse (xs.drop (i + 1)) x (by
     rw [List.reverse_reverse, ← hd, List.length_append, Adk, List.length_take, List.length_drop]; omega)
    rw [hlen, List.reverse_reverse, ← hd] at this
    rw [this, ht, Aly, Alx]
    rfl)
   (fun s _ => by
    unfold Abp
    simp only
    rw [lssF, br_false, List.take_length, List.drop_length, List.append_nil]
    rfl) 1 h1 () trivial
  rw [← hstart] at this
  refine this.trans (congrArg some ?_)
  have key : ∀ (l : List Hours) (i : Nat), runL (fun _ _ (_ : Unit) => (.inl () : Unit ⊕ List Hours)) (fun _ => sortI (fun a b => decide (cmp a b < 0)) xs) i l () = sortI (fun a b => decide (cmp a b < 0)) xs := by
   intro l
   induction l with
   | nil => intro i; rfl
   | cons x xs ih => intro i; exact ih (i + 1)
  exact key _ _
theorem stable_Hours (q : Hours → Hours → Option Int) (cmp : Hours → Hours → Int) (hq : ∀ x y, q x y = some (cmp x y)) (xs : List Hours) (hn : xs.length < 20) :
  Abq std xs (xs.length : Int) (xs.length : Int) q = some (sortI (fun a b => decide (cmp a b < 0)) xs) := by
 unfold Abq
 have hB : Aeb std (xs.length : Int) (xs.length : Int) q (0, 20, xs) = some (.inr (sortI (fun a b => decide (cmp a b < 0)) xs)) := by
  unfold Aeb
  simp only
  rw [show std.cmp .leq 20 (xs.length : Int) = false by rw [s_leq]; exact decide_eq_false (by omega), br_false, A10 q cmp hq xs (by omega), bd_some, Acn]
  have h2 : Aea std (xs.length : Int) (sortI (fun a b => decide (cmp a b < 0)) xs) 20 = some (.inr (sortI (fun a b => decide (cmp a b < 0)) xs)) := by
   unfold Aea
   simp only
   rw [show std.cmp .lss 20 (xs.length : Int) = false by rw [s_lss]; exact decide_eq_false (by omega), br_false]
   rfl
  rw [h2]
  rfl
 rw [Acn, hB]
end Go.PL
namespace Go.PL
set_option linter.unusedSimpArgs false
set_option linter.unusedVariables false
set_option linter.unusedSectionVars false
open Tys (Ty U)
open Enc (sz enc dflt tb ofB toB)
open Dec (dec dok)
set_option maxRecDepth 100000
def Ace {α : Type} (key : α → ByteArray) (a b : α) : Bool := lessS (key a) (key b)
theorem A11 (xs : List Rule) (h : xs.length ≤ 1000) : Adi std xs = some ((xs.length : Int), xs) := by
 unfold Adi
 have e : ∀ k : Nat, k ≤ 1000 → std.appOk TyS.rule k [] xs := fun k hk => ⟨by have := Nat.mul_le_mul (show ([] : List (U TyS.rule)).length + xs.length ≤ 1000 by simpa using h) hk; omega, by simp; omega⟩
 rw [A0w (fun hc => by
  have h0 : xs = [] := by
   rw [s_eql, Aad] at hc
   have : xs.length = 0 := by simpa using hc
   exact List.length_eq_zero_iff.1 this
  subst h0
  rw [ck_t (e _ (by decide))]
  rfl), ck_t (e _ (by decide))]
 rfl
theorem Az9 (xs : List Rule) (q : Rule → Option ByteArray) (key : Rule → ByteArray) (hq : ∀ x, q x = some (key x)) (h : xs.length < 20) : Ad8 std xs q = some (sortI (Ace key) xs) := by
 unfold Ad8 Abk
 rw [A11 xs (by omega), bd_some]
 simp only
 rw [stable_Rule (fun y0 y1 => Aed std y0 y1 q) (fun a b => Lib.compareBytes (key a).data.toList (key b).data.toList) (fun x y => by unfold Aed strings_Compare; rw [hq, bd_some, hq, bd_some, bd_some]) xs h, bd_some, bd_some]
 have e : (fun a b : Rule => decide (Lib.compareBytes (key a).data.toList (key b).data.toList < 0)) = Ace key := funext fun a => funext fun b => Ak2 _ _
 have hl := Adk (Ace key) xs
 rw [e, s_pl, Int.zero_add, Aad, ck_t (show std.subOk 0 (xs.length : Int) ((sortI (Ace key) xs).length : Int) from ⟨by omega, by omega, by omega⟩), A0u]
 simp [← hl]
theorem Ayi (xs : List ByteArray) (h : xs.length ≤ 1000) : Aci std xs = some ((xs.length : Int), xs) := by
 unfold Aci
 have e : ∀ k : Nat, k ≤ 1000 → std.appOk TyS.str k [] xs := fun k hk => ⟨by have := Nat.mul_le_mul (show ([] : List (U TyS.str)).length + xs.length ≤ 1000 by simpa using h) hk; omega, by simp; omega⟩
 rw [A0w (fun hc => by
  have h0 : xs = [] := by
   rw [s_eql, Aad] at hc
   have : xs.length = 0 := by simpa using hc
   exact List.length_eq_zero_iff.1 this
  subst h0
  rw [ck_t (e _ (by decide))]
  rfl), ck_t (e _ (by decide))]
 rfl
theorem Awz (xs : List ByteArray) (q : ByteArray → Option ByteArray) (key : ByteArray → ByteArray) (hq : ∀ x, q x = some (key x)) (h : xs.length < 20) : Ade std xs q = some (sortI (Ace key) xs) := by
 unfold Ade Aa4
 rw [Ayi xs (by omega), bd_some]
 simp only
 rw [stable_string (fun y0 y1 => Adj std y0 y1 q) (fun a b => Lib.compareBytes (key a).data.toList (key b).data.toList) (fun x y => by unfold Adj strings_Compare; rw [hq, bd_some, hq, bd_some, bd_some]) xs h, bd_some, bd_some]
 have e : (fun a b : ByteArray => decide (Lib.compareBytes (key a).data.toList (key b).data.toList < 0)) = Ace key := funext fun a => funext fun b => Ak2 _ _
 have hl := Adk (Ace key) xs
 rw [e, s_pl, Int.zero_add, Aad, ck_t (show std.subOk 0 (xs.length : Int) ((sortI (Ace key) xs).length : Int) from ⟨by omega, by omega, by omega⟩), A0u]
 simp [← hl]
theorem A0a (xs : List Hours) (h : xs.length ≤ 1000) : Acr std xs = some ((xs.length : Int), xs) := by
 unfold Acr
 have e : ∀ k : Nat, k ≤ 1000 → std.appOk TyS.hours k [] xs := fun k hk => ⟨by have := Nat.mul_le_mul (show ([] : List (U TyS.hours)).length + xs.length ≤ 1000 by simpa using h) hk; omega, by simp; omega⟩
 rw [A0w (fun hc => by
  have h0 : xs = [] := by
   rw [s_eql, Aad] at hc
   have : xs.length = 0 := by simpa using hc
   exact List.length_eq_zero_iff.1 this
  subst h0
  rw [ck_t (e _ (by decide))]
  rfl), ck_t (e _ (by decide))]
 rfl
theorem Ayj (xs : List Hours) (q : Hours → Option ByteArray) (key : Hours → ByteArray) (hq : ∀ x, q x = some (key x)) (h : xs.length < 20) : Adn std xs q = some (sortI (Ace key) xs) := by
 unfold Adn Aa8
 rw [A0a xs (by omega), bd_some]
 simp only
 rw [stable_Hours (fun y0 y1 => Ady std y0 y1 q) (fun a b => Lib.compareBytes (key a).data.toList (key b).data.toList) (fun x y => by unfold Ady strings_Compare; rw [hq, bd_some, hq, bd_some, bd_some]) xs h, bd_some, bd_some]
 have e : (fun a b : Hours => decide (Lib.compareBytes (key a).data.toList (key b).data.toList < 0)) = Ace key := funext fun a => funext fun b => Ak2 _ _
 have hl := Adk (Ace key) xs
 rw [e, s_pl, Int.zero_add, Aad, ck_t (show std.subOk 0 (xs.length : Int) ((sortI (Ace key) xs).length : Int) from ⟨by omega, by omega, by omega⟩), A0u]
 simp [← hl]
end Go.PL
namespace Go.PL
set_option linter.unusedSimpArgs false
set_option linter.unusedVariables false
set_option linter.unusedSectionVars false
open Tys (Ty U)
open Enc (sz enc dflt tb ofB toB)
open Dec (dec dok)
set_option maxRecDepth 100000
section
variable {α : Type} (key : α → ByteArray)
end
end Go.PL
namespace Go.PL
set_option linter.unusedSimpArgs false
set_option linter.unusedVariables false
set_option linter.unusedSectionVars false
open Tys (Ty U)
open Enc (sz enc dflt tb ofB toB)
open Dec (dec dok)
set_option maxRecDepth 100000
theorem A05 {α : Type} {p : Nat → α → Bool} : ∀ {xs : List α} {i : Nat}, allI p i xs = true → ∀ (j : Nat) (x : α), xs[j]? = some x → p (i + j) x = true
 | [], _, _, j, x, h => by simp at h
 | y :: ys, i, h, j, x, hx => by
  simp only [allI, Bool.and_eq_true] at h
  cases j with
  | zero => cases hx; exact h.1
  | succ j =>
   have := A05 h.2 j x (by simpa using hx)
   rwa [show i + 1 + j = i + (j + 1) by omega] at this
theorem Ap6 {names : List ByteArray} (h : onceS names = true) : names.Nodup := by
 unfold List.Nodup
 rw [List.pairwise_iff_getElem]
 intro i j hi hj hij e
 have hs : names[j]? = some names[j] := List.getElem?_eq_getElem hj
 have := A05 h j names[j] hs
 rw [Nat.zero_add] at this
 simp only [onceP, hasS, Bool.not_eq_true', List.any_eq_false, decide_eq_true_eq] at this
 refine this names[j] (List.mem_of_getElem? (i := i) ?_) rfl
 rw [List.getElem?_take, if_pos hij, List.getElem?_eq_getElem hi, e]
end Go.PL
namespace Go.PL
set_option linter.unusedSimpArgs false
set_option linter.unusedVariables false
set_option linter.unusedSectionVars false
open Tys (Ty U)
open Enc (sz enc dflt tb ofB toB)
open Dec (dec dok)
set_option maxRecDepth 100000
def atS (l : List ByteArray) (k : Nat) : ByteArray := l.getD k ⟨#[]⟩
def castI (l : List Nat) : List Int := l.map fun k : Nat => (k : Int)
def stepP (l : List ByteArray) (acc : List Nat) (i : Nat) : List Nat := if hasS (l.take i) (atS l i) = true then acc else insL (atS l) i acc
def placesTo (l : List ByteArray) (i : Nat) : List Nat := (List.range i).foldl (stepP l) []
end Go.PL
namespace Go.PL
set_option linter.unusedSimpArgs false
set_option linter.unusedVariables false
set_option linter.unusedSectionVars false
open Tys (Ty U)
open Enc (sz enc dflt tb ofB toB)
open Dec (dec dok)
set_option maxRecDepth 100000
theorem Aol : ∀ (a b : Nat) (x y : List UInt8), numL a ++ x = numL b ++ y → a = b ∧ x = y
 | a, b, x, y, h => by
  have e : ∀ n : Nat, (UInt8.ofNat n).toNat = n % 256 := fun n => by simp
  rw [numL.eq_def a, numL.eq_def b] at h
  by_cases ha : a < 128 <;> by_cases hb : b < 128
  ·rw [dif_pos ha, dif_pos hb] at h
   have h1 := congrArg UInt8.toNat (List.cons.inj h).1
   rw [e, e] at h1
   exact ⟨by omega, (List.cons.inj h).2⟩
  ·rw [dif_pos ha, dif_neg hb] at h
   have h1 := congrArg UInt8.toNat (List.cons.inj h).1
   rw [e, e] at h1
   omega
  ·rw [dif_neg ha, dif_pos hb] at h
   have h1 := congrArg UInt8.toNat (List.cons.inj h).1
   rw [e, e] at h1
   omega
  ·rw [dif_neg ha, dif_neg hb] at h
   have h1 := congrArg UInt8.toNat (List.cons.inj h).1
   rw [e, e] at h1
   obtain ⟨h2, h3⟩ := Aol (a / 128) (b / 128) x y (List.cons.inj h).2
   exact ⟨by omega, h3⟩
 termination_by a => a
 decreasing_by omega
theorem A31 (n : Nat) : numL n ≠ [] := by
 rw [numL.eq_def]; split <;> simp
theorem Ans (p : ByteArray) (l : List ByteArray) : bindL (p :: l) = numL p.size ++ (bytes p ++ bindL l) := by
 simp [bindL]
theorem Ayk : ∀ l m : List ByteArray, bindL l = bindL m → l = m
 | [], [], _ => rfl
 | [], q :: m, h => by
  rw [Ans] at h
  have := (List.append_eq_nil_iff.1 h.symm).1
  exact absurd this (A31 _)
 | p :: l, [], h => by
  rw [Ans] at h
  exact absurd (List.append_eq_nil_iff.1 h).1 (A31 _)
 | p :: l, q :: m, h => by
  rw [Ans, Ans] at h
  obtain ⟨h1, h2⟩ := Aol _ _ _ _ h
  obtain ⟨h3, h4⟩ := List.append_inj h2 (by rw [Aau, Aau, h1])
  rw [ba_ext h3, Ayk l m h4]
theorem Aft {l m : List ByteArray} (h : bindS l = bindS m) : l = m := by
 apply Ayk
 rw [← Aok, ← Aok, h]
theorem Apc {p : UInt8 → Bool} : ∀ A B C D : List UInt8, (∀ x ∈ A, p x = true) → (∀ x ∈ B, p x = true) → (∀ c, C.head? = some c → p c = false) → (∀ c, D.head? = some c → p c = false) → A ++ C = B ++ D → A = B ∧ C = D
 | [], [], _, _, _, _, _, _, h => ⟨rfl, h⟩
 | [], b :: B, C, D, _, hB, hC, _, h => by
  have h1 := hC b (by rw [List.nil_append] at h; rw [h]; rfl)
  rw [hB b (List.mem_cons_self ..)] at h1; cases h1
 | a :: A, [], C, D, hA, _, _, hD, h => by
  have h1 := hD a (by rw [List.nil_append] at h; rw [← h]; rfl)
  rw [hA a (List.mem_cons_self ..)] at h1; cases h1
 | a :: A, b :: B, C, D, hA, hB, hC, hD, h => by
  obtain ⟨h1, h2⟩ := List.cons.inj h
  obtain ⟨h3, h4⟩ := Apc A B C D (fun x hx => hA x (List.mem_cons_of_mem _ hx)) (fun x hx => hB x (List.mem_cons_of_mem _ hx)) hC hD h2
  exact ⟨by rw [h1, h3], h4⟩
theorem Avd (r : List ByteArray) : ∀ c, (r.map fun x => 124 :: bytes x).flatten.head? = some c → mwC c = false := by
 intro c h
 cases r with
 | nil => cases h
 | cons x r =>
  simp only [List.map_cons, List.flatten_cons, List.cons_append, List.head?_cons, Option.some.injEq] at h
  subst h; decide
theorem Ayl : ∀ (w v : ByteArray) (r s : List ByteArray), (∀ x ∈ w :: r, (bytes x).all mwC = true) → (∀ x ∈ v :: s, (bytes x).all mwC = true) → bytes w ++ (r.map fun x => 124 :: bytes x).flatten = bytes v ++ (s.map fun x => 124 :: bytes x).flatten → w :: r = v :: s
 | w, v, r, s, hw, hv, h => by
  have h1 := hw w (List.mem_cons_self ..)
  have h2 := hv v (List.mem_cons_self ..)
  rw [List.all_eq_true] at h1 h2
  obtain ⟨h3, h4⟩ := Apc _ _ _ _ h1 h2 (Avd r) (Avd s) h
  rw [ba_ext h3]
  cases r with
  | nil =>
   cases s with
   | nil => rfl
   | cons y s => simp at h4
  | cons x r =>
   cases s with
   | nil => simp at h4
   | cons y s =>
    simp only [List.map_cons, List.flatten_cons, List.cons_append] at h4
    rw [Ayl x y r s (fun z hz => hw z (List.mem_cons_of_mem _ hz)) (fun z hz => hv z (List.mem_cons_of_mem _ hz)) (List.cons.inj h4).2]
 termination_by _ _ r => r.length
theorem Ave {s : ByteArray} (h : nameS s = true) : ∀ c ∈ bytes s, (letC c || digC c) = true := by
 intro c hc
 simp only [nameS, Bool.and_eq_true] at h
 obtain ⟨j, hj⟩ := Aq7 h.1.1 c hc
 simp only [nameP, Bool.or_eq_true, Bool.and_eq_true] at hj ⊢
 exact hj.imp id fun h => h.2
theorem A32 {a b : Int} (a1 : 1 ≤ a) (a4 : a ≤ 4) (b1 : 1 ≤ b) (b4 : b ≤ 4) {x y : List UInt8} (h : signL a ++ 34 :: x = signL b ++ 34 :: y) : a = b ∧ x = y := by
 have ha : a = 1 ∨ a = 2 ∨ a = 3 ∨ a = 4 := by omega
 have hb : b = 1 ∨ b = 2 ∨ b = 3 ∨ b = 4 := by omega
 rcases ha with rfl | rfl | rfl | rfl <;> rcases hb with rfl | rfl | rfl | rfl <;> simp [signL] at h ⊢ <;> exact h
theorem Avf {a : Int} (a1 : 1 ≤ a) (a4 : a ≤ 4) (x : List UInt8) : ∀ c, (signL a ++ x).head? = some c → (letC c || digC c) = false := by
 intro c h
 have ha : a = 1 ∨ a = 2 ∨ a = 3 ∨ a = 4 := by omega
 rcases ha with rfl | rfl | rfl | rfl <;> simp [signL] at h <;> subst h <;> decide
theorem A33 {m n : Matcher} (hm : Af9 m = true) (hn : Af9 n = true) (h : textS m = textS n) : m = n := by
 have h := congrArg bytes h
 rw [Amk, Amk] at h
 have hm0 := Aml hm
 have hn0 := Aml hn
 simp only [Af9, Bool.and_eq_true, decide_eq_true_eq] at hm hn
 obtain ⟨hmw, ⟨⟨⟨⟨hm2, _⟩, _⟩, hm1⟩, _⟩, _⟩ := hm
 obtain ⟨hnw, ⟨⟨⟨⟨hn2, _⟩, _⟩, hn1⟩, _⟩, _⟩ := hn
 unfold textL at h
 have h := List.append_cancel_right h
 rw [List.append_assoc, List.append_assoc, List.append_assoc, List.append_assoc] at h
 obtain ⟨h1, h2⟩ := Apc _ _ _ _ (Ave hm2) (Ave hn2) (Avf hm0.how1 hm0.how4 _) (Avf hn0.how1 hn0.how4 _) h
 obtain ⟨h3, h4⟩ := A32 hm0.how1 hm0.how4 hn0.how1 hn0.how4 h2
 have wm : ∀ x ∈ m.Words, (bytes x).all mwC = true := fun x hx => by
  have := Ao9 hmw x hx
  simp only [An4, Bool.and_eq_true] at this
  exact this.1
 have wn : ∀ x ∈ n.Words, (bytes x).all mwC = true := fun x hx => by
  have := Ao9 hnw x hx
  simp only [An4, Bool.and_eq_true] at this
  exact this.1
 obtain ⟨mn, mh, mw⟩ := m
 obtain ⟨nn, nh, nw⟩ := n
 simp only at *
 subst h3
 rw [ba_ext h1]
 cases mw with
 | nil => simp at hm1
 | cons x mw =>
  cases nw with
  | nil => simp at hn1
  | cons y nw => rw [Ayl x y mw nw wm wn h4]
theorem Ap7 {α β : Type} {f : α → β} {P : α → Prop} (hf : ∀ x y, P x → P y → f x = f y → x = y) : ∀ l m : List α, (∀ x ∈ l, P x) → (∀ x ∈ m, P x) → l.map f = m.map f → l = m
 | [], [], _, _, _ => rfl
 | [], _ :: _, _, _, h => by simp at h
 | _ :: _, [], _, _, h => by simp at h
 | x :: l, y :: m, hl, hm, h => by
  rw [List.map_cons, List.map_cons] at h
  obtain ⟨h1, h2⟩ := List.cons.inj h
  rw [hf x y (hl x (List.mem_cons_self ..)) (hm y (List.mem_cons_self ..)) h1, Ap7 hf l m (fun z hz => hl z (List.mem_cons_of_mem _ hz)) (fun z hz => hm z (List.mem_cons_of_mem _ hz)) h2]
theorem Ap8 {l m : List Matcher} (hl : Aes l = true) (hm : Aes m = true) (h : Akq l = Akq m) : l = m :=
 Ap7 (P := fun m => Af9 m = true) (fun x y hx hy => A33 hx hy) l m (Ak1 hl).2 (Ak1 hm).2 (Aft h)
theorem A12 {x y : Inhibit} (hx : Aek x = true) (hy : Aek y = true) (h : Aa0 x = Aa0 y) : x = y := by
 simp only [Aek, Bool.and_eq_true, decide_eq_true_eq] at hx hy
 have h := Aft h
 simp only [List.cons.injEq, and_true] at h
 obtain ⟨h1, h2, h3⟩ := h
 have e1 := Ap8 hx.2.1.2 hy.2.1.2 h1
 have e2 := Ap8 hx.2.2 hy.2.2 h2
 have e3 := Aft h3
 cases x; cases y
 simp only at e1 e2 e3
 rw [e1, e2, e3]
end Go.PL
namespace Go.PL
set_option linter.unusedSimpArgs false
set_option linter.unusedVariables false
set_option linter.unusedSectionVars false
open Tys (Ty U)
open Enc (sz enc dflt tb ofB toB)
open Dec (dec dok)
set_option maxRecDepth 100000
section
variable {α : Type} (key : α → ByteArray)
structure Norm (xs l : List α) : Prop where
 asc : Asc key l
 sub : ∀ x ∈ l, x ∈ xs
 all : ∀ x ∈ xs, ∃ y ∈ l, key y = key x
theorem Norm.same {xs ys l : List α} (h : Norm key xs l) (he : ∀ x, x ∈ xs ↔ x ∈ ys) : Norm key ys l :=
 ⟨h.asc, fun x hx => (he x).1 (h.sub x hx), fun x hx => h.all x ((he x).2 hx)⟩
def WAsc (l : List α) : Prop := l.Pairwise fun x y => lessS (key y) (key x) = false
theorem Aw0 {a b c : ByteArray} (h1 : lessS a b = true) (h2 : lessS c b = false) : lessS a c = true := by
 cases h3 : lessS a c with
 | true => rfl
 | false =>
  cases h4 : lessS c a with
  | true => rw [Ap5 h4 h1] at h2; cases h2
  | false => obtain rfl := A03 h3 h4; rw [h1] at h2; cases h2
theorem A34 {a b c : ByteArray} (h1 : lessS b a = false) (h2 : lessS c b = false) : lessS c a = false := by
 cases h : lessS c a with
 | false => rfl
 | true => have := Aw0 h h1; rw [this] at h2; cases h2
theorem Aym (x : α) : ∀ L R : List α, WAsc key (L.reverse ++ R) → (∀ y ∈ R, lessS (key x) (key y) = true) → WAsc key (insR (Ace key) x L R)
 | [], R, h, hR => by
  simp only [insR, WAsc]
  exact List.pairwise_cons.2 ⟨fun y hy => Ava (hR y hy), by simpa [WAsc] using h⟩
 | y :: L, R, h, hR => by
  cases hc : Ace key x y with
  | true =>
   rw [As6 hc]
   refine Aym x L (y :: R) (by rw [List.reverse_cons, List.append_assoc] at h; exact h) (fun z hz => ?_)
   rcases List.mem_cons.1 hz with rfl | hz
   ·exact hc
   ·exact hR z hz
  | false =>
   rw [As7 hc]
   have hc' : lessS (key x) (key y) = false := hc
   unfold WAsc at h ⊢
   rw [List.pairwise_append] at h ⊢
   obtain ⟨h1, h2, h3⟩ := h
   refine ⟨h1, List.pairwise_cons.2 ⟨fun z hz => Ava (hR z hz), h2⟩, fun a ha b hb => ?_⟩
   rcases List.mem_cons.1 hb with rfl | hb
   ·rw [List.mem_reverse] at ha
    rcases List.mem_cons.1 ha with rfl | ha
    ·exact hc'
    ·rw [List.reverse_cons, List.pairwise_append] at h1
     exact A34 (h1.2.2 a (List.mem_reverse.2 ha) y (by simp)) hc'
   ·exact h3 a ha b hb
theorem Avg : ∀ (n : Nat) (xs : List α), xs.length = n → WAsc key (sortI (Ace key) xs)
 | 0, xs, h => by
  rw [List.length_eq_zero_iff.1 h]; exact List.Pairwise.nil
 | n + 1, xs, h => by
  rcases List.eq_nil_or_concat xs with rfl | ⟨ys, x, rfl⟩
  ·exact List.Pairwise.nil
  ·rw [List.concat_eq_append] at *
   have ih := Avg n ys (by simpa using h)
   rw [Aly]
   exact Aym key x _ [] (by rw [List.reverse_reverse, List.append_nil]; exact ih) (fun y hy => by cases hy)
def Ae0 : α → List α → List α
 | _, [] => []
 | p, y :: r => if key y = key p then Ae0 y r else y :: Ae0 y r
def Ae8 : List α → List α
 | [] => []
 | x :: r => x :: Ae0 key x r
theorem Anl : ∀ (p : α) (r : List α), ∀ z ∈ Ae0 key p r, z ∈ r
 | p, [], z, h => by cases h
 | p, y :: r, z, h => by
  rw [Ae0] at h
  split at h
  ·exact List.mem_cons_of_mem _ (Anl y r z h)
  ·rcases List.mem_cons.1 h with rfl | h
   ·exact List.mem_cons_self ..
   ·exact List.mem_cons_of_mem _ (Anl y r z h)
theorem compactA_all : ∀ (p : α) (r : List α), ∀ x ∈ r, key x = key p ∨ ∃ y ∈ Ae0 key p r, key y = key x
 | p, [], x, h => by cases h
 | p, y :: r, x, h => by
  rw [Ae0]
  split
  ·rename_i he
   rcases List.mem_cons.1 h with rfl | h
   ·exact .inl he
   ·rcases compactA_all y r x h with h | h
    ·exact .inl (h.trans he)
    ·exact .inr h
  ·rcases List.mem_cons.1 h with rfl | h
   ·exact .inr ⟨x, List.mem_cons_self .., rfl⟩
   ·rcases compactA_all y r x h with h | ⟨z, hz, he⟩
    ·exact .inr ⟨y, List.mem_cons_self .., h.symm⟩
    ·exact .inr ⟨z, List.mem_cons_of_mem _ hz, he⟩
theorem Aqn : ∀ (p : α) (r : List α), WAsc key (p :: r) → Asc key (p :: Ae0 key p r)
 | p, [], h => by simp [Ae0, Asc]
 | p, y :: r, h => by
  unfold WAsc at h
  rw [List.pairwise_cons] at h
  have ih := Aqn y r h.2
  have hy := h.1 y (List.mem_cons_self ..)
  unfold Asc at ih ⊢
  rw [List.pairwise_cons] at ih
  rw [Ae0]
  split
  ·rename_i he
   exact List.pairwise_cons.2 ⟨fun z hz => by rw [← he]; exact ih.1 z hz, ih.2⟩
  ·rename_i he
   have hpy : lessS (key p) (key y) = true := by
    cases hc : lessS (key p) (key y) with
    | true => rfl
    | false => exact absurd (A03 hy hc) he
   refine List.pairwise_cons.2 ⟨fun z hz => ?_, List.pairwise_cons.2 ih⟩
   rcases List.mem_cons.1 hz with rfl | hz
   ·exact hpy
   ·exact Ap5 hpy (ih.1 z hz)
theorem Ayn (xs : List α) : Norm key xs (Ae8 key (sortI (Ace key) xs)) := by
 have hw := Avg key _ xs rfl
 have hp := Aeo (Ace key) xs
 cases hs : sortI (Ace key) xs with
 | nil =>
  rw [hs] at hp
  have : xs = [] := List.length_eq_zero_iff.1 hp.length_eq.symm
  subst this
  exact ⟨List.Pairwise.nil, fun x hx => (by cases hx), fun x hx => (by cases hx)⟩
 | cons p r =>
  rw [hs] at hw hp
  refine ⟨Aqn key p r hw, fun x hx => ?_, fun x hx => ?_⟩
  ·refine hp.mem_iff.1 ?_
   rcases List.mem_cons.1 hx with rfl | hx
   ·exact List.mem_cons_self ..
   ·exact List.mem_cons_of_mem _ (Anl key p r x hx)
  ·rcases List.mem_cons.1 (hp.mem_iff.2 hx) with rfl | hx
   ·exact ⟨x, List.mem_cons_self .., rfl⟩
   ·rcases compactA_all key p r x hx with h | ⟨y, hy, he⟩
    ·exact ⟨p, List.mem_cons_self .., h.symm⟩
    ·exact ⟨y, List.mem_cons_of_mem _ hy, he⟩
def pick (d : α) (xs : List α) (ps : List Nat) : List α := ps.map fun k => xs.getD k d
end
end Go.PL
namespace Go.PL
set_option linter.unusedSimpArgs false
set_option linter.unusedVariables false
set_option linter.unusedSectionVars false
open Tys (Ty U)
open Enc (sz enc dflt tb ofB toB)
open Dec (dec dok)
set_option maxRecDepth 100000
def InhOK (x : Inhibit) : Prop := Ahr x ∧ Aek x = true
def cmpQ (x y : Inhibit) : Int := Lib.compareBytes (Aa0 x).data.toList (Aa0 y).data.toList
theorem A59 (a b : Inhibit) : decide (cmpQ a b < 0) = Ace Aa0 a b := Ak2 _ _
theorem As8 (x y : Inhibit) (b : Bool) (hx : InhOK x) (hy : InhOK y) : Ac7 std x y b = some (cmpQ x y, b) := by
 unfold Ac7 strings_Compare
 rw [config_quiet_eq b x hx.1 hx.2, bd_some, config_quiet_eq b y hy.1 hy.2, bd_some, bd_some]
 rfl
theorem Avh (x y : Inhibit) (b : Bool) (hx : InhOK x) (hy : InhOK y) : Afb std x y b = some (decide (Aa0 x = Aa0 y), b) := by
 unfold Afb
 rw [config_quiet_eq b x hx.1 hx.2, bd_some, config_quiet_eq b y hy.1 hy.2, bd_some, s_seql]
theorem As9 (b : Bool) (n i : Nat) (hn : n ≤ 1000) (hi : i ≤ 1000) : ∀ (L R : List Inhibit) (x : Inhibit), (∀ y ∈ L, InhOK y) → InhOK x → (L.reverse ++ x :: R).length = n →
  Loop (Aah std (n : Int) 0 (i : Int)) ((L.length : Int), b, L.reverse ++ x :: R) = some (.inl (((i + 1 : Nat) : Int), b, insR (Ace Aa0) x L R))
 | [], R, x, hL, hx, hl => by
  rw [Acn]
  have hB : Aah std (n : Int) 0 (i : Int) ((([] : List Inhibit).length : Int), b, ([] : List Inhibit).reverse ++ x :: R) = some (.inr (.inl (((i + 1 : Nat) : Int), b, x :: R))) := by
   unfold Aah
   simp only [List.length_nil, List.reverse_nil, List.nil_append]
   rw [show std.cmp .gtr ((0 : Nat) : Int) 0 = false from rfl, br_false, show std.and false false = false from rfl, br_false, s_add, wrap_succ (n := 1001) (by omega) (by unfold big63; omega)]
   rfl
  rw [hB]
  rfl
 | y :: L, R, x, hL, hx, hl => by
  rw [Acn]
  have hlen : (y :: L).length + 1 ≤ n := by simp at hl ⊢; omega
  have hj : L.length + 1 < n := by simp only [List.length_cons] at hlen; omega
  have g1 : std.cmp .gtr (((y :: L).length : Nat) : Int) 0 = true := by rw [s_gtr]; exact decide_eq_true (by simp only [List.length_cons]; omega)
  have e1 : std.ar .sub .i64 (((y :: L).length : Nat) : Int) 1 = (L.length : Int) := by rw [prevI (by simp) (by unfold big63; simp only [List.length_cons]; omega)]; simp
  have p0 : ∀ k : Nat, std.pl 0 (k : Int) = (k : Int) := fun k => by rw [s_pl]; omega
  have ax := Aax (t := TyS.inhibit) (Avb (y :: L) R x)
  have ay := Aax (t := TyS.inhibit) (Apb L R x y)
  have hrl : std.len TyS.inhibit ((y :: L).reverse ++ x :: R) = (n : Int) := by rw [Aad, hl]
  have hB : Aah std (n : Int) 0 (i : Int) (((y :: L).length : Int), b, (y :: L).reverse ++ x :: R) = some (if Ace Aa0 x y = true then .inl ((L.length : Int), b, L.reverse ++ x :: y :: R) else .inr (.inl (((i + 1 : Nat) : Int), b, (y :: L).reverse ++ x :: R))) := by
   unfold Aah
   simp only
   rw [g1, Aag, e1, p0, p0, hrl]
   rw [ck_t (inbT (by simp only [List.length_cons]; omega)), ck_t (inbT (by simp only [List.length_cons]; omega)), ck_t (inbT (by omega)), ck_t (inbT (by omega)), ax, ay, As8 x y b hx (hL y (List.mem_cons_self ..)), bd_some, s_land, Bool.true_and, s_lss, A59]
   have hs : std.len TyS.inhibit (std.set TyS.inhibit ((y :: L).reverse ++ x :: R) (((y :: L).length : Nat) : Int) y) = (n : Int) := by
    rw [s_set, Aad, List.length_set, hl]
   cases hc : Ace Aa0 x y with
   | true =>
    rw [Aag, if_pos rfl, hs, ck_t (inbT (by omega)), s_set, s_set, Int.toNat_natCast, Int.toNat_natCast]
    have := Aq9 L R x y
    exact congrArg (fun r => some (Sum.inl ((L.length : Int), b, r))) this
   | false =>
    rw [br_false, if_neg (by simp), s_add, wrap_succ (n := 1001) (by omega) (by unfold big63; omega)]
    rfl
  rw [hB]
  cases hc : Ace Aa0 x y with
  | true =>
   rw [if_pos rfl, As6 hc]
   exact As9 b n i hn hi L (y :: R) x (fun z hz => hL z (List.mem_cons_of_mem _ hz)) hx (by rw [← hl]; simp)
  | false => rw [if_neg (by simp), As7 hc]
theorem Ayo (b : Bool) (xs : List Inhibit) (hn : xs.length ≤ 1000) (hP : ∀ x ∈ xs, InhOK x) :
  Aao std xs (xs.length : Int) 0 (xs.length : Int) b = some (sortI (Ace Aa0) xs, b) := by
 unfold Aao
 rw [show std.ar .add .i64 0 1 = ((1 : Nat) : Int) from rfl]
 cases xs with
 | nil => rw [Acn]; rfl
 | cons x0 ys =>
  generalize hxs : x0 :: ys = xs at hn hP
  have h1 : 1 ≤ xs.length := by rw [← hxs]; simp
  have hstart : xs = sortI (Ace Aa0) (xs.take 1) ++ xs.drop 1 := by rw [← hxs]; rfl
  have := Agv (B := Abb std (xs.length : Int) 0 (xs.length : Int)) (fun i (_ : Unit) => ((i : Int), b, sortI (Ace Aa0) (xs.take i) ++ xs.drop i)) xs (fun _ _ (_ : Unit) => (.inl () : Unit ⊕ (List Inhibit × Bool))) (fun _ => (sortI (Ace Aa0) xs, b)) (fun _ _ => True)
   (fun i x u hx _ => by
    have hi := Adt hx
    refine ⟨fun s' _ => ⟨?_, trivial⟩, fun e he => by cases he⟩
    obtain ⟨x', hx', _, hd, ht⟩ := i_at (xs := xs) (i := i) hi
    rw [hx] at hx'; cases hx'
    unfold Abb
    simp only
    rw [lssT hi, Aag]
    have hlen : (sortI (Ace Aa0) (xs.take i)).reverse.length = i := by rw [List.length_reverse, Adk, List.length_take]; omega
    have := As9 b xs.length i hn (by omega) (sortI (Ace Aa0) (xs.take i)).reverse (xs.drop (i + 1)) x (fun y hy => by
     rw [List.mem_reverse] at hy
     exact hP y (List.mem_of_mem_take ((Aeo _ _).mem_iff.1 hy))) (hP x (Adq hx)) (by
     rw [List.reverse_reverse, ← hd, List.length_append, Adk, List.length_take, List.length_drop]; omega)
    rw [hlen, List.reverse_reverse, ← hd] at this
    rw [this, ht, Aly, Alx])
   (fun s _ => by
    unfold Abb
    simp only
    rw [lssF, br_false, List.take_length, List.drop_length, List.append_nil]
    rfl) 1 h1 () trivial
  rw [← hstart] at this
  refine this.trans (congrArg some ?_)
  have key : ∀ (l : List Inhibit) (i : Nat), runL (fun _ _ (_ : Unit) => (.inl () : Unit ⊕ (List Inhibit × Bool))) (fun _ => (sortI (Ace Aa0) xs, b)) i l () = (sortI (Ace Aa0) xs, b) := by
   intro l
   induction l with
   | nil => intro i; rfl
   | cons x xs ih => intro i; exact ih (i + 1)
  exact key _ _
theorem stable_Inhibit (b : Bool) (xs : List Inhibit) (hn : xs.length < 20) (hP : ∀ x ∈ xs, InhOK x) :
  Ab3 std xs (xs.length : Int) (xs.length : Int) b = some (sortI (Ace Aa0) xs, b) := by
 unfold Ab3
 have hB : Adp std (xs.length : Int) (xs.length : Int) (0, 20, b, xs) = some (.inr (sortI (Ace Aa0) xs, b)) := by
  unfold Adp
  simp only
  rw [show std.cmp .leq 20 (xs.length : Int) = false by rw [s_leq]; exact decide_eq_false (by omega), br_false, Ayo b xs (by omega) hP, bd_some, Acn]
  have h2 : Ado std (xs.length : Int) (sortI (Ace Aa0) xs, b) 20 = some (.inr (sortI (Ace Aa0) xs, b)) := by
   unfold Ado
   simp only
   rw [show std.cmp .lss 20 (xs.length : Int) = false by rw [s_lss]; exact decide_eq_false (by omega), br_false]
   rfl
  rw [h2]
  rfl
 rw [Acn, hB]
theorem Aw1 (xs : List Inhibit) (h : xs.length ≤ 1000) : Ab2 std xs = some ((xs.length : Int), xs) := by
 unfold Ab2
 have e : ∀ k : Nat, k ≤ 1000 → std.appOk TyS.inhibit k [] xs := fun k hk => ⟨by have := Nat.mul_le_mul (show ([] : List (U TyS.inhibit)).length + xs.length ≤ 1000 by simpa using h) hk; omega, by simp; omega⟩
 rw [A0w (fun hc => by
  have h0 : xs = [] := by
   rw [s_eql, Aad] at hc
   have : xs.length = 0 := by simpa using hc
   exact List.length_eq_zero_iff.1 this
  subst h0
  rw [ck_t (e _ (by decide))]
  rfl), ck_t (e _ (by decide))]
 rfl
theorem Aul (b : Bool) (xs : List Inhibit) (h : xs.length < 20) (hP : ∀ x ∈ xs, InhOK x) : Adz std xs b = some ((xs.length : Int), sortI (Ace Aa0) xs, b) := by
 unfold Adz Abg
 rw [Aw1 xs (by omega), bd_some]
 simp only
 rw [stable_Inhibit b xs h hP, bd_some, bd_some]
theorem Apd {α : Type} (key : α → ByteArray) (z : α) : ∀ (p : α) (r : List α), Ae0 key p (r ++ [z]) = Ae0 key p r ++ (if key z = key ((p :: r).getLast (by simp)) then [] else [z])
 | p, [] => by
  simp only [List.nil_append, Ae0, List.getLast_singleton]
  by_cases h : key z = key p <;> simp [h]
 | p, y :: r => by
  rw [List.cons_append, Ae0, Ae0, Apd key z y r]
  have : (p :: y :: r).getLast (by simp) = (y :: r).getLast (by simp) := by rw [List.getLast_cons]
  rw [this]
  split
  ·rfl
  ·rfl
theorem Aw2 {α : Type} (key : α → ByteArray) {xs : List α} {m : Nat} {y z : α} (hy : xs[m]? = some y) (hz : xs[m + 1]? = some z) : Ae8 key (xs.take (m + 2)) = Ae8 key (xs.take (m + 1)) ++ (if key z = key y then [] else [z]) := by
 rw [take_snoc hz]
 have h1 := take_snoc hy
 cases hc : xs.take (m + 1) with
 | nil => rw [hc] at h1; simp at h1
 | cons p r =>
  rw [List.cons_append, Ae8, Ae8, Apd, List.cons_append]
  have : (p :: r).getLast (by simp) = y := by
   have h2 : (p :: r) = xs.take m ++ [y] := by rw [← hc, h1]
   simp only [h2]
   exact List.getLast_concat
  rw [this]
theorem Aqo {α : Type} (key : α → ByteArray) : ∀ (p : α) (r : List α), (Ae0 key p r).length ≤ r.length
 | p, [] => Nat.le_refl _
 | p, y :: r => by
  rw [Ae0]
  have := Aqo key y r
  split
  ·simp only [List.length_cons]; omega
  ·simp only [List.length_cons]; omega
theorem Anm {α : Type} (key : α → ByteArray) : ∀ (r : List α), (Ae8 key r).length ≤ r.length
 | [] => Nat.le_refl _
 | y :: r => by
  have := Aqo key y r
  simp only [Ae8, List.length_cons]; omega
end Go.PL
namespace Go.PL
set_option linter.unusedSimpArgs false
set_option linter.unusedVariables false
set_option linter.unusedSectionVars false
open Tys (Ty U)
open Enc (sz enc dflt tb ofB toB)
open Dec (dec dok)
set_option maxRecDepth 100000
abbrev cQ (xs : List Inhibit) (m : Nat) : List Inhibit := Ae8 Aa0 (xs.take m)
theorem A35 {xs : List Inhibit} {m : Nat} {y z : Inhibit} (h1 : 1 ≤ m) (hy : xs[m - 1]? = some y) (hz : xs[m]? = some z) : cQ xs (m + 1) = cQ xs m ++ (if Aa0 z = Aa0 y then [] else [z]) := by
 obtain ⟨k, rfl⟩ : ∃ k, m = k + 1 := ⟨m - 1, by omega⟩
 exact Aw2 Aa0 hy hz
theorem A6x (xs : List Inhibit) (m : Nat) : (cQ xs m).length ≤ m := by
 have h1 := Anm Aa0 (xs.take m)
 have h2 : (xs.take m).length ≤ m := by rw [List.length_take]; omega
 exact Nat.le_trans h1 h2
theorem A5t {α : Type} (C xs : List α) {i : Nat} (h : C.length ≤ i) : (C ++ xs.drop C.length)[i]? = xs[i]? := by
 rw [List.getElem?_append_right h, List.getElem?_drop]
 congr 1; omega
theorem mix_len {α : Type} (C xs : List α) (h : C.length ≤ xs.length) : (C ++ xs.drop C.length).length = xs.length := by
 rw [List.length_append, List.length_drop]; omega
theorem A6a {α : Type} (C xs : List α) (z : α) (h : C.length < xs.length) : (C ++ xs.drop C.length).set C.length z = (C ++ [z]) ++ xs.drop (C ++ [z]).length := by
 rw [List.drop_eq_getElem_cons h, List.set_append_right _ _ (Nat.le_refl _), Nat.sub_self, List.set_cons_zero]
 simp
theorem Aw3 (b : Bool) (xs : List Inhibit) (hn : xs.length ≤ 1000) (hP : ∀ x ∈ xs, InhOK x) (k : Nat) (h1 : 1 ≤ k) (hk : k < xs.length) (hc : cQ xs (k + 1) = xs.take k) :
  ∃ row, Loop (Aaj std (xs.length : Int) (k : Int)) ((k : Int), 1, b, xs) = some (.inr (0, ((cQ xs xs.length).length : Int), row, b)) ∧ row.take (cQ xs xs.length).length = cQ xs xs.length ∧ row.length = xs.length := by
 have pk : ∀ j : Nat, std.pl (std.pl 0 (k : Int)) (j : Int) = ((k + j : Nat) : Int) := fun j => by rw [s_pl, s_pl]; omega
 have p0 : ∀ j : Nat, std.pl 0 (j : Int) = (j : Int) := fun j => by rw [s_pl]; omega
 have mk : ∀ j : Nat, j ≤ xs.length → std.mi (xs.length : Int) (j : Int) = ((xs.length - j : Nat) : Int) := fun j hj => by rw [s_mi]; omega
 have hl : (cQ xs xs.length).length ≤ xs.length := A6x xs _
 have := Agv (B := Aaj std (xs.length : Int) (k : Int)) (fun m (_ : Unit) => (((cQ xs m).length : Int), ((m - k : Nat) : Int), b, cQ xs m ++ xs.drop (cQ xs m).length)) xs (fun _ _ (_ : Unit) => (.inl () : Unit ⊕ ((Int × Bool) ⊕ (Int × Int × List Inhibit × Bool))))
  (fun _ => .inr (0, ((cQ xs xs.length).length : Int), std.fill TyS.inhibit (cQ xs xs.length ++ xs.drop (cQ xs xs.length).length) ((cQ xs xs.length).length : Int) ((xs.length - (cQ xs xs.length).length : Nat) : Int) (Inhibit.mk [] [] []), b)) (fun m _ => k + 1 ≤ m ∧ (cQ xs m).length + 1 ≤ m)
  (fun m z u hz ⟨hm1, hm2⟩ => by
   have hm := Adt hz
   obtain ⟨y, hy⟩ := Ami (xs := xs) (i := m - 1) (by omega)
   have hs := A35 (by omega) hy hz
   refine ⟨fun s' _ => ⟨?_, by omega, ?_⟩, fun e he => by cases he⟩
   ·unfold Aaj
    simp only
    generalize hC : cQ xs m = C at hm2 hs
    have hrow : (C ++ xs.drop C.length).length = xs.length := mix_len C xs (by omega)
    have e1 : std.ar .sub .i64 ((m - k : Nat) : Int) 1 = ((m - k - 1 : Nat) : Int) := prevI (by omega) (by unfold big63; omega)
    rw [mk k (by omega), show std.cmp .lss ((m - k : Nat) : Int) ((xs.length - k : Nat) : Int) = true by rw [s_lss]; exact decide_eq_true (by omega), Aag, e1, pk, pk, Aad, hrow, show k + (m - k) = m by omega, show k + (m - k - 1) = m - 1 by omega, p0]
    rw [ck_t (inbT (by omega)), ck_t (inbT (by omega)), ck_t (inbT (by omega)), ck_t (inbT (by omega)), Aax (t := TyS.inhibit) ((A5t C xs (by omega)).trans hz), Aax (t := TyS.inhibit) ((A5t C xs (by omega)).trans hy), Avh z y b (hP z (Adq hz)) (hP y (Adq hy)), bd_some]
    simp only
    rw [show std.ar .add .i64 ((m - k : Nat) : Int) 1 = ((m + 1 - k : Nat) : Int) by rw [s_add, wrap_succ (n := 1001) (by omega) (by unfold big63; omega)]; congr 1; omega]
    rw [hs]
    by_cases he : Aa0 z = Aa0 y
    ·rw [decide_eq_true he, if_pos he, List.append_nil, s_not, Bool.not_true, br_false]
    ·rw [decide_eq_false he, if_neg he, s_not, Bool.not_false, Aag, ck_t (inbT (by omega)), ck_t (inbT (by omega)), s_set, Int.toNat_natCast, A6a C xs z (by omega), s_add, wrap_succ (n := 1001) (by omega) (by unfold big63; omega), List.length_append, List.length_singleton]
   ·rw [hs, List.length_append]
    split <;> simp <;> omega)
  (fun s ⟨hm1, hm2⟩ => by
   unfold Aaj
   simp only
   have hrow : (cQ xs xs.length ++ xs.drop (cQ xs xs.length).length).length = xs.length := mix_len _ xs hl
   rw [mk k (by omega), show std.cmp .lss ((xs.length - k : Nat) : Int) ((xs.length - k : Nat) : Int) = false from lssF, br_false, mk _ hl, p0, Aad, hrow, show std.pl ((cQ xs xs.length).length : Int) ((xs.length - (cQ xs xs.length).length : Nat) : Int) = (xs.length : Int) by rw [s_pl]; omega]
   rw [ck_t (show std.subOk ((cQ xs xs.length).length : Int) (xs.length : Int) (xs.length : Int) from ⟨by omega, by omega, by omega⟩), ck_t (show std.subOk ((cQ xs xs.length).length : Int) (xs.length : Int) (xs.length : Int) from ⟨by omega, by omega, by omega⟩), ck_t (show std.subOk 0 ((cQ xs xs.length).length : Int) (xs.length : Int) from ⟨by omega, by omega, by omega⟩)]
   rw [show std.pl 0 0 = 0 from rfl, show std.mi ((cQ xs xs.length).length : Int) 0 = ((cQ xs xs.length).length : Int) by rw [s_mi]; omega]
   rfl) (k + 1) (by omega) () ⟨Nat.le_refl _, by rw [hc, List.length_take]; omega⟩
 have hstart : (((cQ xs (k + 1)).length : Int), ((k + 1 - k : Nat) : Int), b, cQ xs (k + 1) ++ xs.drop (cQ xs (k + 1)).length) = ((k : Int), 1, b, xs) := by
  rw [hc]
  have : (xs.take k).length = k := by rw [List.length_take]; omega
  rw [this, List.take_append_drop, show k + 1 - k = 1 by omega]
  rfl
 rw [hstart] at this
 have key : ∀ (R : (Int × Bool) ⊕ (Int × Int × List Inhibit × Bool)) (l : List Inhibit) (i : Nat), runL (fun _ _ (_ : Unit) => (.inl () : Unit ⊕ ((Int × Bool) ⊕ (Int × Int × List Inhibit × Bool)))) (fun _ => R) i l () = R := by
  intro R l
  induction l with
  | nil => intro i; rfl
  | cons x xs ih => intro i; exact ih (i + 1)
 rw [key] at this
 refine ⟨_, this, ?_, ?_⟩
 ·rw [s_fill, Int.toNat_natCast, List.append_assoc, List.take_append_of_le_length (by rw [List.length_take, mix_len _ xs hl]; omega), List.take_take, Nat.min_self, List.take_append_of_le_length (Nat.le_refl _), List.take_length]
 ·rw [s_fill, Int.toNat_natCast, Int.toNat_natCast, List.length_append, List.length_append, List.length_take, List.length_drop, List.length_replicate, mix_len _ xs hl]
  omega
theorem Ape (b : Bool) (xs : List Inhibit) (hn : xs.length ≤ 1000) (hP : ∀ x ∈ xs, InhOK x) : ∀ (d i : Nat), 1 ≤ i → i + d = xs.length → cQ xs i = xs.take i →
  ∃ row, Loop (Aaw std xs (xs.length : Int)) ((i : Int), b) = some (0, ((cQ xs xs.length).length : Int), row, b) ∧ row.take (cQ xs xs.length).length = cQ xs xs.length ∧ row.length = xs.length
 | 0, i, h1, hi, hc => by
  obtain rfl : i = xs.length := by omega
  rw [hc, List.take_length]
  refine ⟨xs, ?_, List.take_length, rfl⟩
  rw [Acn]
  unfold Aaw
  simp only
  rw [lssF, br_false]
  rfl
 | d + 1, i, h1, hi, hc => by
  have hlt : i < xs.length := by omega
  obtain ⟨z, hz⟩ := Ami hlt
  obtain ⟨y, hy⟩ := Ami (xs := xs) (i := i - 1) (by omega)
  have hs := A35 h1 hy hz
  have p0 : ∀ j : Nat, std.pl 0 (j : Int) = (j : Int) := fun j => by rw [s_pl]; omega
  have hB : Aaw std xs (xs.length : Int) ((i : Int), b) = br (decide (Aa0 z = Aa0 y)) (Loop (Aaj std (xs.length : Int) (i : Int)) ((i : Int), 1, b, xs)) (some (.inl (((i + 1 : Nat) : Int), b))) := by
   unfold Aaw
   simp only
   rw [lssT hlt, Aag, prevI h1 (by unfold big63; omega), p0, p0, Aad, ck_t (inbT hlt), ck_t (inbT hlt), ck_t (inbT (by omega)), ck_t (inbT (by omega)), Aax (t := TyS.inhibit) hz, Aax (t := TyS.inhibit) hy, Avh z y b (hP z (Adq hz)) (hP y (Adq hy)), bd_some]
   simp only
   rw [ck_t (show std.subOk (i : Int) (xs.length : Int) (xs.length : Int) from ⟨by omega, by omega, by omega⟩), s_add, wrap_succ (n := 1001) (by omega) (by unfold big63; omega)]
  rw [Acn, hB]
  by_cases he : Aa0 z = Aa0 y
  ·rw [decide_eq_true he, Aag]
   obtain ⟨row, h2, h3, h4⟩ := Aw3 b xs hn hP i h1 hlt (by rw [hs, if_pos he, List.append_nil, hc])
   exact ⟨row, by rw [h2], h3, h4⟩
  ·rw [decide_eq_false he, br_false]
   exact Ape b xs hn hP d (i + 1) (by omega) (by omega) (by rw [hs, if_neg he, hc, take_snoc hz])
theorem Ata (b : Bool) (xs : List Inhibit) (hn : xs.length ≤ 1000) (hP : ∀ x ∈ xs, InhOK x) :
  ∃ row, Aa6 std xs (xs.length : Int) b = some (0, ((Ae8 Aa0 xs).length : Int), row, b) ∧ row.take (Ae8 Aa0 xs).length = Ae8 Aa0 xs ∧ row.length = xs.length := by
 have e : cQ xs xs.length = Ae8 Aa0 xs := by unfold cQ; rw [List.take_length]
 unfold Aa6
 rcases Nat.lt_or_ge xs.length 2 with h2 | h2
 ·rw [show std.cmp .lss (xs.length : Int) 2 = true by rw [s_lss]; exact decide_eq_true (by omega), Aag]
  have : Ae8 Aa0 xs = xs := by
   match xs, h2 with
   | [], _ => rfl
   | [x], _ => rfl
   | x :: y :: r, h2 => simp only [List.length_cons] at h2; omega
  rw [this]
  exact ⟨xs, rfl, List.take_length, rfl⟩
 ·rw [show std.cmp .lss (xs.length : Int) 2 = false by rw [s_lss]; exact decide_eq_false (by omega), br_false]
  have := Ape b xs hn hP (xs.length - 1) 1 (Nat.le_refl _) (by omega) (by
   match xs, h2 with
   | x :: r, h2 => rfl)
  rw [e] at this
  exact this
end Go.PL
namespace Go.PL
set_option linter.unusedSimpArgs false
set_option linter.unusedVariables false
set_option linter.unusedSectionVars false
open Tys (Ty U)
open Enc (sz enc dflt tb ofB toB)
open Dec (dec dok)
set_option maxRecDepth 100000
open Classical in
noncomputable def eqB {α : Type} (a b : α) : Bool := decide (a = b)
theorem Akr {α : Type} {a b : α} : eqB a b = true ↔ a = b := by unfold eqB; simp
theorem A6y {α : Type} {a b : α} (h : a ≠ b) : eqB a b = false := by
 cases hc : eqB a b with
 | false => rfl
 | true => exact absurd (Akr.1 hc) h
theorem A6b (a b : ByteArray) : decide (a = b) = eqB a b := by rw [Bool.eq_iff_iff, Akr]; simp
theorem An6 {α : Type} {a b : α} {c : Bool} (h : c = true ↔ a = b) : c = eqB a b := by rw [Bool.eq_iff_iff, Akr]; exact h
theorem A36 {α : Type} (ys : List α) : ∀ (xs : List α) (i : Nat), allI (fun i x => eqB (ys[i]?) (some x)) i xs = true ↔ ∀ j x, xs[j]? = some x → ys[i + j]? = some x
 | [], i => by simp [allI]
 | x :: xs, i => by
  simp only [allI, Bool.and_eq_true, Akr, A36 ys xs (i + 1)]
  constructor
  ·rintro ⟨h1, h2⟩ j y hy
   cases j with
   | zero => cases hy; exact h1
   | succ j => have := h2 j y (by simpa using hy); rwa [show i + 1 + j = i + (j + 1) by omega] at this
  ·intro h
   refine ⟨by simpa using h 0 x rfl, fun j y hy => ?_⟩
   have := h (j + 1) y (by simpa using hy)
   rwa [show i + (j + 1) = i + 1 + j by omega] at this
theorem A37 {α : Type} (xs ys : List α) (hl : xs.length = ys.length) : allI (fun i x => eqB (ys[i]?) (some x)) 0 xs = eqB xs ys := by
 refine An6 ?_
 rw [A36]
 constructor
 ·intro h
  apply List.ext_getElem?
  intro i
  rcases Nat.lt_or_ge i xs.length with hi | hi
  ·obtain ⟨x, hx⟩ := Ami hi
   have := h i x hx
   rw [Nat.zero_add] at this
   rw [hx, this]
  ·rw [List.getElem?_eq_none hi, List.getElem?_eq_none (by omega)]
 ·rintro rfl j x hx
  rw [Nat.zero_add]; exact hx
theorem A6c {S : Type} {t : Ty} {B : S → Option (S ⊕ Bool)} (enc : Int → S) (xs ys : List (U t)) (hl : xs.length = ys.length) (hb : xs.length ≤ big63) (fin : Bool) (step : Int → Option (S ⊕ Bool)) (out : Option Bool)
  (hB : ∀ i, B (enc i) = br (std.cmp .lss i (std.len t xs)) (ck (std.inb i (std.len t xs)) (ck (std.inb i (std.len t ys)) (step i))) (rt out))
  (hs : ∀ (i : Nat) (x y : U t), xs[i]? = some x → ys[i]? = some y → step i = some (if eqB x y = true then .inl (enc (std.ar .add .i64 i 1)) else .inr false)) (h2 : xs = ys → out = some fin) (h3 : ∃ v, out = some v) : Loop B (enc 0) = some (eqB xs ys && fin) := by
 rw [← A37 xs ys hl]
 refine Aj1 (t := t) (B := B) enc xs hb _ fin (fun i => ck (std.inb i (std.len t ys)) (step i)) out hB (fun i x hx hi => ?_) (fun ha => h2 ?_) (fun _ => h3)
 ·obtain ⟨y, hy⟩ := Ami (xs := ys) (i := i) (by omega)
  rw [ck_t (show std.inb (i : Int) (std.len t ys) by rw [Aad]; exact inbT (by omega)), hs i x y hx hy, hy]
  have : eqB (some y) (some x) = eqB x y := (An6 (by rw [Akr, Option.some.injEq]; exact ⟨fun h => h.symm, fun h => h.symm⟩)).symm
  rw [this]
 ·rw [A37 xs ys hl] at ha
  exact Akr.1 ha
theorem A6z {α : Type} {xs ys : List α} (h : xs.length ≠ ys.length) : eqB xs ys = false := A6y fun e => h (by rw [e])
theorem A6d {t : Ty} (xs ys : List (U t)) : std.cmp .neq (std.len t xs) (std.len t ys) = !decide (xs.length = ys.length) := by
 rw [s_neq, Aad, Aad, Bool.eq_iff_iff]
 simp only [bne_iff_ne, ne_eq, Bool.not_eq_true', decide_eq_false_iff_not]
 omega
theorem A5b (a b : ByteArray) : std.scmp .neq a b = !eqB a b := by rw [Aqk, ← A6b]; simp
theorem A38 (x y : Hours) : std.and (std.scmp .eql x.1 y.1) (std.and (std.cmp .eql x.2 y.2) (std.and (std.cmp .eql x.3 y.3) (std.and (std.cmp .eql x.4 y.4) true))) = eqB x y := by
 refine An6 ?_
 cases x; cases y
 simp
theorem A39 (x y : Label) : std.and (std.scmp .eql x.1 y.1) (std.and (std.scmp .eql x.2 y.2) true) = eqB x y := by
 refine An6 ?_
 cases x; cases y
 simp
theorem Aom {t : Ty} {B : Int → Option (Int ⊕ Bool)} (xs ys : List (U t)) (hb : xs.length ≤ big63) (step : Int → Option (Int ⊕ Bool))
  (hB : ∀ i, B i = br (std.cmp .lss i (std.len t xs)) (ck (std.inb i (std.len t xs)) (ck (std.inb i (std.len t ys)) (step i))) (rt (some true)))
  (hs : ∀ (i : Nat) (x y : U t), xs[i]? = some x → ys[i]? = some y → step i = some (if eqB x y = true then .inl (std.ar .add .i64 i 1) else .inr false)) :
  br (std.cmp .neq (std.len t xs) (std.len t ys)) (some false) (Loop B 0) = some (eqB xs ys) := by
 rw [A6d]
 by_cases hl : xs.length = ys.length
 ·rw [decide_eq_true hl, Bool.not_true, br_false, A6c (fun i => i) xs ys hl hb true step (some true) hB hs (fun _ => rfl) ⟨_, rfl⟩, Bool.and_true]
 ·rw [decide_eq_false hl, Bool.not_false, Aag, A6z hl]
theorem A0b (xs ys : List Rule) (q : Rule → Rule → Option Bool) (hq : ∀ x ∈ xs, ∀ y ∈ ys, q x y = some (eqB x y)) (hb : xs.length ≤ big63) : Aaz std xs ys q = some (eqB xs ys) := by
 unfold Aaz
 refine Aom (t := TyS.rule) (B := Ad0 std xs ys q) xs ys hb _ (fun i => rfl) (fun i x y hx hy => ?_)
 rw [Aax (t := TyS.rule) hx, Aax (t := TyS.rule) hy, hq x (Adq hx) y (Adq hy), bd_some]
 cases eqB x y <;> rfl
theorem Aum (xs ys : List Inhibit) (q : Inhibit → Inhibit → Option Bool) (hq : ∀ x ∈ xs, ∀ y ∈ ys, q x y = some (eqB x y)) (hb : xs.length ≤ big63) : Aae std xs ys q = some (eqB xs ys) := by
 unfold Aae
 refine Aom (t := TyS.inhibit) (B := Acd std xs ys q) xs ys hb _ (fun i => rfl) (fun i x y hx hy => ?_)
 rw [Aax (t := TyS.inhibit) hx, Aax (t := TyS.inhibit) hy, hq x (Adq hx) y (Adq hy), bd_some]
 cases eqB x y <;> rfl
theorem Ald (xs ys : List Matcher) (q : Matcher → Matcher → Option Bool) (hq : ∀ x ∈ xs, ∀ y ∈ ys, q x y = some (eqB x y)) (hb : xs.length ≤ big63) : Aaa std xs ys q = some (eqB xs ys) := by
 unfold Aaa
 refine Aom (t := TyS.matcher) (B := Acc std xs ys q) xs ys hb _ (fun i => rfl) (fun i x y hx hy => ?_)
 rw [Aax (t := TyS.matcher) hx, Aax (t := TyS.matcher) hy, hq x (Adq hx) y (Adq hy), bd_some]
 cases eqB x y <;> rfl
theorem Ayp (xs ys : List Route) (q : Route → Route → Option Bool) (hq : ∀ x ∈ xs, ∀ y ∈ ys, q x y = some (eqB x y)) (hb : xs.length ≤ big63) : Aap std xs ys q = some (eqB xs ys) := by
 unfold Aap
 refine Aom (t := TyS.route) (B := Ac9 std xs ys q) xs ys hb _ (fun i => rfl) (fun i x y hx hy => ?_)
 rw [Aax (t := TyS.route) hx, Aax (t := TyS.route) hy, hq x (Adq hx) y (Adq hy), bd_some]
 cases eqB x y <;> rfl
theorem Abz (xs ys : List ByteArray) (hb : xs.length ≤ big63) : Aal std xs ys = some (eqB xs ys) := by
 unfold Aal
 refine Aom (t := TyS.str) (B := Afr std xs ys) xs ys hb _ (fun i => rfl) (fun i x y hx hy => ?_)
 rw [Aax (t := TyS.str) hx, Aax (t := TyS.str) hy, show std.scmp .neq x y = !eqB x y from A5b x y]
 cases eqB x y <;> rfl
theorem Aks (xs ys : List Hours) (hb : xs.length ≤ big63) : Acu std xs ys = some (eqB xs ys) := by
 unfold Acu
 refine Aom (t := TyS.hours) (B := Agk std xs ys) xs ys hb _ (fun i => rfl) (fun i x y hx hy => ?_)
 rw [Aax (t := TyS.hours) hx, Aax (t := TyS.hours) hy]
 rw [A38 x y]
 cases eqB x y <;> rfl
theorem Akt (xs ys : List Label) (hb : xs.length ≤ big63) : Acs std xs ys = some (eqB xs ys) := by
 unfold Acs
 refine Aom (t := TyS.label) (B := Agj std xs ys) xs ys hb _ (fun i => rfl) (fun i x y hx hy => ?_)
 rw [Aax (t := TyS.label) hx, Aax (t := TyS.label) hy]
 rw [A39 x y]
 cases eqB x y <;> rfl
theorem Aw4 (x y : Rule) (h : x.Labels.length ≤ big63) : Aj0 std x y = some (eqB x y) := by
 unfold Aj0
 rw [Akt _ _ h, bd_some]
 refine congrArg some (An6 ?_)
 cases x; cases y
 simp only [s_land, s_seql, s_eql, Bool.and_eq_true, Akr, decide_eq_true_eq, beq_iff_eq, Rule.mk.injEq]
 constructor
 ·rintro ⟨⟨⟨⟨⟨⟨⟨h8, h1⟩, h2⟩, h3⟩, h4⟩, h5⟩, h6⟩, h7⟩; exact ⟨h1, h2, h3, h4, h5, h6, h7, h8⟩
 ·rintro ⟨h1, h2, h3, h4, h5, h6, h7, h8⟩; exact ⟨⟨⟨⟨⟨⟨⟨h8, h1⟩, h2⟩, h3⟩, h4⟩, h5⟩, h6⟩, h7⟩
theorem Aku (x y : Matcher) (h : x.Words.length ≤ big63) : Aem std x y = some (eqB x y) := by
 unfold Aem
 rw [gd_b (fun _ => Abz _ _ h), bd_some]
 refine congrArg some (An6 ?_)
 cases x; cases y
 simp only [s_land, s_seql, s_eql, Bool.and_eq_true, Akr, decide_eq_true_eq, beq_iff_eq, Matcher.mk.injEq]
 constructor
 ·rintro ⟨⟨h1, h2⟩, _, h3⟩; exact ⟨h1, h2, h3⟩
 ·rintro ⟨h1, h2, h3⟩; exact ⟨⟨h1, h2⟩, ⟨h1, h2⟩, h3⟩
theorem Aun (x y : Inhibit) (h : Ahr x) : Agu std x y = some (eqB x y) := by
 unfold Agu
 rw [Ald x.Source y.Source (fun y0 y1 => Aem std y0 y1) (fun a ha b _ => Aku a b (h.1.2 a ha).2.1) h.1.1, bd_some]
 rw [gd_b (fun _ => Ald x.Target y.Target (fun y0 y1 => Aem std y0 y1) (fun a ha b _ => Aku a b (h.2.1.2 a ha).2.1) h.2.1.1), bd_some]
 rw [gd_b (fun _ => Abz _ _ h.2.2.1), bd_some]
 refine congrArg some (An6 ?_)
 cases x; cases y
 simp only [s_land, Bool.and_eq_true, Akr, Inhibit.mk.injEq]
 constructor
 ·rintro ⟨⟨h1, _, h2⟩, _, h3⟩; exact ⟨h1, h2, h3⟩
 ·rintro ⟨h1, h2, h3⟩; exact ⟨⟨h1, h1, h2⟩, ⟨h1, h1, h2⟩, h3⟩
theorem Atb {r : Route} (h : RouteFit r) : fitS r.Receiver ∧ fitL Afz r.Match ∧ fitL fitS r.By ∧ fitL fitS r.Mute ∧ r.Routes.length ≤ big63 ∧ ∀ k ∈ r.Routes, RouteFit k := by
 cases h with
 | mk _ h1 h2 h3 h4 h5 h6 => exact ⟨h1, h2, h3, h4, h5, h6⟩
theorem Ams : ∀ (n : Nat) (x y : Route), SizeOf.sizeOf x < n → RouteFit x → Ah1 std n x y = some (eqB x y)
 | 0, x, y, h, _ => absurd h (Nat.not_lt_zero _)
 | n + 1, x, y, h, hf => by
  obtain ⟨_, h2, h3, h4, h5, h6⟩ := Atb hf
  rw [Ah1, Ajy]
  rw [gd_b (fun _ => Ald x.Match y.Match (fun y0 y1 => Aem std y0 y1) (fun a ha b _ => Aku a b (h2.2 a ha).2.1) h2.1), bd_some]
  rw [gd_b (fun _ => Abz _ _ h3.1), bd_some]
  rw [gd_b (fun _ => Abz _ _ h4.1), bd_some]
  rw [gd_b (fun _ => Ayp x.Routes y.Routes _ (fun a ha b _ => Ams n a b (by have := Ak0 ha; omega) (h6 a ha)) h5), bd_some]
  refine congrArg some (An6 ?_)
  rw [← Ayc x, ← Ayc y]
  simp only [s_land, s_seql, s_eql, s_eqb, Bool.and_eq_true, Akr, decide_eq_true_eq, beq_iff_eq, Route.mk.injEq]
  constructor
  ·rintro ⟨⟨⟨⟨⟨⟨⟨⟨h1, h4⟩, h5⟩, h6⟩, h8⟩, _, h2⟩, _, h3⟩, _, h7⟩, _, h9⟩; exact ⟨h1, h2, h3, h4, h5, h6, h7, h8, h9⟩
  ·rintro ⟨h1, h2, h3, h4, h5, h6, h7, h8, h9⟩; simp [h1, h2, h3, h4, h5, h6, h7, h8, h9]
theorem Auo (x y : Route) (h : RouteFit x) : Aoe std x y = some (eqB x y) := Ams _ x y (Nat.lt_succ_self _) h
end Go.PL
namespace Go.PL
set_option linter.unusedSimpArgs false
set_option linter.unusedVariables false
set_option linter.unusedSectionVars false
open Tys (Ty U)
open Enc (sz enc dflt tb ofB toB)
open Dec (dec dok)
set_option maxRecDepth 100000
def normS (c : Config) : Config := ⟨sortI (Ace (·.Name)) c.Rules, c.Route, sortI (Ace fun x => x) c.Receivers, Ae8 Aa0 (sortI (Ace Aa0) c.Inhibits), sortI (Ace (·.Name)) c.Hours⟩
def Ara : Config := ⟨[], ⟨⟨#[]⟩, [], [], 0, 0, 0, [], false, []⟩, [], [], []⟩
structure ConfigOK (c : Config) : Prop where
 rules : c.Rules.length ≤ 16 ∧ (∀ r ∈ c.Rules, ruleS r = true) ∧ (c.Rules.map (·.Name)).Nodup
 recv : c.Receivers.length ≤ 16 ∧ (∀ r ∈ c.Receivers, wordS r = true) ∧ c.Receivers.Nodup
 inh : c.Inhibits.length ≤ 8 ∧ ∀ x ∈ c.Inhibits, Aek x = true
 hours : c.Hours.length ≤ 8 ∧ (∀ h ∈ c.Hours, hourS h = true) ∧ (c.Hours.map (·.Name)).Nodup
 top : topS c = true
 names : A00 c = true
theorem Alz {c : Config} (h : Adb c = true) : ConfigOK c := by
 simp only [Adb, A3p, Ap3, Akn, A3q, Bool.and_eq_true, decide_eq_true_eq, List.all_eq_true] at h
 obtain ⟨⟨⟨⟨⟨⟨⟨h1, h2⟩, h3⟩, ⟨h4, h5⟩, h6⟩, h7, h8⟩, ⟨h9, h10⟩, h11⟩, h12⟩, h13⟩ := h
 exact ⟨⟨h1, h2, Ap6 h3⟩, ⟨h4, h5, Ap6 h6⟩, ⟨h7, h8⟩, ⟨h9, h10, Ap6 h11⟩, h12, h13⟩
theorem Ag9 (c : Config) (h : Acj c) : Ads std c = some (cond (Adb c) (normS c, 0) (Ara, 1)) := by
 unfold Ads
 rw [Ank c h, bd_some, s_not]
 cases hc : Adb c with
 | false => rfl
 | true =>
  have ok := Alz hc
  have hP : ∀ x ∈ c.Inhibits, InhOK x := fun x hx => ⟨h.2.2.2.1.2 x hx, ok.inh.2 x hx⟩
  have hP' : ∀ x ∈ sortI (Ace Aa0) c.Inhibits, InhOK x := fun x hx => hP x ((Aeo _ _).mem_iff.1 hx)
  have hl : (sortI (Ace Aa0) c.Inhibits).length = c.Inhibits.length := Adk _ _
  obtain ⟨row, h1, h2, h3⟩ := Ata false (sortI (Ace Aa0) c.Inhibits) (by rw [hl]; have := ok.inh.1; omega) hP'
  rw [hl] at h1
  have hcl := Anm Aa0 (sortI (Ace Aa0) c.Inhibits)
  rw [Bool.not_true, br_false, Az9 c.Rules (fun y0 => Ahm std y0) (fun r : Rule => r.Name) (fun _ => rfl) (by have := ok.rules.1; omega), bd_some, Awz c.Receivers (fun y0 => Afi std y0) (fun x : ByteArray => x) (fun _ => rfl) (by have := ok.recv.1; omega), bd_some, Ayj c.Hours (fun y0 => Agq std y0) (fun r : Hours => r.Name) (fun _ => rfl) (by have := ok.hours.1; omega), bd_some, Aul false c.Inhibits (by have := ok.inh.1; omega) hP, bd_some]
  simp only
  rw [h1, bd_some]
  simp only
  rw [s_pl, Int.zero_add, Aad, ck_t (show std.subOk 0 ((Ae8 Aa0 (sortI (Ace Aa0) c.Inhibits)).length : Int) (row.length : Int) from ⟨by omega, by omega, by omega⟩), A0u, Int.toNat_natCast]
  show some (Config.mk _ _ _ (List.drop 0 (row.take (Ae8 Aa0 (sortI (Ace Aa0) c.Inhibits)).length)) _, (0 : Int)) = some (normS c, 0)
  rw [List.drop_zero, h2]
  rfl
def dRule : Rule := Enc.dflt TyS.rule
def A60 : Hours := Enc.dflt TyS.hours
def dInh : Inhibit := Enc.dflt TyS.inhibit
def dStr : ByteArray := Enc.dflt TyS.str
def normR (c : Config) : Config := ⟨pick dRule c.Rules (placesTo (c.Rules.map (·.Name)) c.Rules.length), c.Route, pick dStr c.Receivers (placesTo c.Receivers c.Receivers.length), pick dInh c.Inhibits (placesTo (c.Inhibits.map Aa0) c.Inhibits.length), pick A60 c.Hours (placesTo (c.Hours.map (·.Name)) c.Hours.length)⟩
theorem Apf {α ε : Type} (e : ε) : ∀ (l : List α) (i : Nat), runL (fun _ _ (_ : Unit) => (.inl () : Unit ⊕ ε)) (fun _ => e) i l () = e
 | [], i => rfl
 | x :: xs, i => Apf e xs (i + 1)
end Go.PL
namespace Go.PL
set_option linter.unusedSimpArgs false
set_option linter.unusedVariables false
set_option linter.unusedSectionVars false
open Tys (Ty U)
open Enc (sz enc dflt tb ofB toB)
open Dec (dec dok)
set_option maxRecDepth 100000
theorem Arb {α : Type} {P : α → Prop} {xs ys : List α} (h : fitL P xs) (hl : ys.length ≤ xs.length) (hs : ∀ y ∈ ys, y ∈ xs) : fitL P ys := ⟨Nat.le_trans hl h.1, fun y hy => h.2 y (hs y hy)⟩
theorem Aga {α : Type} {P : α → Prop} : fitL P [] := ⟨by simp, fun x hx => by cases hx⟩
theorem Aqp (c : Config) : (normS c).Inhibits.length ≤ c.Inhibits.length := by
 have := Anm Aa0 (sortI (Ace Aa0) c.Inhibits)
 rw [Adk] at this
 exact this
theorem Aqq {c : Config} {x : Inhibit} (h : x ∈ (normS c).Inhibits) : x ∈ c.Inhibits := (Ayn Aa0 c.Inhibits).sub x h
theorem Apg {c : Config} (h : Acj c) : Acj (normS c) :=
 ⟨Arb h.1 (Nat.le_of_eq (Adk _ _)) fun y hy => (Aeo _ _).mem_iff.1 hy, h.2.1, Arb h.2.2.1 (Nat.le_of_eq (Adk _ _)) fun y hy => (Aeo _ _).mem_iff.1 hy,
  Arb h.2.2.2.1 (Aqp c) fun y hy => Aqq hy, Arb h.2.2.2.2 (Nat.le_of_eq (Adk _ _)) fun y hy => (Aeo _ _).mem_iff.1 hy⟩
theorem A5c : Acj Ara := ⟨Aga, .mk _ (by show (0 : Nat) ≤ _; omega) Aga Aga Aga (by simp [Ara]) (fun k hk => by cases hk), Aga, Aga, Aga⟩
def normC (c : Config) : Config := cond (Adb c) (normS c) Ara
def normE (c : Config) : Int := cond (Adb c) 0 1
theorem Al0 (c : Config) (h : Acj c) : Ads std c = some (normC c, normE c) := by
 rw [Ag9 c h]
 unfold normC normE
 cases Adb c <;> rfl
theorem A4a {c : Config} (h : Acj c) : Acj (normC c) := by
 unfold normC
 cases Adb c
 ·exact A5c
 ·exact Apg h
theorem A06 (c : Config) : std.cmp .eql (normE c) 0 = Adb c := by
 unfold normE
 cases Adb c <;> rfl
theorem Ayq (x y : Config) : (((eqB x.1 y.1 && eqB x.3 y.3) && eqB x.5 y.5) && eqB x.4 y.4 && eqB x.2 y.2) = eqB x y := by
 refine An6 ?_
 cases x; cases y
 simp only [Bool.and_eq_true, Akr, Config.mk.injEq]
 constructor
 ·rintro ⟨⟨⟨⟨h1, h2⟩, h3⟩, h4⟩, h5⟩; exact ⟨h1, h5, h2, h4, h3⟩
 ·rintro ⟨h1, h5, h2, h4, h3⟩; exact ⟨⟨⟨⟨h1, h2⟩, h3⟩, h4⟩, h5⟩
theorem Aup (a b : Config) (ha : Acj a) (hb : Acj b) : Akh std a b = some (Adb a && Adb b && eqB (normC a) (normC b)) := by
 unfold Akh
 rw [Al0 a ha, bd_some, Al0 b hb, bd_some]
 simp only
 have hf := A4a ha
 generalize normC a = x at hf
 generalize normC b = y
 rw [A06, A06]
 rw [A0b x.Rules y.Rules (fun y0 y1 => Aj0 std y0 y1) (fun r hr s _ => Aw4 r s (hf.1.2 r hr).2.2.1) hf.1.1, bd_some]
 rw [gd_b (fun _ => Abz x.Receivers y.Receivers hf.2.2.1.1), bd_some]
 rw [gd_b (fun _ => Aks x.Hours y.Hours hf.2.2.2.2.1), bd_some]
 rw [gd_b (fun _ => Aum x.Inhibits y.Inhibits (fun y0 y1 => Agu std y0 y1) (fun r hr s _ => Aun r s (hf.2.2.2.1.2 r hr)) hf.2.2.2.1.1), bd_some]
 rw [gd_b (fun _ => Auo x.Route y.Route hf.2.1), bd_some, ← Ayq]
 simp only [s_land]
 cases Adb a <;> cases Adb b <;> cases eqB x.1 y.1 <;> cases eqB x.3 y.3 <;> cases eqB x.5 y.5 <;> cases eqB x.4 y.4 <;> cases eqB x.2 y.2 <;> rfl
theorem Ayr : ∀ (n : Nat) (r : Route) (m : Int), SizeOf.sizeOf r < n → RouteFit r → ∃ v, Abh std n r m = some v
 | 0, r, m, h, _ => absurd h (Nat.not_lt_zero _)
 | n + 1, r, m, h, hf => by
  obtain ⟨_, _, _, _, h5, h6⟩ := Atb hf
  rw [Abh, Ad4]
  refine ⟨_, Ah3 (B := Ac0 std (Abh std n) r m) (fun i (s : Int) => (s, (i : Int))) r.Routes (fun _ k s => if decide (m < s) = true then (.inr s : Int ⊕ Int) else .inl (std.ar .add .i64 s ((Abh std n k (std.ar .sub .i64 m s)).getD 0))) (fun s => s) (fun i k s hk hi => ?_) (fun s => ?_) 1⟩
  ·unfold Ac0
   simp only
   obtain ⟨v, hv⟩ := Ayr n k (std.ar .sub .i64 m s) (by have := Ak0 (Adq hk); omega) (h6 k (Adq hk))
   rw [Aad, lssT hi, Aag, ck_t (inbT hi), Aax (t := TyS.route) hk, s_gtr, hv, bd_some, s_add (a := (i : Int)), wrap_succ hi h5]
   cases decide (m < s) <;> rfl
  ·unfold Ac0
   simp only
   rw [Aad, lssF, br_false]
   rfl
structure Small (c : Config) : Prop where
 rules : c.Rules.length ≤ 18
 recv : c.Receivers.length ≤ 18
 inh : c.Inhibits.length ≤ 10
 hours : c.Hours.length ≤ 10
theorem A07 (c : Config) (h : Acj c) : ∃ b, Acp std c = some b ∧ (b = false → Small c) := by
 unfold Acp
 obtain ⟨v, hv⟩ := Ayr (SizeOf.sizeOf c.Route + 1) c.Route 40 (Nat.lt_succ_self _) h.2.1
 unfold Af1
 rw [hv, bd_some]
 refine ⟨_, rfl, fun hb => ?_⟩
 simp only [s_lor, s_gtr, Bool.or_eq_false_iff, decide_eq_false_iff_not, s_len] at hb
 exact ⟨by omega, by omega, by omega, by omega⟩
def opsT : ByteArray := ByteArray.mk (Array.mk [111, 112, 115])
def devT : ByteArray := ByteArray.mk (Array.mk [100, 101, 118])
def Aph : Config := ⟨[], ⟨opsT, [], [], 0, 1, 1, [], false, []⟩, [opsT, devT], [], []⟩
theorem size_le {s : ByteArray} (n : Nat) (h : s.size = n) (hn : n ≤ 1000) : fitS s := by unfold fitS big63; omega
theorem Ays : Acj Aph := ⟨Aga, .mk _ (size_le 3 rfl (by omega)) Aga Aga Aga (by simp [Aph]) (fun k hk => by cases hk), ⟨by show 2 ≤ big63; unfold big63; omega, fun x hx => by
 rcases List.mem_cons.1 hx with rfl | hx
 ·exact size_le 3 rfl (by omega)
 ·rw [List.mem_singleton.1 hx]; exact size_le 3 rfl (by omega)⟩, Aga, Aga⟩
theorem A5d : Adb Aph = true := by kernel_rfl
theorem Avi : normS Aph = ⟨[], Aph.Route, [devT, opsT], [], []⟩ := by kernel_rfl
theorem A4b : Adb ⟨[], Aph.Route, [devT, opsT], [], []⟩ = true := by kernel_rfl
theorem Aw5 : Abt std = some true := by
 unfold Abt
 have h1 := Ag9 Aph Ays
 have h2 := Ank (normS Aph) (Apg Ays)
 rw [A5d, Avi] at h1
 rw [Avi, A4b] at h2
 have h1' : Ads std (Config.mk [] (Route.mk (ByteArray.mk (Array.mk [111, 112, 115])) [] [] 0 1 1 [] false []) [ByteArray.mk (Array.mk [111, 112, 115]), ByteArray.mk (Array.mk [100, 101, 118])] [] []) = some (⟨[], Aph.Route, [devT, opsT], [], []⟩, 0) := h1
 rw [h1', bd_some]
 simp only
 rw [h2]
 refine (ck_t (vc_of fun _ => ?_)).trans ?_
 ·show (0 : Int) ≤ 0 ∧ (0 : Int) < 2
  omega
 ·have e : std.scmp .eql (std.get TyS.str [devT, opsT] 0) (ByteArray.mk (Array.mk [100, 101, 118])) = true := by rw [s_seql]; exact decide_eq_true rfl
  rw [e]
  rfl
end Go.PL
namespace Go.PL
set_option linter.unusedSimpArgs false
set_option linter.unusedVariables false
set_option linter.unusedSectionVars false
open Tys (Ty U)
open Enc (sz enc dflt tb ofB toB)
open Dec (dec dok)
set_option maxRecDepth 100000
theorem A4c {c : Config} (h : Adb c = true) : normC c = normS c := by unfold normC; rw [h]; rfl
theorem Aon {c : Config} (h : Adb c = true) : ∀ i ∈ (normS c).Inhibits, Aek i = true := fun i hi => (Alz h).inh.2 i (Aqq hi)
noncomputable def woS (R : ByteArray) (xs : List ByteArray) : List ByteArray := xs.filter fun x => !eqB x R
end Go.PL
