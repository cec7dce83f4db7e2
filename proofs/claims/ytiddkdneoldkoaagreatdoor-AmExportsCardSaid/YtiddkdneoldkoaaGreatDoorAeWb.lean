/- Texts of this claim: plain laws of what the program's functions compute. No condition of their own. -/
import Derived.Test.YtiddkdneoldkoaaGreatDoorAeWa
namespace Go.PL
set_option linter.unusedSimpArgs false
set_option linter.unusedVariables false
set_option linter.unusedSectionVars false
open Tys (Ty U)
open Enc (sz enc dflt tb ofB toB)
open Dec (dec dok)
set_option maxRecDepth 100000
def numL (n : Nat) : List UInt8 := if h : n < 128 then [UInt8.ofNat n] else UInt8.ofNat (n % 128 + 128) :: numL (n / 128)
 termination_by n
 decreasing_by omega
def numS (n : Nat) : ByteArray := ⟨(numL n).toArray⟩
theorem A5n (l : List UInt8) : std.b2s l = ⟨l.toArray⟩ := by
 show (⟨(l.map Enc.toB).toArray⟩ : ByteArray) = _
 rw [show l.map Enc.toB = l from List.map_id _]
theorem u8_at {n : Nat} (h : n < 256) : std.u8ok (std.conv .u8 (n : Int)) ∧ std.u8 (std.conv .u8 (n : Int)) = UInt8.ofNat n := by
 have e : std.conv .u8 (n : Int) = (n : Int) := by rw [Ba5, w8 (by omega)]
 rw [e]
 exact ⟨⟨by omega, by omega⟩, by rw [s_u8, Int.toNat_natCast]⟩
theorem Bda (n : Nat) : std.ar .rem .i64 (n : Int) 128 = ((n % 128 : Nat) : Int) := by rw [s_rem, tmod0 (by omega)]; rfl
theorem Bdb (n : Nat) (h : n ≤ big63) : std.ar .quo .i64 (n : Int) 128 = ((n / 128 : Nat) : Int) := by
 unfold big63 at h
 rw [s_quo, tdiv0 (by omega), w64 (by omega)]; rfl
theorem Aue : ∀ (n : Nat) (l : List UInt8), l.length + n ≤ 100000000000000 → Loop (Ah0 std) ((n : Int), l) = some (⟨(l ++ numL n).toArray⟩, 0)
 | n, l, h => by
  rw [Adq]
  unfold numL
  by_cases hn : n < 128
  ·rw [dif_pos hn]
   have hB : Ah0 std ((n : Int), l) = some (.inr (⟨(l ++ [UInt8.ofNat n]).toArray⟩, 0)) := by
    unfold Ah0
    simp only
    obtain ⟨h1, h2⟩ := u8_at (n := n) (by omega)
    rw [show std.cmp .geq (n : Int) 128 = false by rw [s_geq]; exact decide_eq_false (by omega), br_false, ck_t h1, h2, ck_t (show std.appOk TyS.byte 1 l [UInt8.ofNat n] from ⟨by simp; omega, by simp; omega⟩)]
    rw [s_app, A5n]
    rfl
   rw [hB]
  ·rw [dif_neg hn]
   have hB : Ah0 std ((n : Int), l) = some (.inl (((n / 128 : Nat) : Int), l ++ [UInt8.ofNat (n % 128 + 128)])) := by
    unfold Ah0
    simp only
    have e : std.ar .add .i64 (std.ar .rem .i64 (n : Int) 128) 128 = ((n % 128 + 128 : Nat) : Int) := by
     rw [Bda, s_add, w64 (by omega)]; rfl
    obtain ⟨h1, h2⟩ := u8_at (n := n % 128 + 128) (by omega)
    rw [show std.cmp .geq (n : Int) 128 = true by rw [s_geq]; exact decide_eq_true (by omega), br_true, e, ck_t h1, h2, ck_t (show std.appOk TyS.byte 1 l [UInt8.ofNat (n % 128 + 128)] from ⟨by simp; omega, by simp; omega⟩), Bdb n (by unfold big63; omega)]
    rfl
   rw [hB]
   have := Aue (n / 128) (l ++ [UInt8.ofNat (n % 128 + 128)]) (by simp; omega)
   simp only
   rw [this, List.append_assoc]
   rfl
 termination_by n => n
 decreasing_by omega
theorem Azg (n : Nat) (h : n ≤ 10000000000000) : Ank std (n : Int) = some (numS n, 0) := by
 unfold Ank
 have e : std.or (std.cmp .lss (n : Int) 0) (std.cmp .geq (n : Int) 4611686018427387904) = false := by
  rw [s_lor, s_lss, s_geq, decide_eq_false (by omega), decide_eq_false (by omega)]; rfl
 rw [e, br_false, Aue n [] (by simp; omega)]
 rfl
theorem Aw8 : ∀ (n : Nat) (l : List UInt8), l.length + n ≤ 100000000000000 → Loop (Aca std) ((n : Int), l) = some ⟨(l ++ numL n).toArray⟩
 | n, l, h => by
  rw [Adq]
  unfold numL
  by_cases hn : n < 128
  ·rw [dif_pos hn]
   have hB : Aca std ((n : Int), l) = some (.inr ⟨(l ++ [UInt8.ofNat n]).toArray⟩) := by
    unfold Aca
    simp only
    obtain ⟨h1, h2⟩ := u8_at (n := n) (by omega)
    rw [show std.cmp .gtr (n : Int) 127 = false by rw [s_gtr]; exact decide_eq_false (by omega), br_false, ck_t h1, h2, ck_t (show std.appOk TyS.byte 1 l [UInt8.ofNat n] from ⟨by simp; omega, by simp; omega⟩)]
    rw [s_app, A5n]
    rfl
   rw [hB]
  ·rw [dif_neg hn]
   have hB : Aca std ((n : Int), l) = some (.inl (((n / 128 : Nat) : Int), l ++ [UInt8.ofNat (n % 128 + 128)])) := by
    unfold Aca
    simp only
    have e : std.ar .add .i64 128 (std.ar .rem .i64 (n : Int) 128) = ((n % 128 + 128 : Nat) : Int) := by
     rw [Bda, s_add, w64 (by omega)]; omega
    obtain ⟨h1, h2⟩ := u8_at (n := n % 128 + 128) (by omega)
    rw [show std.cmp .gtr (n : Int) 127 = true by rw [s_gtr]; exact decide_eq_true (by omega), br_true, e, ck_t h1, h2, ck_t (show std.appOk TyS.byte 1 l [UInt8.ofNat (n % 128 + 128)] from ⟨by simp; omega, by simp; omega⟩), Bdb n (by unfold big63; omega)]
    rfl
   rw [hB]
   have := Aw8 (n / 128) (l ++ [UInt8.ofNat (n % 128 + 128)]) (by simp; omega)
   simp only
   rw [this, List.append_assoc]
   rfl
 termination_by n => n
 decreasing_by omega
theorem A3h (n : Nat) (h : n ≤ 10000000000000) : Ad7 std (n : Int) = some (numS n) := by
 unfold Ad7
 rw [Aw8 n [] (by simp; omega)]
 rfl
end Go.PL
namespace Go.PL
set_option linter.unusedSimpArgs false
set_option linter.unusedVariables false
set_option linter.unusedSectionVars false
open Tys (Ty U)
open Enc (sz enc dflt tb ofB toB)
open Dec (dec dok)
set_option maxRecDepth 100000
def bindL (l : List ByteArray) : List UInt8 := (l.map fun p => numL p.size ++ bytes p).flatten
def bindS (l : List ByteArray) : ByteArray := ⟨(bindL l).toArray⟩
theorem mkb (s : ByteArray) : (⟨(bytes s).toArray⟩ : ByteArray) = s := by cases s; rfl
theorem Aaq (l : List UInt8) : bytes ⟨l.toArray⟩ = l := by simp
theorem Abm (a b : ByteArray) : bytes (a ++ b) = bytes a ++ bytes b := by
 show (a ++ b).data.toList = _
 rw [ByteArray.data_append, Array.toList_append]
theorem Azh : ∀ n : Nat, n ≤ 100000000000 → (numL n).length ≤ 10 + n / 128
 | n, h => by
  unfold numL
  by_cases hn : n < 128
  ·rw [dif_pos hn, List.length_singleton]; omega
  ·rw [dif_neg hn]
   have := Azh (n / 128) (by omega)
   simp only [List.length_cons]
   omega
 termination_by n => n
 decreasing_by omega
theorem A5o (l : List UInt8) : Ad0 std l = some l := by
 unfold Ad0 Aem Aen Atd
 simp only [bd_some]
 exact ck_t True.intro
theorem write_eq (l : List UInt8) (s : ByteArray) (h : l.length + s.size ≤ 100000000000000) : Aah std l s = some (l ++ bytes s) := by
 unfold Aah
 rw [A5o, bd_some, Avj, ck_t (show std.appOk TyS.byte 1 l (bytes s) from ⟨by rw [Aae]; omega, by rw [Aae]; omega⟩)]
 rfl
theorem A5p {l : List ByteArray} {i : Nat} {p : ByteArray} (h : l[i]? = some p) : bindL (l.take (i + 1)) = bindL (l.take i) ++ (numL p.size ++ bytes p) := by
 unfold bindL
 exact Al9 (fun p : ByteArray => numL p.size ++ bytes p) h
theorem Ax5 : ∀ (l : List ByteArray) (m : Nat), m ≤ 100000000000 → (∀ p ∈ l, p.size ≤ m) → (bindL l).length ≤ l.length * (10 + 2 * m)
 | [], m, _, _ => by simp [bindL]
 | p :: l, m, hm, h => by
  have h1 := Ax5 l m hm fun p hp => h p (List.mem_cons_of_mem _ hp)
  have h2 := h p (List.mem_cons_self ..)
  have h3 := Azh p.size (by omega)
  simp only [bindL, List.map_cons, List.flatten_cons, List.length_append, List.length_cons, Aae, Nat.succ_mul] at h1 ⊢
  omega
def Asm (l : List ByteArray) : Bool := decide (l.length ≤ 512) && l.all fun p => decide (p.size ≤ 8192)
theorem A3i (l : List ByteArray) (h : Asm l = true) : Aq8 std l = some (bindS l, 0) := by
 simp only [Asm, Bool.and_eq_true, decide_eq_true_eq, List.all_eq_true] at h
 obtain ⟨hl, hp⟩ := h
 unfold Aq8
 rw [show std.cmp .gtr (std.len TyS.str l) 512 = false by rw [show std.cmp .gtr (std.len TyS.str l) 512 = !decide (l.length ≤ 512) from Awq (t := TyS.str) l 512, decide_eq_true hl]; rfl, br_false]
 have hbl := Ax5 l 8192 (by omega) hp
 have := Ach (B := Aoo std l) (fun i (_ : Unit) => ((i : Int), bindL (l.take i))) l (fun _ _ (_ : Unit) => (.inl () : Unit ⊕ (ByteArray × Int))) (fun _ => (bindS l, 0)) (fun i p u hx hi => by
  have hps := hp p (Abv hx)
  have htl := Ax5 (l.take i) 8192 (by omega) fun q hq => hp q (List.mem_of_mem_take hq)
  have h10 := Azh p.size (by omega)
  have hti : (l.take i).length ≤ 512 := by rw [List.length_take]; omega
  have hmul : (l.take i).length * (10 + 2 * 8192) ≤ 512 * (10 + 2 * 8192) := Nat.mul_le_mul_right _ hti
  unfold Aoo
  simp only
  rw [Aab, lssT hi, br_true, ck_t (inbT hi), Aai (t := TyS.str) hx, s_slen, show std.cmp .gtr (p.size : Int) 8192 = false by rw [s_gtr]; exact decide_eq_false (by omega), br_false, Azg p.size (by omega), bd_some]
  have hn : (numS p.size).size = (numL p.size).length := by show (numL p.size).toArray.size = _; simp
  rw [write_eq _ _ (by rw [hn]; omega), bd_some, write_eq _ _ (by rw [List.length_append, show (bytes (numS p.size)) = numL p.size from Aaq _]; omega), bd_some, s_add, wrap_succ hi (by unfold big63; omega), A5p hx, show (bytes (numS p.size)) = numL p.size from Aaq _, List.append_assoc]) (fun _ => by
  unfold Aoo
  simp only
  rw [Aab, lssF, br_false, List.take_length]
  have hmul : l.length * (10 + 2 * 8192) ≤ 512 * (10 + 2 * 8192) := Nat.mul_le_mul_right _ hl
  unfold strings_Builder_String
  rw [ck_t (by omega), bd_some]
  rfl) ()
 refine this.trans (congrArg some ?_)
 have key : ∀ (xs : List ByteArray) (i : Nat), runL (fun _ _ (_ : Unit) => (.inl () : Unit ⊕ (ByteArray × Int))) (fun _ => (bindS l, 0)) i xs () = (bindS l, 0) := by
  intro xs
  induction xs with
  | nil => intro i; rfl
  | cons x xs ih => intro i; exact ih (i + 1)
 exact key l 0
theorem ba_ext {a b : ByteArray} (h : bytes a = bytes b) : a = b := by rw [← mkb a, ← mkb b, h]
theorem Acb (s : ByteArray) : s.size = (bytes s).length := (Aae s).symm
theorem Amt (l : List ByteArray) : bytes (bindS l) = bindL l := Aaq _
theorem A1b (n : Nat) : bytes (numS n) = numL n := Aaq _
theorem Au2 (l : List ByteArray) (h : Asm l = true) : Ac0 std l = some (bindS l) := by
 simp only [Asm, Bool.and_eq_true, decide_eq_true_eq, List.all_eq_true] at h
 obtain ⟨hl, hp⟩ := h
 unfold Ac0
 have := Ach (B := Af0 std l) (fun i (_ : Unit) => (bindS (l.take i), (i : Int))) l (fun _ _ (_ : Unit) => (.inl () : Unit ⊕ ByteArray)) (fun _ => bindS l) (fun i p u hx hi => by
  have hps := hp p (Abv hx)
  have htl := Ax5 (l.take i) 8192 (by omega) fun q hq => hp q (List.mem_of_mem_take hq)
  have h10 := Azh p.size (by omega)
  have hti : (l.take i).length ≤ 512 := by rw [List.length_take]; omega
  have hmul : (l.take i).length * (10 + 2 * 8192) ≤ 512 * (10 + 2 * 8192) := Nat.mul_le_mul_right _ hti
  have s1 : (bindS (l.take i)).size = (bindL (l.take i)).length := by rw [Acb, Amt]
  have s2 : (numS p.size).size = (numL p.size).length := by rw [Acb, A1b]
  unfold Af0
  simp only
  rw [Aab, lssT hi, br_true, ck_t (inbT hi), Aai (t := TyS.str) hx, s_slen, A3h p.size (by omega), bd_some]
  have e : std.cat (std.cat (bindS (l.take i)) (numS p.size)) p = bindS (l.take (i + 1)) := by
   rw [s_cat, s_cat]
   apply ba_ext
   rw [Abm, Abm, Amt, Amt, A1b, A5p hx, List.append_assoc]
  have s3 : (bindS (l.take i) ++ numS p.size).size = (bindS (l.take i)).size + (numS p.size).size := ByteArray.size_append
  rw [ck_t (show std.catOk (bindS (l.take i)) (numS p.size) by rw [Aa5]; omega), ck_t (show std.catOk (std.cat (bindS (l.take i)) (numS p.size)) p by rw [Aa5, s_cat, s3]; omega), e, s_add, wrap_succ hi (by unfold big63; omega)]) (fun _ => by
  unfold Af0
  simp only
  rw [Aab, lssF, br_false, List.take_length]
  rfl) ()
 refine this.trans (congrArg some ?_)
 have key : ∀ (xs : List ByteArray) (i : Nat), runL (fun _ _ (_ : Unit) => (.inl () : Unit ⊕ ByteArray)) (fun _ => bindS l) i xs () = bindS l := by
  intro xs
  induction xs with
  | nil => intro i; rfl
  | cons x xs ih => intro i; exact ih (i + 1)
 exact key l 0
theorem config_bind_eq (b : Bool) (l : List ByteArray) (h : Asm l = true) : Alc std b l = some (bindS l, b) := by
 unfold Alc
 rw [A3i l h, bd_some]
 cases b <;> rfl
end Go.PL
namespace Go.PL
set_option linter.unusedSimpArgs false
set_option linter.unusedVariables false
set_option linter.unusedSectionVars false
open Tys (Ty U)
open Enc (sz enc dflt tb ofB toB)
open Dec (dec dok)
set_option maxRecDepth 100000
def signL (n : Int) : List UInt8 := if n = 1 then [61] else if n = 2 then [33, 61] else if n = 3 then [61, 126] else if n = 4 then [33, 126] else []
def barsL : List ByteArray → List UInt8
 | [] => []
 | w :: r => bytes w ++ (r.map fun x => 124 :: bytes x).flatten
def textL (m : Matcher) : List UInt8 := bytes m.Name ++ signL m.How ++ [34] ++ barsL m.Words ++ [34]
def textS (m : Matcher) : ByteArray := ⟨(textL m).toArray⟩
theorem Amu (m : Matcher) : bytes (textS m) = textL m := Aaq _
theorem Bbn (ws : List ByteArray) : Lib.join (ws.map (·.data.toList)) [124] = barsL ws := by
 cases ws with
 | nil => rfl
 | cons w r =>
  rw [List.map_cons, Lib.join_cons]
  simp only [barsL, Lib.joinTail, List.map_map]
  rfl
theorem Bbo {n : Int} (h1 : 1 ≤ n) (h4 : n ≤ 4) : bytes (lookI std n [(1, ByteArray.mk (Array.mk [61])), (2, ByteArray.mk (Array.mk [33, 61])), (3, ByteArray.mk (Array.mk [61, 126])), (4, ByteArray.mk (Array.mk [33, 126]))] (ByteArray.mk (Array.mk []))).1 = signL n := by
 have : n = 1 ∨ n = 2 ∨ n = 3 ∨ n = 4 := by omega
 rcases this with rfl | rfl | rfl | rfl <;> rfl
theorem Arh {may : ByteArray → Bool} {xs : List ByteArray} (h : Ay8 may xs = true) : ∀ x ∈ xs, may x = true := by
 rw [Ay9, Bool.and_eq_true, List.all_eq_true] at h
 exact h.1
theorem A7r {α : Type} (f : α → List UInt8) (m : Nat) : ∀ xs : List α, (∀ x ∈ xs, (f x).length ≤ m) → (xs.map f).flatten.length ≤ xs.length * m
 | [], _ => by simp
 | x :: xs, h => by
  have h1 := h x (List.mem_cons_self ..)
  have h2 := A7r f m xs fun y hy => h y (List.mem_cons_of_mem _ hy)
  simp only [List.map_cons, List.flatten_cons, List.length_append, List.length_cons, Nat.succ_mul]
  omega
structure MatcherOK (m : Matcher) : Prop where
 name : m.Name.size ≤ 64
 how1 : 1 ≤ m.How
 how4 : m.How ≤ 4
 len : m.Words.length ≤ 8
 words : ∀ w ∈ m.Words, w.size ≤ 64
theorem Ajs {m : Matcher} (h : Adr m = true) : MatcherOK m := by
 simp only [Adr, Bool.and_eq_true, decide_eq_true_eq] at h
 obtain ⟨h1, ⟨⟨⟨⟨h2, h3⟩, h4⟩, _⟩, h5⟩, _⟩ := h
 refine ⟨?_, h3, h4, h5, fun w hw => ?_⟩
 ·simp only [nameS, Bool.and_eq_true, decide_eq_true_eq] at h2; exact h2.2
 ·have := Arh h1 w hw
  simp only [Apk, Bool.and_eq_true, decide_eq_true_eq] at this
  exact this.2
theorem A7s {m : Matcher} (h : MatcherOK m) : (barsL m.Words).length ≤ 600 := by
 have hl := h.len
 have hw := h.words
 generalize m.Words = ws at hl hw
 cases ws with
 | nil => simp [barsL]
 | cons w r =>
  have h1 := hw w (List.mem_cons_self ..)
  have h2 := A7r (fun x : ByteArray => 124 :: bytes x) 65 r fun x hx => by
   have := hw x (List.mem_cons_of_mem _ hx)
   rw [List.length_cons, Aae]; omega
  have h3 : r.length * 65 ≤ 7 * 65 := Nat.mul_le_mul_right _ (by simp only [List.length_cons] at hl; omega)
  simp only [barsL, List.length_append, Aae]
  omega
theorem A7t (n : Int) : (signL n).length ≤ 2 := by
 unfold signL
 split
 ·simp
 split
 ·simp
 split
 ·simp
 split <;> simp
theorem Bdq {m : Matcher} (h : MatcherOK m) : (textL m).length ≤ 700 := by
 have h1 := A7s h
 have h2 := A7t m.How
 have h3 := h.name
 simp only [textL, List.length_append, Aae, List.length_singleton]
 omega
theorem Apm (m : Matcher) (hf : Afs m) (h : Adr m = true) : Ajj std m = some (textS m, 0) := by
 have ok := Ajs h
 have hb := A7s ok
 have hs := A7t m.How
 have hn := ok.name
 unfold Ajj Afv
 rw [An8 m hf, bd_some, h, show std.not true = false from rfl, br_false, bd_some, bd_some]
 have hv := Bbo ok.how1 ok.how4
 generalize (lookI std m.How [(1, ByteArray.mk (Array.mk [61])), (2, ByteArray.mk (Array.mk [33, 61])), (3, ByteArray.mk (Array.mk [61, 126])), (4, ByteArray.mk (Array.mk [33, 126]))] (ByteArray.mk (Array.mk []))).1 = sg at hv
 have hsg : sg.size = (signL m.How).length := by rw [Acb, hv]
 have hj : strings_Join std m.Words (ByteArray.mk (Array.mk [124])) = some ⟨(barsL m.Words).toArray⟩ := by
  unfold strings_Join
  have e : Lib.join (m.Words.map (·.data.toList)) (ByteArray.mk (Array.mk [124])).data.toList = barsL m.Words := Bbn m.Words
  rw [e]
  exact ck_t ⟨by have := ok.len; omega, by omega⟩
 have hjs : (⟨(barsL m.Words).toArray⟩ : ByteArray).size = (barsL m.Words).length := by rw [Acb, Aaq]
 have q1 : (ByteArray.mk (Array.mk [34])).size = 1 := rfl
 have z1 : (m.Name ++ sg).size = m.Name.size + sg.size := ByteArray.size_append
 have z2 : (m.Name ++ sg ++ ByteArray.mk (Array.mk [34])).size = m.Name.size + sg.size + 1 := by rw [ByteArray.size_append, z1, q1]
 have z3 : (m.Name ++ sg ++ ByteArray.mk (Array.mk [34]) ++ (⟨(barsL m.Words).toArray⟩ : ByteArray)).size = m.Name.size + sg.size + 1 + (barsL m.Words).length := by rw [ByteArray.size_append, z2, hjs]
 rw [ck_t (show std.catOk m.Name sg by rw [Aa5]; omega), ck_t (show std.catOk (std.cat m.Name sg) (ByteArray.mk (Array.mk [34])) by rw [Aa5, s_cat, z1, q1]; omega), hj, bd_some]
 rw [ck_t (show std.catOk (std.cat (std.cat m.Name sg) (ByteArray.mk (Array.mk [34]))) ⟨(barsL m.Words).toArray⟩ by rw [Aa5, s_cat, s_cat, z2, hjs]; omega), ck_t (show std.catOk (std.cat (std.cat (std.cat m.Name sg) (ByteArray.mk (Array.mk [34]))) ⟨(barsL m.Words).toArray⟩) (ByteArray.mk (Array.mk [34])) by rw [Aa5, s_cat, s_cat, s_cat, z3, q1]; omega)]
 congr 2
 rw [s_cat, s_cat, s_cat, s_cat]
 apply ba_ext
 rw [Abm, Abm, Abm, Abm, hv, Aaq, Amu]
 rfl
theorem Bbp {ws : List ByteArray} {i : Nat} {w : ByteArray} (h : ws[i]? = some w) : barsL (ws.take (i + 1)) = if i = 0 then bytes w else barsL (ws.take i) ++ 124 :: bytes w := by
 cases ws with
 | nil => cases h
 | cons x r =>
  cases i with
  | zero => cases h; simp [barsL]
  | succ i =>
   have hr : r[i]? = some w := by simpa using h
   rw [if_neg (by omega), List.take_succ_cons, List.take_succ_cons]
   simp only [barsL]
   rw [Al9 (fun x : ByteArray => 124 :: bytes x) hr, List.append_assoc]
theorem Bbq (ws : List ByteArray) (i : Nat) : (barsL (ws.take i)).length ≤ (barsL ws).length := by
 cases ws with
 | nil => simp
 | cons x r =>
  cases i with
  | zero => simp [barsL]
  | succ i =>
   rw [List.take_succ_cons]
   simp only [barsL, List.length_append]
   have := Avs (fun x : ByteArray => 124 :: bytes x) r i
   omega
theorem A7u {n : Int} (h1 : 1 ≤ n) (h4 : n ≤ 4) : ∃ s, Afj std n = some s ∧ bytes s = signL n := by
 have : n = 1 ∨ n = 2 ∨ n = 3 ∨ n = 4 := by omega
 unfold Afj
 rcases this with rfl | rfl | rfl | rfl
 ·exact ⟨_, ck_t ⟨by omega, by show (1 : Int) < 5; omega⟩, rfl⟩
 ·exact ⟨_, ck_t ⟨by omega, by show (2 : Int) < 5; omega⟩, rfl⟩
 ·exact ⟨_, ck_t ⟨by omega, by show (3 : Int) < 5; omega⟩, rfl⟩
 ·exact ⟨_, ck_t ⟨by omega, by show (4 : Int) < 5; omega⟩, rfl⟩
theorem Au3 (m : Matcher) (ok : MatcherOK m) : Acz std m = some (textS m) := by
 have hb := A7s ok
 have hs := A7t m.How
 have hn := ok.name
 have hl := ok.len
 obtain ⟨sg, hsg, hv⟩ := A7u ok.how1 ok.how4
 have hsz : sg.size = (signL m.How).length := by rw [Acb, hv]
 unfold Acz
 have q1 : (ByteArray.mk (Array.mk [34])).size = 1 := rfl
 have z1 : (m.Name ++ sg).size = m.Name.size + sg.size := ByteArray.size_append
 rw [hsg, bd_some, ck_t (show std.catOk m.Name sg by rw [Aa5]; omega), ck_t (show std.catOk (std.cat m.Name sg) (ByteArray.mk (Array.mk [34])) by rw [Aa5, s_cat, z1, q1]; omega)]
 have hpre : std.cat (std.cat m.Name sg) (ByteArray.mk (Array.mk [34])) = ⟨(bytes m.Name ++ signL m.How ++ [34] ++ barsL (m.Words.take 0)).toArray⟩ := by
  rw [s_cat, s_cat]
  apply ba_ext
  rw [Abm, Abm, hv, Aaq]
  simp [barsL]
 rw [hpre]
 have sz : ∀ l : List UInt8, (⟨l.toArray⟩ : ByteArray).size = l.length := fun l => by rw [Acb, Aaq]
 have := Ach (B := Afz std m) (fun i (_ : Unit) => ((⟨(bytes m.Name ++ signL m.How ++ [34] ++ barsL (m.Words.take i)).toArray⟩ : ByteArray), (i : Int))) m.Words (fun _ _ (_ : Unit) => (.inl () : Unit ⊕ ByteArray)) (fun _ => textS m) (fun i w u hx hi => by
  have hw := ok.words w (Abv hx)
  have hp := Bbq m.Words i
  have hlen : (bytes m.Name ++ signL m.How ++ [34] ++ barsL (m.Words.take i)).length ≤ 1000 := by
   simp only [List.length_append, Aae, List.length_singleton]; omega
  unfold Afz
  simp only
  rw [Aab, lssT hi, br_true, ck_t (inbT hi), Aai (t := TyS.str) hx, Bbp hx, s_add, wrap_succ hi (by unfold big63; omega)]
  generalize hL : bytes m.Name ++ signL m.How ++ [34] = L at hlen
  cases i with
  | zero =>
   rw [show std.cmp .gtr ((0 : Nat) : Int) 0 = false from rfl, br_false, ck_t (show std.catOk _ _ by rw [Aa5, sz]; omega), s_cat, if_pos rfl]
   congr 4
   apply ba_ext
   rw [Abm, Aaq, Aaq]
   simp [barsL]
  | succ i =>
   have q2 : (ByteArray.mk (Array.mk [124])).size = 1 := rfl
   rw [show std.cmp .gtr ((i + 1 : Nat) : Int) 0 = true by rw [s_gtr]; exact decide_eq_true (by omega), br_true, ck_t (show std.catOk _ _ by rw [Aa5, sz, q2]; omega), ck_t (show std.catOk _ _ by rw [Aa5, s_cat, ByteArray.size_append, sz, q2]; omega), s_cat, s_cat, if_neg (by omega)]
   congr 4
   apply ba_ext
   rw [Abm, Abm, Aaq, Aaq]
   simp) (fun _ => by
  unfold Afz
  simp only
  rw [Aab, lssF, br_false, List.take_length]
  have hlen : (bytes m.Name ++ signL m.How ++ [34] ++ barsL m.Words).length ≤ 1000 := by
   simp only [List.length_append, Aae, List.length_singleton]; omega
  rw [ck_t (show std.catOk _ _ by rw [Aa5, sz, q1]; omega), s_cat]
  refine congrArg (fun x => some (Sum.inr x)) (ba_ext ?_)
  rw [Abm, Aaq, Amu]
  rfl) ()
 refine this.trans (congrArg some ?_)
 have key : ∀ (xs : List ByteArray) (i : Nat), runL (fun _ _ (_ : Unit) => (.inl () : Unit ⊕ ByteArray)) (fun _ => textS m) i xs () = textS m := by
  intro xs
  induction xs with
  | nil => intro i; rfl
  | cons x xs ih => intro i; exact ih (i + 1)
 exact key m.Words 0
end Go.PL
namespace Go.PL
set_option linter.unusedSimpArgs false
set_option linter.unusedVariables false
set_option linter.unusedSectionVars false
open Tys (Ty U)
open Enc (sz enc dflt tb ofB toB)
open Dec (dec dok)
set_option maxRecDepth 100000
def Amb (l : List Matcher) : ByteArray := bindS (l.map textS)
def Aa1 (x : Inhibit) : ByteArray := bindS [Amb x.Source, Amb x.Target, bindS x.Equal]
theorem Aws (l : List ByteArray) : (bindS l).size = (bindL l).length := by rw [Acb, Amt]
theorem A9r {m : Matcher} (h : MatcherOK m) : (textS m).size ≤ 700 := by rw [Acb, Amu]; exact Bdq h
theorem Avu : ∀ (l : List ByteArray) (m : Nat), m ≤ 100000000000 → (∀ p ∈ l, p.size ≤ m) → (bindL l).length ≤ l.length * (10 + m / 128 + m)
 | [], m, _, _ => by simp [bindL]
 | p :: l, m, hm, h => by
  have h1 := Avu l m hm fun p hp => h p (List.mem_cons_of_mem _ hp)
  have h2 := h p (List.mem_cons_self ..)
  have h3 := Azh p.size (by omega)
  simp only [bindL, List.map_cons, List.flatten_cons, List.length_append, List.length_cons, Aae, Nat.succ_mul] at h1 ⊢
  omega
theorem Anu {l : List Matcher} (h : Aav l = true) : l.length ≤ 8 ∧ ∀ m ∈ l, Adr m = true := by
 simp only [Aav, Bool.and_eq_true, decide_eq_true_eq, List.all_eq_true] at h
 exact ⟨h.2, h.1⟩
theorem Ax6 {l : List Matcher} (h : Aav l = true) : Asm (l.map textS) = true ∧ (Amb l).size ≤ 5720 := by
 obtain ⟨h1, h2⟩ := Anu h
 have hm : ∀ p ∈ l.map textS, p.size ≤ 700 := by
  intro p hp
  obtain ⟨m, hm, rfl⟩ := List.mem_map.1 hp
  exact A9r (Ajs (h2 m hm))
 refine ⟨?_, ?_⟩
 ·simp only [Asm, Bool.and_eq_true, decide_eq_true_eq, List.all_eq_true, List.length_map]
  exact ⟨by omega, fun p hp => by have := hm p hp; omega⟩
 ·unfold Amb
  rw [Aws]
  have := Avu (l.map textS) 700 (by omega) hm
  rw [List.length_map] at this
  have h3 : l.length * (10 + 700 / 128 + 700) ≤ 8 * (10 + 700 / 128 + 700) := Nat.mul_le_mul_right _ h1
  omega
theorem A3j {x : Inhibit} (h : Aa4 x = true) : Asm x.Equal = true ∧ (bindS x.Equal).size ≤ 5720 := by
 simp only [Aa4, Bool.and_eq_true, decide_eq_true_eq] at h
 obtain ⟨hw, ⟨⟨_, he⟩, _⟩, _⟩ := h
 have hm : ∀ p ∈ x.Equal, p.size ≤ 64 := by
  intro p hp
  have := Arh hw p hp
  simp only [nameS, Bool.and_eq_true, decide_eq_true_eq] at this
  exact this.2
 refine ⟨?_, ?_⟩
 ·simp only [Asm, Bool.and_eq_true, decide_eq_true_eq, List.all_eq_true]
  exact ⟨by omega, fun p hp => by have := hm p hp; omega⟩
 ·rw [Aws]
  have := Avu x.Equal 64 (by omega) hm
  have h3 : x.Equal.length * (10 + 64 / 128 + 64) ≤ 8 * (10 + 64 / 128 + 64) := Nat.mul_le_mul_right _ he
  omega
theorem A3k {x : Inhibit} (h : Aa4 x = true) : Asm [Amb x.Source, Amb x.Target, bindS x.Equal] = true := by
 have h0 := h
 simp only [Aa4, Bool.and_eq_true, decide_eq_true_eq] at h
 have h1 := (Ax6 h.2.1.2).2
 have h2 := (Ax6 h.2.2).2
 have h3 := (A3j h0).2
 simp only [Asm, List.length_cons, List.length_nil, List.all_cons, List.all_nil, Bool.and_true, Bool.and_eq_true, decide_eq_true_eq]
 omega
theorem Aqa (b : Bool) (l : List Matcher) (hf : fitL Afs l) (h : Aav l = true) : Ah1 std b l = some (Amb l, b) := by
 obtain ⟨h1, h2⟩ := Anu h
 unfold Ah1
 have := Ach (B := Ai8 std b l) (fun i (_ : Unit) => ((l.take i).map textS, (i : Int))) l (fun _ _ (_ : Unit) => (.inl () : Unit ⊕ (ByteArray × Bool))) (fun _ => (Amb l, b)) (fun i m u hm hi => by
  unfold Ai8
  simp only
  rw [Aab, lssT hi, br_true, ck_t (inbT hi), Aai (t := TyS.matcher) hm, Apm m (hf.2 m (Abv hm)) (h2 m (Abv hm)), bd_some, ck_t (show std.appOk TyS.str 16 ((l.take i).map textS) [textS m] from ⟨by simp; omega, by simp; omega⟩), s_add, wrap_succ hi hf.1, take_snoc hm, List.map_append]
  rfl) (fun _ => by
  unfold Ai8
  simp only
  rw [Aab, lssF, br_false, List.take_length, config_bind_eq b _ (Ax6 h).1, bd_some]
  rfl) ()
 refine this.trans (congrArg some ?_)
 have key : ∀ (xs : List Matcher) (i : Nat), runL (fun _ _ (_ : Unit) => (.inl () : Unit ⊕ (ByteArray × Bool))) (fun _ => (Amb l, b)) i xs () = (Amb l, b) := by
  intro xs
  induction xs with
  | nil => intro i; rfl
  | cons x xs ih => intro i; exact ih (i + 1)
 exact key l 0
theorem config_quiet_eq (b : Bool) (x : Inhibit) (hf : Alr x) (h : Aa4 x = true) : Af6 std x b = some (Aa1 x, b) := by
 have h0 := h
 simp only [Aa4, Bool.and_eq_true, decide_eq_true_eq] at h
 unfold Af6 Am0
 rw [Aqa b x.Source hf.1 h.2.1.2, bd_some, Aqa b x.Target hf.2.1 h.2.2, bd_some, config_bind_eq b _ (A3j h0).1, bd_some, config_bind_eq b _ (A3k h0), bd_some, bd_some]
 rfl
theorem Atl (l : List Matcher) (h : Aav l = true) : Acj std l = some (Amb l) := by
 obtain ⟨h1, h2⟩ := Anu h
 unfold Acj
 have := Ach (B := Ad4 std l) (fun i (_ : Unit) => ((l.take i).map textS, (i : Int))) l (fun _ _ (_ : Unit) => (.inl () : Unit ⊕ ByteArray)) (fun _ => Amb l) (fun i m u hm hi => by
  unfold Ad4
  simp only
  rw [Aab, lssT hi, br_true, ck_t (inbT hi), Aai (t := TyS.matcher) hm, Au3 m (Ajs (h2 m (Abv hm))), bd_some, ck_t (show std.appOk TyS.str 16 ((l.take i).map textS) [textS m] from ⟨by simp; omega, by simp; omega⟩), s_add, wrap_succ hi (by unfold big63; omega), take_snoc hm, List.map_append]
  rfl) (fun _ => by
  unfold Ad4
  simp only
  rw [Aab, lssF, br_false, List.take_length, Au2 _ (Ax6 h).1, bd_some]
  rfl) ()
 refine this.trans (congrArg some ?_)
 have key : ∀ (xs : List Matcher) (i : Nat), runL (fun _ _ (_ : Unit) => (.inl () : Unit ⊕ ByteArray)) (fun _ => Amb l) i xs () = Amb l := by
  intro xs
  induction xs with
  | nil => intro i; rfl
  | cons x xs ih => intro i; exact ih (i + 1)
 exact key l 0
theorem ref_Quiet_eq (x : Inhibit) (h : Aa4 x = true) : Aew std x = some (Aa1 x) := by
 have h0 := h
 simp only [Aa4, Bool.and_eq_true, decide_eq_true_eq] at h
 unfold Aew
 rw [Atl x.Source h.2.1.2, bd_some, Atl x.Target h.2.2, bd_some, Au2 _ (A3j h0).1, bd_some, Au2 _ (A3k h0), bd_some]
 rfl
end Go.PL
namespace Go.PL
set_option linter.unusedSimpArgs false
set_option linter.unusedVariables false
set_option linter.unusedSectionVars false
open Tys (Ty U)
open Enc (sz enc dflt tb ofB toB)
open Dec (dec dok)
set_option maxRecDepth 100000
theorem A3l (a b : UInt8) (l m : List UInt8) : Op.bytesLess (a :: l) (b :: m) = (decide (a < b) || (a == b && Op.bytesLess l m)) := by
 simp [Op.bytesLess]
theorem A5q : ∀ l : List UInt8, Op.bytesLess l l = false
 | [] => rfl
 | a :: l => by rw [A3l, A5q l]; simp
theorem Bdc : ∀ l m : List UInt8, Op.bytesLess l m = false → Op.bytesLess m l = false → l = m
 | [], [], _, _ => rfl
 | [], _ :: _, h, _ => by simp [Op.bytesLess] at h
 | _ :: _, [], _, h => by simp [Op.bytesLess] at h
 | a :: l, b :: m, h1, h2 => by
  rw [A3l] at h1 h2
  simp only [Bool.or_eq_false_iff, decide_eq_false_iff_not, Bool.and_eq_false_iff, beq_eq_false_iff_ne] at h1 h2
  have e : a = b := by
   apply UInt8.toNat_inj.1
   have h3 := h1.1
   have h4 := h2.1
   rw [UInt8.lt_iff_toNat_lt] at h3 h4
   omega
  subst e
  rw [Bdc l m (h1.2.resolve_left fun h => h rfl) (h2.2.resolve_left fun h => h rfl)]
theorem A8s : ∀ l m n : List UInt8, Op.bytesLess l m = true → Op.bytesLess m n = true → Op.bytesLess l n = true
 | [], [], _, h, _ => by simp [Op.bytesLess] at h
 | _ :: _, [], _, h, _ => by simp [Op.bytesLess] at h
 | _, _ :: _, [], _, h => by simp [Op.bytesLess] at h
 | [], _ :: _, _ :: _, _, _ => by simp [Op.bytesLess]
 | a :: l, b :: m, c :: n, h1, h2 => by
  rw [A3l] at h1 h2 ⊢
  simp only [Bool.or_eq_true, decide_eq_true_eq, Bool.and_eq_true, beq_iff_eq, UInt8.lt_iff_toNat_lt] at h1 h2 ⊢
  rcases h1 with h1 | ⟨rfl, h1⟩
  ·rcases h2 with h2 | ⟨rfl, h2⟩
   ·left; omega
   ·left; exact h1
  ·rcases h2 with h2 | ⟨rfl, h2⟩
   ·left; exact h2
   ·right; exact ⟨rfl, A8s l m n h1 h2⟩
theorem At0 (a b : ByteArray) : lessS a b = Op.bytesLess (bytes a) (bytes b) := by
 show Op.bytesLess a.toList b.toList = _
 rw [ByteArray.toList_eq, ByteArray.toList_eq]
theorem Au4 (a : ByteArray) : lessS a a = false := by rw [At0]; exact A5q _
theorem Ax7 {a b : ByteArray} (h1 : lessS a b = false) (h2 : lessS b a = false) : a = b := by
 rw [At0] at h1 h2; exact ba_ext (Bdc _ _ h1 h2)
theorem Ari {a b c : ByteArray} (h1 : lessS a b = true) (h2 : lessS b c = true) : lessS a c = true := by
 rw [At0] at h1 h2 ⊢; exact A8s _ _ _ h1 h2
theorem Awt {a b : ByteArray} (h : lessS a b = true) : lessS b a = false := by
 cases h2 : lessS b a with
 | false => rfl
 | true => have := Ari h h2; rw [Au4] at this; cases this
theorem Azi : ∀ l m : List UInt8, Lib.compareBytes l m < 0 ↔ Op.bytesLess l m = true
 | [], [] => by simp [Lib.compareBytes, Op.bytesLess]
 | [], _ :: _ => by simp [Lib.compareBytes, Op.bytesLess]
 | _ :: _, [] => by simp [Lib.compareBytes, Op.bytesLess]
 | a :: l, b :: m => by
  rw [A3l]
  simp only [Lib.compareBytes]
  by_cases h1 : a < b
  ·rw [if_pos h1, decide_eq_true h1]; simp
  ·rw [if_neg h1, decide_eq_false h1, Bool.false_or]
   by_cases h2 : b < a
   ·rw [if_pos h2]
    have : (a == b) = false := by
     rw [beq_eq_false_iff_ne]; rintro rfl; exact h1 h2
    rw [this]; simp
   ·rw [if_neg h2]
    have : (a == b) = true := by
     rw [beq_iff_eq]
     apply UInt8.toNat_inj.1
     rw [UInt8.lt_iff_toNat_lt] at h1 h2
     omega
    rw [this, Bool.true_and]
    exact Azi l m
theorem Aqb (a b : ByteArray) : decide (Lib.compareBytes a.data.toList b.data.toList < 0) = lessS a b := by
 rw [At0, Bool.eq_iff_iff, decide_eq_true_eq]
 exact Azi _ _
end Go.PL
namespace Go.PL
set_option linter.unusedSimpArgs false
set_option linter.unusedVariables false
set_option linter.unusedSectionVars false
open Tys (Ty U)
open Enc (sz enc dflt tb ofB toB)
open Dec (dec dok)
set_option maxRecDepth 100000
section
variable {α : Type} (key : α → ByteArray)
def insL (x : α) : List α → List α
 | [] => [x]
 | y :: ys => if lessS (key y) (key x) then y :: insL x ys else x :: y :: ys
def hasK (l : List α) (x : α) : Bool := l.any fun y => decide (key y = key x)
def normL (l : List α) : List α := l.foldl (fun acc x => if hasK key acc x then acc else insL key x acc) []
def Asc (l : List α) : Prop := l.Pairwise fun x y => lessS (key x) (key y) = true
theorem insL_mem (x y : α) : ∀ l : List α, y ∈ insL key x l ↔ y = x ∨ y ∈ l
 | [] => by simp [insL]
 | z :: l => by
  simp only [insL]
  split
  ·simp only [List.mem_cons, insL_mem x y l]
   constructor
   ·rintro (h | h | h) <;> simp [h]
   ·rintro (h | h | h) <;> simp [h]
  ·simp
theorem insL_asc (x : α) : ∀ l : List α, Asc key l → hasK key l x = false → Asc key (insL key x l)
 | [], _, _ => by simp [insL, Asc]
 | z :: l, h, hx => by
  unfold Asc at h ⊢
  rw [List.pairwise_cons] at h
  simp only [hasK, List.any_cons, Bool.or_eq_false_iff, decide_eq_false_iff_not] at hx
  simp only [insL]
  split
  ·rename_i hz
   rw [List.pairwise_cons]
   refine ⟨fun y hy => ?_, insL_asc x l h.2 hx.2⟩
   rcases (insL_mem key x y l).1 hy with rfl | hy
   ·exact hz
   ·exact h.1 y hy
  ·rename_i hz
   have hxz : lessS (key x) (key z) = true := by
    cases hc : lessS (key x) (key z) with
    | true => rfl
    | false => exact absurd (Ax7 (by simpa using hz) hc) hx.1
   rw [List.pairwise_cons]
   refine ⟨fun y hy => ?_, List.pairwise_cons.2 h⟩
   rcases List.mem_cons.1 hy with rfl | hy
   ·exact hxz
   ·exact Ari hxz (h.1 y hy)
theorem Bbr : ∀ (l m : List α), Asc key l → Asc key m → (∀ x, x ∈ l ↔ x ∈ m) → l = m
 | [], [], _, _, _ => rfl
 | [], y :: m, _, _, h => absurd ((h y).2 (List.mem_cons_self ..)) (by simp)
 | x :: l, [], _, _, h => absurd ((h x).1 (List.mem_cons_self ..)) (by simp)
 | x :: l, y :: m, hl, hm, h => by
  unfold Asc at hl hm
  rw [List.pairwise_cons] at hl hm
  have hxy : x = y := by
   rcases List.mem_cons.1 ((h x).1 (List.mem_cons_self ..)) with e | hx
   ·exact e
   rcases List.mem_cons.1 ((h y).2 (List.mem_cons_self ..)) with e | hy
   ·exact e.symm
   have := Awt (hm.1 x hx)
   rw [hl.1 y hy] at this; cases this
  subst hxy
  refine congrArg _ (Bbr l m hl.2 hm.2 fun z => ?_)
  have hz := h z
  simp only [List.mem_cons] at hz
  constructor
  ·intro hzl
   rcases hz.1 (.inr hzl) with rfl | hm'
   ·have := hl.1 z hzl; rw [Au4] at this; cases this
   ·exact hm'
  ·intro hzm
   rcases hz.2 (.inr hzm) with rfl | hl'
   ·have := hm.1 z hzm; rw [Au4] at this; cases this
   ·exact hl'
end
end Go.PL
namespace Go.PL
set_option linter.unusedSimpArgs false
set_option linter.unusedVariables false
set_option linter.unusedSectionVars false
open Tys (Ty U)
open Enc (sz enc dflt tb ofB toB)
open Dec (dec dok)
set_option maxRecDepth 100000
section
variable {α : Type}
theorem A1c (L R : List α) (x : α) : (L.reverse ++ x :: R)[L.length]? = some x := by
 rw [List.getElem?_append_right (by simp)]; simp
theorem Avv (L R : List α) (x y : α) : ((y :: L).reverse ++ x :: R)[L.length]? = some y := by
 rw [List.reverse_cons, List.append_assoc]
 exact A1c L (x :: R) y
theorem Ax8 (L R : List α) (x y : α) : (((y :: L).reverse ++ x :: R).set (L.length + 1) y).set L.length x = L.reverse ++ x :: y :: R := by
 apply List.ext_getElem?
 intro i
 simp only [List.reverse_cons, List.append_assoc, List.singleton_append, List.getElem?_set, List.length_set, List.length_append, List.length_reverse, List.length_cons]
 rcases Nat.lt_trichotomy i L.length with h | h | h
 ·rw [if_neg (by omega), if_neg (by omega), List.getElem?_append_left (by simpa using h), List.getElem?_append_left (by simpa using h)]
 ·subst h
  rw [if_pos rfl, if_pos (by omega), A1c]
 ·rw [if_neg (by omega), List.getElem?_append_right (by simp; omega), List.getElem?_append_right (by simp; omega), List.length_reverse]
  obtain ⟨k, rfl⟩ : ∃ k, i = L.length + 1 + k := ⟨i - L.length - 1, by omega⟩
  rw [show L.length + 1 + k - L.length = k + 1 by omega]
  cases k with
  | zero => simp
  | succ k => rw [if_neg (by omega)]; simp
def insR (less : α → α → Bool) (x : α) : List α → List α → List α
 | [], R => x :: R
 | y :: L, R => if less x y then insR less x L (y :: R) else (y :: L).reverse ++ x :: R
theorem Aw9 {less : α → α → Bool} {x y : α} {L R : List α} (h : less x y = true) : insR less x (y :: L) R = insR less x L (y :: R) := if_pos h
theorem Axa {less : α → α → Bool} {x y : α} {L R : List α} (h : less x y = false) : insR less x (y :: L) R = (y :: L).reverse ++ x :: R := if_neg (by rw [h]; simp)
theorem A5r (less : α → α → Bool) (x : α) : ∀ L R : List α, (insR less x L R).Perm (L.reverse ++ x :: R)
 | [], R => .refl _
 | y :: L, R => by
  simp only [insR]
  split
  ·refine (A5r less x L (y :: R)).trans ?_
   rw [List.reverse_cons, List.append_assoc]
   exact List.Perm.append_left _ (List.Perm.swap ..)
  ·exact .refl _
theorem Arj (less : α → α → Bool) (x : α) : ∀ L R : List α, insR less x L R = insR less x L [] ++ R
 | [], R => rfl
 | y :: L, R => by
  cases h : less x y with
  | true => rw [Aw9 h, Aw9 h, Arj less x L (y :: R), Arj less x L [y], List.append_assoc]; rfl
  | false => rw [Axa h, Axa h, List.append_assoc]; rfl
def sortI (less : α → α → Bool) (xs : List α) : List α := xs.foldl (fun P x => insR less x P.reverse []) []
theorem Aow (less : α → α → Bool) (xs : List α) (x : α) : sortI less (xs ++ [x]) = insR less x (sortI less xs).reverse [] := by
 unfold sortI; rw [List.foldl_append]; rfl
theorem Ah5 (less : α → α → Bool) (xs : List α) : (sortI less xs).Perm xs := by
 have key : ∀ (xs P : List α), (xs.foldl (fun P x => insR less x P.reverse []) P).Perm (P ++ xs) := by
  intro xs
  induction xs with
  | nil => intro P; simp
  | cons x xs ih =>
   intro P
   rw [List.foldl_cons]
   refine (ih _).trans ?_
   have h1 := A5r less x P.reverse []
   rw [List.reverse_reverse] at h1
   refine (h1.append_right xs).trans ?_
   rw [List.append_assoc]
   exact .refl _
 exact key xs []
theorem Afn (less : α → α → Bool) (xs : List α) : (sortI less xs).length = xs.length := (Ah5 less xs).length_eq
end
end Go.PL
namespace Go.PL
set_option linter.unusedSimpArgs false
set_option linter.unusedVariables false
set_option linter.unusedSectionVars false
open Tys (Ty U)
open Enc (sz enc dflt tb ofB toB)
open Dec (dec dok)
set_option maxRecDepth 100000
theorem A8t (q : Rule → Rule → Option Int) (cmp : Rule → Rule → Int) (hq : ∀ x y, q x y = some (cmp x y)) (n i : Nat) (hn : n ≤ 1000) (hi : i ≤ 1000) : ∀ (L R : List Rule) (x : Rule), (L.reverse ++ x :: R).length = n →
  Loop (Aay std (n : Int) 0 q (i : Int)) ((L.length : Int), L.reverse ++ x :: R) = some (.inl (((i + 1 : Nat) : Int), insR (fun a b => decide (cmp a b < 0)) x L R))
 | [], R, x, hl => by
  rw [Adq]
  have hB : Aay std (n : Int) 0 q (i : Int) ((([] : List Rule).length : Int), ([] : List Rule).reverse ++ x :: R) = some (.inr (.inl (((i + 1 : Nat) : Int), x :: R))) := by
   unfold Aay
   simp only [List.length_nil, List.reverse_nil, List.nil_append]
   rw [show std.cmp .gtr ((0 : Nat) : Int) 0 = false from rfl]
   have hv : ∀ p : Prop, vc false p := fun p => True.intro
   rw [ck_t (hv _), ck_t (hv _), ck_t (hv _), ck_t (hv _), gd_f, bd_some, s_land, Bool.false_and, br_false, s_add, wrap_succ (n := 1001) (by omega) (by unfold big63; omega)]
   rfl
  rw [hB]
  rfl
 | y :: L, R, x, hl => by
  rw [Adq]
  have hlen : (y :: L).length + 1 ≤ n := by simp at hl ⊢; omega
  have hj : L.length + 1 < n := by simp only [List.length_cons] at hlen; omega
  have g1 : std.cmp .gtr (((y :: L).length : Nat) : Int) 0 = true := by rw [s_gtr]; exact decide_eq_true (by simp only [List.length_cons]; omega)
  have e1 : std.ar .sub .i64 (((y :: L).length : Nat) : Int) 1 = (L.length : Int) := by rw [prevI (by simp) (by unfold big63; simp only [List.length_cons]; omega)]; simp
  have p0 : ∀ k : Nat, std.pl 0 (k : Int) = (k : Int) := fun k => by rw [s_pl]; omega
  have ax := Aai (t := TyS.rule) (A1c (y :: L) R x)
  have ay := Aai (t := TyS.rule) (Avv L R x y)
  have hrl : std.len TyS.rule ((y :: L).reverse ++ x :: R) = (n : Int) := by rw [Aab, hl]
  have hB : Aay std (n : Int) 0 q (i : Int) (((y :: L).length : Int), (y :: L).reverse ++ x :: R) = some (if cmp x y < 0 then .inl ((L.length : Int), L.reverse ++ x :: y :: R) else .inr (.inl (((i + 1 : Nat) : Int), (y :: L).reverse ++ x :: R))) := by
   unfold Aay
   simp only
   rw [g1, e1, p0, p0, hrl]
   have hv : ∀ {p : Prop}, p → vc true p := fun h => h
   rw [ck_t (hv (inbT (by simp only [List.length_cons]; omega))), ck_t (hv (inbT (by simp only [List.length_cons]; omega))), ck_t (hv (inbT (by omega))), ck_t (hv (inbT (by omega))), gd_t, ax, ay, hq, bd_some, s_land, Bool.true_and, s_lss]
   by_cases hc : cmp x y < 0
   ·rw [decide_eq_true hc, br_true, if_pos hc, ck_t (inbT (by omega)), ck_t (inbT (by omega)), ck_t (inbT (by simp only [List.length_cons]; omega)), ck_t (inbT (by simp only [List.length_cons]; omega))]
    have hs : std.len TyS.rule (std.set TyS.rule ((y :: L).reverse ++ x :: R) (((y :: L).length : Nat) : Int) y) = (n : Int) := by
     rw [s_set, Aab, List.length_set, hl]
    rw [hs, ck_t (inbT (by omega)), s_set, s_set, Int.toNat_natCast, Int.toNat_natCast]
    have := Ax8 L R x y
    exact congrArg (fun r => some (Sum.inl ((L.length : Int), r))) this
   ·rw [decide_eq_false hc, br_false, if_neg hc, s_add, wrap_succ (n := 1001) (by omega) (by unfold big63; omega)]
    rfl
  rw [hB]
  by_cases hc : cmp x y < 0
  ·rw [if_pos hc, Aw9 (decide_eq_true hc)]
   exact A8t q cmp hq n i hn hi L (y :: R) x (by rw [← hl]; simp)
  ·rw [if_neg hc, Axa (decide_eq_false hc)]
theorem Bbs (q : Rule → Rule → Option Int) (cmp : Rule → Rule → Int) (hq : ∀ x y, q x y = some (cmp x y)) (xs : List Rule) (hn : xs.length ≤ 1000) :
  Abc std xs (xs.length : Int) 0 (xs.length : Int) q = some (sortI (fun a b => decide (cmp a b < 0)) xs) := by
 unfold Abc
 rw [show std.ar .add .i64 0 1 = ((1 : Nat) : Int) from rfl]
 cases xs with
 | nil => rw [Adq]; rfl
 | cons x0 ys =>
  generalize hxs : x0 :: ys = xs at hn
  have h1 : 1 ≤ xs.length := by rw [← hxs]; simp
  have hstart : xs = sortI (fun a b => decide (cmp a b < 0)) (xs.take 1) ++ xs.drop 1 := by rw [← hxs]; rfl
  have := Aii (B := Acm std (xs.length : Int) 0 (xs.length : Int) q) (fun i (_ : Unit) => ((i : Int), sortI (fun a b => decide (cmp a b < 0)) (xs.take i) ++ xs.drop i)) xs (fun _ _ (_ : Unit) => (.inl () : Unit ⊕ List Rule)) (fun _ => sortI (fun a b => decide (cmp a b < 0)) xs) (fun _ _ => True)
   (fun i x u hx _ => by
    have hi := Ae2 hx
    refine ⟨fun s' _ => ⟨?_, trivial⟩, fun e he => by cases he⟩
    obtain ⟨x', hx', _, hd, ht⟩ := i_at (xs := xs) (i := i) hi
    rw [hx] at hx'; cases hx'
    unfold Acm
    simp only
    rw [lssT hi, br_true]
    have hlen : (sortI (fun a b => decide (cmp a b < 0)) (xs.take i)).reverse.length = i := by rw [List.length_reverse, Afn, List.length_take]; omega
    have := A8t q cmp hq xs.length i hn (by omega) (sortI (fun a b => decide (cmp a b < 0)) (xs.take i)).reverse (xs.drop (i + 1)) x (by
     rw [List.reverse_reverse, ← hd, List.length_append, Afn, List.length_take, List.length_drop]; omega)
    rw [hlen, List.reverse_reverse, ← hd] at this
    rw [this, ht, Aow, Arj]
    rfl)
   (fun s _ => by
    unfold Acm
    simp only
    rw [lssF, br_false, List.take_length, List.drop_length, List.append_nil]
    rfl) 1 h1 () trivial
  rw [← hstart] at this
  refine this.trans (congrArg some ?_)
  have key : ∀ (l : List Rule) (i : Nat), runL (fun _ _ (_ : Unit) => (.inl () : Unit ⊕ List Rule)) (fun _ => sortI (fun a b => decide (cmp a b < 0)) xs) i l () = sortI (fun a b => decide (cmp a b < 0)) xs := by
   intro l
   induction l with
   | nil => intro i; rfl
   | cons x xs ih => intro i; exact ih (i + 1)
  exact key _ _
theorem stable_Rule (q : Rule → Rule → Option Int) (cmp : Rule → Rule → Int) (hq : ∀ x y, q x y = some (cmp x y)) (xs : List Rule) (hn : xs.length < 20) :
  Acw std xs (xs.length : Int) (xs.length : Int) q = some (sortI (fun a b => decide (cmp a b < 0)) xs) := by
 unfold Acw
 have hB : Agw std (xs.length : Int) (xs.length : Int) q (0, 20, xs) = some (.inr (sortI (fun a b => decide (cmp a b < 0)) xs)) := by
  unfold Agw
  simp only
  rw [show std.cmp .leq 20 (xs.length : Int) = false by rw [s_leq]; exact decide_eq_false (by omega), br_false, Bbs q cmp hq xs (by omega), bd_some, Adq]
  have h2 : Agv std (xs.length : Int) (sortI (fun a b => decide (cmp a b < 0)) xs) 20 = some (.inr (sortI (fun a b => decide (cmp a b < 0)) xs)) := by
   unfold Agv
   simp only
   rw [show std.cmp .lss 20 (xs.length : Int) = false by rw [s_lss]; exact decide_eq_false (by omega), br_false]
   rfl
  rw [h2]
  rfl
 rw [Adq, hB]
theorem A1d (q : ByteArray → ByteArray → Option Int) (cmp : ByteArray → ByteArray → Int) (hq : ∀ x y, q x y = some (cmp x y)) (n i : Nat) (hn : n ≤ 1000) (hi : i ≤ 1000) : ∀ (L R : List ByteArray) (x : ByteArray), (L.reverse ++ x :: R).length = n →
  Loop (Aas std (n : Int) 0 q (i : Int)) ((L.length : Int), L.reverse ++ x :: R) = some (.inl (((i + 1 : Nat) : Int), insR (fun a b => decide (cmp a b < 0)) x L R))
 | [], R, x, hl => by
  rw [Adq]
  have hB : Aas std (n : Int) 0 q (i : Int) ((([] : List ByteArray).length : Int), ([] : List ByteArray).reverse ++ x :: R) = some (.inr (.inl (((i + 1 : Nat) : Int), x :: R))) := by
   unfold Aas
   simp only [List.length_nil, List.reverse_nil, List.nil_append]
   rw [show std.cmp .gtr ((0 : Nat) : Int) 0 = false from rfl]
   have hv : ∀ p : Prop, vc false p := fun p => True.intro
   rw [ck_t (hv _), ck_t (hv _), ck_t (hv _), ck_t (hv _), gd_f, bd_some, s_land, Bool.false_and, br_false, s_add, wrap_succ (n := 1001) (by omega) (by unfold big63; omega)]
   rfl
  rw [hB]
  rfl
 | y :: L, R, x, hl => by
  rw [Adq]
  have hlen : (y :: L).length + 1 ≤ n := by simp at hl ⊢; omega
  have hj : L.length + 1 < n := by simp only [List.length_cons] at hlen; omega
  have g1 : std.cmp .gtr (((y :: L).length : Nat) : Int) 0 = true := by rw [s_gtr]; exact decide_eq_true (by simp only [List.length_cons]; omega)
  have e1 : std.ar .sub .i64 (((y :: L).length : Nat) : Int) 1 = (L.length : Int) := by rw [prevI (by simp) (by unfold big63; simp only [List.length_cons]; omega)]; simp
  have p0 : ∀ k : Nat, std.pl 0 (k : Int) = (k : Int) := fun k => by rw [s_pl]; omega
  have ax := Aai (t := TyS.str) (A1c (y :: L) R x)
  have ay := Aai (t := TyS.str) (Avv L R x y)
  have hrl : std.len TyS.str ((y :: L).reverse ++ x :: R) = (n : Int) := by rw [Aab, hl]
  have hB : Aas std (n : Int) 0 q (i : Int) (((y :: L).length : Int), (y :: L).reverse ++ x :: R) = some (if cmp x y < 0 then .inl ((L.length : Int), L.reverse ++ x :: y :: R) else .inr (.inl (((i + 1 : Nat) : Int), (y :: L).reverse ++ x :: R))) := by
   unfold Aas
   simp only
   rw [g1, e1, p0, p0, hrl]
   have hv : ∀ {p : Prop}, p → vc true p := fun h => h
   rw [ck_t (hv (inbT (by simp only [List.length_cons]; omega))), ck_t (hv (inbT (by simp only [List.length_cons]; omega))), ck_t (hv (inbT (by omega))), ck_t (hv (inbT (by omega))), gd_t, ax, ay, hq, bd_some, s_land, Bool.true_and, s_lss]
   by_cases hc : cmp x y < 0
   ·rw [decide_eq_true hc, br_true, if_pos hc, ck_t (inbT (by omega)), ck_t (inbT (by omega)), ck_t (inbT (by simp only [List.length_cons]; omega)), ck_t (inbT (by simp only [List.length_cons]; omega))]
    have hs : std.len TyS.str (std.set TyS.str ((y :: L).reverse ++ x :: R) (((y :: L).length : Nat) : Int) y) = (n : Int) := by
     rw [s_set, Aab, List.length_set, hl]
    rw [hs, ck_t (inbT (by omega)), s_set, s_set, Int.toNat_natCast, Int.toNat_natCast]
    have := Ax8 L R x y
    exact congrArg (fun r => some (Sum.inl ((L.length : Int), r))) this
   ·rw [decide_eq_false hc, br_false, if_neg hc, s_add, wrap_succ (n := 1001) (by omega) (by unfold big63; omega)]
    rfl
  rw [hB]
  by_cases hc : cmp x y < 0
  ·rw [if_pos hc, Aw9 (decide_eq_true hc)]
   exact A1d q cmp hq n i hn hi L (y :: R) x (by rw [← hl]; simp)
  ·rw [if_neg hc, Axa (decide_eq_false hc)]
theorem A7v (q : ByteArray → ByteArray → Option Int) (cmp : ByteArray → ByteArray → Int) (hq : ∀ x y, q x y = some (cmp x y)) (xs : List ByteArray) (hn : xs.length ≤ 1000) :
  Aa2 std xs (xs.length : Int) 0 (xs.length : Int) q = some (sortI (fun a b => decide (cmp a b < 0)) xs) := by
 unfold Aa2
 rw [show std.ar .add .i64 0 1 = ((1 : Nat) : Int) from rfl]
 cases xs with
 | nil => rw [Adq]; rfl
 | cons x0 ys =>
  generalize hxs : x0 :: ys = xs at hn
  have h1 : 1 ≤ xs.length := by rw [← hxs]; simp
  have hstart : xs = sortI (fun a b => decide (cmp a b < 0)) (xs.take 1) ++ xs.drop 1 := by rw [← hxs]; rfl
  have := Aii (B := Ab3 std (xs.length : Int) 0 (xs.length : Int) q) (fun i (_ : Unit) => ((i : Int), sortI (fun a b => decide (cmp a b < 0)) (xs.take i) ++ xs.drop i)) xs (fun _ _ (_ : Unit) => (.inl () : Unit ⊕ List ByteArray)) (fun _ => sortI (fun a b => decide (cmp a b < 0)) xs) (fun _ _ => True)
   (fun i x u hx _ => by
    have hi := Ae2 hx
    refine ⟨fun s' _ => ⟨?_, trivial⟩, fun e he => by cases he⟩
    obtain ⟨x', hx', _, hd, ht⟩ := i_at (xs := xs) (i := i) hi
    rw [hx] at hx'; cases hx'
    unfold Ab3
    simp only
    rw [lssT hi, br_true]
    have hlen : (sortI (fun a b => decide (cmp a b < 0)) (xs.take i)).reverse.length = i := by rw [List.length_reverse, Afn, List.length_take]; omega
    have := A1d q cmp hq xs.length i hn (by omega) (sortI (fun a b => decide (cmp a b < 0)) (xs.take i)).reverse (xs.drop (i + 1)) x (by
     rw [List.reverse_reverse, ← hd, List.length_append, Afn, List.length_take, List.length_drop]; omega)
    rw [hlen, List.reverse_reverse, ← hd] at this
    rw [this, ht, Aow, Arj]
    rfl)
   (fun s _ => by
    unfold Ab3
    simp only
    rw [lssF, br_false, List.take_length, List.drop_length, List.append_nil]
    rfl) 1 h1 () trivial
  rw [← hstart] at this
  refine this.trans (congrArg some ?_)
  have key : ∀ (l : List ByteArray) (i : Nat), runL (fun _ _ (_ : Unit) => (.inl () : Unit ⊕ List ByteArray)) (fun _ => sortI (fun a b => decide (cmp a b < 0)) xs) i l () = sortI (fun a b => decide (cmp a b < 0)) xs := by
   intro l
   induction l with
   | nil => intro i; rfl
   | cons x xs ih => intro i; exact ih (i + 1)
  exact key _ _
theorem stable_string (q : ByteArray → ByteArray → Option Int) (cmp : ByteArray → ByteArray → Int) (hq : ∀ x y, q x y = some (cmp x y)) (xs : List ByteArray) (hn : xs.length < 20) :
  Ab8 std xs (xs.length : Int) (xs.length : Int) q = some (sortI (fun a b => decide (cmp a b < 0)) xs) := by
 unfold Ab8
 have hB : Af8 std (xs.length : Int) (xs.length : Int) q (0, 20, xs) = some (.inr (sortI (fun a b => decide (cmp a b < 0)) xs)) := by
  unfold Af8
  simp only
  rw [show std.cmp .leq 20 (xs.length : Int) = false by rw [s_leq]; exact decide_eq_false (by omega), br_false, A7v q cmp hq xs (by omega), bd_some, Adq]
  have h2 : Af7 std (xs.length : Int) (sortI (fun a b => decide (cmp a b < 0)) xs) 20 = some (.inr (sortI (fun a b => decide (cmp a b < 0)) xs)) := by
   unfold Af7
   simp only
   rw [show std.cmp .lss 20 (xs.length : Int) = false by rw [s_lss]; exact decide_eq_false (by omega), br_false]
   rfl
  rw [h2]
  rfl
 rw [Adq, hB]
theorem A5s (q : Hours → Hours → Option Int) (cmp : Hours → Hours → Int) (hq : ∀ x y, q x y = some (cmp x y)) (n i : Nat) (hn : n ≤ 1000) (hi : i ≤ 1000) : ∀ (L R : List Hours) (x : Hours), (L.reverse ++ x :: R).length = n →
  Loop (Aaw std (n : Int) 0 q (i : Int)) ((L.length : Int), L.reverse ++ x :: R) = some (.inl (((i + 1 : Nat) : Int), insR (fun a b => decide (cmp a b < 0)) x L R))
 | [], R, x, hl => by
  rw [Adq]
  have hB : Aaw std (n : Int) 0 q (i : Int) ((([] : List Hours).length : Int), ([] : List Hours).reverse ++ x :: R) = some (.inr (.inl (((i + 1 : Nat) : Int), x :: R))) := by
   unfold Aaw
   simp only [List.length_nil, List.reverse_nil, List.nil_append]
   rw [show std.cmp .gtr ((0 : Nat) : Int) 0 = false from rfl]
   have hv : ∀ p : Prop, vc false p := fun p => True.intro
   rw [ck_t (hv _), ck_t (hv _), ck_t (hv _), ck_t (hv _), gd_f, bd_some, s_land, Bool.false_and, br_false, s_add, wrap_succ (n := 1001) (by omega) (by unfold big63; omega)]
   rfl
  rw [hB]
  rfl
 | y :: L, R, x, hl => by
  rw [Adq]
  have hlen : (y :: L).length + 1 ≤ n := by simp at hl ⊢; omega
  have hj : L.length + 1 < n := by simp only [List.length_cons] at hlen; omega
  have g1 : std.cmp .gtr (((y :: L).length : Nat) : Int) 0 = true := by rw [s_gtr]; exact decide_eq_true (by simp only [List.length_cons]; omega)
  have e1 : std.ar .sub .i64 (((y :: L).length : Nat) : Int) 1 = (L.length : Int) := by rw [prevI (by simp) (by unfold big63; simp only [List.length_cons]; omega)]; simp
  have p0 : ∀ k : Nat, std.pl 0 (k : Int) = (k : Int) := fun k => by rw [s_pl]; omega
  have ax := Aai (t := TyS.hours) (A1c (y :: L) R x)
  have ay := Aai (t := TyS.hours) (Avv L R x y)
  have hrl : std.len TyS.hours ((y :: L).reverse ++ x :: R) = (n : Int) := by rw [Aab, hl]
  have hB : Aaw std (n : Int) 0 q (i : Int) (((y :: L).length : Int), (y :: L).reverse ++ x :: R) = some (if cmp x y < 0 then .inl ((L.length : Int), L.reverse ++ x :: y :: R) else .inr (.inl (((i + 1 : Nat) : Int), (y :: L).reverse ++ x :: R))) := by
   unfold Aaw
   simp only
   rw [g1, e1, p0, p0, hrl]
   have hv : ∀ {p : Prop}, p → vc true p := fun h => h
   rw [ck_t (hv (inbT (by simp only [List.length_cons]; omega))), ck_t (hv (inbT (by simp only [List.length_cons]; omega))), ck_t (hv (inbT (by omega))), ck_t (hv (inbT (by omega))), gd_t, ax, ay, hq, bd_some, s_land, Bool.true_and, s_lss]
   by_cases hc : cmp x y < 0
   ·rw [decide_eq_true hc, br_true, if_pos hc, ck_t (inbT (by omega)), ck_t (inbT (by omega)), ck_t (inbT (by simp only [List.length_cons]; omega)), ck_t (inbT (by simp only [List.length_cons]; omega))]
    have hs : std.len TyS.hours (std.set TyS.hours ((y :: L).reverse ++ x :: R) (((y :: L).length : Nat) : Int) y) = (n : Int) := by
     rw [s_set, Aab, List.length_set, hl]
    rw [hs, ck_t (inbT (by omega)), s_set, s_set, Int.toNat_natCast, Int.toNat_natCast]
    have := Ax8 L R x y
    exact congrArg (fun r => some (Sum.inl ((L.length : Int), r))) this
   ·rw [decide_eq_false hc, br_false, if_neg hc, s_add, wrap_succ (n := 1001) (by omega) (by unfold big63; omega)]
    rfl
  rw [hB]
  by_cases hc : cmp x y < 0
  ·rw [if_pos hc, Aw9 (decide_eq_true hc)]
   exact A5s q cmp hq n i hn hi L (y :: R) x (by rw [← hl]; simp)
  ·rw [if_neg hc, Axa (decide_eq_false hc)]
theorem A9s (q : Hours → Hours → Option Int) (cmp : Hours → Hours → Int) (hq : ∀ x y, q x y = some (cmp x y)) (xs : List Hours) (hn : xs.length ≤ 1000) :
  Aa7 std xs (xs.length : Int) 0 (xs.length : Int) q = some (sortI (fun a b => decide (cmp a b < 0)) xs) := by
 unfold Aa7
 rw [show std.ar .add .i64 0 1 = ((1 : Nat) : Int) from rfl]
 cases xs with
 | nil => rw [Adq]; rfl
 | cons x0 ys =>
  generalize hxs : x0 :: ys = xs at hn
  have h1 : 1 ≤ xs.length := by rw [← hxs]; simp
  have hstart : xs = sortI (fun a b => decide (cmp a b < 0)) (xs.take 1) ++ xs.drop 1 := by rw [← hxs]; rfl
  have := Aii (B := Acf std (xs.length : Int) 0 (xs.length : Int) q) (fun i (_ : Unit) => ((i : Int), sortI (fun a b => decide (cmp a b < 0)) (xs.take i) ++ xs.drop i)) xs (fun _ _ (_ : Unit) => (.inl () : Unit ⊕ List Hours)) (fun _ => sortI (fun a b => decide (cmp a b < 0)) xs) (fun _ _ => True)
   (fun i x u hx _ => by
    have hi := Ae2 hx
    refine ⟨fun s' _ => ⟨?_, trivial⟩, fun e he => by cases he⟩
    obtain ⟨x', hx', _, hd, ht⟩ := i_at (xs := xs) (i := i) hi
    rw [hx] at hx'; cases hx'
    unfold Acf
    simp only
    rw [lssT hi, br_true]
    have hlen : (sortI (fun a b => decide (cmp a b < 0)) (xs.take i)).reverse.length = i := by rw [List.length_reverse, Afn, List.length_take]; omega
    have := A5s q cmp hq xs.length i hn (by omega) (sortI (fun a b => decide (cmp a b < 0)) (xs.take i)).reverse (xs.drop (i + 1)) x (by
     rw [List.reverse_reverse, ← hd, List.length_append, Afn, List.length_take, List.length_drop]; omega)
    rw [hlen, List.reverse_reverse, ← hd] at this
    rw [this, ht, Aow, Arj]
    rfl)
   (fun s _ => by
    unfold Acf
    simp only
    rw [lssF, br_false, List.take_length, List.drop_length, List.append_nil]
    rfl) 1 h1 () trivial
  rw [← hstart] at this
  refine this.trans (congrArg some ?_)
  have key : ∀ (l : List Hours) (i : Nat), runL (fun _ _ (_ : Unit) => (.inl () : Unit ⊕ List Hours)) (fun _ => sortI (fun a b => decide (cmp a b < 0)) xs) i l () = sortI (fun a b => decide (cmp a b < 0)) xs := by
   intro l
   induction l with
   | nil => intro i; rfl
   | cons x xs ih => intro i; exact ih (i + 1)
  exact key _ _
theorem stable_Hours (q : Hours → Hours → Option Int) (cmp : Hours → Hours → Int) (hq : ∀ x y, q x y = some (cmp x y)) (xs : List Hours) (hn : xs.length < 20) :
  Aci std xs (xs.length : Int) (xs.length : Int) q = some (sortI (fun a b => decide (cmp a b < 0)) xs) := by
 unfold Aci
 have hB : Ags std (xs.length : Int) (xs.length : Int) q (0, 20, xs) = some (.inr (sortI (fun a b => decide (cmp a b < 0)) xs)) := by
  unfold Ags
  simp only
  rw [show std.cmp .leq 20 (xs.length : Int) = false by rw [s_leq]; exact decide_eq_false (by omega), br_false, A9s q cmp hq xs (by omega), bd_some, Adq]
  have h2 : Agr std (xs.length : Int) (sortI (fun a b => decide (cmp a b < 0)) xs) 20 = some (.inr (sortI (fun a b => decide (cmp a b < 0)) xs)) := by
   unfold Agr
   simp only
   rw [show std.cmp .lss 20 (xs.length : Int) = false by rw [s_lss]; exact decide_eq_false (by omega), br_false]
   rfl
  rw [h2]
  rfl
 rw [Adq, hB]
end Go.PL
namespace Go.PL
set_option linter.unusedSimpArgs false
set_option linter.unusedVariables false
set_option linter.unusedSectionVars false
open Tys (Ty U)
open Enc (sz enc dflt tb ofB toB)
open Dec (dec dok)
set_option maxRecDepth 100000
def Ab0 {α : Type} (key : α → ByteArray) (a b : α) : Bool := lessS (key a) (key b)
theorem A9t (xs : List Rule) (h : xs.length ≤ 1000) : Afg std xs = some ((xs.length : Int), xs) := by
 unfold Afg
 have e : ∀ k : Nat, k ≤ 1000 → std.appOk TyS.rule k [] xs := fun k hk => ⟨by have := Nat.mul_le_mul (show ([] : List (U TyS.rule)).length + xs.length ≤ 1000 by simpa using h) hk; omega, by simp; omega⟩
 rw [A8m (fun hc => by
  have h0 : xs = [] := by
   rw [s_eql, Aab] at hc
   have : xs.length = 0 := by simpa using hc
   exact List.length_eq_zero_iff.1 this
  subst h0
  rw [ck_t (e _ (by decide))]
  rfl), ck_t (e _ (by decide))]
 rfl
theorem A7w (xs : List Rule) (q : Rule → Option ByteArray) (key : Rule → ByteArray) (hq : ∀ x, q x = some (key x)) (h : xs.length < 20) : Agl std xs q = some (sortI (Ab0 key) xs) := by
 unfold Agl Ab7
 rw [A9t xs (by omega), bd_some]
 simp only
 rw [stable_Rule (fun y0 y1 => Agt std y0 y1 q) (fun a b => Lib.compareBytes (key a).data.toList (key b).data.toList) (fun x y => by unfold Agt strings_Compare; rw [hq, bd_some, hq, bd_some, bd_some]) xs h, bd_some, bd_some]
 have e : (fun a b : Rule => decide (Lib.compareBytes (key a).data.toList (key b).data.toList < 0)) = Ab0 key := funext fun a => funext fun b => Aqb _ _
 have hl := Afn (Ab0 key) xs
 rw [e, s_pl, Int.zero_add, Aab, ck_t (show std.subOk 0 (xs.length : Int) ((sortI (Ab0 key) xs).length : Int) from ⟨by omega, by omega, by omega⟩), Avi]
 simp [← hl]
theorem A5t (xs : List ByteArray) (h : xs.length ≤ 1000) : Adt std xs = some ((xs.length : Int), xs) := by
 unfold Adt
 have e : ∀ k : Nat, k ≤ 1000 → std.appOk TyS.str k [] xs := fun k hk => ⟨by have := Nat.mul_le_mul (show ([] : List (U TyS.str)).length + xs.length ≤ 1000 by simpa using h) hk; omega, by simp; omega⟩
 rw [A8m (fun hc => by
  have h0 : xs = [] := by
   rw [s_eql, Aab] at hc
   have : xs.length = 0 := by simpa using hc
   exact List.length_eq_zero_iff.1 this
  subst h0
  rw [ck_t (e _ (by decide))]
  rfl), ck_t (e _ (by decide))]
 rfl
theorem A3m (xs : List ByteArray) (q : ByteArray → Option ByteArray) (key : ByteArray → ByteArray) (hq : ∀ x, q x = some (key x)) (h : xs.length < 20) : Ae7 std xs q = some (sortI (Ab0 key) xs) := by
 unfold Ae7 Abk
 rw [A5t xs (by omega), bd_some]
 simp only
 rw [stable_string (fun y0 y1 => Afh std y0 y1 q) (fun a b => Lib.compareBytes (key a).data.toList (key b).data.toList) (fun x y => by unfold Afh strings_Compare; rw [hq, bd_some, hq, bd_some, bd_some]) xs h, bd_some, bd_some]
 have e : (fun a b : ByteArray => decide (Lib.compareBytes (key a).data.toList (key b).data.toList < 0)) = Ab0 key := funext fun a => funext fun b => Aqb _ _
 have hl := Afn (Ab0 key) xs
 rw [e, s_pl, Int.zero_add, Aab, ck_t (show std.subOk 0 (xs.length : Int) ((sortI (Ab0 key) xs).length : Int) from ⟨by omega, by omega, by omega⟩), Avi]
 simp [← hl]
theorem A7x (xs : List Hours) (h : xs.length ≤ 1000) : Ad6 std xs = some ((xs.length : Int), xs) := by
 unfold Ad6
 have e : ∀ k : Nat, k ≤ 1000 → std.appOk TyS.hours k [] xs := fun k hk => ⟨by have := Nat.mul_le_mul (show ([] : List (U TyS.hours)).length + xs.length ≤ 1000 by simpa using h) hk; omega, by simp; omega⟩
 rw [A8m (fun hc => by
  have h0 : xs = [] := by
   rw [s_eql, Aab] at hc
   have : xs.length = 0 := by simpa using hc
   exact List.length_eq_zero_iff.1 this
  subst h0
  rw [ck_t (e _ (by decide))]
  rfl), ck_t (e _ (by decide))]
 rfl
theorem A5u (xs : List Hours) (q : Hours → Option ByteArray) (key : Hours → ByteArray) (hq : ∀ x, q x = some (key x)) (h : xs.length < 20) : Afp std xs q = some (sortI (Ab0 key) xs) := by
 unfold Afp Abr
 rw [A7x xs (by omega), bd_some]
 simp only
 rw [stable_Hours (fun y0 y1 => Af9 std y0 y1 q) (fun a b => Lib.compareBytes (key a).data.toList (key b).data.toList) (fun x y => by unfold Af9 strings_Compare; rw [hq, bd_some, hq, bd_some, bd_some]) xs h, bd_some, bd_some]
 have e : (fun a b : Hours => decide (Lib.compareBytes (key a).data.toList (key b).data.toList < 0)) = Ab0 key := funext fun a => funext fun b => Aqb _ _
 have hl := Afn (Ab0 key) xs
 rw [e, s_pl, Int.zero_add, Aab, ck_t (show std.subOk 0 (xs.length : Int) ((sortI (Ab0 key) xs).length : Int) from ⟨by omega, by omega, by omega⟩), Avi]
 simp [← hl]
end Go.PL
namespace Go.PL
set_option linter.unusedSimpArgs false
set_option linter.unusedVariables false
set_option linter.unusedSectionVars false
open Tys (Ty U)
open Enc (sz enc dflt tb ofB toB)
open Dec (dec dok)
set_option maxRecDepth 100000
section
variable {α : Type} (key : α → ByteArray)
theorem A8u (x : α) : ∀ L R : List α, Asc key (L.reverse ++ R) → (∀ y ∈ R, lessS (key x) (key y) = true) → (∀ y ∈ L, key y ≠ key x) → Asc key (insR (Ab0 key) x L R)
 | [], R, h, hR, _ => by
  simp only [insR, Asc]
  exact List.pairwise_cons.2 ⟨hR, by simpa [Asc] using h⟩
 | y :: L, R, h, hR, hL => by
  cases hc : Ab0 key x y with
  | true =>
   rw [Aw9 hc]
   refine A8u x L (y :: R) (by rw [List.reverse_cons, List.append_assoc] at h; exact h) (fun z hz => ?_) fun z hz => hL z (List.mem_cons_of_mem _ hz)
   rcases List.mem_cons.1 hz with rfl | hz
   ·exact hc
   ·exact hR z hz
  | false =>
   rw [Axa hc]
   have hyx : lessS (key y) (key x) = true := by
    cases h2 : lessS (key y) (key x) with
    | true => rfl
    | false => exact absurd (Ax7 h2 hc) (hL y (List.mem_cons_self ..))
   unfold Asc at h ⊢
   rw [List.pairwise_append] at h ⊢
   obtain ⟨h1, h2, h3⟩ := h
   refine ⟨h1, List.pairwise_cons.2 ⟨hR, h2⟩, fun a ha b hb => ?_⟩
   rcases List.mem_cons.1 hb with rfl | hb
   ·rw [List.mem_reverse] at ha
    rcases List.mem_cons.1 ha with rfl | ha
    ·exact hyx
    ·rw [List.reverse_cons, List.pairwise_append] at h1
     exact Ari (h1.2.2 a (List.mem_reverse.2 ha) y (by simp)) hyx
   ·exact h3 a ha b hb
theorem A5v : ∀ (n : Nat) (xs : List α), xs.length = n → (xs.map key).Nodup → Asc key (sortI (Ab0 key) xs)
 | 0, xs, h, _ => by
  rw [List.length_eq_zero_iff.1 h]; exact List.Pairwise.nil
 | n + 1, xs, h, hd => by
  rcases List.eq_nil_or_concat xs with rfl | ⟨ys, x, rfl⟩
  ·exact List.Pairwise.nil
  ·rw [List.concat_eq_append] at *
   rw [List.map_append, List.nodup_append] at hd
   obtain ⟨h1, _, h3⟩ := hd
   have ih := A5v n ys (by simpa using h) h1
   rw [Aow]
   refine A8u key x _ [] (by rw [List.reverse_reverse, List.append_nil]; exact ih) (fun y hy => by cases hy) fun y hy => ?_
   rw [List.mem_reverse] at hy
   have hy' := (Ah5 (Ab0 key) ys).mem_iff.1 hy
   exact h3 _ (List.mem_map_of_mem hy') _ (by simp)
end
end Go.PL
namespace Go.PL
set_option linter.unusedSimpArgs false
set_option linter.unusedVariables false
set_option linter.unusedSectionVars false
open Tys (Ty U)
open Enc (sz enc dflt tb ofB toB)
open Dec (dec dok)
set_option maxRecDepth 100000
theorem A8v {α : Type} {p : Nat → α → Bool} : ∀ {xs : List α} {i : Nat}, allI p i xs = true → ∀ (j : Nat) (x : α), xs[j]? = some x → p (i + j) x = true
 | [], _, _, j, x, h => by simp at h
 | y :: ys, i, h, j, x, hx => by
  simp only [allI, Bool.and_eq_true] at h
  cases j with
  | zero => cases hx; exact h.1
  | succ j =>
   have := A8v h.2 j x (by simpa using hx)
   rwa [show i + 1 + j = i + (j + 1) by omega] at this
theorem Awu {names : List ByteArray} (h : onceS names = true) : names.Nodup := by
 unfold List.Nodup
 rw [List.pairwise_iff_getElem]
 intro i j hi hj hij e
 have hs : names[j]? = some names[j] := List.getElem?_eq_getElem hj
 have := A8v h j names[j] hs
 rw [Nat.zero_add] at this
 simp only [onceP, hasS, Bool.not_eq_true', List.any_eq_false, decide_eq_true_eq] at this
 refine this names[j] (List.mem_of_getElem? (i := i) ?_) rfl
 rw [List.getElem?_take, if_pos hij, List.getElem?_eq_getElem hi, e]
end Go.PL
namespace Go.PL
set_option linter.unusedSimpArgs false
set_option linter.unusedVariables false
set_option linter.unusedSectionVars false
open Tys (Ty U)
open Enc (sz enc dflt tb ofB toB)
open Dec (dec dok)
set_option maxRecDepth 100000
def atS (l : List ByteArray) (k : Nat) : ByteArray := l.getD k ⟨#[]⟩
def castI (l : List Nat) : List Int := l.map fun k : Nat => (k : Int)
theorem A5w {l : List ByteArray} {k : Nat} (h : k < l.length) : l[k]? = some (atS l k) := by
 unfold atS; rw [List.getD_eq_getElem?_getD, List.getElem?_eq_getElem h]; rfl
theorem Ar2 (l : List Nat) : std.len TyS.int (castI l) = (l.length : Int) := by rw [Aab]; simp [castI]
theorem A8w {l : List Nat} {k y : Nat} (h : l[k]? = some y) : std.get TyS.int (castI l) (k : Int) = (y : Int) := Aai (t := TyS.int) (by unfold castI; rw [List.getElem?_map, h]; rfl)
theorem A3n (l m : List Nat) : castI (l ++ m) = castI l ++ castI m := List.map_append ..
theorem A1e (l : List ByteArray) (i : Nat) (hi : i ≤ 1000) (pre post : List Nat) (hn : (pre ++ post).length ≤ 1000) :
  (ck (std.subOk 0 (pre.length : Int) (std.len TyS.int (castI (pre ++ post)))) <|
    ck (std.appOk TyS.int 8 [] (std.lsub TyS.int (castI (pre ++ post)) 0 (pre.length : Int))) <|
    ck (std.appOk TyS.int 8 (std.app TyS.int [] (std.lsub TyS.int (castI (pre ++ post)) 0 (pre.length : Int))) [(i : Int)]) <|
    ck (std.subOk (pre.length : Int) (std.len TyS.int (castI (pre ++ post))) (std.len TyS.int (castI (pre ++ post)))) <|
    ck (std.appOk TyS.int 8 (std.app TyS.int (std.app TyS.int [] (std.lsub TyS.int (castI (pre ++ post)) 0 (pre.length : Int))) [(i : Int)]) (std.lsub TyS.int (castI (pre ++ post)) (pre.length : Int) (std.len TyS.int (castI (pre ++ post))))) <|
    some ((.inl (std.app TyS.int (std.app TyS.int (std.app TyS.int [] (std.lsub TyS.int (castI (pre ++ post)) 0 (pre.length : Int))) [(i : Int)]) (std.lsub TyS.int (castI (pre ++ post)) (pre.length : Int) (std.len TyS.int (castI (pre ++ post)))), std.ar .add .i64 (i : Int) 1)) : (List Int × Int) ⊕ List Int)) = some (.inl (castI (pre ++ i :: post), ((i + 1 : Nat) : Int))) := by
 have e1 : std.lsub TyS.int (castI (pre ++ post)) 0 (pre.length : Int) = castI pre := by
  rw [Avi, A3n, Int.toNat_natCast]
  have : (castI pre).length = pre.length := by simp [castI]
  simp [← this]
 have e2 : std.lsub TyS.int (castI (pre ++ post)) (pre.length : Int) (std.len TyS.int (castI (pre ++ post))) = castI post := by
  rw [Avi, Ar2, Int.toNat_natCast, Int.toNat_natCast, A3n]
  have h1 : (castI pre).length = pre.length := by simp [castI]
  have h2 : (castI pre ++ castI post).length = (pre ++ post).length := by simp [castI]
  rw [← h2, List.take_length, ← h1, List.drop_left]
 rw [List.length_append] at hn
 have l1 : (castI pre).length = pre.length := by simp [castI]
 have l2 : (castI post).length = post.length := by simp [castI]
 rw [e1, e2, Ar2, s_app, s_app, s_app, List.nil_append]
 rw [ck_t (show std.subOk 0 (pre.length : Int) ((pre ++ post).length : Int) from ⟨by omega, by omega, by rw [List.length_append]; omega⟩), ck_t (show std.appOk TyS.int 8 [] (castI pre) from ⟨by simp [l1]; omega, by simp [l1]; omega⟩), ck_t (show std.appOk TyS.int 8 (castI pre) [(i : Int)] from ⟨by simp [l1]; omega, by simp [l1]; omega⟩), ck_t (show std.subOk (pre.length : Int) ((pre ++ post).length : Int) ((pre ++ post).length : Int) from ⟨by omega, by rw [List.length_append]; omega, by omega⟩), ck_t (show std.appOk TyS.int 8 (castI pre ++ [(i : Int)]) (castI post) from ⟨by simp [l1, l2]; omega, by simp [l1, l2]; omega⟩), s_add, wrap_succ (n := 1001) (by omega) (by unfold big63; omega)]
 congr 3
 rw [A3n, List.append_assoc]
 rfl
theorem Axb (l : List ByteArray) (i : Nat) (s : ByteArray) (hs : l[i]? = some s) (hi : i ≤ 1000) (hf : ∀ x ∈ l, fitS x) : ∀ (post pre : List Nat), (∀ k ∈ pre ++ post, k < l.length) → (pre ++ post).length ≤ 1000 →
  Loop (Ab9 std l (castI (pre ++ post)) (i : Int)) (pre.length : Int) = some (.inl (castI (pre ++ insL (atS l) i post), ((i + 1 : Nat) : Int)))
 | [], pre, hk, hn => by
  rw [Adq]
  have hput := A1e l i hi pre [] hn
  have hB : Ab9 std l (castI (pre ++ [])) (i : Int) (pre.length : Int) = some (.inr (.inl (castI (pre ++ [i]), ((i + 1 : Nat) : Int)))) := by
   unfold Ab9
   simp only
   rw [show std.cmp .lss (pre.length : Int) (std.len TyS.int (castI (pre ++ []))) = false by rw [Ar2, List.append_nil]; exact lssF]
   have hv : ∀ p : Prop, vc false p := fun p => True.intro
   rw [ck_t (hv _), ck_t (hv _), gd_f, bd_some, s_land, Bool.false_and, br_false, hput]
   rfl
  rw [hB]
  rfl
 | y :: post, pre, hk, hn => by
  rw [Adq]
  have hput := A1e l i hi pre (y :: post) hn
  have hlt : pre.length < (pre ++ y :: post).length := by simp
  have hy : (pre ++ y :: post)[pre.length]? = some y := by simp
  have hyl : y < l.length := hk y (by simp)
  have hs' : s = atS l i := by have := A5w (Ae2 hs); rw [hs] at this; exact Option.some.inj this
  have hB : Ab9 std l (castI (pre ++ y :: post)) (i : Int) (pre.length : Int) = some (if lessS (atS l y) (atS l i) = true then .inl ((pre.length + 1 : Nat) : Int) else .inr (.inl (castI (pre ++ i :: y :: post), ((i + 1 : Nat) : Int)))) := by
   unfold Ab9
   simp only
   rw [show std.cmp .lss (pre.length : Int) (std.len TyS.int (castI (pre ++ y :: post))) = true by rw [Ar2]; exact lssT hlt]
   have hv : ∀ {p : Prop}, p → vc true p := fun h => h
   rw [ck_t (hv (by rw [Ar2]; exact inbT hlt)), A8w hy, ck_t (hv (by rw [Aab]; exact inbT hyl)), gd_t, Aai (t := TyS.str) (A5w hyl), Aai (t := TyS.str) hs, Aux _ _ (hf _ (Abv (A5w hyl))), bd_some, s_land, Bool.true_and, ← hs']
   cases hc : lessS (atS l y) s with
   | true => rw [br_true, s_add, wrap_succ (n := 1001) (by omega) (by unfold big63; omega), if_pos rfl]
   | false => rw [br_false, hput, if_neg (by simp)]; rfl
  rw [hB]
  cases hc : lessS (atS l y) (atS l i) with
  | true =>
   rw [if_pos rfl]
   have := Axb l i s hs hi hf post (pre ++ [y]) (by simpa using hk) (by simpa using hn)
   rw [List.length_append, List.length_singleton, List.append_assoc, List.append_assoc] at this
   rw [insL, if_pos hc]
   exact this
  | false =>
   rw [if_neg (by simp), insL, if_neg (by rw [hc]; simp)]
def stepP (l : List ByteArray) (acc : List Nat) (i : Nat) : List Nat := if hasS (l.take i) (atS l i) = true then acc else insL (atS l) i acc
def placesTo (l : List ByteArray) (i : Nat) : List Nat := (List.range i).foldl (stepP l) []
theorem Aor (l : List ByteArray) (i : Nat) : placesTo l (i + 1) = stepP l (placesTo l i) i := by
 unfold placesTo; rw [List.range_succ, List.foldl_append]; rfl
theorem A8x {α : Type} (key : α → ByteArray) (x : α) : ∀ l : List α, (insL key x l).length = l.length + 1
 | [] => rfl
 | y :: l => by
  simp only [insL]
  split
  ·simp [A8x key x l]
  ·simp
theorem Ar3 (l : List ByteArray) : ∀ i, (placesTo l i).length ≤ i ∧ ∀ k ∈ placesTo l i, k < i
 | 0 => ⟨by simp [placesTo], fun k hk => by simp [placesTo] at hk⟩
 | i + 1 => by
  obtain ⟨h1, h2⟩ := Ar3 l i
  rw [Aor]
  unfold stepP
  split
  ·exact ⟨by omega, fun k hk => by have := h2 k hk; omega⟩
  ·refine ⟨by rw [A8x]; omega, fun k hk => ?_⟩
   rcases (insL_mem (atS l) i k _).1 hk with rfl | hk
   ·omega
   ·have := h2 k hk; omega
theorem Aos (l : List ByteArray) (hl : l.length ≤ 1000) (hf : ∀ x ∈ l, fitS x) : Aad std l = some (castI (placesTo l l.length)) := by
 unfold Aad
 have := Ach (B := Aev std l) (fun i (_ : Unit) => (castI (placesTo l i), (i : Int))) l (fun _ _ (_ : Unit) => (.inl () : Unit ⊕ List Int)) (fun _ => castI (placesTo l l.length)) (fun i s u hs hi => by
  obtain ⟨h1, h2⟩ := Ar3 l i
  have hs' : s = atS l i := by have := A5w hi; rw [hs] at this; exact Option.some.inj this
  unfold Aev
  simp only
  have e : std.lsub TyS.str l 0 (i : Int) = l.take i := by rw [Avi]; simp
  rw [Aab, lssT hi, br_true, ck_t (inbT hi), ck_t (show std.subOk 0 (i : Int) (l.length : Int) from ⟨by omega, by omega, by omega⟩), e, Aai (t := TyS.str) hs, Atx _ _ (by rw [List.length_take]; unfold big63; omega), bd_some, Aor]
  unfold stepP
  rw [← hs']
  cases hh : hasS (l.take i) s with
  | true => rw [br_true, s_add, wrap_succ hi (by unfold big63; omega), if_pos rfl]
  | false =>
   rw [br_false, if_neg (by simp)]
   have := Axb l i s hs (by omega) hf (placesTo l i) [] (fun k hk => by have := h2 k (by simpa using hk); omega) (by simp; omega)
   exact this) (fun _ => by
  unfold Aev
  simp only
  rw [Aab, lssF, br_false]
  rfl) ()
 refine this.trans (congrArg some ?_)
 have key : ∀ (xs : List ByteArray) (i : Nat), runL (fun _ _ (_ : Unit) => (.inl () : Unit ⊕ List Int)) (fun _ => castI (placesTo l l.length)) i xs () = castI (placesTo l l.length) := by
  intro xs
  induction xs with
  | nil => intro i; rfl
  | cons x xs ih => intro i; exact ih (i + 1)
 exact key l 0
end Go.PL
namespace Go.PL
set_option linter.unusedSimpArgs false
set_option linter.unusedVariables false
set_option linter.unusedSectionVars false
open Tys (Ty U)
open Enc (sz enc dflt tb ofB toB)
open Dec (dec dok)
set_option maxRecDepth 100000
theorem Azj : ∀ (a b : Nat) (x y : List UInt8), numL a ++ x = numL b ++ y → a = b ∧ x = y
 | a, b, x, y, h => by
  have e : ∀ n : Nat, (UInt8.ofNat n).toNat = n % 256 := fun n => by simp
  rw [numL.eq_def a, numL.eq_def b] at h
  by_cases ha : a < 128 <;> by_cases hb : b < 128
  ·rw [dif_pos ha, dif_pos hb] at h
   have h1 := congrArg UInt8.toNat (List.cons.inj h).1
   rw [e, e] at h1
   exact ⟨by omega, (List.cons.inj h).2⟩
  ·rw [dif_pos ha, dif_neg hb] at h
   have h1 := congrArg UInt8.toNat (List.cons.inj h).1
   rw [e, e] at h1
   omega
  ·rw [dif_neg ha, dif_pos hb] at h
   have h1 := congrArg UInt8.toNat (List.cons.inj h).1
   rw [e, e] at h1
   omega
  ·rw [dif_neg ha, dif_neg hb] at h
   have h1 := congrArg UInt8.toNat (List.cons.inj h).1
   rw [e, e] at h1
   obtain ⟨h2, h3⟩ := Azj (a / 128) (b / 128) x y (List.cons.inj h).2
   exact ⟨by omega, h3⟩
 termination_by a => a
 decreasing_by omega
theorem Bbt (n : Nat) : numL n ≠ [] := by
 rw [numL.eq_def]; split <;> simp
theorem At1 (p : ByteArray) (l : List ByteArray) : bindL (p :: l) = numL p.size ++ (bytes p ++ bindL l) := by
 simp [bindL]
theorem A5x : ∀ l m : List ByteArray, bindL l = bindL m → l = m
 | [], [], _ => rfl
 | [], q :: m, h => by
  rw [At1] at h
  have := (List.append_eq_nil_iff.1 h.symm).1
  exact absurd this (Bbt _)
 | p :: l, [], h => by
  rw [At1] at h
  exact absurd (List.append_eq_nil_iff.1 h).1 (Bbt _)
 | p :: l, q :: m, h => by
  rw [At1, At1] at h
  obtain ⟨h1, h2⟩ := Azj _ _ _ _ h
  obtain ⟨h3, h4⟩ := List.append_inj h2 (by rw [Aae, Aae, h1])
  rw [ba_ext h3, A5x l m h4]
theorem Azk {l m : List ByteArray} (h : bindS l = bindS m) : l = m := by
 apply A5x
 rw [← Amt, ← Amt, h]
theorem A3o {p : UInt8 → Bool} : ∀ A B C D : List UInt8, (∀ x ∈ A, p x = true) → (∀ x ∈ B, p x = true) → (∀ c, C.head? = some c → p c = false) → (∀ c, D.head? = some c → p c = false) → A ++ C = B ++ D → A = B ∧ C = D
 | [], [], _, _, _, _, _, _, h => ⟨rfl, h⟩
 | [], b :: B, C, D, _, hB, hC, _, h => by
  have h1 := hC b (by rw [List.nil_append] at h; rw [h]; rfl)
  rw [hB b (List.mem_cons_self ..)] at h1; cases h1
 | a :: A, [], C, D, hA, _, _, hD, h => by
  have h1 := hD a (by rw [List.nil_append] at h; rw [← h]; rfl)
  rw [hA a (List.mem_cons_self ..)] at h1; cases h1
 | a :: A, b :: B, C, D, hA, hB, hC, hD, h => by
  obtain ⟨h1, h2⟩ := List.cons.inj h
  obtain ⟨h3, h4⟩ := A3o A B C D (fun x hx => hA x (List.mem_cons_of_mem _ hx)) (fun x hx => hB x (List.mem_cons_of_mem _ hx)) hC hD h2
  exact ⟨by rw [h1, h3], h4⟩
theorem A1f (r : List ByteArray) : ∀ c, (r.map fun x => 124 :: bytes x).flatten.head? = some c → mwC c = false := by
 intro c h
 cases r with
 | nil => cases h
 | cons x r =>
  simp only [List.map_cons, List.flatten_cons, List.cons_append, List.head?_cons, Option.some.injEq] at h
  subst h; decide
theorem A5y : ∀ (w v : ByteArray) (r s : List ByteArray), (∀ x ∈ w :: r, (bytes x).all mwC = true) → (∀ x ∈ v :: s, (bytes x).all mwC = true) → bytes w ++ (r.map fun x => 124 :: bytes x).flatten = bytes v ++ (s.map fun x => 124 :: bytes x).flatten → w :: r = v :: s
 | w, v, r, s, hw, hv, h => by
  have h1 := hw w (List.mem_cons_self ..)
  have h2 := hv v (List.mem_cons_self ..)
  rw [List.all_eq_true] at h1 h2
  obtain ⟨h3, h4⟩ := A3o _ _ _ _ h1 h2 (A1f r) (A1f s) h
  rw [ba_ext h3]
  cases r with
  | nil =>
   cases s with
   | nil => rfl
   | cons y s => simp at h4
  | cons x r =>
   cases s with
   | nil => simp at h4
   | cons y s =>
    simp only [List.map_cons, List.flatten_cons, List.cons_append] at h4
    rw [A5y x y r s (fun z hz => hw z (List.mem_cons_of_mem _ hz)) (fun z hz => hv z (List.mem_cons_of_mem _ hz)) (List.cons.inj h4).2]
 termination_by _ _ r => r.length
theorem A1g {s : ByteArray} (h : nameS s = true) : ∀ c ∈ bytes s, (letC c || digC c) = true := by
 intro c hc
 simp only [nameS, Bool.and_eq_true] at h
 obtain ⟨j, hj⟩ := Ax4 h.1.1 c hc
 simp only [nameP, Bool.or_eq_true, Bool.and_eq_true] at hj ⊢
 exact hj.imp id fun h => h.2
theorem Bbu {a b : Int} (a1 : 1 ≤ a) (a4 : a ≤ 4) (b1 : 1 ≤ b) (b4 : b ≤ 4) {x y : List UInt8} (h : signL a ++ 34 :: x = signL b ++ 34 :: y) : a = b ∧ x = y := by
 have ha : a = 1 ∨ a = 2 ∨ a = 3 ∨ a = 4 := by omega
 have hb : b = 1 ∨ b = 2 ∨ b = 3 ∨ b = 4 := by omega
 rcases ha with rfl | rfl | rfl | rfl <;> rcases hb with rfl | rfl | rfl | rfl <;> simp [signL] at h ⊢ <;> exact h
theorem A1h {a : Int} (a1 : 1 ≤ a) (a4 : a ≤ 4) (x : List UInt8) : ∀ c, (signL a ++ x).head? = some c → (letC c || digC c) = false := by
 intro c h
 have ha : a = 1 ∨ a = 2 ∨ a = 3 ∨ a = 4 := by omega
 rcases ha with rfl | rfl | rfl | rfl <;> simp [signL] at h <;> subst h <;> decide
theorem Bbv {m n : Matcher} (hm : Adr m = true) (hn : Adr n = true) (h : textS m = textS n) : m = n := by
 have h := congrArg bytes h
 rw [Amu, Amu] at h
 have hm0 := Ajs hm
 have hn0 := Ajs hn
 simp only [Adr, Bool.and_eq_true, decide_eq_true_eq] at hm hn
 obtain ⟨hmw, ⟨⟨⟨⟨hm2, _⟩, _⟩, hm1⟩, _⟩, _⟩ := hm
 obtain ⟨hnw, ⟨⟨⟨⟨hn2, _⟩, _⟩, hn1⟩, _⟩, _⟩ := hn
 unfold textL at h
 have h := List.append_cancel_right h
 rw [List.append_assoc, List.append_assoc, List.append_assoc, List.append_assoc] at h
 obtain ⟨h1, h2⟩ := A3o _ _ _ _ (A1g hm2) (A1g hn2) (A1h hm0.how1 hm0.how4 _) (A1h hn0.how1 hn0.how4 _) h
 obtain ⟨h3, h4⟩ := Bbu hm0.how1 hm0.how4 hn0.how1 hn0.how4 h2
 have wm : ∀ x ∈ m.Words, (bytes x).all mwC = true := fun x hx => by
  have := Arh hmw x hx
  simp only [Apk, Bool.and_eq_true] at this
  exact this.1
 have wn : ∀ x ∈ n.Words, (bytes x).all mwC = true := fun x hx => by
  have := Arh hnw x hx
  simp only [Apk, Bool.and_eq_true] at this
  exact this.1
 obtain ⟨mn, mh, mw⟩ := m
 obtain ⟨nn, nh, nw⟩ := n
 simp only at *
 subst h3
 rw [ba_ext h1]
 cases mw with
 | nil => simp at hm1
 | cons x mw =>
  cases nw with
  | nil => simp at hn1
  | cons y nw => rw [A5y x y mw nw wm wn h4]
theorem A1i {α β : Type} {f : α → β} {P : α → Prop} (hf : ∀ x y, P x → P y → f x = f y → x = y) : ∀ l m : List α, (∀ x ∈ l, P x) → (∀ x ∈ m, P x) → l.map f = m.map f → l = m
 | [], [], _, _, _ => rfl
 | [], _ :: _, _, _, h => by simp at h
 | _ :: _, [], _, _, h => by simp at h
 | x :: l, y :: m, hl, hm, h => by
  rw [List.map_cons, List.map_cons] at h
  obtain ⟨h1, h2⟩ := List.cons.inj h
  rw [hf x y (hl x (List.mem_cons_self ..)) (hm y (List.mem_cons_self ..)) h1, A1i hf l m (fun z hz => hl z (List.mem_cons_of_mem _ hz)) (fun z hz => hm z (List.mem_cons_of_mem _ hz)) h2]
theorem A1j {l m : List Matcher} (hl : Aav l = true) (hm : Aav m = true) (h : Amb l = Amb m) : l = m :=
 A1i (P := fun m => Adr m = true) (fun x y hx hy => Bbv hx hy) l m (Anu hl).2 (Anu hm).2 (Azk h)
theorem A9u {x y : Inhibit} (hx : Aa4 x = true) (hy : Aa4 y = true) (h : Aa1 x = Aa1 y) : x = y := by
 simp only [Aa4, Bool.and_eq_true, decide_eq_true_eq] at hx hy
 have h := Azk h
 simp only [List.cons.injEq, and_true] at h
 obtain ⟨h1, h2, h3⟩ := h
 have e1 := A1j hx.2.1.2 hy.2.1.2 h1
 have e2 := A1j hx.2.2 hy.2.2 h2
 have e3 := Azk h3
 cases x; cases y
 simp only at e1 e2 e3
 rw [e1, e2, e3]
end Go.PL
namespace Go.PL
set_option linter.unusedSimpArgs false
set_option linter.unusedVariables false
set_option linter.unusedSectionVars false
open Tys (Ty U)
open Enc (sz enc dflt tb ofB toB)
open Dec (dec dok)
set_option maxRecDepth 100000
section
variable {α : Type} (key : α → ByteArray)
structure Norm (xs l : List α) : Prop where
 asc : Asc key l
 sub : ∀ x ∈ l, x ∈ xs
 all : ∀ x ∈ xs, ∃ y ∈ l, key y = key x
theorem Norm.uniq {xs l m : List α} (hi : ∀ x ∈ xs, ∀ y ∈ xs, key x = key y → x = y) (hl : Norm key xs l) (hm : Norm key xs m) : l = m := by
 refine Bbr key l m hl.asc hm.asc fun x => ⟨fun hx => ?_, fun hx => ?_⟩
 ·obtain ⟨y, hy, he⟩ := hm.all x (hl.sub x hx)
  rw [← hi y (hm.sub y hy) x (hl.sub x hx) he]; exact hy
 ·obtain ⟨y, hy, he⟩ := hl.all x (hm.sub x hx)
  rw [← hi y (hl.sub y hy) x (hm.sub x hx) he]; exact hy
theorem Norm.same {xs ys l : List α} (h : Norm key xs l) (he : ∀ x, x ∈ xs ↔ x ∈ ys) : Norm key ys l :=
 ⟨h.asc, fun x hx => (he x).1 (h.sub x hx), fun x hx => h.all x ((he x).2 hx)⟩
def WAsc (l : List α) : Prop := l.Pairwise fun x y => lessS (key y) (key x) = false
theorem A3p {a b c : ByteArray} (h1 : lessS a b = true) (h2 : lessS c b = false) : lessS a c = true := by
 cases h3 : lessS a c with
 | true => rfl
 | false =>
  cases h4 : lessS c a with
  | true => rw [Ari h4 h1] at h2; cases h2
  | false => obtain rfl := Ax7 h3 h4; rw [h1] at h2; cases h2
theorem Bbw {a b c : ByteArray} (h1 : lessS b a = false) (h2 : lessS c b = false) : lessS c a = false := by
 cases h : lessS c a with
 | false => rfl
 | true => have := A3p h h1; rw [this] at h2; cases h2
theorem A5z (x : α) : ∀ L R : List α, WAsc key (L.reverse ++ R) → (∀ y ∈ R, lessS (key x) (key y) = true) → WAsc key (insR (Ab0 key) x L R)
 | [], R, h, hR => by
  simp only [insR, WAsc]
  exact List.pairwise_cons.2 ⟨fun y hy => Awt (hR y hy), by simpa [WAsc] using h⟩
 | y :: L, R, h, hR => by
  cases hc : Ab0 key x y with
  | true =>
   rw [Aw9 hc]
   refine A5z x L (y :: R) (by rw [List.reverse_cons, List.append_assoc] at h; exact h) (fun z hz => ?_)
   rcases List.mem_cons.1 hz with rfl | hz
   ·exact hc
   ·exact hR z hz
  | false =>
   rw [Axa hc]
   have hc' : lessS (key x) (key y) = false := hc
   unfold WAsc at h ⊢
   rw [List.pairwise_append] at h ⊢
   obtain ⟨h1, h2, h3⟩ := h
   refine ⟨h1, List.pairwise_cons.2 ⟨fun z hz => Awt (hR z hz), h2⟩, fun a ha b hb => ?_⟩
   rcases List.mem_cons.1 hb with rfl | hb
   ·rw [List.mem_reverse] at ha
    rcases List.mem_cons.1 ha with rfl | ha
    ·exact hc'
    ·rw [List.reverse_cons, List.pairwise_append] at h1
     exact Bbw (h1.2.2 a (List.mem_reverse.2 ha) y (by simp)) hc'
   ·exact h3 a ha b hb
theorem A1k : ∀ (n : Nat) (xs : List α), xs.length = n → WAsc key (sortI (Ab0 key) xs)
 | 0, xs, h => by
  rw [List.length_eq_zero_iff.1 h]; exact List.Pairwise.nil
 | n + 1, xs, h => by
  rcases List.eq_nil_or_concat xs with rfl | ⟨ys, x, rfl⟩
  ·exact List.Pairwise.nil
  ·rw [List.concat_eq_append] at *
   have ih := A1k n ys (by simpa using h)
   rw [Aow]
   exact A5z key x _ [] (by rw [List.reverse_reverse, List.append_nil]; exact ih) (fun y hy => by cases hy)
def Aho : α → List α → List α
 | _, [] => []
 | p, y :: r => if key y = key p then Aho y r else y :: Aho y r
def Ahp : List α → List α
 | [] => []
 | x :: r => x :: Aho key x r
theorem Atm : ∀ (p : α) (r : List α), ∀ z ∈ Aho key p r, z ∈ r
 | p, [], z, h => by cases h
 | p, y :: r, z, h => by
  rw [Aho] at h
  split at h
  ·exact List.mem_cons_of_mem _ (Atm y r z h)
  ·rcases List.mem_cons.1 h with rfl | h
   ·exact List.mem_cons_self ..
   ·exact List.mem_cons_of_mem _ (Atm y r z h)
theorem compactA_all : ∀ (p : α) (r : List α), ∀ x ∈ r, key x = key p ∨ ∃ y ∈ Aho key p r, key y = key x
 | p, [], x, h => by cases h
 | p, y :: r, x, h => by
  rw [Aho]
  split
  ·rename_i he
   rcases List.mem_cons.1 h with rfl | h
   ·exact .inl he
   ·rcases compactA_all y r x h with h | h
    ·exact .inl (h.trans he)
    ·exact .inr h
  ·rcases List.mem_cons.1 h with rfl | h
   ·exact .inr ⟨x, List.mem_cons_self .., rfl⟩
   ·rcases compactA_all y r x h with h | ⟨z, hz, he⟩
    ·exact .inr ⟨y, List.mem_cons_self .., h.symm⟩
    ·exact .inr ⟨z, List.mem_cons_of_mem _ hz, he⟩
theorem Axc : ∀ (p : α) (r : List α), WAsc key (p :: r) → Asc key (p :: Aho key p r)
 | p, [], h => by simp [Aho, Asc]
 | p, y :: r, h => by
  unfold WAsc at h
  rw [List.pairwise_cons] at h
  have ih := Axc y r h.2
  have hy := h.1 y (List.mem_cons_self ..)
  unfold Asc at ih ⊢
  rw [List.pairwise_cons] at ih
  rw [Aho]
  split
  ·rename_i he
   exact List.pairwise_cons.2 ⟨fun z hz => by rw [← he]; exact ih.1 z hz, ih.2⟩
  ·rename_i he
   have hpy : lessS (key p) (key y) = true := by
    cases hc : lessS (key p) (key y) with
    | true => rfl
    | false => exact absurd (Ax7 hy hc) he
   refine List.pairwise_cons.2 ⟨fun z hz => ?_, List.pairwise_cons.2 ih⟩
   rcases List.mem_cons.1 hz with rfl | hz
   ·exact hpy
   ·exact Ari hpy (ih.1 z hz)
theorem Axd (xs : List α) : Norm key xs (Ahp key (sortI (Ab0 key) xs)) := by
 have hw := A1k key _ xs rfl
 have hp := Ah5 (Ab0 key) xs
 cases hs : sortI (Ab0 key) xs with
 | nil =>
  rw [hs] at hp
  have : xs = [] := List.length_eq_zero_iff.1 hp.length_eq.symm
  subst this
  exact ⟨List.Pairwise.nil, fun x hx => (by cases hx), fun x hx => (by cases hx)⟩
 | cons p r =>
  rw [hs] at hw hp
  refine ⟨Axc key p r hw, fun x hx => ?_, fun x hx => ?_⟩
  ·refine hp.mem_iff.1 ?_
   rcases List.mem_cons.1 hx with rfl | hx
   ·exact List.mem_cons_self ..
   ·exact List.mem_cons_of_mem _ (Atm key p r x hx)
  ·rcases List.mem_cons.1 (hp.mem_iff.2 hx) with rfl | hx
   ·exact ⟨x, List.mem_cons_self .., rfl⟩
   ·rcases compactA_all key p r x hx with h | ⟨y, hy, he⟩
    ·exact ⟨p, List.mem_cons_self .., h.symm⟩
    ·exact ⟨y, List.mem_cons_of_mem _ hy, he⟩
theorem Azl (xs : List α) (hd : (xs.map key).Nodup) : Norm key xs (sortI (Ab0 key) xs) := by
 have hp := Ah5 (Ab0 key) xs
 exact ⟨A5v key _ xs rfl hd, fun x hx => hp.mem_iff.1 hx, fun x hx => ⟨x, hp.mem_iff.2 hx, rfl⟩⟩
theorem Azm {xs : List α} (hd : (xs.map key).Nodup) : ∀ x ∈ xs, ∀ y ∈ xs, key x = key y → x = y := by
 intro x hx y hy he
 unfold List.Nodup at hd
 rw [List.pairwise_map] at hd
 by_cases h : x = y
 ·exact h
 ·exfalso
  induction xs with
  | nil => cases hx
  | cons z xs ih =>
   rw [List.pairwise_cons] at hd
   rcases List.mem_cons.1 hx with rfl | hx'
   ·rcases List.mem_cons.1 hy with rfl | hy'
    ·exact h rfl
    ·exact hd.1 y hy' he
   ·rcases List.mem_cons.1 hy with rfl | hy'
    ·exact hd.1 x hx' he.symm
    ·exact ih hd.2 hx' hy'
theorem Atn (l : List ByteArray) : ∀ i, i ≤ l.length → ∀ k, k ∈ placesTo l i ↔ k < i ∧ hasS (l.take k) (atS l k) = false
 | 0, _, k => by simp [placesTo]
 | i + 1, hi, k => by
  rw [Aor]
  unfold stepP
  have ih := Atn l i (by omega)
  split
  ·rename_i h
   rw [ih k]
   constructor
   ·rintro ⟨h1, h2⟩; exact ⟨by omega, h2⟩
   ·rintro ⟨h1, h2⟩
    refine ⟨?_, h2⟩
    rcases Nat.lt_or_ge k i with h3 | h3
    ·exact h3
    ·obtain rfl : k = i := by omega
     rw [h] at h2; cases h2
  ·rename_i h
   rw [insL_mem, ih k]
   constructor
   ·rintro (rfl | ⟨h1, h2⟩)
    ·exact ⟨by omega, by simpa using h⟩
    ·exact ⟨by omega, h2⟩
   ·rintro ⟨h1, h2⟩
    rcases Nat.lt_or_ge k i with h3 | h3
    ·exact .inr ⟨h3, h2⟩
    ·exact .inl (by omega)
theorem Axe (l : List ByteArray) : ∀ i, i ≤ l.length → Asc (atS l) (placesTo l i)
 | 0, _ => by simp [placesTo, Asc]
 | i + 1, hi => by
  rw [Aor]
  unfold stepP
  have ih := Axe l i (by omega)
  split
  ·exact ih
  ·rename_i h
   refine insL_asc (atS l) i _ ih ?_
   simp only [hasK, List.any_eq_false, decide_eq_true_eq]
   intro k hk he
   apply h
   have hk' := ((Atn l i (by omega) k).1 hk).1
   unfold hasS
   rw [List.any_eq_true]
   refine ⟨atS l k, List.mem_of_getElem? (i := k) ?_, by simpa using he⟩
   rw [List.getElem?_take, if_pos hk', A5w (by omega)]
def pick (d : α) (xs : List α) (ps : List Nat) : List α := ps.map fun k => xs.getD k d
theorem key_at {d : α} {xs : List α} {k : Nat} (h : k < xs.length) : key (xs.getD k d) = atS (xs.map key) k := by
 unfold atS
 rw [List.getD_eq_getElem?_getD, List.getD_eq_getElem?_getD, List.getElem?_map, List.getElem?_eq_getElem h]
 rfl
theorem Ar4 (d : α) (xs : List α) : Norm key xs (pick d xs (placesTo (xs.map key) xs.length)) := by
 have hl : xs.length ≤ (xs.map key).length := by simp
 have hm := Atn (xs.map key) xs.length hl
 refine ⟨?_, fun x hx => ?_, fun x hx => ?_⟩
 ·unfold Asc pick
  rw [List.pairwise_map]
  refine List.Pairwise.imp_of_mem ?_ (Axe (xs.map key) xs.length hl)
  intro a b ha hb h
  rw [key_at key ((hm a).1 ha).1, key_at key ((hm b).1 hb).1]
  exact h
 ·obtain ⟨k, hk, rfl⟩ := List.mem_map.1 hx
  have := ((hm k).1 hk).1
  rw [List.getD_eq_getElem?_getD, List.getElem?_eq_getElem this]
  exact List.getElem_mem ..
 ·obtain ⟨n, hn, rfl⟩ := List.getElem_of_mem hx
  have key2 : ∀ n, n < xs.length → ∃ k ∈ placesTo (xs.map key) xs.length, atS (xs.map key) k = atS (xs.map key) n := by
   intro n
   induction n using Nat.strongRecOn with
   | _ n ih =>
    intro hn
    cases hh : hasS ((xs.map key).take n) (atS (xs.map key) n) with
    | false => exact ⟨n, (hm n).2 ⟨hn, hh⟩, rfl⟩
    | true =>
     unfold hasS at hh
     rw [List.any_eq_true] at hh
     obtain ⟨y, hy, he⟩ := hh
     obtain ⟨j, hj, rfl⟩ := List.getElem_of_mem hy
     have hjn : j < n := by rw [List.length_take] at hj; omega
     obtain ⟨k, hk, e⟩ := ih j hjn (by omega)
     refine ⟨k, hk, e.trans ?_⟩
     have he : ((xs.map key).take n)[j] = atS (xs.map key) n := by simpa using he
     rw [← he, List.getElem_take]
     unfold atS
     rw [List.getD_eq_getElem?_getD, List.getElem?_eq_getElem (by simp; omega)]
     rfl
  obtain ⟨k, hk, e⟩ := key2 n hn
  refine ⟨xs.getD k d, List.mem_map.2 ⟨k, hk, rfl⟩, ?_⟩
  rw [key_at key ((hm k).1 hk).1, e, ← key_at (d := d) key hn, List.getD_eq_getElem?_getD, List.getElem?_eq_getElem hn]
  rfl
end
end Go.PL
namespace Go.PL
set_option linter.unusedSimpArgs false
set_option linter.unusedVariables false
set_option linter.unusedSectionVars false
open Tys (Ty U)
open Enc (sz enc dflt tb ofB toB)
open Dec (dec dok)
set_option maxRecDepth 100000
def InhOK (x : Inhibit) : Prop := Alr x ∧ Aa4 x = true
def cmpQ (x y : Inhibit) : Int := Lib.compareBytes (Aa1 x).data.toList (Aa1 y).data.toList
theorem Bdr (a b : Inhibit) : decide (cmpQ a b < 0) = Ab0 Aa1 a b := Aqb _ _
theorem Azn (x y : Inhibit) (b : Bool) (hx : InhOK x) (hy : InhOK y) : Aeo std x y b = some (cmpQ x y, b) := by
 unfold Aeo strings_Compare
 rw [config_quiet_eq b x hx.1 hx.2, bd_some, config_quiet_eq b y hy.1 hy.2, bd_some, bd_some]
 rfl
theorem A1l (x y : Inhibit) (b : Bool) (hx : InhOK x) (hy : InhOK y) : Ah2 std x y b = some (decide (Aa1 x = Aa1 y), b) := by
 unfold Ah2
 rw [config_quiet_eq b x hx.1 hx.2, bd_some, config_quiet_eq b y hy.1 hy.2, bd_some, s_seql]
theorem Azo (b : Bool) (n i : Nat) (hn : n ≤ 1000) (hi : i ≤ 1000) : ∀ (L R : List Inhibit) (x : Inhibit), (∀ y ∈ L, InhOK y) → InhOK x → (L.reverse ++ x :: R).length = n →
  Loop (Aar std (n : Int) 0 (i : Int)) ((L.length : Int), b, L.reverse ++ x :: R) = some (.inl (((i + 1 : Nat) : Int), b, insR (Ab0 Aa1) x L R))
 | [], R, x, hL, hx, hl => by
  rw [Adq]
  have hB : Aar std (n : Int) 0 (i : Int) ((([] : List Inhibit).length : Int), b, ([] : List Inhibit).reverse ++ x :: R) = some (.inr (.inl (((i + 1 : Nat) : Int), b, x :: R))) := by
   unfold Aar
   simp only [List.length_nil, List.reverse_nil, List.nil_append]
   rw [show std.cmp .gtr ((0 : Nat) : Int) 0 = false from rfl, br_false, show std.and false false = false from rfl, br_false, s_add, wrap_succ (n := 1001) (by omega) (by unfold big63; omega)]
   rfl
  rw [hB]
  rfl
 | y :: L, R, x, hL, hx, hl => by
  rw [Adq]
  have hlen : (y :: L).length + 1 ≤ n := by simp at hl ⊢; omega
  have hj : L.length + 1 < n := by simp only [List.length_cons] at hlen; omega
  have g1 : std.cmp .gtr (((y :: L).length : Nat) : Int) 0 = true := by rw [s_gtr]; exact decide_eq_true (by simp only [List.length_cons]; omega)
  have e1 : std.ar .sub .i64 (((y :: L).length : Nat) : Int) 1 = (L.length : Int) := by rw [prevI (by simp) (by unfold big63; simp only [List.length_cons]; omega)]; simp
  have p0 : ∀ k : Nat, std.pl 0 (k : Int) = (k : Int) := fun k => by rw [s_pl]; omega
  have ax := Aai (t := TyS.inhibit) (A1c (y :: L) R x)
  have ay := Aai (t := TyS.inhibit) (Avv L R x y)
  have hrl : std.len TyS.inhibit ((y :: L).reverse ++ x :: R) = (n : Int) := by rw [Aab, hl]
  have hB : Aar std (n : Int) 0 (i : Int) (((y :: L).length : Int), b, (y :: L).reverse ++ x :: R) = some (if Ab0 Aa1 x y = true then .inl ((L.length : Int), b, L.reverse ++ x :: y :: R) else .inr (.inl (((i + 1 : Nat) : Int), b, (y :: L).reverse ++ x :: R))) := by
   unfold Aar
   simp only
   rw [g1, br_true, e1, p0, p0, hrl]
   rw [ck_t (inbT (by simp only [List.length_cons]; omega)), ck_t (inbT (by simp only [List.length_cons]; omega)), ck_t (inbT (by omega)), ck_t (inbT (by omega)), ax, ay, Azn x y b hx (hL y (List.mem_cons_self ..)), bd_some, s_land, Bool.true_and, s_lss, Bdr]
   have hs : std.len TyS.inhibit (std.set TyS.inhibit ((y :: L).reverse ++ x :: R) (((y :: L).length : Nat) : Int) y) = (n : Int) := by
    rw [s_set, Aab, List.length_set, hl]
   cases hc : Ab0 Aa1 x y with
   | true =>
    rw [br_true, if_pos rfl, hs, ck_t (inbT (by omega)), s_set, s_set, Int.toNat_natCast, Int.toNat_natCast]
    have := Ax8 L R x y
    exact congrArg (fun r => some (Sum.inl ((L.length : Int), b, r))) this
   | false =>
    rw [br_false, if_neg (by simp), s_add, wrap_succ (n := 1001) (by omega) (by unfold big63; omega)]
    rfl
  rw [hB]
  cases hc : Ab0 Aa1 x y with
  | true =>
   rw [if_pos rfl, Aw9 hc]
   exact Azo b n i hn hi L (y :: R) x (fun z hz => hL z (List.mem_cons_of_mem _ hz)) hx (by rw [← hl]; simp)
  | false => rw [if_neg (by simp), Axa hc]
theorem A50 (b : Bool) (xs : List Inhibit) (hn : xs.length ≤ 1000) (hP : ∀ x ∈ xs, InhOK x) :
  Aaz std xs (xs.length : Int) 0 (xs.length : Int) b = some (sortI (Ab0 Aa1) xs, b) := by
 unfold Aaz
 rw [show std.ar .add .i64 0 1 = ((1 : Nat) : Int) from rfl]
 cases xs with
 | nil => rw [Adq]; rfl
 | cons x0 ys =>
  generalize hxs : x0 :: ys = xs at hn hP
  have h1 : 1 ≤ xs.length := by rw [← hxs]; simp
  have hstart : xs = sortI (Ab0 Aa1) (xs.take 1) ++ xs.drop 1 := by rw [← hxs]; rfl
  have := Aii (B := Abx std (xs.length : Int) 0 (xs.length : Int)) (fun i (_ : Unit) => ((i : Int), b, sortI (Ab0 Aa1) (xs.take i) ++ xs.drop i)) xs (fun _ _ (_ : Unit) => (.inl () : Unit ⊕ (List Inhibit × Bool))) (fun _ => (sortI (Ab0 Aa1) xs, b)) (fun _ _ => True)
   (fun i x u hx _ => by
    have hi := Ae2 hx
    refine ⟨fun s' _ => ⟨?_, trivial⟩, fun e he => by cases he⟩
    obtain ⟨x', hx', _, hd, ht⟩ := i_at (xs := xs) (i := i) hi
    rw [hx] at hx'; cases hx'
    unfold Abx
    simp only
    rw [lssT hi, br_true]
    have hlen : (sortI (Ab0 Aa1) (xs.take i)).reverse.length = i := by rw [List.length_reverse, Afn, List.length_take]; omega
    have := Azo b xs.length i hn (by omega) (sortI (Ab0 Aa1) (xs.take i)).reverse (xs.drop (i + 1)) x (fun y hy => by
     rw [List.mem_reverse] at hy
     exact hP y (List.mem_of_mem_take ((Ah5 _ _).mem_iff.1 hy))) (hP x (Abv hx)) (by
     rw [List.reverse_reverse, ← hd, List.length_append, Afn, List.length_take, List.length_drop]; omega)
    rw [hlen, List.reverse_reverse, ← hd] at this
    rw [this, ht, Aow, Arj])
   (fun s _ => by
    unfold Abx
    simp only
    rw [lssF, br_false, List.take_length, List.drop_length, List.append_nil]
    rfl) 1 h1 () trivial
  rw [← hstart] at this
  refine this.trans (congrArg some ?_)
  have key : ∀ (l : List Inhibit) (i : Nat), runL (fun _ _ (_ : Unit) => (.inl () : Unit ⊕ (List Inhibit × Bool))) (fun _ => (sortI (Ab0 Aa1) xs, b)) i l () = (sortI (Ab0 Aa1) xs, b) := by
   intro l
   induction l with
   | nil => intro i; rfl
   | cons x xs ih => intro i; exact ih (i + 1)
  exact key _ _
theorem stable_Inhibit (b : Bool) (xs : List Inhibit) (hn : xs.length < 20) (hP : ∀ x ∈ xs, InhOK x) :
  Ac2 std xs (xs.length : Int) (xs.length : Int) b = some (sortI (Ab0 Aa1) xs, b) := by
 unfold Ac2
 have hB : Afr std (xs.length : Int) (xs.length : Int) (0, 20, b, xs) = some (.inr (sortI (Ab0 Aa1) xs, b)) := by
  unfold Afr
  simp only
  rw [show std.cmp .leq 20 (xs.length : Int) = false by rw [s_leq]; exact decide_eq_false (by omega), br_false, A50 b xs (by omega) hP, bd_some, Adq]
  have h2 : Afq std (xs.length : Int) (sortI (Ab0 Aa1) xs, b) 20 = some (.inr (sortI (Ab0 Aa1) xs, b)) := by
   unfold Afq
   simp only
   rw [show std.cmp .lss 20 (xs.length : Int) = false by rw [s_lss]; exact decide_eq_false (by omega), br_false]
   rfl
  rw [h2]
  rfl
 rw [Adq, hB]
theorem A3q (xs : List Inhibit) (h : xs.length ≤ 1000) : Ac1 std xs = some ((xs.length : Int), xs) := by
 unfold Ac1
 have e : ∀ k : Nat, k ≤ 1000 → std.appOk TyS.inhibit k [] xs := fun k hk => ⟨by have := Nat.mul_le_mul (show ([] : List (U TyS.inhibit)).length + xs.length ≤ 1000 by simpa using h) hk; omega, by simp; omega⟩
 rw [A8m (fun hc => by
  have h0 : xs = [] := by
   rw [s_eql, Aab] at hc
   have : xs.length = 0 := by simpa using hc
   exact List.length_eq_zero_iff.1 this
  subst h0
  rw [ck_t (e _ (by decide))]
  rfl), ck_t (e _ (by decide))]
 rfl
theorem A0s (b : Bool) (xs : List Inhibit) (h : xs.length < 20) (hP : ∀ x ∈ xs, InhOK x) : Aga std xs b = some ((xs.length : Int), sortI (Ab0 Aa1) xs, b) := by
 unfold Aga Ab4
 rw [A3q xs (by omega), bd_some]
 simp only
 rw [stable_Inhibit b xs h hP, bd_some, bd_some]
theorem Avw {α : Type} (key : α → ByteArray) (z : α) : ∀ (p : α) (r : List α), Aho key p (r ++ [z]) = Aho key p r ++ (if key z = key ((p :: r).getLast (by simp)) then [] else [z])
 | p, [] => by
  simp only [List.nil_append, Aho, List.getLast_singleton]
  by_cases h : key z = key p <;> simp [h]
 | p, y :: r => by
  rw [List.cons_append, Aho, Aho, Avw key z y r]
  have : (p :: y :: r).getLast (by simp) = (y :: r).getLast (by simp) := by rw [List.getLast_cons]
  rw [this]
  split
  ·rfl
  ·rfl
theorem A3r {α : Type} (key : α → ByteArray) {xs : List α} {m : Nat} {y z : α} (hy : xs[m]? = some y) (hz : xs[m + 1]? = some z) : Ahp key (xs.take (m + 2)) = Ahp key (xs.take (m + 1)) ++ (if key z = key y then [] else [z]) := by
 rw [take_snoc hz]
 have h1 := take_snoc hy
 cases hc : xs.take (m + 1) with
 | nil => rw [hc] at h1; simp at h1
 | cons p r =>
  rw [List.cons_append, Ahp, Ahp, Avw, List.cons_append]
  have : (p :: r).getLast (by simp) = y := by
   have h2 : (p :: r) = xs.take m ++ [y] := by rw [← hc, h1]
   simp only [h2]
   exact List.getLast_concat
  rw [this]
theorem Axf {α : Type} (key : α → ByteArray) : ∀ (p : α) (r : List α), (Aho key p r).length ≤ r.length
 | p, [] => Nat.le_refl _
 | p, y :: r => by
  rw [Aho]
  have := Axf key y r
  split
  ·simp only [List.length_cons]; omega
  ·simp only [List.length_cons]; omega
theorem Ato {α : Type} (key : α → ByteArray) : ∀ (r : List α), (Ahp key r).length ≤ r.length
 | [] => Nat.le_refl _
 | y :: r => by
  have := Axf key y r
  simp only [Ahp, List.length_cons]; omega
end Go.PL
namespace Go.PL
set_option linter.unusedSimpArgs false
set_option linter.unusedVariables false
set_option linter.unusedSectionVars false
open Tys (Ty U)
open Enc (sz enc dflt tb ofB toB)
open Dec (dec dok)
set_option maxRecDepth 100000
abbrev cQ (xs : List Inhibit) (m : Nat) : List Inhibit := Ahp Aa1 (xs.take m)
theorem Bbx {xs : List Inhibit} {m : Nat} {y z : Inhibit} (h1 : 1 ≤ m) (hy : xs[m - 1]? = some y) (hz : xs[m]? = some z) : cQ xs (m + 1) = cQ xs m ++ (if Aa1 z = Aa1 y then [] else [z]) := by
 obtain ⟨k, rfl⟩ : ∃ k, m = k + 1 := ⟨m - 1, by omega⟩
 exact A3r Aa1 hy hz
theorem Bd6 (xs : List Inhibit) (m : Nat) : (cQ xs m).length ≤ m := by
 have h1 := Ato Aa1 (xs.take m)
 have h2 : (xs.take m).length ≤ m := by rw [List.length_take]; omega
 exact Nat.le_trans h1 h2
theorem Bdd {α : Type} (C xs : List α) {i : Nat} (h : C.length ≤ i) : (C ++ xs.drop C.length)[i]? = xs[i]? := by
 rw [List.getElem?_append_right h, List.getElem?_drop]
 congr 1; omega
theorem mix_len {α : Type} (C xs : List α) (h : C.length ≤ xs.length) : (C ++ xs.drop C.length).length = xs.length := by
 rw [List.length_append, List.length_drop]; omega
theorem Bds {α : Type} (C xs : List α) (z : α) (h : C.length < xs.length) : (C ++ xs.drop C.length).set C.length z = (C ++ [z]) ++ xs.drop (C ++ [z]).length := by
 rw [List.drop_eq_getElem_cons h, List.set_append_right _ _ (Nat.le_refl _), Nat.sub_self, List.set_cons_zero]
 simp
theorem A3s (b : Bool) (xs : List Inhibit) (hn : xs.length ≤ 1000) (hP : ∀ x ∈ xs, InhOK x) (k : Nat) (h1 : 1 ≤ k) (hk : k < xs.length) (hc : cQ xs (k + 1) = xs.take k) :
  ∃ row, Loop (Aat std (xs.length : Int) (k : Int)) ((k : Int), 1, b, xs) = some (.inr (0, ((cQ xs xs.length).length : Int), row, b)) ∧ row.take (cQ xs xs.length).length = cQ xs xs.length ∧ row.length = xs.length := by
 have pk : ∀ j : Nat, std.pl (std.pl 0 (k : Int)) (j : Int) = ((k + j : Nat) : Int) := fun j => by rw [s_pl, s_pl]; omega
 have p0 : ∀ j : Nat, std.pl 0 (j : Int) = (j : Int) := fun j => by rw [s_pl]; omega
 have mk : ∀ j : Nat, j ≤ xs.length → std.mi (xs.length : Int) (j : Int) = ((xs.length - j : Nat) : Int) := fun j hj => by rw [s_mi]; omega
 have hl : (cQ xs xs.length).length ≤ xs.length := Bd6 xs _
 have := Aii (B := Aat std (xs.length : Int) (k : Int)) (fun m (_ : Unit) => (((cQ xs m).length : Int), ((m - k : Nat) : Int), b, cQ xs m ++ xs.drop (cQ xs m).length)) xs (fun _ _ (_ : Unit) => (.inl () : Unit ⊕ ((Int × Bool) ⊕ (Int × Int × List Inhibit × Bool))))
  (fun _ => .inr (0, ((cQ xs xs.length).length : Int), std.fill TyS.inhibit (cQ xs xs.length ++ xs.drop (cQ xs xs.length).length) ((cQ xs xs.length).length : Int) ((xs.length - (cQ xs xs.length).length : Nat) : Int) (Inhibit.mk [] [] []), b)) (fun m _ => k + 1 ≤ m ∧ (cQ xs m).length + 1 ≤ m)
  (fun m z u hz ⟨hm1, hm2⟩ => by
   have hm := Ae2 hz
   obtain ⟨y, hy⟩ := Al8 (xs := xs) (i := m - 1) (by omega)
   have hs := Bbx (by omega) hy hz
   refine ⟨fun s' _ => ⟨?_, by omega, ?_⟩, fun e he => by cases he⟩
   ·unfold Aat
    simp only
    generalize hC : cQ xs m = C at hm2 hs
    have hrow : (C ++ xs.drop C.length).length = xs.length := mix_len C xs (by omega)
    have e1 : std.ar .sub .i64 ((m - k : Nat) : Int) 1 = ((m - k - 1 : Nat) : Int) := prevI (by omega) (by unfold big63; omega)
    rw [mk k (by omega), show std.cmp .lss ((m - k : Nat) : Int) ((xs.length - k : Nat) : Int) = true by rw [s_lss]; exact decide_eq_true (by omega), br_true, e1, pk, pk, Aab, hrow, show k + (m - k) = m by omega, show k + (m - k - 1) = m - 1 by omega, p0]
    rw [ck_t (inbT (by omega)), ck_t (inbT (by omega)), ck_t (inbT (by omega)), ck_t (inbT (by omega)), Aai (t := TyS.inhibit) ((Bdd C xs (by omega)).trans hz), Aai (t := TyS.inhibit) ((Bdd C xs (by omega)).trans hy), A1l z y b (hP z (Abv hz)) (hP y (Abv hy)), bd_some]
    simp only
    rw [show std.ar .add .i64 ((m - k : Nat) : Int) 1 = ((m + 1 - k : Nat) : Int) by rw [s_add, wrap_succ (n := 1001) (by omega) (by unfold big63; omega)]; congr 1; omega]
    rw [hs]
    by_cases he : Aa1 z = Aa1 y
    ·rw [decide_eq_true he, if_pos he, List.append_nil, s_not, Bool.not_true, br_false]
    ·rw [decide_eq_false he, if_neg he, s_not, Bool.not_false, br_true, ck_t (inbT (by omega)), ck_t (inbT (by omega)), s_set, Int.toNat_natCast, Bds C xs z (by omega), s_add, wrap_succ (n := 1001) (by omega) (by unfold big63; omega), List.length_append, List.length_singleton]
   ·rw [hs, List.length_append]
    split <;> simp <;> omega)
  (fun s ⟨hm1, hm2⟩ => by
   unfold Aat
   simp only
   have hrow : (cQ xs xs.length ++ xs.drop (cQ xs xs.length).length).length = xs.length := mix_len _ xs hl
   rw [mk k (by omega), show std.cmp .lss ((xs.length - k : Nat) : Int) ((xs.length - k : Nat) : Int) = false from lssF, br_false, mk _ hl, p0, Aab, hrow, show std.pl ((cQ xs xs.length).length : Int) ((xs.length - (cQ xs xs.length).length : Nat) : Int) = (xs.length : Int) by rw [s_pl]; omega]
   rw [ck_t (show std.subOk ((cQ xs xs.length).length : Int) (xs.length : Int) (xs.length : Int) from ⟨by omega, by omega, by omega⟩), ck_t (show std.subOk ((cQ xs xs.length).length : Int) (xs.length : Int) (xs.length : Int) from ⟨by omega, by omega, by omega⟩), ck_t (show std.subOk 0 ((cQ xs xs.length).length : Int) (xs.length : Int) from ⟨by omega, by omega, by omega⟩)]
   rw [show std.pl 0 0 = 0 from rfl, show std.mi ((cQ xs xs.length).length : Int) 0 = ((cQ xs xs.length).length : Int) by rw [s_mi]; omega]
   rfl) (k + 1) (by omega) () ⟨Nat.le_refl _, by rw [hc, List.length_take]; omega⟩
 have hstart : (((cQ xs (k + 1)).length : Int), ((k + 1 - k : Nat) : Int), b, cQ xs (k + 1) ++ xs.drop (cQ xs (k + 1)).length) = ((k : Int), 1, b, xs) := by
  rw [hc]
  have : (xs.take k).length = k := by rw [List.length_take]; omega
  rw [this, List.take_append_drop, show k + 1 - k = 1 by omega]
  rfl
 rw [hstart] at this
 have key : ∀ (R : (Int × Bool) ⊕ (Int × Int × List Inhibit × Bool)) (l : List Inhibit) (i : Nat), runL (fun _ _ (_ : Unit) => (.inl () : Unit ⊕ ((Int × Bool) ⊕ (Int × Int × List Inhibit × Bool)))) (fun _ => R) i l () = R := by
  intro R l
  induction l with
  | nil => intro i; rfl
  | cons x xs ih => intro i; exact ih (i + 1)
 rw [key] at this
 refine ⟨_, this, ?_, ?_⟩
 ·rw [s_fill, Int.toNat_natCast, List.append_assoc, List.take_append_of_le_length (by rw [List.length_take, mix_len _ xs hl]; omega), List.take_take, Nat.min_self, List.take_append_of_le_length (Nat.le_refl _), List.take_length]
 ·rw [s_fill, Int.toNat_natCast, Int.toNat_natCast, List.length_append, List.length_append, List.length_take, List.length_drop, List.length_replicate, mix_len _ xs hl]
  omega
theorem Avx (b : Bool) (xs : List Inhibit) (hn : xs.length ≤ 1000) (hP : ∀ x ∈ xs, InhOK x) : ∀ (d i : Nat), 1 ≤ i → i + d = xs.length → cQ xs i = xs.take i →
  ∃ row, Loop (Abb std xs (xs.length : Int)) ((i : Int), b) = some (0, ((cQ xs xs.length).length : Int), row, b) ∧ row.take (cQ xs xs.length).length = cQ xs xs.length ∧ row.length = xs.length
 | 0, i, h1, hi, hc => by
  obtain rfl : i = xs.length := by omega
  rw [hc, List.take_length]
  refine ⟨xs, ?_, List.take_length, rfl⟩
  rw [Adq]
  unfold Abb
  simp only
  rw [lssF, br_false]
  rfl
 | d + 1, i, h1, hi, hc => by
  have hlt : i < xs.length := by omega
  obtain ⟨z, hz⟩ := Al8 hlt
  obtain ⟨y, hy⟩ := Al8 (xs := xs) (i := i - 1) (by omega)
  have hs := Bbx h1 hy hz
  have p0 : ∀ j : Nat, std.pl 0 (j : Int) = (j : Int) := fun j => by rw [s_pl]; omega
  have hB : Abb std xs (xs.length : Int) ((i : Int), b) = br (decide (Aa1 z = Aa1 y)) (Loop (Aat std (xs.length : Int) (i : Int)) ((i : Int), 1, b, xs)) (some (.inl (((i + 1 : Nat) : Int), b))) := by
   unfold Abb
   simp only
   rw [lssT hlt, br_true, prevI h1 (by unfold big63; omega), p0, p0, Aab, ck_t (inbT hlt), ck_t (inbT hlt), ck_t (inbT (by omega)), ck_t (inbT (by omega)), Aai (t := TyS.inhibit) hz, Aai (t := TyS.inhibit) hy, A1l z y b (hP z (Abv hz)) (hP y (Abv hy)), bd_some]
   simp only
   rw [ck_t (show std.subOk (i : Int) (xs.length : Int) (xs.length : Int) from ⟨by omega, by omega, by omega⟩), s_add, wrap_succ (n := 1001) (by omega) (by unfold big63; omega)]
  rw [Adq, hB]
  by_cases he : Aa1 z = Aa1 y
  ·rw [decide_eq_true he, br_true]
   obtain ⟨row, h2, h3, h4⟩ := A3s b xs hn hP i h1 hlt (by rw [hs, if_pos he, List.append_nil, hc])
   exact ⟨row, by rw [h2], h3, h4⟩
  ·rw [decide_eq_false he, br_false]
   exact Avx b xs hn hP d (i + 1) (by omega) (by omega) (by rw [hs, if_neg he, hc, take_snoc hz])
theorem Azp (b : Bool) (xs : List Inhibit) (hn : xs.length ≤ 1000) (hP : ∀ x ∈ xs, InhOK x) :
  ∃ row, Abo std xs (xs.length : Int) b = some (0, ((Ahp Aa1 xs).length : Int), row, b) ∧ row.take (Ahp Aa1 xs).length = Ahp Aa1 xs ∧ row.length = xs.length := by
 have e : cQ xs xs.length = Ahp Aa1 xs := by unfold cQ; rw [List.take_length]
 unfold Abo
 rcases Nat.lt_or_ge xs.length 2 with h2 | h2
 ·rw [show std.cmp .lss (xs.length : Int) 2 = true by rw [s_lss]; exact decide_eq_true (by omega), br_true]
  have : Ahp Aa1 xs = xs := by
   match xs, h2 with
   | [], _ => rfl
   | [x], _ => rfl
   | x :: y :: r, h2 => simp only [List.length_cons] at h2; omega
  rw [this]
  exact ⟨xs, rfl, List.take_length, rfl⟩
 ·rw [show std.cmp .lss (xs.length : Int) 2 = false by rw [s_lss]; exact decide_eq_false (by omega), br_false]
  have := Avx b xs hn hP (xs.length - 1) 1 (Nat.le_refl _) (by omega) (by
   match xs, h2 with
   | x :: r, h2 => rfl)
  rw [e] at this
  exact this
end Go.PL
namespace Go.PL
set_option linter.unusedSimpArgs false
set_option linter.unusedVariables false
set_option linter.unusedSectionVars false
open Tys (Ty U)
open Enc (sz enc dflt tb ofB toB)
open Dec (dec dok)
set_option maxRecDepth 100000
open Classical in
noncomputable def eqB {α : Type} (a b : α) : Bool := decide (a = b)
theorem Azq {r : Route} (h : RouteFit r) : fitS r.Receiver ∧ fitL Afs r.Match ∧ fitL fitS r.By ∧ fitL fitS r.Mute ∧ r.Routes.length ≤ big63 ∧ ∀ k ∈ r.Routes, RouteFit k := by
 cases h with
 | mk _ h1 h2 h3 h4 h5 h6 => exact ⟨h1, h2, h3, h4, h5, h6⟩
end Go.PL
namespace Go.PL
set_option linter.unusedSimpArgs false
set_option linter.unusedVariables false
set_option linter.unusedSectionVars false
open Tys (Ty U)
open Enc (sz enc dflt tb ofB toB)
open Dec (dec dok)
set_option maxRecDepth 100000
def normS (c : Config) : Config := ⟨sortI (Ab0 (·.Name)) c.Rules, c.Route, sortI (Ab0 fun x => x) c.Receivers, Ahp Aa1 (sortI (Ab0 Aa1) c.Inhibits), sortI (Ab0 (·.Name)) c.Hours⟩
def A8y : Config := ⟨[], ⟨⟨#[]⟩, [], [], 0, 0, 0, [], false, []⟩, [], [], []⟩
structure ConfigOK (c : Config) : Prop where
 rules : c.Rules.length ≤ 16 ∧ (∀ r ∈ c.Rules, ruleS r = true) ∧ (c.Rules.map (·.Name)).Nodup
 recv : c.Receivers.length ≤ 16 ∧ (∀ r ∈ c.Receivers, wordS r = true) ∧ c.Receivers.Nodup
 inh : c.Inhibits.length ≤ 8 ∧ ∀ x ∈ c.Inhibits, Aa4 x = true
 hours : c.Hours.length ≤ 8 ∧ (∀ h ∈ c.Hours, hourS h = true) ∧ (c.Hours.map (·.Name)).Nodup
 top : topS c = true
 names : Azf c = true
theorem Amv {c : Config} (h : Ai1 c = true) : ConfigOK c := by
 simp only [Ai1, Aw5, Aty, Ant, Avt, Bool.and_eq_true, decide_eq_true_eq, List.all_eq_true] at h
 obtain ⟨⟨⟨⟨⟨⟨⟨h1, h2⟩, h3⟩, ⟨h4, h5⟩, h6⟩, h7, h8⟩, ⟨h9, h10⟩, h11⟩, h12⟩, h13⟩ := h
 exact ⟨⟨h1, h2, Awu h3⟩, ⟨h4, h5, Awu h6⟩, ⟨h7, h8⟩, ⟨h9, h10, Awu h11⟩, h12, h13⟩
theorem Axx (c : Config) (h : Ad3 c) : Ajy std c = some (cond (Ai1 c) (normS c, 0) (A8y, 1)) := by
 unfold Ajy
 rw [Atk c h, bd_some, s_not]
 cases hc : Ai1 c with
 | false => rfl
 | true =>
  have ok := Amv hc
  have hP : ∀ x ∈ c.Inhibits, InhOK x := fun x hx => ⟨h.2.2.2.1.2 x hx, ok.inh.2 x hx⟩
  have hP' : ∀ x ∈ sortI (Ab0 Aa1) c.Inhibits, InhOK x := fun x hx => hP x ((Ah5 _ _).mem_iff.1 hx)
  have hl : (sortI (Ab0 Aa1) c.Inhibits).length = c.Inhibits.length := Afn _ _
  obtain ⟨row, h1, h2, h3⟩ := Azp false (sortI (Ab0 Aa1) c.Inhibits) (by rw [hl]; have := ok.inh.1; omega) hP'
  rw [hl] at h1
  have hcl := Ato Aa1 (sortI (Ab0 Aa1) c.Inhibits)
  rw [Bool.not_true, br_false, A7w c.Rules (fun y0 => Alk std y0) (fun r : Rule => r.Name) (fun _ => rfl) (by have := ok.rules.1; omega), bd_some, A3m c.Receivers (fun y0 => Aia std y0) (fun x : ByteArray => x) (fun _ => rfl) (by have := ok.recv.1; omega), bd_some, A5u c.Hours (fun y0 => Ajv std y0) (fun r : Hours => r.Name) (fun _ => rfl) (by have := ok.hours.1; omega), bd_some, A0s false c.Inhibits (by have := ok.inh.1; omega) hP, bd_some]
  simp only
  rw [h1, bd_some]
  simp only
  rw [s_pl, Int.zero_add, Aab, ck_t (show std.subOk 0 ((Ahp Aa1 (sortI (Ab0 Aa1) c.Inhibits)).length : Int) (row.length : Int) from ⟨by omega, by omega, by omega⟩), Avi, Int.toNat_natCast]
  show some (Config.mk _ _ _ (List.drop 0 (row.take (Ahp Aa1 (sortI (Ab0 Aa1) c.Inhibits)).length)) _, (0 : Int)) = some (normS c, 0)
  rw [List.drop_zero, h2]
  rfl
theorem Avy {t : Ty} {ε : Type} (d : U t) (B : Int × List (U t) → Option ((Int × List (U t)) ⊕ ε)) (xs : List (U t)) (ps : List Nat) (sz : Nat) (k : List (U t) → Option ε) (e : ε)
  (hB : ∀ j acc, B (j, acc) = br (std.cmp .lss j (std.len TyS.int (castI ps))) (ck (std.inb j (std.len TyS.int (castI ps))) <| ck (std.inb (std.get TyS.int (castI ps) j) (std.len t xs)) <| ck (std.appOk t sz acc [std.get t xs (std.get TyS.int (castI ps) j)]) <| some (.inl (std.ar .add .i64 j 1, std.app t acc [std.get t xs (std.get TyS.int (castI ps) j)]))) (rt (k acc)))
  (hsz : sz ≤ 1000) (hps : ∀ p ∈ ps, p < xs.length) (hl : ps.length ≤ 1000) (hk : k (pick d xs ps) = some e) : Loop B (0, []) = some e := by
 have := Ach (B := B) (fun i (_ : Unit) => ((i : Int), pick d xs (ps.take i))) ps (fun _ _ (_ : Unit) => (.inl () : Unit ⊕ ε)) (fun _ => e) (fun i p u hp hi => by
  have hpx := hps p (Abv hp)
  have hgx : std.get t xs (p : Int) = xs.getD p d := by
   rw [s_get, Int.toNat_natCast, List.getD_eq_getElem?_getD, List.getD_eq_getElem?_getD, List.getElem?_eq_getElem hpx]; rfl
  have hpl : (pick d xs (ps.take i)).length ≤ i := by unfold pick; rw [List.length_map, List.length_take]; omega
  rw [hB, Ar2, lssT hi, br_true, ck_t (inbT hi), A8w hp, Aab, ck_t (inbT hpx), hgx, ck_t (show std.appOk t sz (pick d xs (ps.take i)) [xs.getD p d] from ⟨by
   have := Nat.mul_le_mul (show (pick d xs (ps.take i)).length + [xs.getD p d].length ≤ 1001 by simp; omega) hsz
   omega, by simp; omega⟩), s_add, wrap_succ (n := 1001) (by omega) (by unfold big63; omega), s_app]
  simp only
  rw [take_snoc hp]
  unfold pick
  rw [List.map_append]
  rfl) (fun _ => by
  rw [hB, Ar2, lssF, br_false, List.take_length, hk]
  rfl) ()
 refine this.trans (congrArg some ?_)
 have key : ∀ (l : List Nat) (i : Nat), runL (fun _ _ (_ : Unit) => (.inl () : Unit ⊕ ε)) (fun _ => e) i l () = e := by
  intro l
  induction l with
  | nil => intro i; rfl
  | cons x xs ih => intro i; exact ih (i + 1)
 exact key _ _
def dRule : Rule := Enc.dflt TyS.rule
def A51 : Hours := Enc.dflt TyS.hours
def dInh : Inhibit := Enc.dflt TyS.inhibit
def dStr : ByteArray := Enc.dflt TyS.str
def normR (c : Config) : Config := ⟨pick dRule c.Rules (placesTo (c.Rules.map (·.Name)) c.Rules.length), c.Route, pick dStr c.Receivers (placesTo c.Receivers c.Receivers.length), pick dInh c.Inhibits (placesTo (c.Inhibits.map Aa1) c.Inhibits.length), pick A51 c.Hours (placesTo (c.Hours.map (·.Name)) c.Hours.length)⟩
theorem Bcv {c : Config} (ok : ConfigOK c) : normR c = normS c := by
 unfold normR normS
 have h1 : pick dRule c.Rules (placesTo (c.Rules.map (·.Name)) c.Rules.length) = sortI (Ab0 (·.Name)) c.Rules := Norm.uniq (fun r : Rule => r.Name) (Azm (fun r : Rule => r.Name) ok.rules.2.2) (Ar4 _ dRule c.Rules) (Azl _ _ ok.rules.2.2)
 have h2 : pick dStr c.Receivers (placesTo c.Receivers c.Receivers.length) = sortI (Ab0 fun x => x) c.Receivers := by
  have hd : (c.Receivers.map fun x => x).Nodup := by rw [List.map_id']; exact ok.recv.2.2
  have := Norm.uniq (fun x : ByteArray => x) (Azm (fun x : ByteArray => x) hd) (Ar4 (fun x => x) dStr c.Receivers) (Azl _ _ hd)
  rw [List.map_id'] at this
  exact this
 have h3 : pick dInh c.Inhibits (placesTo (c.Inhibits.map Aa1) c.Inhibits.length) = Ahp Aa1 (sortI (Ab0 Aa1) c.Inhibits) :=
  Norm.uniq Aa1 (fun x hx y hy he => A9u (ok.inh.2 x hx) (ok.inh.2 y hy) he) (Ar4 _ dInh c.Inhibits) (Axd _ _)
 have h4 : pick A51 c.Hours (placesTo (c.Hours.map (·.Name)) c.Hours.length) = sortI (Ab0 (·.Name)) c.Hours := Norm.uniq (fun r : Hours => r.Name) (Azm (fun r : Hours => r.Name) ok.hours.2.2) (Ar4 _ A51 c.Hours) (Azl _ _ ok.hours.2.2)
 rw [h1, h2, h3, h4]
theorem Avz (l : List ByteArray) (n : Nat) (h : n = l.length) : (∀ k ∈ placesTo l n, k < n) ∧ (placesTo l n).length ≤ n := ⟨(Ar3 l n).2, (Ar3 l n).1⟩
theorem A9v (x : Inhibit) (h : Aa4 x = true) : fitS (Aa1 x) := by
 have h0 := A3k h
 simp only [Asm, Bool.and_eq_true, decide_eq_true_eq, List.all_eq_true] at h0
 have := Avu [Amb x.Source, Amb x.Target, bindS x.Equal] 8192 (by omega) h0.2
 unfold fitS Aa1
 rw [Aws]
 simp only [List.length_cons, List.length_nil] at this
 unfold big63; omega
theorem Aj4 {α ε : Type} (e : ε) : ∀ (l : List α) (i : Nat), runL (fun _ _ (_ : Unit) => (.inl () : Unit ⊕ ε)) (fun _ => e) i l () = e
 | [], i => rfl
 | x :: xs, i => Aj4 e xs (i + 1)
theorem Bd7 (c : Config) (rR : List Rule) (rV : List ByteArray) (rH : List Hours) (n3 : c.Inhibits.length ≤ 8) (ok : ∀ x ∈ c.Inhibits, Aa4 x = true) :
  Loop (Abl std c rR rV rH) ([], 0) = some ⟨rR, c.Route, rV, pick dInh c.Inhibits (placesTo (c.Inhibits.map Aa1) c.Inhibits.length), rH⟩ := by
 have f3 : ∀ x ∈ c.Inhibits.map Aa1, fitS x := fun x hx => by
  obtain ⟨r, hr, rfl⟩ := List.mem_map.1 hx; exact A9v r (ok r hr)
 obtain ⟨l3, m3⟩ := Avz (c.Inhibits.map Aa1) c.Inhibits.length (by simp)
 generalize hE : Config.mk rR c.Route rV (pick dInh c.Inhibits (placesTo (c.Inhibits.map Aa1) c.Inhibits.length)) rH = E
 have hend : (bd (Aad std (c.Inhibits.map Aa1)) fun w18 => Loop (Ag3 std c rR rV rH w18) (0, [])) = some E := by
  rw [Aos _ (by rw [List.length_map]; omega) f3, bd_some, List.length_map]
  exact Avy (t := TyS.inhibit) dInh (Ag3 std c rR rV rH (castI (placesTo (c.Inhibits.map Aa1) c.Inhibits.length))) c.Inhibits _ 72 (fun acc => some (Config.mk rR c.Route rV acc rH)) E (fun j acc => rfl) (by omega) l3 (by omega) (congrArg some hE)
 have hq := Ach (B := Abl std c rR rV rH) (fun i (_ : Unit) => ((c.Inhibits.take i).map Aa1, (i : Int))) c.Inhibits (fun _ _ (_ : Unit) => (.inl () : Unit ⊕ Config)) (fun _ => E) (fun i x u hx hi => by
  unfold Abl
  simp only
  rw [Aab, lssT hi, br_true, ck_t (inbT hi), Aai (t := TyS.inhibit) hx, ref_Quiet_eq x (ok x (Abv hx)), bd_some, ck_t (show std.appOk TyS.str 16 ((c.Inhibits.take i).map Aa1) [Aa1 x] from ⟨by simp; omega, by simp; omega⟩), s_add, wrap_succ hi (by unfold big63; omega), take_snoc hx, List.map_append]
  rfl) (fun _ => by
  unfold Abl
  simp only
  rw [Aab, lssF, br_false, List.take_length, hend]
  rfl) ()
 rw [Aj4] at hq
 exact hq
theorem Bd8 (c : Config) (h : Ad3 c) (rR : List Rule) (rV : List ByteArray) (E : Config) (a2 : c.Hours.all hourS = true) (n4 : c.Hours.length ≤ 8)
  (hE : Loop (Abl std c rR rV (pick A51 c.Hours (placesTo (c.Hours.map (·.Name)) c.Hours.length))) ([], 0) = some E) :
  (bd (Abd std c.Hours) fun w10 => bd (Aad std w10.1) fun w11 => Loop (Adf std c rR rV w11) (0, [])) = some E := by
 obtain ⟨hR, hT, hV, hI, hH⟩ := id h
 have f4 : ∀ x ∈ c.Hours.map (·.Name), fitS x := fun x hx => by
  obtain ⟨r, hr, rfl⟩ := List.mem_map.1 hx; exact hH.2 r hr
 obtain ⟨l4, m4⟩ := Avz (c.Hours.map (·.Name)) c.Hours.length (by simp)
 rw [Aw7 c.Hours hH (by omega), bd_some, a2]
 simp only [cond_true]
 rw [Aos _ (by rw [List.length_map]; omega) f4, bd_some, List.length_map]
 generalize placesTo (c.Hours.map (·.Name)) c.Hours.length = ps at *
 exact Avy (t := TyS.hours) A51 (Adf std c rR rV (castI ps)) c.Hours ps 40 (fun acc => Loop (Abl std c rR rV acc) ([], 0)) E (fun j acc => rfl) (by omega) l4 (by omega) hE
theorem Bd9 (c : Config) (h : Ad3 c) (rR : List Rule) (E : Config) (n2 : c.Receivers.length ≤ 16)
  (hE : (bd (Abd std c.Hours) fun w10 => bd (Aad std w10.1) fun w11 => Loop (Adf std c rR (pick dStr c.Receivers (placesTo c.Receivers c.Receivers.length)) w11) (0, [])) = some E) :
  (bd (Aad std c.Receivers) fun w6 => Loop (Aex std c rR w6) (0, [])) = some E := by
 obtain ⟨hR, hT, hV, hI, hH⟩ := id h
 obtain ⟨l2, m2⟩ := Avz c.Receivers c.Receivers.length rfl
 rw [Aos _ (by omega) hV.2, bd_some]
 exact Avy (t := TyS.str) dStr (Aex std c rR (castI (placesTo c.Receivers c.Receivers.length))) c.Receivers _ 16 (fun acc => bd (Abd std c.Hours) fun w10 => bd (Aad std w10.1) fun w11 => Loop (Adf std c rR acc w11) (0, [])) E (fun j acc => rfl) (by omega) l2 (by omega) hE
theorem A3t (c : Config) (h : Ad3 c) (hc : Ai1 c = true) : Ac7 std c = some (normS c) := by
 have ok := Amv hc
 obtain ⟨hR, hT, hV, hI, hH⟩ := id h
 rw [← Bcv ok]
 unfold Ac7 normR
 have a1 : c.Rules.all ruleS = true := List.all_eq_true.2 ok.rules.2.1
 have a2 : c.Hours.all hourS = true := List.all_eq_true.2 ok.hours.2.1
 have n1 := ok.rules.1
 have f1 : ∀ x ∈ c.Rules.map (·.Name), fitS x := fun x hx => by
  obtain ⟨r, hr, rfl⟩ := List.mem_map.1 hx; exact (hR.2 r hr).1
 obtain ⟨l1, m1⟩ := Avz (c.Rules.map (·.Name)) c.Rules.length (by simp)
 have h3 := Bd9 c h _ _ ok.recv.1 (Bd8 c h (pick dRule c.Rules (placesTo (c.Rules.map (·.Name)) c.Rules.length)) _ _ a2 ok.hours.1 (Bd7 c _ _ _ ok.inh.1 ok.inh.2))
 rw [Aw6 c.Rules hR (by omega), bd_some, a1]
 simp only [cond_true]
 rw [Aos _ (by rw [List.length_map]; omega) f1, bd_some, List.length_map]
 generalize placesTo (c.Rules.map (·.Name)) c.Rules.length = ps at *
 exact Avy (t := TyS.rule) dRule (Ajq std c (castI ps)) c.Rules ps 96 (fun acc => bd (Aad std c.Receivers) fun w6 => Loop (Aex std c acc w6) (0, [])) _ (fun j acc => rfl) (by omega) l1 (by omega) h3
end Go.PL
namespace Go.PL
set_option linter.unusedSimpArgs false
set_option linter.unusedVariables false
set_option linter.unusedSectionVars false
open Tys (Ty U)
open Enc (sz enc dflt tb ofB toB)
open Dec (dec dok)
set_option maxRecDepth 100000
theorem Ax9 {α : Type} {P : α → Prop} {xs ys : List α} (h : fitL P xs) (hl : ys.length ≤ xs.length) (hs : ∀ y ∈ ys, y ∈ xs) : fitL P ys := ⟨Nat.le_trans hl h.1, fun y hy => h.2 y (hs y hy)⟩
theorem Aqc {α : Type} {P : α → Prop} : fitL P [] := ⟨by simp, fun x hx => by cases hx⟩
theorem Aqd (c : Config) : (normS c).Inhibits.length ≤ c.Inhibits.length := by
 have := Ato Aa1 (sortI (Ab0 Aa1) c.Inhibits)
 rw [Afn] at this
 exact this
theorem Aqe {c : Config} {x : Inhibit} (h : x ∈ (normS c).Inhibits) : x ∈ c.Inhibits := (Axd Aa1 c.Inhibits).sub x h
theorem Bcw {c : Config} (h : Ad3 c) : Ad3 (normS c) :=
 ⟨Ax9 h.1 (Nat.le_of_eq (Afn _ _)) fun y hy => (Ah5 _ _).mem_iff.1 hy, h.2.1, Ax9 h.2.2.1 (Nat.le_of_eq (Afn _ _)) fun y hy => (Ah5 _ _).mem_iff.1 hy,
  Ax9 h.2.2.2.1 (Aqd c) fun y hy => Aqe hy, Ax9 h.2.2.2.2 (Nat.le_of_eq (Afn _ _)) fun y hy => (Ah5 _ _).mem_iff.1 hy⟩
def normC (c : Config) : Config := cond (Ai1 c) (normS c) A8y
def normE (c : Config) : Int := cond (Ai1 c) 0 1
structure Small (c : Config) : Prop where
 rules : c.Rules.length ≤ 18
 recv : c.Receivers.length ≤ 18
 inh : c.Inhibits.length ≤ 10
 hours : c.Hours.length ≤ 10
def opsT : ByteArray := ByteArray.mk (Array.mk [111, 112, 115])
def devT : ByteArray := ByteArray.mk (Array.mk [100, 101, 118])
def Bei : Config := ⟨[], ⟨opsT, [], [], 0, 1, 1, [], false, []⟩, [opsT, devT], [], []⟩
theorem size_le {s : ByteArray} (n : Nat) (h : s.size = n) (hn : n ≤ 1000) : fitS s := by unfold fitS big63; omega
end Go.PL
namespace Go.PL
set_option linter.unusedSimpArgs false
set_option linter.unusedVariables false
set_option linter.unusedSectionVars false
open Tys (Ty U)
open Enc (sz enc dflt tb ofB toB)
open Dec (dec dok)
set_option maxRecDepth 100000
noncomputable def woS (R : ByteArray) (xs : List ByteArray) : List ByteArray := xs.filter fun x => !eqB x R
end Go.PL
