/- Texts of this claim: plain laws of what the program's functions compute. No condition of their own. -/
import Derived.Test.YtnkaolleaebhnaaGreatDoorDlWa
namespace Go.PL
set_option linter.unusedSimpArgs false
set_option linter.unusedVariables false
set_option linter.unusedSectionVars false
open Tys (Ty U)
open Enc (sz enc dflt tb ofB toB)
open Dec (dec dok)
set_option maxRecDepth 100000
def numL (n : Nat) : List UInt8 := if h : n < 128 then [UInt8.ofNat n] else UInt8.ofNat (n % 128 + 128) :: numL (n / 128)
 termination_by n
 decreasing_by omega
def numS (n : Nat) : ByteArray := ⟨(numL n).toArray⟩
theorem A5n (l : List UInt8) : std.b2s l = ⟨l.toArray⟩ := by
 show (⟨(l.map Enc.toB).toArray⟩ : ByteArray) = _
 rw [show l.map Enc.toB = l from List.map_id _]
theorem u8_at {n : Nat} (h : n < 256) : std.u8ok (std.conv .u8 (n : Int)) ∧ std.u8 (std.conv .u8 (n : Int)) = UInt8.ofNat n := by
 have e : std.conv .u8 (n : Int) = (n : Int) := by rw [A5j, w8 (by omega)]
 rw [e]
 exact ⟨⟨by omega, by omega⟩, by rw [s_u8, Int.toNat_natCast]⟩
theorem A5o (n : Nat) : std.ar .rem .i64 (n : Int) 128 = ((n % 128 : Nat) : Int) := by rw [s_rem, tmod0 (by omega)]; rfl
theorem A5p (n : Nat) (h : n ≤ big63) : std.ar .quo .i64 (n : Int) 128 = ((n / 128 : Nat) : Int) := by
 unfold big63 at h
 rw [s_quo, tdiv0 (by omega), w64 (by omega)]; rfl
theorem Ane : ∀ (n : Nat) (l : List UInt8), l.length + n ≤ 100000000000000 → Loop (Aes std) ((n : Int), l) = some (⟨(l ++ numL n).toArray⟩, 0)
 | n, l, h => by
  rw [Ado]
  unfold numL
  by_cases hn : n < 128
  ·rw [dif_pos hn]
   have hB : Aes std ((n : Int), l) = some (.inr (⟨(l ++ [UInt8.ofNat n]).toArray⟩, 0)) := by
    unfold Aes
    simp only
    obtain ⟨h1, h2⟩ := u8_at (n := n) (by omega)
    rw [show std.cmp .geq (n : Int) 128 = false by rw [s_geq]; exact decide_eq_false (by omega), br_false, ck_t h1, h2, ck_t (show std.appOk TyS.byte 1 l [UInt8.ofNat n] from ⟨by simp; omega, by simp; omega⟩)]
    rw [s_app, A5n]
    rfl
   rw [hB]
  ·rw [dif_neg hn]
   have hB : Aes std ((n : Int), l) = some (.inl (((n / 128 : Nat) : Int), l ++ [UInt8.ofNat (n % 128 + 128)])) := by
    unfold Aes
    simp only
    have e : std.ar .add .i64 (std.ar .rem .i64 (n : Int) 128) 128 = ((n % 128 + 128 : Nat) : Int) := by
     rw [A5o, s_add, w64 (by omega)]; rfl
    obtain ⟨h1, h2⟩ := u8_at (n := n % 128 + 128) (by omega)
    rw [show std.cmp .geq (n : Int) 128 = true by rw [s_geq]; exact decide_eq_true (by omega), Abd, e, ck_t h1, h2, ck_t (show std.appOk TyS.byte 1 l [UInt8.ofNat (n % 128 + 128)] from ⟨by simp; omega, by simp; omega⟩), A5p n (by unfold big63; omega)]
    rfl
   rw [hB]
   have := Ane (n / 128) (l ++ [UInt8.ofNat (n % 128 + 128)]) (by simp; omega)
   simp only
   rw [this, List.append_assoc]
   rfl
 termination_by n => n
 decreasing_by omega
theorem Arn (n : Nat) (h : n ≤ 10000000000000) : Ain std (n : Int) = some (numS n, 0) := by
 unfold Ain
 have e : std.or (std.cmp .lss (n : Int) 0) (std.cmp .geq (n : Int) 4611686018427387904) = false := by
  rw [s_lor, s_lss, s_geq, decide_eq_false (by omega), decide_eq_false (by omega)]; rfl
 rw [e, br_false, Ane n [] (by simp; omega)]
 rfl
end Go.PL
namespace Go.PL
set_option linter.unusedSimpArgs false
set_option linter.unusedVariables false
set_option linter.unusedSectionVars false
open Tys (Ty U)
open Enc (sz enc dflt tb ofB toB)
open Dec (dec dok)
set_option maxRecDepth 100000
def bindL (l : List ByteArray) : List UInt8 := (l.map fun p => numL p.size ++ bytes p).flatten
def bindS (l : List ByteArray) : ByteArray := ⟨(bindL l).toArray⟩
theorem mkb (s : ByteArray) : (⟨(bytes s).toArray⟩ : ByteArray) = s := by cases s; rfl
theorem Amv (l : List UInt8) : bytes ⟨l.toArray⟩ = l := by simp
theorem Aoe (a b : ByteArray) : bytes (a ++ b) = bytes a ++ bytes b := by
 show (a ++ b).data.toList = _
 rw [ByteArray.data_append, Array.toList_append]
theorem Aul : ∀ n : Nat, n ≤ 100000000000 → (numL n).length ≤ 10 + n / 128
 | n, h => by
  unfold numL
  by_cases hn : n < 128
  ·rw [dif_pos hn, List.length_singleton]; omega
  ·rw [dif_neg hn]
   have := Aul (n / 128) (by omega)
   simp only [List.length_cons]
   omega
 termination_by n => n
 decreasing_by omega
theorem Awu (l : List UInt8) : Ach std l = some l := by
 unfold Ach Acv Acw Ame
 simp only [bd_some]
 exact ck_t True.intro
theorem write_eq (l : List UInt8) (s : ByteArray) (h : l.length + s.size ≤ 100000000000000) : Abi std l s = some (l ++ bytes s) := by
 unfold Abi
 rw [Awu, bd_some, Azu, ck_t (show std.appOk TyS.byte 1 l (bytes s) from ⟨by rw [Aek]; omega, by rw [Aek]; omega⟩)]
 rfl
theorem A2t {l : List ByteArray} {i : Nat} {p : ByteArray} (h : l[i]? = some p) : bindL (l.take (i + 1)) = bindL (l.take i) ++ (numL p.size ++ bytes p) := by
 unfold bindL
 exact Amk (fun p : ByteArray => numL p.size ++ bytes p) h
theorem Aum : ∀ (l : List ByteArray) (m : Nat), m ≤ 100000000000 → (∀ p ∈ l, p.size ≤ m) → (bindL l).length ≤ l.length * (10 + 2 * m)
 | [], m, _, _ => by simp [bindL]
 | p :: l, m, hm, h => by
  have h1 := Aum l m hm fun p hp => h p (List.mem_cons_of_mem _ hp)
  have h2 := h p (List.mem_cons_self ..)
  have h3 := Aul p.size (by omega)
  simp only [bindL, List.map_cons, List.flatten_cons, List.length_append, List.length_cons, Aek, Nat.succ_mul] at h1 ⊢
  omega
def Aof (l : List ByteArray) : Bool := decide (l.length ≤ 512) && l.all fun p => decide (p.size ≤ 8192)
theorem Aun (l : List ByteArray) (h : Aof l = true) : Akw std l = some (bindS l, 0) := by
 simp only [Aof, Bool.and_eq_true, decide_eq_true_eq, List.all_eq_true] at h
 obtain ⟨hl, hp⟩ := h
 unfold Akw
 rw [show std.cmp .gtr (std.len TyS.str l) 512 = false by rw [show std.cmp .gtr (std.len TyS.str l) 512 = !decide (l.length ≤ 512) from Ayw (t := TyS.str) l 512, decide_eq_true hl]; rfl, br_false]
 have hbl := Aum l 8192 (by omega) hp
 have := Ajy (B := Ai9 std l) (fun i (_ : Unit) => ((i : Int), bindL (l.take i))) l (fun _ _ (_ : Unit) => (.inl () : Unit ⊕ (ByteArray × Int))) (fun _ => (bindS l, 0)) (fun i p u hx hi => by
  have hps := hp p (Afd hx)
  have htl := Aum (l.take i) 8192 (by omega) fun q hq => hp q (List.mem_of_mem_take hq)
  have h10 := Aul p.size (by omega)
  have hti : (l.take i).length ≤ 512 := by rw [List.length_take]; omega
  have hmul : (l.take i).length * (10 + 2 * 8192) ≤ 512 * (10 + 2 * 8192) := Nat.mul_le_mul_right _ hti
  unfold Ai9
  simp only
  rw [Aai, lssT hi, Abd, ck_t (inbT hi), Abv (t := TyS.str) hx, As1, show std.cmp .gtr (p.size : Int) 8192 = false by rw [s_gtr]; exact decide_eq_false (by omega), br_false, Arn p.size (by omega), bd_some]
  have hn : (numS p.size).size = (numL p.size).length := by show (numL p.size).toArray.size = _; simp
  rw [write_eq _ _ (by rw [hn]; omega), bd_some, write_eq _ _ (by rw [List.length_append, show (bytes (numS p.size)) = numL p.size from Amv _]; omega), bd_some, s_add, wrap_succ hi (by unfold big63; omega), A2t hx, show (bytes (numS p.size)) = numL p.size from Amv _, List.append_assoc]) (fun _ => by
  unfold Ai9
  simp only
  rw [Aai, lssF, br_false, List.take_length]
  have hmul : l.length * (10 + 2 * 8192) ≤ 512 * (10 + 2 * 8192) := Nat.mul_le_mul_right _ hl
  unfold strings_Builder_String
  rw [ck_t (by omega), bd_some]
  rfl) ()
 refine this.trans (congrArg some ?_)
 have key : ∀ (xs : List ByteArray) (i : Nat), runL (fun _ _ (_ : Unit) => (.inl () : Unit ⊕ (ByteArray × Int))) (fun _ => (bindS l, 0)) i xs () = (bindS l, 0) := by
  intro xs
  induction xs with
  | nil => intro i; rfl
  | cons x xs ih => intro i; exact ih (i + 1)
 exact key l 0
theorem ba_ext {a b : ByteArray} (h : bytes a = bytes b) : a = b := by rw [← mkb a, ← mkb b, h]
theorem Amw (s : ByteArray) : s.size = (bytes s).length := (Aek s).symm
theorem Ay0 (l : List ByteArray) : bytes (bindS l) = bindL l := Amv _
theorem Akk (b : Bool) (l : List ByteArray) (h : Aof l = true) : Agv std b l = some (bindS l, b) := by
 unfold Agv
 rw [Aun l h, bd_some]
 cases b <;> rfl
end Go.PL
namespace Go.PL
set_option linter.unusedSimpArgs false
set_option linter.unusedVariables false
set_option linter.unusedSectionVars false
open Tys (Ty U)
open Enc (sz enc dflt tb ofB toB)
open Dec (dec dok)
set_option maxRecDepth 100000
def signL (n : Int) : List UInt8 := if n = 1 then [61] else if n = 2 then [33, 61] else if n = 3 then [61, 126] else if n = 4 then [33, 126] else []
def barsL : List ByteArray → List UInt8
 | [] => []
 | w :: r => bytes w ++ (r.map fun x => 124 :: bytes x).flatten
def textL (m : Matcher) : List UInt8 := bytes m.Name ++ signL m.How ++ [34] ++ barsL m.Words ++ [34]
def textS (m : Matcher) : ByteArray := ⟨(textL m).toArray⟩
theorem Aro (m : Matcher) : bytes (textS m) = textL m := Amv _
theorem A2u (ws : List ByteArray) : Lib.join (ws.map (·.data.toList)) [124] = barsL ws := by
 cases ws with
 | nil => rfl
 | cons w r =>
  rw [List.map_cons, Lib.join_cons]
  simp only [barsL, Lib.joinTail, List.map_map]
  rfl
theorem A2v {n : Int} (h1 : 1 ≤ n) (h4 : n ≤ 4) : bytes (lookI std n [(1, ByteArray.mk (Array.mk [61])), (2, ByteArray.mk (Array.mk [33, 61])), (3, ByteArray.mk (Array.mk [61, 126])), (4, ByteArray.mk (Array.mk [33, 126]))] (ByteArray.mk (Array.mk []))).1 = signL n := by
 have : n = 1 ∨ n = 2 ∨ n = 3 ∨ n = 4 := by omega
 rcases this with rfl | rfl | rfl | rfl <;> rfl
theorem Awv {may : ByteArray → Bool} {xs : List ByteArray} (h : As7 may xs = true) : ∀ x ∈ xs, may x = true := by
 rw [A2m, Bool.and_eq_true, List.all_eq_true] at h
 exact h.1
theorem A2w {α : Type} (f : α → List UInt8) (m : Nat) : ∀ xs : List α, (∀ x ∈ xs, (f x).length ≤ m) → (xs.map f).flatten.length ≤ xs.length * m
 | [], _ => by simp
 | x :: xs, h => by
  have h1 := h x (List.mem_cons_self ..)
  have h2 := A2w f m xs fun y hy => h y (List.mem_cons_of_mem _ hy)
  simp only [List.map_cons, List.flatten_cons, List.length_append, List.length_cons, Nat.succ_mul]
  omega
structure MatcherOK (m : Matcher) : Prop where
 name : m.Name.size ≤ 64
 how1 : 1 ≤ m.How
 how4 : m.How ≤ 4
 len : m.Words.length ≤ 8
 words : ∀ w ∈ m.Words, w.size ≤ 64
theorem Arp {m : Matcher} (h : Aia m = true) : MatcherOK m := by
 simp only [Aia, Bool.and_eq_true, decide_eq_true_eq] at h
 obtain ⟨h1, ⟨⟨⟨⟨h2, h3⟩, h4⟩, _⟩, h5⟩, _⟩ := h
 refine ⟨?_, h3, h4, h5, fun w hw => ?_⟩
 ·simp only [nameS, Bool.and_eq_true, decide_eq_true_eq] at h2; exact h2.2
 ·have := Awv h1 w hw
  simp only [Apg, Bool.and_eq_true, decide_eq_true_eq] at this
  exact this.2
theorem A2x {m : Matcher} (h : MatcherOK m) : (barsL m.Words).length ≤ 600 := by
 have hl := h.len
 have hw := h.words
 generalize m.Words = ws at hl hw
 cases ws with
 | nil => simp [barsL]
 | cons w r =>
  have h1 := hw w (List.mem_cons_self ..)
  have h2 := A2w (fun x : ByteArray => 124 :: bytes x) 65 r fun x hx => by
   have := hw x (List.mem_cons_of_mem _ hx)
   rw [List.length_cons, Aek]; omega
  have h3 : r.length * 65 ≤ 7 * 65 := Nat.mul_le_mul_right _ (by simp only [List.length_cons] at hl; omega)
  simp only [barsL, List.length_append, Aek]
  omega
theorem A2y (n : Int) : (signL n).length ≤ 2 := by
 unfold signL
 split
 ·simp
 split
 ·simp
 split
 ·simp
 split <;> simp
theorem A45 {m : Matcher} (h : MatcherOK m) : (textL m).length ≤ 700 := by
 have h1 := A2x h
 have h2 := A2y m.How
 have h3 := h.name
 simp only [textL, List.length_append, Aek, List.length_singleton]
 omega
theorem Amm (m : Matcher) (hf : Aew m) (h : Aia m = true) : Ag5 std m = some (textS m, 0) := by
 have ok := Arp h
 have hb := A2x ok
 have hs := A2y m.How
 have hn := ok.name
 unfold Ag5 Adf
 rw [Ai3 m hf, bd_some, h, show std.not true = false from rfl, br_false, bd_some, bd_some]
 have hv := A2v ok.how1 ok.how4
 generalize (lookI std m.How [(1, ByteArray.mk (Array.mk [61])), (2, ByteArray.mk (Array.mk [33, 61])), (3, ByteArray.mk (Array.mk [61, 126])), (4, ByteArray.mk (Array.mk [33, 126]))] (ByteArray.mk (Array.mk []))).1 = sg at hv
 have hsg : sg.size = (signL m.How).length := by rw [Amw, hv]
 have hj : strings_Join std m.Words (ByteArray.mk (Array.mk [124])) = some ⟨(barsL m.Words).toArray⟩ := by
  unfold strings_Join
  have e : Lib.join (m.Words.map (·.data.toList)) (ByteArray.mk (Array.mk [124])).data.toList = barsL m.Words := A2u m.Words
  rw [e]
  exact ck_t ⟨by have := ok.len; omega, by omega⟩
 have hjs : (⟨(barsL m.Words).toArray⟩ : ByteArray).size = (barsL m.Words).length := by rw [Amw, Amv]
 have q1 : (ByteArray.mk (Array.mk [34])).size = 1 := rfl
 have z1 : (m.Name ++ sg).size = m.Name.size + sg.size := ByteArray.size_append
 have z2 : (m.Name ++ sg ++ ByteArray.mk (Array.mk [34])).size = m.Name.size + sg.size + 1 := by rw [ByteArray.size_append, z1, q1]
 have z3 : (m.Name ++ sg ++ ByteArray.mk (Array.mk [34]) ++ (⟨(barsL m.Words).toArray⟩ : ByteArray)).size = m.Name.size + sg.size + 1 + (barsL m.Words).length := by rw [ByteArray.size_append, z2, hjs]
 rw [ck_t (show std.catOk m.Name sg by rw [Aq2]; omega), ck_t (show std.catOk (std.cat m.Name sg) (ByteArray.mk (Array.mk [34])) by rw [Aq2, s_cat, z1, q1]; omega), hj, bd_some]
 rw [ck_t (show std.catOk (std.cat (std.cat m.Name sg) (ByteArray.mk (Array.mk [34]))) ⟨(barsL m.Words).toArray⟩ by rw [Aq2, s_cat, s_cat, z2, hjs]; omega), ck_t (show std.catOk (std.cat (std.cat (std.cat m.Name sg) (ByteArray.mk (Array.mk [34]))) ⟨(barsL m.Words).toArray⟩) (ByteArray.mk (Array.mk [34])) by rw [Aq2, s_cat, s_cat, s_cat, z3, q1]; omega)]
 congr 2
 rw [s_cat, s_cat, s_cat, s_cat]
 apply ba_ext
 rw [Aoe, Aoe, Aoe, Aoe, hv, Amv, Aro]
 rfl
end Go.PL
namespace Go.PL
set_option linter.unusedSimpArgs false
set_option linter.unusedVariables false
set_option linter.unusedSectionVars false
open Tys (Ty U)
open Enc (sz enc dflt tb ofB toB)
open Dec (dec dok)
set_option maxRecDepth 100000
def Anf (l : List Matcher) : ByteArray := bindS (l.map textS)
def Abp (x : Inhibit) : ByteArray := bindS [Anf x.Source, Anf x.Target, bindS x.Equal]
theorem Atd (l : List ByteArray) : (bindS l).size = (bindL l).length := by rw [Amw, Ay0]
theorem A0x {m : Matcher} (h : MatcherOK m) : (textS m).size ≤ 700 := by rw [Amw, Aro]; exact A45 h
theorem Arq : ∀ (l : List ByteArray) (m : Nat), m ≤ 100000000000 → (∀ p ∈ l, p.size ≤ m) → (bindL l).length ≤ l.length * (10 + m / 128 + m)
 | [], m, _, _ => by simp [bindL]
 | p :: l, m, hm, h => by
  have h1 := Arq l m hm fun p hp => h p (List.mem_cons_of_mem _ hp)
  have h2 := h p (List.mem_cons_self ..)
  have h3 := Aul p.size (by omega)
  simp only [bindL, List.map_cons, List.flatten_cons, List.length_append, List.length_cons, Aek, Nat.succ_mul] at h1 ⊢
  omega
theorem Api {l : List Matcher} (h : Ad3 l = true) : l.length ≤ 8 ∧ ∀ m ∈ l, Aia m = true := by
 simp only [Ad3, Bool.and_eq_true, decide_eq_true_eq, List.all_eq_true] at h
 exact ⟨h.2, h.1⟩
theorem Auo {l : List Matcher} (h : Ad3 l = true) : Aof (l.map textS) = true ∧ (Anf l).size ≤ 5720 := by
 obtain ⟨h1, h2⟩ := Api h
 have hm : ∀ p ∈ l.map textS, p.size ≤ 700 := by
  intro p hp
  obtain ⟨m, hm, rfl⟩ := List.mem_map.1 hp
  exact A0x (Arp (h2 m hm))
 refine ⟨?_, ?_⟩
 ·simp only [Aof, Bool.and_eq_true, decide_eq_true_eq, List.all_eq_true, List.length_map]
  exact ⟨by omega, fun p hp => by have := hm p hp; omega⟩
 ·unfold Anf
  rw [Atd]
  have := Arq (l.map textS) 700 (by omega) hm
  rw [List.length_map] at this
  have h3 : l.length * (10 + 700 / 128 + 700) ≤ 8 * (10 + 700 / 128 + 700) := Nat.mul_le_mul_right _ h1
  omega
theorem Azx {x : Inhibit} (h : Afs x = true) : Aof x.Equal = true ∧ (bindS x.Equal).size ≤ 5720 := by
 simp only [Afs, Bool.and_eq_true, decide_eq_true_eq] at h
 obtain ⟨hw, ⟨⟨_, he⟩, _⟩, _⟩ := h
 have hm : ∀ p ∈ x.Equal, p.size ≤ 64 := by
  intro p hp
  have := Awv hw p hp
  simp only [nameS, Bool.and_eq_true, decide_eq_true_eq] at this
  exact this.2
 refine ⟨?_, ?_⟩
 ·simp only [Aof, Bool.and_eq_true, decide_eq_true_eq, List.all_eq_true]
  exact ⟨by omega, fun p hp => by have := hm p hp; omega⟩
 ·rw [Atd]
  have := Arq x.Equal 64 (by omega) hm
  have h3 : x.Equal.length * (10 + 64 / 128 + 64) ≤ 8 * (10 + 64 / 128 + 64) := Nat.mul_le_mul_right _ he
  omega
theorem A34 {x : Inhibit} (h : Afs x = true) : Aof [Anf x.Source, Anf x.Target, bindS x.Equal] = true := by
 have h0 := h
 simp only [Afs, Bool.and_eq_true, decide_eq_true_eq] at h
 have h1 := (Auo h.2.1.2).2
 have h2 := (Auo h.2.2).2
 have h3 := (Azx h0).2
 simp only [Aof, List.length_cons, List.length_nil, List.all_cons, List.all_nil, Bool.and_true, Bool.and_eq_true, decide_eq_true_eq]
 omega
theorem Akc (b : Bool) (l : List Matcher) (hf : fitL Aew l) (h : Ad3 l = true) : Aet std b l = some (Anf l, b) := by
 obtain ⟨h1, h2⟩ := Api h
 unfold Aet
 have := Ajy (B := Afp std b l) (fun i (_ : Unit) => ((l.take i).map textS, (i : Int))) l (fun _ _ (_ : Unit) => (.inl () : Unit ⊕ (ByteArray × Bool))) (fun _ => (Anf l, b)) (fun i m u hm hi => by
  unfold Afp
  simp only
  rw [Aai, lssT hi, Abd, ck_t (inbT hi), Abv (t := TyS.matcher) hm, Amm m (hf.2 m (Afd hm)) (h2 m (Afd hm)), bd_some, ck_t (show std.appOk TyS.str 16 ((l.take i).map textS) [textS m] from ⟨by simp; omega, by simp; omega⟩), s_add, wrap_succ hi hf.1, take_snoc hm, List.map_append]
  rfl) (fun _ => by
  unfold Afp
  simp only
  rw [Aai, lssF, br_false, List.take_length, Akk b _ (Auo h).1, bd_some]
  rfl) ()
 refine this.trans (congrArg some ?_)
 have key : ∀ (xs : List Matcher) (i : Nat), runL (fun _ _ (_ : Unit) => (.inl () : Unit ⊕ (ByteArray × Bool))) (fun _ => (Anf l, b)) i xs () = (Anf l, b) := by
  intro xs
  induction xs with
  | nil => intro i; rfl
  | cons x xs ih => intro i; exact ih (i + 1)
 exact key l 0
theorem config_quiet_eq (b : Bool) (x : Inhibit) (hf : Ah1 x) (h : Afs x = true) : Adj std x b = some (Abp x, b) := by
 have h0 := h
 simp only [Afs, Bool.and_eq_true, decide_eq_true_eq] at h
 unfold Adj Ah6
 rw [Akc b x.Source hf.1 h.2.1.2, bd_some, Akc b x.Target hf.2.1 h.2.2, bd_some, Akk b _ (Azx h0).1, bd_some, Akk b _ (A34 h0), bd_some, bd_some]
 rfl
end Go.PL
namespace Go.PL
set_option linter.unusedSimpArgs false
set_option linter.unusedVariables false
set_option linter.unusedSectionVars false
open Tys (Ty U)
open Enc (sz enc dflt tb ofB toB)
open Dec (dec dok)
set_option maxRecDepth 100000
theorem Aup (a b : UInt8) (l m : List UInt8) : Op.bytesLess (a :: l) (b :: m) = (decide (a < b) || (a == b && Op.bytesLess l m)) := by
 simp [Op.bytesLess]
theorem Aww : ∀ l : List UInt8, Op.bytesLess l l = false
 | [] => rfl
 | a :: l => by rw [Aup, Aww l]; simp
theorem A4m : ∀ l m : List UInt8, Op.bytesLess l m = false → Op.bytesLess m l = false → l = m
 | [], [], _, _ => rfl
 | [], _ :: _, h, _ => by simp [Op.bytesLess] at h
 | _ :: _, [], _, h => by simp [Op.bytesLess] at h
 | a :: l, b :: m, h1, h2 => by
  rw [Aup] at h1 h2
  simp only [Bool.or_eq_false_iff, decide_eq_false_iff_not, Bool.and_eq_false_iff, beq_eq_false_iff_ne] at h1 h2
  have e : a = b := by
   apply UInt8.toNat_inj.1
   have h3 := h1.1
   have h4 := h2.1
   rw [UInt8.lt_iff_toNat_lt] at h3 h4
   omega
  subst e
  rw [A4m l m (h1.2.resolve_left fun h => h rfl) (h2.2.resolve_left fun h => h rfl)]
theorem Azy : ∀ l m n : List UInt8, Op.bytesLess l m = true → Op.bytesLess m n = true → Op.bytesLess l n = true
 | [], [], _, h, _ => by simp [Op.bytesLess] at h
 | _ :: _, [], _, h, _ => by simp [Op.bytesLess] at h
 | _, _ :: _, [], _, h => by simp [Op.bytesLess] at h
 | [], _ :: _, _ :: _, _, _ => by simp [Op.bytesLess]
 | a :: l, b :: m, c :: n, h1, h2 => by
  rw [Aup] at h1 h2 ⊢
  simp only [Bool.or_eq_true, decide_eq_true_eq, Bool.and_eq_true, beq_iff_eq, UInt8.lt_iff_toNat_lt] at h1 h2 ⊢
  rcases h1 with h1 | ⟨rfl, h1⟩
  ·rcases h2 with h2 | ⟨rfl, h2⟩
   ·left; omega
   ·left; exact h1
  ·rcases h2 with h2 | ⟨rfl, h2⟩
   ·left; exact h2
   ·right; exact ⟨rfl, Azy l m n h1 h2⟩
theorem Amx (a b : ByteArray) : lessS a b = Op.bytesLess (bytes a) (bytes b) := by
 show Op.bytesLess a.toList b.toList = _
 rw [ByteArray.toList_eq, ByteArray.toList_eq]
theorem Ay1 (a : ByteArray) : lessS a a = false := by rw [Amx]; exact Aww _
theorem Azz {a b : ByteArray} (h1 : lessS a b = false) (h2 : lessS b a = false) : a = b := by
 rw [Amx] at h1 h2; exact ba_ext (A4m _ _ h1 h2)
theorem Ao6 {a b c : ByteArray} (h1 : lessS a b = true) (h2 : lessS b c = true) : lessS a c = true := by
 rw [Amx] at h1 h2 ⊢; exact Azy _ _ _ h1 h2
theorem Ate {a b : ByteArray} (h : lessS a b = true) : lessS b a = false := by
 cases h2 : lessS b a with
 | false => rfl
 | true => have := Ao6 h h2; rw [Ay1] at this; cases this
theorem Arr : ∀ l m : List UInt8, Lib.compareBytes l m < 0 ↔ Op.bytesLess l m = true
 | [], [] => by simp [Lib.compareBytes, Op.bytesLess]
 | [], _ :: _ => by simp [Lib.compareBytes, Op.bytesLess]
 | _ :: _, [] => by simp [Lib.compareBytes, Op.bytesLess]
 | a :: l, b :: m => by
  rw [Aup]
  simp only [Lib.compareBytes]
  by_cases h1 : a < b
  ·rw [if_pos h1, decide_eq_true h1]; simp
  ·rw [if_neg h1, decide_eq_false h1, Bool.false_or]
   by_cases h2 : b < a
   ·rw [if_pos h2]
    have : (a == b) = false := by
     rw [beq_eq_false_iff_ne]; rintro rfl; exact h1 h2
    rw [this]; simp
   ·rw [if_neg h2]
    have : (a == b) = true := by
     rw [beq_iff_eq]
     apply UInt8.toNat_inj.1
     rw [UInt8.lt_iff_toNat_lt] at h1 h2
     omega
    rw [this, Bool.true_and]
    exact Arr l m
theorem Akd (a b : ByteArray) : decide (Lib.compareBytes a.data.toList b.data.toList < 0) = lessS a b := by
 rw [Amx, Bool.eq_iff_iff, decide_eq_true_eq]
 exact Arr _ _
end Go.PL
namespace Go.PL
set_option linter.unusedSimpArgs false
set_option linter.unusedVariables false
set_option linter.unusedSectionVars false
open Tys (Ty U)
open Enc (sz enc dflt tb ofB toB)
open Dec (dec dok)
set_option maxRecDepth 100000
section
variable {α : Type} (key : α → ByteArray)
def insL (x : α) : List α → List α
 | [] => [x]
 | y :: ys => if lessS (key y) (key x) then y :: insL x ys else x :: y :: ys
def hasK (l : List α) (x : α) : Bool := l.any fun y => decide (key y = key x)
def normL (l : List α) : List α := l.foldl (fun acc x => if hasK key acc x then acc else insL key x acc) []
def Asc (l : List α) : Prop := l.Pairwise fun x y => lessS (key x) (key y) = true
end
end Go.PL
namespace Go.PL
set_option linter.unusedSimpArgs false
set_option linter.unusedVariables false
set_option linter.unusedSectionVars false
open Tys (Ty U)
open Enc (sz enc dflt tb ofB toB)
open Dec (dec dok)
set_option maxRecDepth 100000
section
variable {α : Type}
theorem Atf (L R : List α) (x : α) : (L.reverse ++ x :: R)[L.length]? = some x := by
 rw [List.getElem?_append_right (by simp)]; simp
theorem Aog (L R : List α) (x y : α) : ((y :: L).reverse ++ x :: R)[L.length]? = some y := by
 rw [List.reverse_cons, List.append_assoc]
 exact Atf L (x :: R) y
theorem Ap7 (L R : List α) (x y : α) : (((y :: L).reverse ++ x :: R).set (L.length + 1) y).set L.length x = L.reverse ++ x :: y :: R := by
 apply List.ext_getElem?
 intro i
 simp only [List.reverse_cons, List.append_assoc, List.singleton_append, List.getElem?_set, List.length_set, List.length_append, List.length_reverse, List.length_cons]
 rcases Nat.lt_trichotomy i L.length with h | h | h
 ·rw [if_neg (by omega), if_neg (by omega), List.getElem?_append_left (by simpa using h), List.getElem?_append_left (by simpa using h)]
 ·subst h
  rw [if_pos rfl, if_pos (by omega), Atf]
 ·rw [if_neg (by omega), List.getElem?_append_right (by simp; omega), List.getElem?_append_right (by simp; omega), List.length_reverse]
  obtain ⟨k, rfl⟩ : ∃ k, i = L.length + 1 + k := ⟨i - L.length - 1, by omega⟩
  rw [show L.length + 1 + k - L.length = k + 1 by omega]
  cases k with
  | zero => simp
  | succ k => rw [if_neg (by omega)]; simp
def insR (less : α → α → Bool) (x : α) : List α → List α → List α
 | [], R => x :: R
 | y :: L, R => if less x y then insR less x L (y :: R) else (y :: L).reverse ++ x :: R
theorem Ars {less : α → α → Bool} {x y : α} {L R : List α} (h : less x y = true) : insR less x (y :: L) R = insR less x L (y :: R) := if_pos h
theorem Art {less : α → α → Bool} {x y : α} {L R : List α} (h : less x y = false) : insR less x (y :: L) R = (y :: L).reverse ++ x :: R := if_neg (by rw [h]; simp)
theorem Awx (less : α → α → Bool) (x : α) : ∀ L R : List α, (insR less x L R).Perm (L.reverse ++ x :: R)
 | [], R => .refl _
 | y :: L, R => by
  simp only [insR]
  split
  ·refine (Awx less x L (y :: R)).trans ?_
   rw [List.reverse_cons, List.append_assoc]
   exact List.Perm.append_left _ (List.Perm.swap ..)
  ·exact .refl _
theorem Ak1 (less : α → α → Bool) (x : α) : ∀ L R : List α, insR less x L R = insR less x L [] ++ R
 | [], R => rfl
 | y :: L, R => by
  cases h : less x y with
  | true => rw [Ars h, Ars h, Ak1 less x L (y :: R), Ak1 less x L [y], List.append_assoc]; rfl
  | false => rw [Art h, Art h, List.append_assoc]; rfl
def sortI (less : α → α → Bool) (xs : List α) : List α := xs.foldl (fun P x => insR less x P.reverse []) []
theorem Ak2 (less : α → α → Bool) (xs : List α) (x : α) : sortI less (xs ++ [x]) = insR less x (sortI less xs).reverse [] := by
 unfold sortI; rw [List.foldl_append]; rfl
theorem Afj (less : α → α → Bool) (xs : List α) : (sortI less xs).Perm xs := by
 have key : ∀ (xs P : List α), (xs.foldl (fun P x => insR less x P.reverse []) P).Perm (P ++ xs) := by
  intro xs
  induction xs with
  | nil => intro P; simp
  | cons x xs ih =>
   intro P
   rw [List.foldl_cons]
   refine (ih _).trans ?_
   have h1 := Awx less x P.reverse []
   rw [List.reverse_reverse] at h1
   refine (h1.append_right xs).trans ?_
   rw [List.append_assoc]
   exact .refl _
 exact key xs []
theorem Ac0 (less : α → α → Bool) (xs : List α) : (sortI less xs).length = xs.length := (Afj less xs).length_eq
end
end Go.PL
namespace Go.PL
set_option linter.unusedSimpArgs false
set_option linter.unusedVariables false
set_option linter.unusedSectionVars false
open Tys (Ty U)
open Enc (sz enc dflt tb ofB toB)
open Dec (dec dok)
set_option maxRecDepth 100000
theorem Az0 (q : Rule → Rule → Option Int) (cmp : Rule → Rule → Int) (hq : ∀ x y, q x y = some (cmp x y)) (n i : Nat) (hn : n ≤ 1000) (hi : i ≤ 1000) : ∀ (L R : List Rule) (x : Rule), (L.reverse ++ x :: R).length = n →
  Loop (Aao std (n : Int) 0 q (i : Int)) ((L.length : Int), L.reverse ++ x :: R) = some (.inl (((i + 1 : Nat) : Int), insR (fun a b => decide (cmp a b < 0)) x L R))
 | [], R, x, hl => by
  rw [Ado]
  have hB : Aao std (n : Int) 0 q (i : Int) ((([] : List Rule).length : Int), ([] : List Rule).reverse ++ x :: R) = some (.inr (.inl (((i + 1 : Nat) : Int), x :: R))) := by
   unfold Aao
   simp only [List.length_nil, List.reverse_nil, List.nil_append]
   rw [show std.cmp .gtr ((0 : Nat) : Int) 0 = false from rfl]
   have hv : ∀ p : Prop, vc false p := fun p => True.intro
   rw [ck_t (hv _), ck_t (hv _), ck_t (hv _), ck_t (hv _), gd_f, bd_some, s_land, Bool.false_and, br_false, s_add, wrap_succ (n := 1001) (by omega) (by unfold big63; omega)]
   rfl
  rw [hB]
  rfl
 | y :: L, R, x, hl => by
  rw [Ado]
  have hlen : (y :: L).length + 1 ≤ n := by simp at hl ⊢; omega
  have hj : L.length + 1 < n := by simp only [List.length_cons] at hlen; omega
  have g1 : std.cmp .gtr (((y :: L).length : Nat) : Int) 0 = true := by rw [s_gtr]; exact decide_eq_true (by simp only [List.length_cons]; omega)
  have e1 : std.ar .sub .i64 (((y :: L).length : Nat) : Int) 1 = (L.length : Int) := by rw [prevI (by simp) (by unfold big63; simp only [List.length_cons]; omega)]; simp
  have p0 : ∀ k : Nat, std.pl 0 (k : Int) = (k : Int) := fun k => by rw [s_pl]; omega
  have ax := Abv (t := TyS.rule) (Atf (y :: L) R x)
  have ay := Abv (t := TyS.rule) (Aog L R x y)
  have hrl : std.len TyS.rule ((y :: L).reverse ++ x :: R) = (n : Int) := by rw [Aai, hl]
  have hB : Aao std (n : Int) 0 q (i : Int) (((y :: L).length : Int), (y :: L).reverse ++ x :: R) = some (if cmp x y < 0 then .inl ((L.length : Int), L.reverse ++ x :: y :: R) else .inr (.inl (((i + 1 : Nat) : Int), (y :: L).reverse ++ x :: R))) := by
   unfold Aao
   simp only
   rw [g1, e1, p0, p0, hrl]
   have hv : ∀ {p : Prop}, p → vc true p := fun h => h
   rw [ck_t (hv (inbT (by simp only [List.length_cons]; omega))), ck_t (hv (inbT (by simp only [List.length_cons]; omega))), ck_t (hv (inbT (by omega))), ck_t (hv (inbT (by omega))), gd_t, ax, ay, hq, bd_some, s_land, Bool.true_and, s_lss]
   by_cases hc : cmp x y < 0
   ·rw [decide_eq_true hc, Abd, if_pos hc, ck_t (inbT (by omega)), ck_t (inbT (by omega)), ck_t (inbT (by simp only [List.length_cons]; omega)), ck_t (inbT (by simp only [List.length_cons]; omega))]
    have hs : std.len TyS.rule (std.set TyS.rule ((y :: L).reverse ++ x :: R) (((y :: L).length : Nat) : Int) y) = (n : Int) := by
     rw [s_set, Aai, List.length_set, hl]
    rw [hs, ck_t (inbT (by omega)), s_set, s_set, Int.toNat_natCast, Int.toNat_natCast]
    have := Ap7 L R x y
    exact congrArg (fun r => some (Sum.inl ((L.length : Int), r))) this
   ·rw [decide_eq_false hc, br_false, if_neg hc, s_add, wrap_succ (n := 1001) (by omega) (by unfold big63; omega)]
    rfl
  rw [hB]
  by_cases hc : cmp x y < 0
  ·rw [if_pos hc, Ars (decide_eq_true hc)]
   exact Az0 q cmp hq n i hn hi L (y :: R) x (by rw [← hl]; simp)
  ·rw [if_neg hc, Art (decide_eq_false hc)]
theorem A2z (q : Rule → Rule → Option Int) (cmp : Rule → Rule → Int) (hq : ∀ x y, q x y = some (cmp x y)) (xs : List Rule) (hn : xs.length ≤ 1000) :
  Aay std xs (xs.length : Int) 0 (xs.length : Int) q = some (sortI (fun a b => decide (cmp a b < 0)) xs) := by
 unfold Aay
 rw [show std.ar .add .i64 0 1 = ((1 : Nat) : Int) from rfl]
 cases xs with
 | nil => rw [Ado]; rfl
 | cons x0 ys =>
  generalize hxs : x0 :: ys = xs at hn
  have h1 : 1 ≤ xs.length := by rw [← hxs]; simp
  have hstart : xs = sortI (fun a b => decide (cmp a b < 0)) (xs.take 1) ++ xs.drop 1 := by rw [← hxs]; rfl
  have := Aga (B := Abs std (xs.length : Int) 0 (xs.length : Int) q) (fun i (_ : Unit) => ((i : Int), sortI (fun a b => decide (cmp a b < 0)) (xs.take i) ++ xs.drop i)) xs (fun _ _ (_ : Unit) => (.inl () : Unit ⊕ List Rule)) (fun _ => sortI (fun a b => decide (cmp a b < 0)) xs) (fun _ _ => True)
   (fun i x u hx _ => by
    have hi := Ah9 hx
    refine ⟨fun s' _ => ⟨?_, trivial⟩, fun e he => by cases he⟩
    obtain ⟨x', hx', _, hd, ht⟩ := i_at (xs := xs) (i := i) hi
    rw [hx] at hx'; cases hx'
    unfold Abs
    simp only
    rw [lssT hi, Abd]
    have hlen : (sortI (fun a b => decide (cmp a b < 0)) (xs.take i)).reverse.length = i := by rw [List.length_reverse, Ac0, List.length_take]; omega
    have := Az0 q cmp hq xs.length i hn (by omega) (sortI (fun a b => decide (cmp a b < 0)) (xs.take i)).reverse (xs.drop (i + 1)) x (by
     rw [List.reverse_reverse, ← hd, List.length_append, Ac0, List.length_take, List.length_drop]; omega)
    rw [hlen, List.reverse_reverse, ← hd] at this
    rw [this, ht, Ak2, Ak1]
    rfl)
   (fun s _ => by
    unfold Abs
    simp only
    rw [lssF, br_false, List.take_length, List.drop_length, List.append_nil]
    rfl) 1 h1 () trivial
  rw [← hstart] at this
  refine this.trans (congrArg some ?_)
  have key : ∀ (l : List Rule) (i : Nat), runL (fun _ _ (_ : Unit) => (.inl () : Unit ⊕ List Rule)) (fun _ => sortI (fun a b => decide (cmp a b < 0)) xs) i l () = sortI (fun a b => decide (cmp a b < 0)) xs := by
   intro l
   induction l with
   | nil => intro i; rfl
   | cons x xs ih => intro i; exact ih (i + 1)
  exact key _ _
theorem stable_Rule (q : Rule → Rule → Option Int) (cmp : Rule → Rule → Int) (hq : ∀ x y, q x y = some (cmp x y)) (xs : List Rule) (hn : xs.length < 20) :
  Abu std xs (xs.length : Int) (xs.length : Int) q = some (sortI (fun a b => decide (cmp a b < 0)) xs) := by
 unfold Abu
 have hB : Ad6 std (xs.length : Int) (xs.length : Int) q (0, 20, xs) = some (.inr (sortI (fun a b => decide (cmp a b < 0)) xs)) := by
  unfold Ad6
  simp only
  rw [show std.cmp .leq 20 (xs.length : Int) = false by rw [s_leq]; exact decide_eq_false (by omega), br_false, A2z q cmp hq xs (by omega), bd_some, Ado]
  have h2 : Ad5 std (xs.length : Int) (sortI (fun a b => decide (cmp a b < 0)) xs) 20 = some (.inr (sortI (fun a b => decide (cmp a b < 0)) xs)) := by
   unfold Ad5
   simp only
   rw [show std.cmp .lss 20 (xs.length : Int) = false by rw [s_lss]; exact decide_eq_false (by omega), br_false]
   rfl
  rw [h2]
  rfl
 rw [Ado, hB]
theorem Atg (q : ByteArray → ByteArray → Option Int) (cmp : ByteArray → ByteArray → Int) (hq : ∀ x y, q x y = some (cmp x y)) (n i : Nat) (hn : n ≤ 1000) (hi : i ≤ 1000) : ∀ (L R : List ByteArray) (x : ByteArray), (L.reverse ++ x :: R).length = n →
  Loop (Aaj std (n : Int) 0 q (i : Int)) ((L.length : Int), L.reverse ++ x :: R) = some (.inl (((i + 1 : Nat) : Int), insR (fun a b => decide (cmp a b < 0)) x L R))
 | [], R, x, hl => by
  rw [Ado]
  have hB : Aaj std (n : Int) 0 q (i : Int) ((([] : List ByteArray).length : Int), ([] : List ByteArray).reverse ++ x :: R) = some (.inr (.inl (((i + 1 : Nat) : Int), x :: R))) := by
   unfold Aaj
   simp only [List.length_nil, List.reverse_nil, List.nil_append]
   rw [show std.cmp .gtr ((0 : Nat) : Int) 0 = false from rfl]
   have hv : ∀ p : Prop, vc false p := fun p => True.intro
   rw [ck_t (hv _), ck_t (hv _), ck_t (hv _), ck_t (hv _), gd_f, bd_some, s_land, Bool.false_and, br_false, s_add, wrap_succ (n := 1001) (by omega) (by unfold big63; omega)]
   rfl
  rw [hB]
  rfl
 | y :: L, R, x, hl => by
  rw [Ado]
  have hlen : (y :: L).length + 1 ≤ n := by simp at hl ⊢; omega
  have hj : L.length + 1 < n := by simp only [List.length_cons] at hlen; omega
  have g1 : std.cmp .gtr (((y :: L).length : Nat) : Int) 0 = true := by rw [s_gtr]; exact decide_eq_true (by simp only [List.length_cons]; omega)
  have e1 : std.ar .sub .i64 (((y :: L).length : Nat) : Int) 1 = (L.length : Int) := by rw [prevI (by simp) (by unfold big63; simp only [List.length_cons]; omega)]; simp
  have p0 : ∀ k : Nat, std.pl 0 (k : Int) = (k : Int) := fun k => by rw [s_pl]; omega
  have ax := Abv (t := TyS.str) (Atf (y :: L) R x)
  have ay := Abv (t := TyS.str) (Aog L R x y)
  have hrl : std.len TyS.str ((y :: L).reverse ++ x :: R) = (n : Int) := by rw [Aai, hl]
  have hB : Aaj std (n : Int) 0 q (i : Int) (((y :: L).length : Int), (y :: L).reverse ++ x :: R) = some (if cmp x y < 0 then .inl ((L.length : Int), L.reverse ++ x :: y :: R) else .inr (.inl (((i + 1 : Nat) : Int), (y :: L).reverse ++ x :: R))) := by
   unfold Aaj
   simp only
   rw [g1, e1, p0, p0, hrl]
   have hv : ∀ {p : Prop}, p → vc true p := fun h => h
   rw [ck_t (hv (inbT (by simp only [List.length_cons]; omega))), ck_t (hv (inbT (by simp only [List.length_cons]; omega))), ck_t (hv (inbT (by omega))), ck_t (hv (inbT (by omega))), gd_t, ax, ay, hq, bd_some, s_land, Bool.true_and, s_lss]
   by_cases hc : cmp x y < 0
   ·rw [decide_eq_true hc, Abd, if_pos hc, ck_t (inbT (by omega)), ck_t (inbT (by omega)), ck_t (inbT (by simp only [List.length_cons]; omega)), ck_t (inbT (by simp only [List.length_cons]; omega))]
    have hs : std.len TyS.str (std.set TyS.str ((y :: L).reverse ++ x :: R) (((y :: L).length : Nat) : Int) y) = (n : Int) := by
     rw [s_set, Aai, List.length_set, hl]
    rw [hs, ck_t (inbT (by omega)), s_set, s_set, Int.toNat_natCast, Int.toNat_natCast]
    have := Ap7 L R x y
    exact congrArg (fun r => some (Sum.inl ((L.length : Int), r))) this
   ·rw [decide_eq_false hc, br_false, if_neg hc, s_add, wrap_succ (n := 1001) (by omega) (by unfold big63; omega)]
    rfl
  rw [hB]
  by_cases hc : cmp x y < 0
  ·rw [if_pos hc, Ars (decide_eq_true hc)]
   exact Atg q cmp hq n i hn hi L (y :: R) x (by rw [← hl]; simp)
  ·rw [if_neg hc, Art (decide_eq_false hc)]
theorem Ay2 (q : ByteArray → ByteArray → Option Int) (cmp : ByteArray → ByteArray → Int) (hq : ∀ x y, q x y = some (cmp x y)) (xs : List ByteArray) (hn : xs.length ≤ 1000) :
  Aar std xs (xs.length : Int) 0 (xs.length : Int) q = some (sortI (fun a b => decide (cmp a b < 0)) xs) := by
 unfold Aar
 rw [show std.ar .add .i64 0 1 = ((1 : Nat) : Int) from rfl]
 cases xs with
 | nil => rw [Ado]; rfl
 | cons x0 ys =>
  generalize hxs : x0 :: ys = xs at hn
  have h1 : 1 ≤ xs.length := by rw [← hxs]; simp
  have hstart : xs = sortI (fun a b => decide (cmp a b < 0)) (xs.take 1) ++ xs.drop 1 := by rw [← hxs]; rfl
  have := Aga (B := Abf std (xs.length : Int) 0 (xs.length : Int) q) (fun i (_ : Unit) => ((i : Int), sortI (fun a b => decide (cmp a b < 0)) (xs.take i) ++ xs.drop i)) xs (fun _ _ (_ : Unit) => (.inl () : Unit ⊕ List ByteArray)) (fun _ => sortI (fun a b => decide (cmp a b < 0)) xs) (fun _ _ => True)
   (fun i x u hx _ => by
    have hi := Ah9 hx
    refine ⟨fun s' _ => ⟨?_, trivial⟩, fun e he => by cases he⟩
    obtain ⟨x', hx', _, hd, ht⟩ := i_at (xs := xs) (i := i) hi
    rw [hx] at hx'; cases hx'
    unfold Abf
    simp only
    rw [lssT hi, Abd]
    have hlen : (sortI (fun a b => decide (cmp a b < 0)) (xs.take i)).reverse.length = i := by rw [List.length_reverse, Ac0, List.length_take]; omega
    have := Atg q cmp hq xs.length i hn (by omega) (sortI (fun a b => decide (cmp a b < 0)) (xs.take i)).reverse (xs.drop (i + 1)) x (by
     rw [List.reverse_reverse, ← hd, List.length_append, Ac0, List.length_take, List.length_drop]; omega)
    rw [hlen, List.reverse_reverse, ← hd] at this
    rw [this, ht, Ak2, Ak1]
    rfl)
   (fun s _ => by
    unfold Abf
    simp only
    rw [lssF, br_false, List.take_length, List.drop_length, List.append_nil]
    rfl) 1 h1 () trivial
  rw [← hstart] at this
  refine this.trans (congrArg some ?_)
  have key : ∀ (l : List ByteArray) (i : Nat), runL (fun _ _ (_ : Unit) => (.inl () : Unit ⊕ List ByteArray)) (fun _ => sortI (fun a b => decide (cmp a b < 0)) xs) i l () = sortI (fun a b => decide (cmp a b < 0)) xs := by
   intro l
   induction l with
   | nil => intro i; rfl
   | cons x xs ih => intro i; exact ih (i + 1)
  exact key _ _
theorem stable_string (q : ByteArray → ByteArray → Option Int) (cmp : ByteArray → ByteArray → Int) (hq : ∀ x y, q x y = some (cmp x y)) (xs : List ByteArray) (hn : xs.length < 20) :
  Abk std xs (xs.length : Int) (xs.length : Int) q = some (sortI (fun a b => decide (cmp a b < 0)) xs) := by
 unfold Abk
 have hB : Adl std (xs.length : Int) (xs.length : Int) q (0, 20, xs) = some (.inr (sortI (fun a b => decide (cmp a b < 0)) xs)) := by
  unfold Adl
  simp only
  rw [show std.cmp .leq 20 (xs.length : Int) = false by rw [s_leq]; exact decide_eq_false (by omega), br_false, Ay2 q cmp hq xs (by omega), bd_some, Ado]
  have h2 : Adk std (xs.length : Int) (sortI (fun a b => decide (cmp a b < 0)) xs) 20 = some (.inr (sortI (fun a b => decide (cmp a b < 0)) xs)) := by
   unfold Adk
   simp only
   rw [show std.cmp .lss 20 (xs.length : Int) = false by rw [s_lss]; exact decide_eq_false (by omega), br_false]
   rfl
  rw [h2]
  rfl
 rw [Ado, hB]
theorem Awy (q : Hours → Hours → Option Int) (cmp : Hours → Hours → Int) (hq : ∀ x y, q x y = some (cmp x y)) (n i : Nat) (hn : n ≤ 1000) (hi : i ≤ 1000) : ∀ (L R : List Hours) (x : Hours), (L.reverse ++ x :: R).length = n →
  Loop (Aam std (n : Int) 0 q (i : Int)) ((L.length : Int), L.reverse ++ x :: R) = some (.inl (((i + 1 : Nat) : Int), insR (fun a b => decide (cmp a b < 0)) x L R))
 | [], R, x, hl => by
  rw [Ado]
  have hB : Aam std (n : Int) 0 q (i : Int) ((([] : List Hours).length : Int), ([] : List Hours).reverse ++ x :: R) = some (.inr (.inl (((i + 1 : Nat) : Int), x :: R))) := by
   unfold Aam
   simp only [List.length_nil, List.reverse_nil, List.nil_append]
   rw [show std.cmp .gtr ((0 : Nat) : Int) 0 = false from rfl]
   have hv : ∀ p : Prop, vc false p := fun p => True.intro
   rw [ck_t (hv _), ck_t (hv _), ck_t (hv _), ck_t (hv _), gd_f, bd_some, s_land, Bool.false_and, br_false, s_add, wrap_succ (n := 1001) (by omega) (by unfold big63; omega)]
   rfl
  rw [hB]
  rfl
 | y :: L, R, x, hl => by
  rw [Ado]
  have hlen : (y :: L).length + 1 ≤ n := by simp at hl ⊢; omega
  have hj : L.length + 1 < n := by simp only [List.length_cons] at hlen; omega
  have g1 : std.cmp .gtr (((y :: L).length : Nat) : Int) 0 = true := by rw [s_gtr]; exact decide_eq_true (by simp only [List.length_cons]; omega)
  have e1 : std.ar .sub .i64 (((y :: L).length : Nat) : Int) 1 = (L.length : Int) := by rw [prevI (by simp) (by unfold big63; simp only [List.length_cons]; omega)]; simp
  have p0 : ∀ k : Nat, std.pl 0 (k : Int) = (k : Int) := fun k => by rw [s_pl]; omega
  have ax := Abv (t := TyS.hours) (Atf (y :: L) R x)
  have ay := Abv (t := TyS.hours) (Aog L R x y)
  have hrl : std.len TyS.hours ((y :: L).reverse ++ x :: R) = (n : Int) := by rw [Aai, hl]
  have hB : Aam std (n : Int) 0 q (i : Int) (((y :: L).length : Int), (y :: L).reverse ++ x :: R) = some (if cmp x y < 0 then .inl ((L.length : Int), L.reverse ++ x :: y :: R) else .inr (.inl (((i + 1 : Nat) : Int), (y :: L).reverse ++ x :: R))) := by
   unfold Aam
   simp only
   rw [g1, e1, p0, p0, hrl]
   have hv : ∀ {p : Prop}, p → vc true p := fun h => h
   rw [ck_t (hv (inbT (by simp only [List.length_cons]; omega))), ck_t (hv (inbT (by simp only [List.length_cons]; omega))), ck_t (hv (inbT (by omega))), ck_t (hv (inbT (by omega))), gd_t, ax, ay, hq, bd_some, s_land, Bool.true_and, s_lss]
   by_cases hc : cmp x y < 0
   ·rw [decide_eq_true hc, Abd, if_pos hc, ck_t (inbT (by omega)), ck_t (inbT (by omega)), ck_t (inbT (by simp only [List.length_cons]; omega)), ck_t (inbT (by simp only [List.length_cons]; omega))]
    have hs : std.len TyS.hours (std.set TyS.hours ((y :: L).reverse ++ x :: R) (((y :: L).length : Nat) : Int) y) = (n : Int) := by
     rw [s_set, Aai, List.length_set, hl]
    rw [hs, ck_t (inbT (by omega)), s_set, s_set, Int.toNat_natCast, Int.toNat_natCast]
    have := Ap7 L R x y
    exact congrArg (fun r => some (Sum.inl ((L.length : Int), r))) this
   ·rw [decide_eq_false hc, br_false, if_neg hc, s_add, wrap_succ (n := 1001) (by omega) (by unfold big63; omega)]
    rfl
  rw [hB]
  by_cases hc : cmp x y < 0
  ·rw [if_pos hc, Ars (decide_eq_true hc)]
   exact Awy q cmp hq n i hn hi L (y :: R) x (by rw [← hl]; simp)
  ·rw [if_neg hc, Art (decide_eq_false hc)]
theorem A0y (q : Hours → Hours → Option Int) (cmp : Hours → Hours → Int) (hq : ∀ x y, q x y = some (cmp x y)) (xs : List Hours) (hn : xs.length ≤ 1000) :
  Aat std xs (xs.length : Int) 0 (xs.length : Int) q = some (sortI (fun a b => decide (cmp a b < 0)) xs) := by
 unfold Aat
 rw [show std.ar .add .i64 0 1 = ((1 : Nat) : Int) from rfl]
 cases xs with
 | nil => rw [Ado]; rfl
 | cons x0 ys =>
  generalize hxs : x0 :: ys = xs at hn
  have h1 : 1 ≤ xs.length := by rw [← hxs]; simp
  have hstart : xs = sortI (fun a b => decide (cmp a b < 0)) (xs.take 1) ++ xs.drop 1 := by rw [← hxs]; rfl
  have := Aga (B := Abo std (xs.length : Int) 0 (xs.length : Int) q) (fun i (_ : Unit) => ((i : Int), sortI (fun a b => decide (cmp a b < 0)) (xs.take i) ++ xs.drop i)) xs (fun _ _ (_ : Unit) => (.inl () : Unit ⊕ List Hours)) (fun _ => sortI (fun a b => decide (cmp a b < 0)) xs) (fun _ _ => True)
   (fun i x u hx _ => by
    have hi := Ah9 hx
    refine ⟨fun s' _ => ⟨?_, trivial⟩, fun e he => by cases he⟩
    obtain ⟨x', hx', _, hd, ht⟩ := i_at (xs := xs) (i := i) hi
    rw [hx] at hx'; cases hx'
    unfold Abo
    simp only
    rw [lssT hi, Abd]
    have hlen : (sortI (fun a b => decide (cmp a b < 0)) (xs.take i)).reverse.length = i := by rw [List.length_reverse, Ac0, List.length_take]; omega
    have := Awy q cmp hq xs.length i hn (by omega) (sortI (fun a b => decide (cmp a b < 0)) (xs.take i)).reverse (xs.drop (i + 1)) x (by
     rw [List.reverse_reverse, ← hd, List.length_append, Ac0, List.length_take, List.length_drop]; omega)
    rw [hlen, List.reverse_reverse, ← hd] at this
    rw [this, ht, Ak2, Ak1]
    rfl)
   (fun s _ => by
    unfold Abo
    simp only
    rw [lssF, br_false, List.take_length, List.drop_length, List.append_nil]
    rfl) 1 h1 () trivial
  rw [← hstart] at this
  refine this.trans (congrArg some ?_)
  have key : ∀ (l : List Hours) (i : Nat), runL (fun _ _ (_ : Unit) => (.inl () : Unit ⊕ List Hours)) (fun _ => sortI (fun a b => decide (cmp a b < 0)) xs) i l () = sortI (fun a b => decide (cmp a b < 0)) xs := by
   intro l
   induction l with
   | nil => intro i; rfl
   | cons x xs ih => intro i; exact ih (i + 1)
  exact key _ _
theorem stable_Hours (q : Hours → Hours → Option Int) (cmp : Hours → Hours → Int) (hq : ∀ x y, q x y = some (cmp x y)) (xs : List Hours) (hn : xs.length < 20) :
  Abq std xs (xs.length : Int) (xs.length : Int) q = some (sortI (fun a b => decide (cmp a b < 0)) xs) := by
 unfold Abq
 have hB : Ad1 std (xs.length : Int) (xs.length : Int) q (0, 20, xs) = some (.inr (sortI (fun a b => decide (cmp a b < 0)) xs)) := by
  unfold Ad1
  simp only
  rw [show std.cmp .leq 20 (xs.length : Int) = false by rw [s_leq]; exact decide_eq_false (by omega), br_false, A0y q cmp hq xs (by omega), bd_some, Ado]
  have h2 : Ad0 std (xs.length : Int) (sortI (fun a b => decide (cmp a b < 0)) xs) 20 = some (.inr (sortI (fun a b => decide (cmp a b < 0)) xs)) := by
   unfold Ad0
   simp only
   rw [show std.cmp .lss 20 (xs.length : Int) = false by rw [s_lss]; exact decide_eq_false (by omega), br_false]
   rfl
  rw [h2]
  rfl
 rw [Ado, hB]
end Go.PL
namespace Go.PL
set_option linter.unusedSimpArgs false
set_option linter.unusedVariables false
set_option linter.unusedSectionVars false
open Tys (Ty U)
open Enc (sz enc dflt tb ofB toB)
open Dec (dec dok)
set_option maxRecDepth 100000
def Ab9 {α : Type} (key : α → ByteArray) (a b : α) : Bool := lessS (key a) (key b)
theorem A0z (xs : List Rule) (h : xs.length ≤ 1000) : Ac8 std xs = some ((xs.length : Int), xs) := by
 unfold Ac8
 have e : ∀ k : Nat, k ≤ 1000 → std.appOk TyS.rule k [] xs := fun k hk => ⟨by have := Nat.mul_le_mul (show ([] : List (U TyS.rule)).length + xs.length ≤ 1000 by simpa using h) hk; omega, by simp; omega⟩
 rw [Azr (fun hc => by
  have h0 : xs = [] := by
   rw [s_eql, Aai] at hc
   have : xs.length = 0 := by simpa using hc
   exact List.length_eq_zero_iff.1 this
  subst h0
  rw [ck_t (e _ (by decide))]
  rfl), ck_t (e _ (by decide))]
 rfl
theorem Ay3 (xs : List Rule) (q : Rule → Option ByteArray) (key : Rule → ByteArray) (hq : ∀ x, q x = some (key x)) (h : xs.length < 20) : Adx std xs q = some (sortI (Ab9 key) xs) := by
 unfold Adx Abj
 rw [A0z xs (by omega), bd_some]
 simp only
 rw [stable_Rule (fun y0 y1 => Ad2 std y0 y1 q) (fun a b => Lib.compareBytes (key a).data.toList (key b).data.toList) (fun x y => by unfold Ad2 strings_Compare; rw [hq, bd_some, hq, bd_some, bd_some]) xs h, bd_some, bd_some]
 have e : (fun a b : Rule => decide (Lib.compareBytes (key a).data.toList (key b).data.toList < 0)) = Ab9 key := funext fun a => funext fun b => Akd _ _
 have hl := Ac0 (Ab9 key) xs
 rw [e, s_pl, Int.zero_add, Aai, ck_t (show std.subOk 0 (xs.length : Int) ((sortI (Ab9 key) xs).length : Int) from ⟨by omega, by omega, by omega⟩), Azp]
 simp [← hl]
theorem Awz (xs : List ByteArray) (h : xs.length ≤ 1000) : Ace std xs = some ((xs.length : Int), xs) := by
 unfold Ace
 have e : ∀ k : Nat, k ≤ 1000 → std.appOk TyS.str k [] xs := fun k hk => ⟨by have := Nat.mul_le_mul (show ([] : List (U TyS.str)).length + xs.length ≤ 1000 by simpa using h) hk; omega, by simp; omega⟩
 rw [Azr (fun hc => by
  have h0 : xs = [] := by
   rw [s_eql, Aai] at hc
   have : xs.length = 0 := by simpa using hc
   exact List.length_eq_zero_iff.1 this
  subst h0
  rw [ck_t (e _ (by decide))]
  rfl), ck_t (e _ (by decide))]
 rfl
theorem Auq (xs : List ByteArray) (q : ByteArray → Option ByteArray) (key : ByteArray → ByteArray) (hq : ∀ x, q x = some (key x)) (h : xs.length < 20) : Ac3 std xs q = some (sortI (Ab9 key) xs) := by
 unfold Ac3 Aa1
 rw [Awz xs (by omega), bd_some]
 simp only
 rw [stable_string (fun y0 y1 => Ac9 std y0 y1 q) (fun a b => Lib.compareBytes (key a).data.toList (key b).data.toList) (fun x y => by unfold Ac9 strings_Compare; rw [hq, bd_some, hq, bd_some, bd_some]) xs h, bd_some, bd_some]
 have e : (fun a b : ByteArray => decide (Lib.compareBytes (key a).data.toList (key b).data.toList < 0)) = Ab9 key := funext fun a => funext fun b => Akd _ _
 have hl := Ac0 (Ab9 key) xs
 rw [e, s_pl, Int.zero_add, Aai, ck_t (show std.subOk 0 (xs.length : Int) ((sortI (Ab9 key) xs).length : Int) from ⟨by omega, by omega, by omega⟩), Azp]
 simp [← hl]
theorem Ay4 (xs : List Hours) (h : xs.length ≤ 1000) : Acl std xs = some ((xs.length : Int), xs) := by
 unfold Acl
 have e : ∀ k : Nat, k ≤ 1000 → std.appOk TyS.hours k [] xs := fun k hk => ⟨by have := Nat.mul_le_mul (show ([] : List (U TyS.hours)).length + xs.length ≤ 1000 by simpa using h) hk; omega, by simp; omega⟩
 rw [Azr (fun hc => by
  have h0 : xs = [] := by
   rw [s_eql, Aai] at hc
   have : xs.length = 0 := by simpa using hc
   exact List.length_eq_zero_iff.1 this
  subst h0
  rw [ck_t (e _ (by decide))]
  rfl), ck_t (e _ (by decide))]
 rfl
theorem Aw0 (xs : List Hours) (q : Hours → Option ByteArray) (key : Hours → ByteArray) (hq : ∀ x, q x = some (key x)) (h : xs.length < 20) : Adb std xs q = some (sortI (Ab9 key) xs) := by
 unfold Adb Aa5
 rw [Ay4 xs (by omega), bd_some]
 simp only
 rw [stable_Hours (fun y0 y1 => Adm std y0 y1 q) (fun a b => Lib.compareBytes (key a).data.toList (key b).data.toList) (fun x y => by unfold Adm strings_Compare; rw [hq, bd_some, hq, bd_some, bd_some]) xs h, bd_some, bd_some]
 have e : (fun a b : Hours => decide (Lib.compareBytes (key a).data.toList (key b).data.toList < 0)) = Ab9 key := funext fun a => funext fun b => Akd _ _
 have hl := Ac0 (Ab9 key) xs
 rw [e, s_pl, Int.zero_add, Aai, ck_t (show std.subOk 0 (xs.length : Int) ((sortI (Ab9 key) xs).length : Int) from ⟨by omega, by omega, by omega⟩), Azp]
 simp [← hl]
end Go.PL
namespace Go.PL
set_option linter.unusedSimpArgs false
set_option linter.unusedVariables false
set_option linter.unusedSectionVars false
open Tys (Ty U)
open Enc (sz enc dflt tb ofB toB)
open Dec (dec dok)
set_option maxRecDepth 100000
section
variable {α : Type} (key : α → ByteArray)
end
end Go.PL
namespace Go.PL
set_option linter.unusedSimpArgs false
set_option linter.unusedVariables false
set_option linter.unusedSectionVars false
open Tys (Ty U)
open Enc (sz enc dflt tb ofB toB)
open Dec (dec dok)
set_option maxRecDepth 100000
theorem Az1 {α : Type} {p : Nat → α → Bool} : ∀ {xs : List α} {i : Nat}, allI p i xs = true → ∀ (j : Nat) (x : α), xs[j]? = some x → p (i + j) x = true
 | [], _, _, j, x, h => by simp at h
 | y :: ys, i, h, j, x, hx => by
  simp only [allI, Bool.and_eq_true] at h
  cases j with
  | zero => cases hx; exact h.1
  | succ j =>
   have := Az1 h.2 j x (by simpa using hx)
   rwa [show i + 1 + j = i + (j + 1) by omega] at this
theorem Ao7 {names : List ByteArray} (h : onceS names = true) : names.Nodup := by
 unfold List.Nodup
 rw [List.pairwise_iff_getElem]
 intro i j hi hj hij e
 have hs : names[j]? = some names[j] := List.getElem?_eq_getElem hj
 have := Az1 h j names[j] hs
 rw [Nat.zero_add] at this
 simp only [onceP, hasS, Bool.not_eq_true', List.any_eq_false, decide_eq_true_eq] at this
 refine this names[j] (List.mem_of_getElem? (i := i) ?_) rfl
 rw [List.getElem?_take, if_pos hij, List.getElem?_eq_getElem hi, e]
end Go.PL
namespace Go.PL
set_option linter.unusedSimpArgs false
set_option linter.unusedVariables false
set_option linter.unusedSectionVars false
open Tys (Ty U)
open Enc (sz enc dflt tb ofB toB)
open Dec (dec dok)
set_option maxRecDepth 100000
def atS (l : List ByteArray) (k : Nat) : ByteArray := l.getD k ⟨#[]⟩
def castI (l : List Nat) : List Int := l.map fun k : Nat => (k : Int)
def stepP (l : List ByteArray) (acc : List Nat) (i : Nat) : List Nat := if hasS (l.take i) (atS l i) = true then acc else insL (atS l) i acc
def placesTo (l : List ByteArray) (i : Nat) : List Nat := (List.range i).foldl (stepP l) []
end Go.PL
namespace Go.PL
set_option linter.unusedSimpArgs false
set_option linter.unusedVariables false
set_option linter.unusedSectionVars false
open Tys (Ty U)
open Enc (sz enc dflt tb ofB toB)
open Dec (dec dok)
set_option maxRecDepth 100000
end Go.PL
namespace Go.PL
set_option linter.unusedSimpArgs false
set_option linter.unusedVariables false
set_option linter.unusedSectionVars false
open Tys (Ty U)
open Enc (sz enc dflt tb ofB toB)
open Dec (dec dok)
set_option maxRecDepth 100000
section
variable {α : Type} (key : α → ByteArray)
structure Norm (xs l : List α) : Prop where
 asc : Asc key l
 sub : ∀ x ∈ l, x ∈ xs
 all : ∀ x ∈ xs, ∃ y ∈ l, key y = key x
theorem Norm.same {xs ys l : List α} (h : Norm key xs l) (he : ∀ x, x ∈ xs ↔ x ∈ ys) : Norm key ys l :=
 ⟨h.asc, fun x hx => (he x).1 (h.sub x hx), fun x hx => h.all x ((he x).2 hx)⟩
def WAsc (l : List α) : Prop := l.Pairwise fun x y => lessS (key y) (key x) = false
theorem Aur {a b c : ByteArray} (h1 : lessS a b = true) (h2 : lessS c b = false) : lessS a c = true := by
 cases h3 : lessS a c with
 | true => rfl
 | false =>
  cases h4 : lessS c a with
  | true => rw [Ao6 h4 h1] at h2; cases h2
  | false => obtain rfl := Azz h3 h4; rw [h1] at h2; cases h2
theorem A20 {a b c : ByteArray} (h1 : lessS b a = false) (h2 : lessS c b = false) : lessS c a = false := by
 cases h : lessS c a with
 | false => rfl
 | true => have := Aur h h1; rw [this] at h2; cases h2
theorem Aw1 (x : α) : ∀ L R : List α, WAsc key (L.reverse ++ R) → (∀ y ∈ R, lessS (key x) (key y) = true) → WAsc key (insR (Ab9 key) x L R)
 | [], R, h, hR => by
  simp only [insR, WAsc]
  exact List.pairwise_cons.2 ⟨fun y hy => Ate (hR y hy), by simpa [WAsc] using h⟩
 | y :: L, R, h, hR => by
  cases hc : Ab9 key x y with
  | true =>
   rw [Ars hc]
   refine Aw1 x L (y :: R) (by rw [List.reverse_cons, List.append_assoc] at h; exact h) (fun z hz => ?_)
   rcases List.mem_cons.1 hz with rfl | hz
   ·exact hc
   ·exact hR z hz
  | false =>
   rw [Art hc]
   have hc' : lessS (key x) (key y) = false := hc
   unfold WAsc at h ⊢
   rw [List.pairwise_append] at h ⊢
   obtain ⟨h1, h2, h3⟩ := h
   refine ⟨h1, List.pairwise_cons.2 ⟨fun z hz => Ate (hR z hz), h2⟩, fun a ha b hb => ?_⟩
   rcases List.mem_cons.1 hb with rfl | hb
   ·rw [List.mem_reverse] at ha
    rcases List.mem_cons.1 ha with rfl | ha
    ·exact hc'
    ·rw [List.reverse_cons, List.pairwise_append] at h1
     exact A20 (h1.2.2 a (List.mem_reverse.2 ha) y (by simp)) hc'
   ·exact h3 a ha b hb
theorem Ath : ∀ (n : Nat) (xs : List α), xs.length = n → WAsc key (sortI (Ab9 key) xs)
 | 0, xs, h => by
  rw [List.length_eq_zero_iff.1 h]; exact List.Pairwise.nil
 | n + 1, xs, h => by
  rcases List.eq_nil_or_concat xs with rfl | ⟨ys, x, rfl⟩
  ·exact List.Pairwise.nil
  ·rw [List.concat_eq_append] at *
   have ih := Ath n ys (by simpa using h)
   rw [Ak2]
   exact Aw1 key x _ [] (by rw [List.reverse_reverse, List.append_nil]; exact ih) (fun y hy => by cases hy)
def Ael : α → List α → List α
 | _, [] => []
 | p, y :: r => if key y = key p then Ael y r else y :: Ael y r
def Aeo : List α → List α
 | [] => []
 | x :: r => x :: Ael key x r
theorem Amn : ∀ (p : α) (r : List α), ∀ z ∈ Ael key p r, z ∈ r
 | p, [], z, h => by cases h
 | p, y :: r, z, h => by
  rw [Ael] at h
  split at h
  ·exact List.mem_cons_of_mem _ (Amn y r z h)
  ·rcases List.mem_cons.1 h with rfl | h
   ·exact List.mem_cons_self ..
   ·exact List.mem_cons_of_mem _ (Amn y r z h)
theorem compactA_all : ∀ (p : α) (r : List α), ∀ x ∈ r, key x = key p ∨ ∃ y ∈ Ael key p r, key y = key x
 | p, [], x, h => by cases h
 | p, y :: r, x, h => by
  rw [Ael]
  split
  ·rename_i he
   rcases List.mem_cons.1 h with rfl | h
   ·exact .inl he
   ·rcases compactA_all y r x h with h | h
    ·exact .inl (h.trans he)
    ·exact .inr h
  ·rcases List.mem_cons.1 h with rfl | h
   ·exact .inr ⟨x, List.mem_cons_self .., rfl⟩
   ·rcases compactA_all y r x h with h | ⟨z, hz, he⟩
    ·exact .inr ⟨y, List.mem_cons_self .., h.symm⟩
    ·exact .inr ⟨z, List.mem_cons_of_mem _ hz, he⟩
theorem Apj : ∀ (p : α) (r : List α), WAsc key (p :: r) → Asc key (p :: Ael key p r)
 | p, [], h => by simp [Ael, Asc]
 | p, y :: r, h => by
  unfold WAsc at h
  rw [List.pairwise_cons] at h
  have ih := Apj y r h.2
  have hy := h.1 y (List.mem_cons_self ..)
  unfold Asc at ih ⊢
  rw [List.pairwise_cons] at ih
  rw [Ael]
  split
  ·rename_i he
   exact List.pairwise_cons.2 ⟨fun z hz => by rw [← he]; exact ih.1 z hz, ih.2⟩
  ·rename_i he
   have hpy : lessS (key p) (key y) = true := by
    cases hc : lessS (key p) (key y) with
    | true => rfl
    | false => exact absurd (Azz hy hc) he
   refine List.pairwise_cons.2 ⟨fun z hz => ?_, List.pairwise_cons.2 ih⟩
   rcases List.mem_cons.1 hz with rfl | hz
   ·exact hpy
   ·exact Ao6 hpy (ih.1 z hz)
theorem Aw2 (xs : List α) : Norm key xs (Aeo key (sortI (Ab9 key) xs)) := by
 have hw := Ath key _ xs rfl
 have hp := Afj (Ab9 key) xs
 cases hs : sortI (Ab9 key) xs with
 | nil =>
  rw [hs] at hp
  have : xs = [] := List.length_eq_zero_iff.1 hp.length_eq.symm
  subst this
  exact ⟨List.Pairwise.nil, fun x hx => (by cases hx), fun x hx => (by cases hx)⟩
 | cons p r =>
  rw [hs] at hw hp
  refine ⟨Apj key p r hw, fun x hx => ?_, fun x hx => ?_⟩
  ·refine hp.mem_iff.1 ?_
   rcases List.mem_cons.1 hx with rfl | hx
   ·exact List.mem_cons_self ..
   ·exact List.mem_cons_of_mem _ (Amn key p r x hx)
  ·rcases List.mem_cons.1 (hp.mem_iff.2 hx) with rfl | hx
   ·exact ⟨x, List.mem_cons_self .., rfl⟩
   ·rcases compactA_all key p r x hx with h | ⟨y, hy, he⟩
    ·exact ⟨p, List.mem_cons_self .., h.symm⟩
    ·exact ⟨y, List.mem_cons_of_mem _ hy, he⟩
def pick (d : α) (xs : List α) (ps : List Nat) : List α := ps.map fun k => xs.getD k d
end
end Go.PL
namespace Go.PL
set_option linter.unusedSimpArgs false
set_option linter.unusedVariables false
set_option linter.unusedSectionVars false
open Tys (Ty U)
open Enc (sz enc dflt tb ofB toB)
open Dec (dec dok)
set_option maxRecDepth 100000
def InhOK (x : Inhibit) : Prop := Ah1 x ∧ Afs x = true
def cmpQ (x y : Inhibit) : Int := Lib.compareBytes (Abp x).data.toList (Abp y).data.toList
theorem A46 (a b : Inhibit) : decide (cmpQ a b < 0) = Ab9 Abp a b := Akd _ _
theorem Aru (x y : Inhibit) (b : Bool) (hx : InhOK x) (hy : InhOK y) : Acx std x y b = some (cmpQ x y, b) := by
 unfold Acx strings_Compare
 rw [config_quiet_eq b x hx.1 hx.2, bd_some, config_quiet_eq b y hy.1 hy.2, bd_some, bd_some]
 rfl
theorem Ati (x y : Inhibit) (b : Bool) (hx : InhOK x) (hy : InhOK y) : Aeu std x y b = some (decide (Abp x = Abp y), b) := by
 unfold Aeu
 rw [config_quiet_eq b x hx.1 hx.2, bd_some, config_quiet_eq b y hy.1 hy.2, bd_some, s_seql]
theorem Arv (b : Bool) (n i : Nat) (hn : n ≤ 1000) (hi : i ≤ 1000) : ∀ (L R : List Inhibit) (x : Inhibit), (∀ y ∈ L, InhOK y) → InhOK x → (L.reverse ++ x :: R).length = n →
  Loop (Aah std (n : Int) 0 (i : Int)) ((L.length : Int), b, L.reverse ++ x :: R) = some (.inl (((i + 1 : Nat) : Int), b, insR (Ab9 Abp) x L R))
 | [], R, x, hL, hx, hl => by
  rw [Ado]
  have hB : Aah std (n : Int) 0 (i : Int) ((([] : List Inhibit).length : Int), b, ([] : List Inhibit).reverse ++ x :: R) = some (.inr (.inl (((i + 1 : Nat) : Int), b, x :: R))) := by
   unfold Aah
   simp only [List.length_nil, List.reverse_nil, List.nil_append]
   rw [show std.cmp .gtr ((0 : Nat) : Int) 0 = false from rfl, br_false, show std.and false false = false from rfl, br_false, s_add, wrap_succ (n := 1001) (by omega) (by unfold big63; omega)]
   rfl
  rw [hB]
  rfl
 | y :: L, R, x, hL, hx, hl => by
  rw [Ado]
  have hlen : (y :: L).length + 1 ≤ n := by simp at hl ⊢; omega
  have hj : L.length + 1 < n := by simp only [List.length_cons] at hlen; omega
  have g1 : std.cmp .gtr (((y :: L).length : Nat) : Int) 0 = true := by rw [s_gtr]; exact decide_eq_true (by simp only [List.length_cons]; omega)
  have e1 : std.ar .sub .i64 (((y :: L).length : Nat) : Int) 1 = (L.length : Int) := by rw [prevI (by simp) (by unfold big63; simp only [List.length_cons]; omega)]; simp
  have p0 : ∀ k : Nat, std.pl 0 (k : Int) = (k : Int) := fun k => by rw [s_pl]; omega
  have ax := Abv (t := TyS.inhibit) (Atf (y :: L) R x)
  have ay := Abv (t := TyS.inhibit) (Aog L R x y)
  have hrl : std.len TyS.inhibit ((y :: L).reverse ++ x :: R) = (n : Int) := by rw [Aai, hl]
  have hB : Aah std (n : Int) 0 (i : Int) (((y :: L).length : Int), b, (y :: L).reverse ++ x :: R) = some (if Ab9 Abp x y = true then .inl ((L.length : Int), b, L.reverse ++ x :: y :: R) else .inr (.inl (((i + 1 : Nat) : Int), b, (y :: L).reverse ++ x :: R))) := by
   unfold Aah
   simp only
   rw [g1, Abd, e1, p0, p0, hrl]
   rw [ck_t (inbT (by simp only [List.length_cons]; omega)), ck_t (inbT (by simp only [List.length_cons]; omega)), ck_t (inbT (by omega)), ck_t (inbT (by omega)), ax, ay, Aru x y b hx (hL y (List.mem_cons_self ..)), bd_some, s_land, Bool.true_and, s_lss, A46]
   have hs : std.len TyS.inhibit (std.set TyS.inhibit ((y :: L).reverse ++ x :: R) (((y :: L).length : Nat) : Int) y) = (n : Int) := by
    rw [s_set, Aai, List.length_set, hl]
   cases hc : Ab9 Abp x y with
   | true =>
    rw [Abd, if_pos rfl, hs, ck_t (inbT (by omega)), s_set, s_set, Int.toNat_natCast, Int.toNat_natCast]
    have := Ap7 L R x y
    exact congrArg (fun r => some (Sum.inl ((L.length : Int), b, r))) this
   | false =>
    rw [br_false, if_neg (by simp), s_add, wrap_succ (n := 1001) (by omega) (by unfold big63; omega)]
    rfl
  rw [hB]
  cases hc : Ab9 Abp x y with
  | true =>
   rw [if_pos rfl, Ars hc]
   exact Arv b n i hn hi L (y :: R) x (fun z hz => hL z (List.mem_cons_of_mem _ hz)) hx (by rw [← hl]; simp)
  | false => rw [if_neg (by simp), Art hc]
theorem Aw3 (b : Bool) (xs : List Inhibit) (hn : xs.length ≤ 1000) (hP : ∀ x ∈ xs, InhOK x) :
  Aap std xs (xs.length : Int) 0 (xs.length : Int) b = some (sortI (Ab9 Abp) xs, b) := by
 unfold Aap
 rw [show std.ar .add .i64 0 1 = ((1 : Nat) : Int) from rfl]
 cases xs with
 | nil => rw [Ado]; rfl
 | cons x0 ys =>
  generalize hxs : x0 :: ys = xs at hn hP
  have h1 : 1 ≤ xs.length := by rw [← hxs]; simp
  have hstart : xs = sortI (Ab9 Abp) (xs.take 1) ++ xs.drop 1 := by rw [← hxs]; rfl
  have := Aga (B := Aba std (xs.length : Int) 0 (xs.length : Int)) (fun i (_ : Unit) => ((i : Int), b, sortI (Ab9 Abp) (xs.take i) ++ xs.drop i)) xs (fun _ _ (_ : Unit) => (.inl () : Unit ⊕ (List Inhibit × Bool))) (fun _ => (sortI (Ab9 Abp) xs, b)) (fun _ _ => True)
   (fun i x u hx _ => by
    have hi := Ah9 hx
    refine ⟨fun s' _ => ⟨?_, trivial⟩, fun e he => by cases he⟩
    obtain ⟨x', hx', _, hd, ht⟩ := i_at (xs := xs) (i := i) hi
    rw [hx] at hx'; cases hx'
    unfold Aba
    simp only
    rw [lssT hi, Abd]
    have hlen : (sortI (Ab9 Abp) (xs.take i)).reverse.length = i := by rw [List.length_reverse, Ac0, List.length_take]; omega
    have := Arv b xs.length i hn (by omega) (sortI (Ab9 Abp) (xs.take i)).reverse (xs.drop (i + 1)) x (fun y hy => by
     rw [List.mem_reverse] at hy
     exact hP y (List.mem_of_mem_take ((Afj _ _).mem_iff.1 hy))) (hP x (Afd hx)) (by
     rw [List.reverse_reverse, ← hd, List.length_append, Ac0, List.length_take, List.length_drop]; omega)
    rw [hlen, List.reverse_reverse, ← hd] at this
    rw [this, ht, Ak2, Ak1])
   (fun s _ => by
    unfold Aba
    simp only
    rw [lssF, br_false, List.take_length, List.drop_length, List.append_nil]
    rfl) 1 h1 () trivial
  rw [← hstart] at this
  refine this.trans (congrArg some ?_)
  have key : ∀ (l : List Inhibit) (i : Nat), runL (fun _ _ (_ : Unit) => (.inl () : Unit ⊕ (List Inhibit × Bool))) (fun _ => (sortI (Ab9 Abp) xs, b)) i l () = (sortI (Ab9 Abp) xs, b) := by
   intro l
   induction l with
   | nil => intro i; rfl
   | cons x xs ih => intro i; exact ih (i + 1)
  exact key _ _
theorem stable_Inhibit (b : Bool) (xs : List Inhibit) (hn : xs.length < 20) (hP : ∀ x ∈ xs, InhOK x) :
  Abx std xs (xs.length : Int) (xs.length : Int) b = some (sortI (Ab9 Abp) xs, b) := by
 unfold Abx
 have hB : Add std (xs.length : Int) (xs.length : Int) (0, 20, b, xs) = some (.inr (sortI (Ab9 Abp) xs, b)) := by
  unfold Add
  simp only
  rw [show std.cmp .leq 20 (xs.length : Int) = false by rw [s_leq]; exact decide_eq_false (by omega), br_false, Aw3 b xs (by omega) hP, bd_some, Ado]
  have h2 : Adc std (xs.length : Int) (sortI (Ab9 Abp) xs, b) 20 = some (.inr (sortI (Ab9 Abp) xs, b)) := by
   unfold Adc
   simp only
   rw [show std.cmp .lss 20 (xs.length : Int) = false by rw [s_lss]; exact decide_eq_false (by omega), br_false]
   rfl
  rw [h2]
  rfl
 rw [Ado, hB]
theorem Aus (xs : List Inhibit) (h : xs.length ≤ 1000) : Abw std xs = some ((xs.length : Int), xs) := by
 unfold Abw
 have e : ∀ k : Nat, k ≤ 1000 → std.appOk TyS.inhibit k [] xs := fun k hk => ⟨by have := Nat.mul_le_mul (show ([] : List (U TyS.inhibit)).length + xs.length ≤ 1000 by simpa using h) hk; omega, by simp; omega⟩
 rw [Azr (fun hc => by
  have h0 : xs = [] := by
   rw [s_eql, Aai] at hc
   have : xs.length = 0 := by simpa using hc
   exact List.length_eq_zero_iff.1 this
  subst h0
  rw [ck_t (e _ (by decide))]
  rfl), ck_t (e _ (by decide))]
 rfl
theorem Aso (b : Bool) (xs : List Inhibit) (h : xs.length < 20) (hP : ∀ x ∈ xs, InhOK x) : Adn std xs b = some ((xs.length : Int), sortI (Ab9 Abp) xs, b) := by
 unfold Adn Abg
 rw [Aus xs (by omega), bd_some]
 simp only
 rw [stable_Inhibit b xs h hP, bd_some, bd_some]
theorem Aoh {α : Type} (key : α → ByteArray) (z : α) : ∀ (p : α) (r : List α), Ael key p (r ++ [z]) = Ael key p r ++ (if key z = key ((p :: r).getLast (by simp)) then [] else [z])
 | p, [] => by
  simp only [List.nil_append, Ael, List.getLast_singleton]
  by_cases h : key z = key p <;> simp [h]
 | p, y :: r => by
  rw [List.cons_append, Ael, Ael, Aoh key z y r]
  have : (p :: y :: r).getLast (by simp) = (y :: r).getLast (by simp) := by rw [List.getLast_cons]
  rw [this]
  split
  ·rfl
  ·rfl
theorem Aut {α : Type} (key : α → ByteArray) {xs : List α} {m : Nat} {y z : α} (hy : xs[m]? = some y) (hz : xs[m + 1]? = some z) : Aeo key (xs.take (m + 2)) = Aeo key (xs.take (m + 1)) ++ (if key z = key y then [] else [z]) := by
 rw [take_snoc hz]
 have h1 := take_snoc hy
 cases hc : xs.take (m + 1) with
 | nil => rw [hc] at h1; simp at h1
 | cons p r =>
  rw [List.cons_append, Aeo, Aeo, Aoh, List.cons_append]
  have : (p :: r).getLast (by simp) = y := by
   have h2 : (p :: r) = xs.take m ++ [y] := by rw [← hc, h1]
   simp only [h2]
   exact List.getLast_concat
  rw [this]
theorem Apk {α : Type} (key : α → ByteArray) : ∀ (p : α) (r : List α), (Ael key p r).length ≤ r.length
 | p, [] => Nat.le_refl _
 | p, y :: r => by
  rw [Ael]
  have := Apk key y r
  split
  ·simp only [List.length_cons]; omega
  ·simp only [List.length_cons]; omega
theorem Amo {α : Type} (key : α → ByteArray) : ∀ (r : List α), (Aeo key r).length ≤ r.length
 | [] => Nat.le_refl _
 | y :: r => by
  have := Apk key y r
  simp only [Aeo, List.length_cons]; omega
end Go.PL
namespace Go.PL
set_option linter.unusedSimpArgs false
set_option linter.unusedVariables false
set_option linter.unusedSectionVars false
open Tys (Ty U)
open Enc (sz enc dflt tb ofB toB)
open Dec (dec dok)
set_option maxRecDepth 100000
abbrev cQ (xs : List Inhibit) (m : Nat) : List Inhibit := Aeo Abp (xs.take m)
theorem A21 {xs : List Inhibit} {m : Nat} {y z : Inhibit} (h1 : 1 ≤ m) (hy : xs[m - 1]? = some y) (hz : xs[m]? = some z) : cQ xs (m + 1) = cQ xs m ++ (if Abp z = Abp y then [] else [z]) := by
 obtain ⟨k, rfl⟩ : ∃ k, m = k + 1 := ⟨m - 1, by omega⟩
 exact Aut Abp hy hz
theorem A5q (xs : List Inhibit) (m : Nat) : (cQ xs m).length ≤ m := by
 have h1 := Amo Abp (xs.take m)
 have h2 : (xs.take m).length ≤ m := by rw [List.length_take]; omega
 exact Nat.le_trans h1 h2
theorem A4n {α : Type} (C xs : List α) {i : Nat} (h : C.length ≤ i) : (C ++ xs.drop C.length)[i]? = xs[i]? := by
 rw [List.getElem?_append_right h, List.getElem?_drop]
 congr 1; omega
theorem mix_len {α : Type} (C xs : List α) (h : C.length ≤ xs.length) : (C ++ xs.drop C.length).length = xs.length := by
 rw [List.length_append, List.length_drop]; omega
theorem A47 {α : Type} (C xs : List α) (z : α) (h : C.length < xs.length) : (C ++ xs.drop C.length).set C.length z = (C ++ [z]) ++ xs.drop (C ++ [z]).length := by
 rw [List.drop_eq_getElem_cons h, List.set_append_right _ _ (Nat.le_refl _), Nat.sub_self, List.set_cons_zero]
 simp
theorem Auu (b : Bool) (xs : List Inhibit) (hn : xs.length ≤ 1000) (hP : ∀ x ∈ xs, InhOK x) (k : Nat) (h1 : 1 ≤ k) (hk : k < xs.length) (hc : cQ xs (k + 1) = xs.take k) :
  ∃ row, Loop (Aak std (xs.length : Int) (k : Int)) ((k : Int), 1, b, xs) = some (.inr (0, ((cQ xs xs.length).length : Int), row, b)) ∧ row.take (cQ xs xs.length).length = cQ xs xs.length ∧ row.length = xs.length := by
 have pk : ∀ j : Nat, std.pl (std.pl 0 (k : Int)) (j : Int) = ((k + j : Nat) : Int) := fun j => by rw [s_pl, s_pl]; omega
 have p0 : ∀ j : Nat, std.pl 0 (j : Int) = (j : Int) := fun j => by rw [s_pl]; omega
 have mk : ∀ j : Nat, j ≤ xs.length → std.mi (xs.length : Int) (j : Int) = ((xs.length - j : Nat) : Int) := fun j hj => by rw [s_mi]; omega
 have hl : (cQ xs xs.length).length ≤ xs.length := A5q xs _
 have := Aga (B := Aak std (xs.length : Int) (k : Int)) (fun m (_ : Unit) => (((cQ xs m).length : Int), ((m - k : Nat) : Int), b, cQ xs m ++ xs.drop (cQ xs m).length)) xs (fun _ _ (_ : Unit) => (.inl () : Unit ⊕ ((Int × Bool) ⊕ (Int × Int × List Inhibit × Bool))))
  (fun _ => .inr (0, ((cQ xs xs.length).length : Int), std.fill TyS.inhibit (cQ xs xs.length ++ xs.drop (cQ xs xs.length).length) ((cQ xs xs.length).length : Int) ((xs.length - (cQ xs xs.length).length : Nat) : Int) (Inhibit.mk [] [] []), b)) (fun m _ => k + 1 ≤ m ∧ (cQ xs m).length + 1 ≤ m)
  (fun m z u hz ⟨hm1, hm2⟩ => by
   have hm := Ah9 hz
   obtain ⟨y, hy⟩ := Alj (xs := xs) (i := m - 1) (by omega)
   have hs := A21 (by omega) hy hz
   refine ⟨fun s' _ => ⟨?_, by omega, ?_⟩, fun e he => by cases he⟩
   ·unfold Aak
    simp only
    generalize hC : cQ xs m = C at hm2 hs
    have hrow : (C ++ xs.drop C.length).length = xs.length := mix_len C xs (by omega)
    have e1 : std.ar .sub .i64 ((m - k : Nat) : Int) 1 = ((m - k - 1 : Nat) : Int) := prevI (by omega) (by unfold big63; omega)
    rw [mk k (by omega), show std.cmp .lss ((m - k : Nat) : Int) ((xs.length - k : Nat) : Int) = true by rw [s_lss]; exact decide_eq_true (by omega), Abd, e1, pk, pk, Aai, hrow, show k + (m - k) = m by omega, show k + (m - k - 1) = m - 1 by omega, p0]
    rw [ck_t (inbT (by omega)), ck_t (inbT (by omega)), ck_t (inbT (by omega)), ck_t (inbT (by omega)), Abv (t := TyS.inhibit) ((A4n C xs (by omega)).trans hz), Abv (t := TyS.inhibit) ((A4n C xs (by omega)).trans hy), Ati z y b (hP z (Afd hz)) (hP y (Afd hy)), bd_some]
    simp only
    rw [show std.ar .add .i64 ((m - k : Nat) : Int) 1 = ((m + 1 - k : Nat) : Int) by rw [s_add, wrap_succ (n := 1001) (by omega) (by unfold big63; omega)]; congr 1; omega]
    rw [hs]
    by_cases he : Abp z = Abp y
    ·rw [decide_eq_true he, if_pos he, List.append_nil, s_not, Bool.not_true, br_false]
    ·rw [decide_eq_false he, if_neg he, s_not, Bool.not_false, Abd, ck_t (inbT (by omega)), ck_t (inbT (by omega)), s_set, Int.toNat_natCast, A47 C xs z (by omega), s_add, wrap_succ (n := 1001) (by omega) (by unfold big63; omega), List.length_append, List.length_singleton]
   ·rw [hs, List.length_append]
    split <;> simp <;> omega)
  (fun s ⟨hm1, hm2⟩ => by
   unfold Aak
   simp only
   have hrow : (cQ xs xs.length ++ xs.drop (cQ xs xs.length).length).length = xs.length := mix_len _ xs hl
   rw [mk k (by omega), show std.cmp .lss ((xs.length - k : Nat) : Int) ((xs.length - k : Nat) : Int) = false from lssF, br_false, mk _ hl, p0, Aai, hrow, show std.pl ((cQ xs xs.length).length : Int) ((xs.length - (cQ xs xs.length).length : Nat) : Int) = (xs.length : Int) by rw [s_pl]; omega]
   rw [ck_t (show std.subOk ((cQ xs xs.length).length : Int) (xs.length : Int) (xs.length : Int) from ⟨by omega, by omega, by omega⟩), ck_t (show std.subOk ((cQ xs xs.length).length : Int) (xs.length : Int) (xs.length : Int) from ⟨by omega, by omega, by omega⟩), ck_t (show std.subOk 0 ((cQ xs xs.length).length : Int) (xs.length : Int) from ⟨by omega, by omega, by omega⟩)]
   rw [show std.pl 0 0 = 0 from rfl, show std.mi ((cQ xs xs.length).length : Int) 0 = ((cQ xs xs.length).length : Int) by rw [s_mi]; omega]
   rfl) (k + 1) (by omega) () ⟨Nat.le_refl _, by rw [hc, List.length_take]; omega⟩
 have hstart : (((cQ xs (k + 1)).length : Int), ((k + 1 - k : Nat) : Int), b, cQ xs (k + 1) ++ xs.drop (cQ xs (k + 1)).length) = ((k : Int), 1, b, xs) := by
  rw [hc]
  have : (xs.take k).length = k := by rw [List.length_take]; omega
  rw [this, List.take_append_drop, show k + 1 - k = 1 by omega]
  rfl
 rw [hstart] at this
 have key : ∀ (R : (Int × Bool) ⊕ (Int × Int × List Inhibit × Bool)) (l : List Inhibit) (i : Nat), runL (fun _ _ (_ : Unit) => (.inl () : Unit ⊕ ((Int × Bool) ⊕ (Int × Int × List Inhibit × Bool)))) (fun _ => R) i l () = R := by
  intro R l
  induction l with
  | nil => intro i; rfl
  | cons x xs ih => intro i; exact ih (i + 1)
 rw [key] at this
 refine ⟨_, this, ?_, ?_⟩
 ·rw [s_fill, Int.toNat_natCast, List.append_assoc, List.take_append_of_le_length (by rw [List.length_take, mix_len _ xs hl]; omega), List.take_take, Nat.min_self, List.take_append_of_le_length (Nat.le_refl _), List.take_length]
 ·rw [s_fill, Int.toNat_natCast, Int.toNat_natCast, List.length_append, List.length_append, List.length_take, List.length_drop, List.length_replicate, mix_len _ xs hl]
  omega
theorem Aoi (b : Bool) (xs : List Inhibit) (hn : xs.length ≤ 1000) (hP : ∀ x ∈ xs, InhOK x) : ∀ (d i : Nat), 1 ≤ i → i + d = xs.length → cQ xs i = xs.take i →
  ∃ row, Loop (Aax std xs (xs.length : Int)) ((i : Int), b) = some (0, ((cQ xs xs.length).length : Int), row, b) ∧ row.take (cQ xs xs.length).length = cQ xs xs.length ∧ row.length = xs.length
 | 0, i, h1, hi, hc => by
  obtain rfl : i = xs.length := by omega
  rw [hc, List.take_length]
  refine ⟨xs, ?_, List.take_length, rfl⟩
  rw [Ado]
  unfold Aax
  simp only
  rw [lssF, br_false]
  rfl
 | d + 1, i, h1, hi, hc => by
  have hlt : i < xs.length := by omega
  obtain ⟨z, hz⟩ := Alj hlt
  obtain ⟨y, hy⟩ := Alj (xs := xs) (i := i - 1) (by omega)
  have hs := A21 h1 hy hz
  have p0 : ∀ j : Nat, std.pl 0 (j : Int) = (j : Int) := fun j => by rw [s_pl]; omega
  have hB : Aax std xs (xs.length : Int) ((i : Int), b) = br (decide (Abp z = Abp y)) (Loop (Aak std (xs.length : Int) (i : Int)) ((i : Int), 1, b, xs)) (some (.inl (((i + 1 : Nat) : Int), b))) := by
   unfold Aax
   simp only
   rw [lssT hlt, Abd, prevI h1 (by unfold big63; omega), p0, p0, Aai, ck_t (inbT hlt), ck_t (inbT hlt), ck_t (inbT (by omega)), ck_t (inbT (by omega)), Abv (t := TyS.inhibit) hz, Abv (t := TyS.inhibit) hy, Ati z y b (hP z (Afd hz)) (hP y (Afd hy)), bd_some]
   simp only
   rw [ck_t (show std.subOk (i : Int) (xs.length : Int) (xs.length : Int) from ⟨by omega, by omega, by omega⟩), s_add, wrap_succ (n := 1001) (by omega) (by unfold big63; omega)]
  rw [Ado, hB]
  by_cases he : Abp z = Abp y
  ·rw [decide_eq_true he, Abd]
   obtain ⟨row, h2, h3, h4⟩ := Auu b xs hn hP i h1 hlt (by rw [hs, if_pos he, List.append_nil, hc])
   exact ⟨row, by rw [h2], h3, h4⟩
  ·rw [decide_eq_false he, br_false]
   exact Aoi b xs hn hP d (i + 1) (by omega) (by omega) (by rw [hs, if_neg he, hc, take_snoc hz])
theorem Arw (b : Bool) (xs : List Inhibit) (hn : xs.length ≤ 1000) (hP : ∀ x ∈ xs, InhOK x) :
  ∃ row, Aa3 std xs (xs.length : Int) b = some (0, ((Aeo Abp xs).length : Int), row, b) ∧ row.take (Aeo Abp xs).length = Aeo Abp xs ∧ row.length = xs.length := by
 have e : cQ xs xs.length = Aeo Abp xs := by unfold cQ; rw [List.take_length]
 unfold Aa3
 rcases Nat.lt_or_ge xs.length 2 with h2 | h2
 ·rw [show std.cmp .lss (xs.length : Int) 2 = true by rw [s_lss]; exact decide_eq_true (by omega), Abd]
  have : Aeo Abp xs = xs := by
   match xs, h2 with
   | [], _ => rfl
   | [x], _ => rfl
   | x :: y :: r, h2 => simp only [List.length_cons] at h2; omega
  rw [this]
  exact ⟨xs, rfl, List.take_length, rfl⟩
 ·rw [show std.cmp .lss (xs.length : Int) 2 = false by rw [s_lss]; exact decide_eq_false (by omega), br_false]
  have := Aoi b xs hn hP (xs.length - 1) 1 (Nat.le_refl _) (by omega) (by
   match xs, h2 with
   | x :: r, h2 => rfl)
  rw [e] at this
  exact this
end Go.PL
namespace Go.PL
set_option linter.unusedSimpArgs false
set_option linter.unusedVariables false
set_option linter.unusedSectionVars false
open Tys (Ty U)
open Enc (sz enc dflt tb ofB toB)
open Dec (dec dok)
set_option maxRecDepth 100000
open Classical in
noncomputable def eqB {α : Type} (a b : α) : Bool := decide (a = b)
theorem Aj2 {α : Type} {a b : α} : eqB a b = true ↔ a = b := by unfold eqB; simp
theorem Auv {α : Type} (a : α) : eqB a a = true := Aj2.2 rfl
theorem A5r {α : Type} {a b : α} (h : a ≠ b) : eqB a b = false := by
 cases hc : eqB a b with
 | false => rfl
 | true => exact absurd (Aj2.1 hc) h
theorem A22 (a b : ByteArray) : decide (a = b) = eqB a b := by rw [Bool.eq_iff_iff, Aj2]; simp
theorem Apl {α : Type} {a b : α} {c : Bool} (h : c = true ↔ a = b) : c = eqB a b := by rw [Bool.eq_iff_iff, Aj2]; exact h
theorem A23 {α : Type} (ys : List α) : ∀ (xs : List α) (i : Nat), allI (fun i x => eqB (ys[i]?) (some x)) i xs = true ↔ ∀ j x, xs[j]? = some x → ys[i + j]? = some x
 | [], i => by simp [allI]
 | x :: xs, i => by
  simp only [allI, Bool.and_eq_true, Aj2, A23 ys xs (i + 1)]
  constructor
  ·rintro ⟨h1, h2⟩ j y hy
   cases j with
   | zero => cases hy; exact h1
   | succ j => have := h2 j y (by simpa using hy); rwa [show i + 1 + j = i + (j + 1) by omega] at this
  ·intro h
   refine ⟨by simpa using h 0 x rfl, fun j y hy => ?_⟩
   have := h (j + 1) y (by simpa using hy)
   rwa [show i + (j + 1) = i + 1 + j by omega] at this
theorem A24 {α : Type} (xs ys : List α) (hl : xs.length = ys.length) : allI (fun i x => eqB (ys[i]?) (some x)) 0 xs = eqB xs ys := by
 refine Apl ?_
 rw [A23]
 constructor
 ·intro h
  apply List.ext_getElem?
  intro i
  rcases Nat.lt_or_ge i xs.length with hi | hi
  ·obtain ⟨x, hx⟩ := Alj hi
   have := h i x hx
   rw [Nat.zero_add] at this
   rw [hx, this]
  ·rw [List.getElem?_eq_none hi, List.getElem?_eq_none (by omega)]
 ·rintro rfl j x hx
  rw [Nat.zero_add]; exact hx
theorem A48 {S : Type} {t : Ty} {B : S → Option (S ⊕ Bool)} (enc : Int → S) (xs ys : List (U t)) (hl : xs.length = ys.length) (hb : xs.length ≤ big63) (fin : Bool) (step : Int → Option (S ⊕ Bool)) (out : Option Bool)
  (hB : ∀ i, B (enc i) = br (std.cmp .lss i (std.len t xs)) (ck (std.inb i (std.len t xs)) (ck (std.inb i (std.len t ys)) (step i))) (rt out))
  (hs : ∀ (i : Nat) (x y : U t), xs[i]? = some x → ys[i]? = some y → step i = some (if eqB x y = true then .inl (enc (std.ar .add .i64 i 1)) else .inr false)) (h2 : xs = ys → out = some fin) (h3 : ∃ v, out = some v) : Loop B (enc 0) = some (eqB xs ys && fin) := by
 rw [← A24 xs ys hl]
 refine Ajg (t := t) (B := B) enc xs hb _ fin (fun i => ck (std.inb i (std.len t ys)) (step i)) out hB (fun i x hx hi => ?_) (fun ha => h2 ?_) (fun _ => h3)
 ·obtain ⟨y, hy⟩ := Alj (xs := ys) (i := i) (by omega)
  rw [ck_t (show std.inb (i : Int) (std.len t ys) by rw [Aai]; exact inbT (by omega)), hs i x y hx hy, hy]
  have : eqB (some y) (some x) = eqB x y := (Apl (by rw [Aj2, Option.some.injEq]; exact ⟨fun h => h.symm, fun h => h.symm⟩)).symm
  rw [this]
 ·rw [A24 xs ys hl] at ha
  exact Aj2.1 ha
theorem A5s {α : Type} {xs ys : List α} (h : xs.length ≠ ys.length) : eqB xs ys = false := A5r fun e => h (by rw [e])
theorem A49 {t : Ty} (xs ys : List (U t)) : std.cmp .neq (std.len t xs) (std.len t ys) = !decide (xs.length = ys.length) := by
 rw [s_neq, Aai, Aai, Bool.eq_iff_iff]
 simp only [bne_iff_ne, ne_eq, Bool.not_eq_true', decide_eq_false_iff_not]
 omega
theorem A35 (a b : ByteArray) : std.scmp .neq a b = !eqB a b := by rw [Azo, ← A22]; simp
theorem A36 (a b : ByteArray) : std.scmp .eql a b = eqB a b := by rw [s_seql, A22]
theorem A25 (x y : Hours) : std.and (std.scmp .eql x.1 y.1) (std.and (std.cmp .eql x.2 y.2) (std.and (std.cmp .eql x.3 y.3) (std.and (std.cmp .eql x.4 y.4) true))) = eqB x y := by
 refine Apl ?_
 cases x; cases y
 simp
theorem A26 (x y : Label) : std.and (std.scmp .eql x.1 y.1) (std.and (std.scmp .eql x.2 y.2) true) = eqB x y := by
 refine Apl ?_
 cases x; cases y
 simp
theorem Arx {t : Ty} {B : Int → Option (Int ⊕ Bool)} (xs ys : List (U t)) (hb : xs.length ≤ big63) (step : Int → Option (Int ⊕ Bool))
  (hB : ∀ i, B i = br (std.cmp .lss i (std.len t xs)) (ck (std.inb i (std.len t xs)) (ck (std.inb i (std.len t ys)) (step i))) (rt (some true)))
  (hs : ∀ (i : Nat) (x y : U t), xs[i]? = some x → ys[i]? = some y → step i = some (if eqB x y = true then .inl (std.ar .add .i64 i 1) else .inr false)) :
  br (std.cmp .neq (std.len t xs) (std.len t ys)) (some false) (Loop B 0) = some (eqB xs ys) := by
 rw [A49]
 by_cases hl : xs.length = ys.length
 ·rw [decide_eq_true hl, Bool.not_true, br_false, A48 (fun i => i) xs ys hl hb true step (some true) hB hs (fun _ => rfl) ⟨_, rfl⟩, Bool.and_true]
 ·rw [decide_eq_false hl, Bool.not_false, Abd, A5s hl]
theorem Asp (xs ys : List Inhibit) (q : Inhibit → Inhibit → Option Bool) (hq : ∀ x ∈ xs, ∀ y ∈ ys, q x y = some (eqB x y)) (hb : xs.length ≤ big63) : Aad std xs ys q = some (eqB xs ys) := by
 unfold Aad
 refine Arx (t := TyS.inhibit) (B := Ab6 std xs ys q) xs ys hb _ (fun i => rfl) (fun i x y hx hy => ?_)
 rw [Abv (t := TyS.inhibit) hx, Abv (t := TyS.inhibit) hy, hq x (Afd hx) y (Afd hy), bd_some]
 cases eqB x y <;> rfl
theorem Akl (xs ys : List Matcher) (q : Matcher → Matcher → Option Bool) (hq : ∀ x ∈ xs, ∀ y ∈ ys, q x y = some (eqB x y)) (hb : xs.length ≤ big63) : Aaa std xs ys q = some (eqB xs ys) := by
 unfold Aaa
 refine Arx (t := TyS.matcher) (B := Ab7 std xs ys q) xs ys hb _ (fun i => rfl) (fun i x y hx hy => ?_)
 rw [Abv (t := TyS.matcher) hx, Abv (t := TyS.matcher) hy, hq x (Afd hx) y (Afd hy), bd_some]
 cases eqB x y <;> rfl
theorem Aw4 (xs ys : List Route) (q : Route → Route → Option Bool) (hq : ∀ x ∈ xs, ∀ y ∈ ys, q x y = some (eqB x y)) (hb : xs.length ≤ big63) : Aaq std xs ys q = some (eqB xs ys) := by
 unfold Aaq
 refine Arx (t := TyS.route) (B := Acy std xs ys q) xs ys hb _ (fun i => rfl) (fun i x y hx hy => ?_)
 rw [Abv (t := TyS.route) hx, Abv (t := TyS.route) hy, hq x (Afd hx) y (Afd hy), bd_some]
 cases eqB x y <;> rfl
theorem Acj (xs ys : List ByteArray) (hb : xs.length ≤ big63) : Aaw std xs ys = some (eqB xs ys) := by
 unfold Aaw
 refine Arx (t := TyS.str) (B := Afb std xs ys) xs ys hb _ (fun i => rfl) (fun i x y hx hy => ?_)
 rw [Abv (t := TyS.str) hx, Abv (t := TyS.str) hy, show std.scmp .neq x y = !eqB x y from A35 x y]
 cases eqB x y <;> rfl
theorem Aj3 (xs ys : List Label) (hb : xs.length ≤ big63) : Ack std xs ys = some (eqB xs ys) := by
 unfold Ack
 refine Arx (t := TyS.label) (B := Afy std xs ys) xs ys hb _ (fun i => rfl) (fun i x y hx hy => ?_)
 rw [Abv (t := TyS.label) hx, Abv (t := TyS.label) hy]
 rw [A26 x y]
 cases eqB x y <;> rfl
theorem Auw (x y : Rule) (h : x.Labels.length ≤ big63) : Akr std x y = some (eqB x y) := by
 unfold Akr
 rw [Aj3 _ _ h, bd_some]
 refine congrArg some (Apl ?_)
 cases x; cases y
 simp only [s_land, s_seql, s_eql, Bool.and_eq_true, Aj2, decide_eq_true_eq, beq_iff_eq, Rule.mk.injEq]
 constructor
 ·rintro ⟨⟨⟨⟨⟨⟨⟨h8, h1⟩, h2⟩, h3⟩, h4⟩, h5⟩, h6⟩, h7⟩; exact ⟨h1, h2, h3, h4, h5, h6, h7, h8⟩
 ·rintro ⟨h1, h2, h3, h4, h5, h6, h7, h8⟩; exact ⟨⟨⟨⟨⟨⟨⟨h8, h1⟩, h2⟩, h3⟩, h4⟩, h5⟩, h6⟩, h7⟩
theorem Aj4 (x y : Matcher) (h : x.Words.length ≤ big63) : Aea std x y = some (eqB x y) := by
 unfold Aea
 rw [gd_b (fun _ => Acj _ _ h), bd_some]
 refine congrArg some (Apl ?_)
 cases x; cases y
 simp only [s_land, s_seql, s_eql, Bool.and_eq_true, Aj2, decide_eq_true_eq, beq_iff_eq, Matcher.mk.injEq]
 constructor
 ·rintro ⟨⟨h1, h2⟩, _, h3⟩; exact ⟨h1, h2, h3⟩
 ·rintro ⟨h1, h2, h3⟩; exact ⟨⟨h1, h2⟩, ⟨h1, h2⟩, h3⟩
theorem Ary {r : Route} (h : RouteFit r) : fitS r.Receiver ∧ fitL Aew r.Match ∧ fitL fitS r.By ∧ fitL fitS r.Mute ∧ r.Routes.length ≤ big63 ∧ ∀ k ∈ r.Routes, RouteFit k := by
 cases h with
 | mk _ h1 h2 h3 h4 h5 h6 => exact ⟨h1, h2, h3, h4, h5, h6⟩
theorem Alu : ∀ (n : Nat) (x y : Route), SizeOf.sizeOf x < n → RouteFit x → Ahf std n x y = some (eqB x y)
 | 0, x, y, h, _ => absurd h (Nat.not_lt_zero _)
 | n + 1, x, y, h, hf => by
  obtain ⟨_, h2, h3, h4, h5, h6⟩ := Ary hf
  rw [Ahf, Ajb]
  rw [gd_b (fun _ => Akl x.Match y.Match (fun y0 y1 => Aea std y0 y1) (fun a ha b _ => Aj4 a b (h2.2 a ha).2.1) h2.1), bd_some]
  rw [gd_b (fun _ => Acj _ _ h3.1), bd_some]
  rw [gd_b (fun _ => Acj _ _ h4.1), bd_some]
  rw [gd_b (fun _ => Aw4 x.Routes y.Routes _ (fun a ha b _ => Alu n a b (by have := Amu ha; omega) (h6 a ha)) h5), bd_some]
  refine congrArg some (Apl ?_)
  rw [← Aws x, ← Aws y]
  simp only [s_land, s_seql, s_eql, s_eqb, Bool.and_eq_true, Aj2, decide_eq_true_eq, beq_iff_eq, Route.mk.injEq]
  constructor
  ·rintro ⟨⟨⟨⟨⟨⟨⟨⟨h1, h4⟩, h5⟩, h6⟩, h8⟩, _, h2⟩, _, h3⟩, _, h7⟩, _, h9⟩; exact ⟨h1, h2, h3, h4, h5, h6, h7, h8, h9⟩
  ·rintro ⟨h1, h2, h3, h4, h5, h6, h7, h8, h9⟩; simp [h1, h2, h3, h4, h5, h6, h7, h8, h9]
theorem Asq (x y : Route) (h : RouteFit x) : Ak8 std x y = some (eqB x y) := Alu _ x y (Nat.lt_succ_self _) h
end Go.PL
namespace Go.PL
set_option linter.unusedSimpArgs false
set_option linter.unusedVariables false
set_option linter.unusedSectionVars false
open Tys (Ty U)
open Enc (sz enc dflt tb ofB toB)
open Dec (dec dok)
set_option maxRecDepth 100000
def normS (c : Config) : Config := ⟨sortI (Ab9 (·.Name)) c.Rules, c.Route, sortI (Ab9 fun x => x) c.Receivers, Aeo Abp (sortI (Ab9 Abp) c.Inhibits), sortI (Ab9 (·.Name)) c.Hours⟩
def Az2 : Config := ⟨[], ⟨⟨#[]⟩, [], [], 0, 0, 0, [], false, []⟩, [], [], []⟩
structure ConfigOK (c : Config) : Prop where
 rules : c.Rules.length ≤ 16 ∧ (∀ r ∈ c.Rules, ruleS r = true) ∧ (c.Rules.map (·.Name)).Nodup
 recv : c.Receivers.length ≤ 16 ∧ (∀ r ∈ c.Receivers, wordS r = true) ∧ c.Receivers.Nodup
 inh : c.Inhibits.length ≤ 8 ∧ ∀ x ∈ c.Inhibits, Afs x = true
 hours : c.Hours.length ≤ 8 ∧ (∀ h ∈ c.Hours, hourS h = true) ∧ (c.Hours.map (·.Name)).Nodup
 top : topS c = true
 names : Azw c = true
theorem Amy {c : Config} (h : Ade c = true) : ConfigOK c := by
 simp only [Ade, A2n, Ao5, Aj1, A2o, Bool.and_eq_true, decide_eq_true_eq, List.all_eq_true] at h
 obtain ⟨⟨⟨⟨⟨⟨⟨h1, h2⟩, h3⟩, ⟨h4, h5⟩, h6⟩, h7, h8⟩, ⟨h9, h10⟩, h11⟩, h12⟩, h13⟩ := h
 exact ⟨⟨h1, h2, Ao7 h3⟩, ⟨h4, h5, Ao7 h6⟩, ⟨h7, h8⟩, ⟨h9, h10, Ao7 h11⟩, h12, h13⟩
theorem Apz (c : Config) (h : Ab8 c) : Ae3 std c = some (cond (Ade c) (normS c, 0) (Az2, 1)) := by
 unfold Ae3
 rw [Aef c h, bd_some, s_not]
 cases hc : Ade c with
 | false => rfl
 | true =>
  have ok := Amy hc
  have hP : ∀ x ∈ c.Inhibits, InhOK x := fun x hx => ⟨h.2.2.2.1.2 x hx, ok.inh.2 x hx⟩
  have hP' : ∀ x ∈ sortI (Ab9 Abp) c.Inhibits, InhOK x := fun x hx => hP x ((Afj _ _).mem_iff.1 hx)
  have hl : (sortI (Ab9 Abp) c.Inhibits).length = c.Inhibits.length := Ac0 _ _
  obtain ⟨row, h1, h2, h3⟩ := Arw false (sortI (Ab9 Abp) c.Inhibits) (by rw [hl]; have := ok.inh.1; omega) hP'
  rw [hl] at h1
  have hcl := Amo Abp (sortI (Ab9 Abp) c.Inhibits)
  rw [Bool.not_true, br_false, Ay3 c.Rules (fun y0 => Ag2 std y0) (fun r : Rule => r.Name) (fun _ => rfl) (by have := ok.rules.1; omega), bd_some, Auq c.Receivers (fun y0 => Ae2 std y0) (fun x : ByteArray => x) (fun _ => rfl) (by have := ok.recv.1; omega), bd_some, Aw0 c.Hours (fun y0 => Af5 std y0) (fun r : Hours => r.Name) (fun _ => rfl) (by have := ok.hours.1; omega), bd_some, Aso false c.Inhibits (by have := ok.inh.1; omega) hP, bd_some]
  simp only
  rw [h1, bd_some]
  simp only
  rw [s_pl, Int.zero_add, Aai, ck_t (show std.subOk 0 ((Aeo Abp (sortI (Ab9 Abp) c.Inhibits)).length : Int) (row.length : Int) from ⟨by omega, by omega, by omega⟩), Azp, Int.toNat_natCast]
  show some (Config.mk _ _ _ (List.drop 0 (row.take (Aeo Abp (sortI (Ab9 Abp) c.Inhibits)).length)) _, (0 : Int)) = some (normS c, 0)
  rw [List.drop_zero, h2]
  rfl
def dRule : Rule := Enc.dflt TyS.rule
def A5t : Hours := Enc.dflt TyS.hours
def dInh : Inhibit := Enc.dflt TyS.inhibit
def dStr : ByteArray := Enc.dflt TyS.str
def normR (c : Config) : Config := ⟨pick dRule c.Rules (placesTo (c.Rules.map (·.Name)) c.Rules.length), c.Route, pick dStr c.Receivers (placesTo c.Receivers c.Receivers.length), pick dInh c.Inhibits (placesTo (c.Inhibits.map Abp) c.Inhibits.length), pick A5t c.Hours (placesTo (c.Hours.map (·.Name)) c.Hours.length)⟩
theorem Az3 {α ε : Type} (e : ε) : ∀ (l : List α) (i : Nat), runL (fun _ _ (_ : Unit) => (.inl () : Unit ⊕ ε)) (fun _ => e) i l () = e
 | [], i => rfl
 | x :: xs, i => Az3 e xs (i + 1)
end Go.PL
namespace Go.PL
set_option linter.unusedSimpArgs false
set_option linter.unusedVariables false
set_option linter.unusedSectionVars false
open Tys (Ty U)
open Enc (sz enc dflt tb ofB toB)
open Dec (dec dok)
set_option maxRecDepth 100000
theorem Ap8 {α : Type} {P : α → Prop} {xs ys : List α} (h : fitL P xs) (hl : ys.length ≤ xs.length) (hs : ∀ y ∈ ys, y ∈ xs) : fitL P ys := ⟨Nat.le_trans hl h.1, fun y hy => h.2 y (hs y hy)⟩
theorem Aft {α : Type} {P : α → Prop} : fitL P [] := ⟨by simp, fun x hx => by cases hx⟩
theorem Aw5 (c : Config) : (normS c).Inhibits.length ≤ c.Inhibits.length := by
 have := Amo Abp (sortI (Ab9 Abp) c.Inhibits)
 rw [Ac0] at this
 exact this
theorem Aw6 {c : Config} {x : Inhibit} (h : x ∈ (normS c).Inhibits) : x ∈ c.Inhibits := (Aw2 Abp c.Inhibits).sub x h
theorem A37 {c : Config} (h : Ab8 c) : Ab8 (normS c) :=
 ⟨Ap8 h.1 (Nat.le_of_eq (Ac0 _ _)) fun y hy => (Afj _ _).mem_iff.1 hy, h.2.1, Ap8 h.2.2.1 (Nat.le_of_eq (Ac0 _ _)) fun y hy => (Afj _ _).mem_iff.1 hy,
  Ap8 h.2.2.2.1 (Aw5 c) fun y hy => Aw6 hy, Ap8 h.2.2.2.2 (Nat.le_of_eq (Ac0 _ _)) fun y hy => (Afj _ _).mem_iff.1 hy⟩
def normC (c : Config) : Config := cond (Ade c) (normS c) Az2
def normE (c : Config) : Int := cond (Ade c) 0 1
theorem Ak3 (c : Config) (h : Ab8 c) : Ae3 std c = some (normC c, normE c) := by
 rw [Apz c h]
 unfold normC normE
 cases Ade c <;> rfl
structure Small (c : Config) : Prop where
 rules : c.Rules.length ≤ 18
 recv : c.Receivers.length ≤ 18
 inh : c.Inhibits.length ≤ 10
 hours : c.Hours.length ≤ 10
def opsT : ByteArray := ByteArray.mk (Array.mk [111, 112, 115])
def devT : ByteArray := ByteArray.mk (Array.mk [100, 101, 118])
def A51 : Config := ⟨[], ⟨opsT, [], [], 0, 1, 1, [], false, []⟩, [opsT, devT], [], []⟩
theorem size_le {s : ByteArray} (n : Nat) (h : s.size = n) (hn : n ≤ 1000) : fitS s := by unfold fitS big63; omega
end Go.PL
namespace Go.PL
set_option linter.unusedSimpArgs false
set_option linter.unusedVariables false
set_option linter.unusedSectionVars false
open Tys (Ty U)
open Enc (sz enc dflt tb ofB toB)
open Dec (dec dok)
set_option maxRecDepth 100000
noncomputable def woS (R : ByteArray) (xs : List ByteArray) : List ByteArray := xs.filter fun x => !eqB x R
end Go.PL
