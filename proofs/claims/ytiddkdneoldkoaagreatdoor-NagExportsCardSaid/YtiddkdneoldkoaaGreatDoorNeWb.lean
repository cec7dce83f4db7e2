/- Texts of this claim: plain laws of what the program's functions compute. No condition of their own. -/
import Derived.Test.YtiddkdneoldkoaaGreatDoorNeWa
set_option linter.unusedSectionVars false
set_option linter.unusedVariables false
set_option linter.unusedSimpArgs false
set_option maxRecDepth 100000
open Go.PL.Tys (Ty U)
open Go.PL.Enc (sz enc dflt tb ofB toB)
open Go.PL.Dec (dec dok)
namespace Go.PL
def numL (n : Nat) : List UInt8 := if h : n < 128 then [UInt8.ofNat n] else UInt8.ofNat (n % 128 + 128) :: numL (n / 128)
 termination_by n
 decreasing_by omega
def numS (n : Nat) : ByteArray := ⟨(numL n).toArray⟩
theorem A3d (l : List UInt8) : std.b2s l = ⟨l.toArray⟩ := by
 show (⟨(l.map Enc.toB).toArray⟩ : ByteArray) = _
 rw [show l.map Enc.toB = l from List.map_id _]
theorem u8_at {n : Nat} (h : n < 256) : std.u8ok (std.conv .u8 (n : Int)) ∧ std.u8 (std.conv .u8 (n : Int)) = UInt8.ofNat n := by
 have e : std.conv .u8 (n : Int) = (n : Int) := by rw [A8p, w8 (by omega)]
 rw [e]
 exact ⟨⟨by omega, by omega⟩, by rw [s_u8, Int.toNat_natCast]⟩
theorem Bax (n : Nat) : std.ar .rem .i64 (n : Int) 128 = ((n % 128 : Nat) : Int) := by rw [s_rem, tmod0 (by omega)]; rfl
theorem Bay (n : Nat) (h : n ≤ big63) : std.ar .quo .i64 (n : Int) 128 = ((n / 128 : Nat) : Int) := by
 unfold big63 at h
 rw [s_quo, tdiv0 (by omega), w64 (by omega)]; rfl
theorem Asq : ∀ (n : Nat) (l : List UInt8), l.length + n ≤ 100000000000000 → Loop (Ahc std) ((n : Int), l) = some (⟨(l ++ numL n).toArray⟩, 0)
 | n, l, h => by
  rw [Acg]
  unfold numL
  by_cases hn : n < 128
  ·rw [dif_pos hn]
   have hB : Ahc std ((n : Int), l) = some (.inr (⟨(l ++ [UInt8.ofNat n]).toArray⟩, 0)) := by
    unfold Ahc
    simp only
    obtain ⟨h1, h2⟩ := u8_at (n := n) (by omega)
    rw [show std.cmp .geq (n : Int) 128 = false by rw [s_geq]; exact decide_eq_false (by omega), br_false, ck_t h1, h2, ck_t (show std.appOk TyS.byte 1 l [UInt8.ofNat n] from ⟨by simp; omega, by simp; omega⟩)]
    rw [s_app, A3d]
    rfl
   rw [hB]
  ·rw [dif_neg hn]
   have hB : Ahc std ((n : Int), l) = some (.inl (((n / 128 : Nat) : Int), l ++ [UInt8.ofNat (n % 128 + 128)])) := by
    unfold Ahc
    simp only
    have e : std.ar .add .i64 (std.ar .rem .i64 (n : Int) 128) 128 = ((n % 128 + 128 : Nat) : Int) := by
     rw [Bax, s_add, w64 (by omega)]; rfl
    obtain ⟨h1, h2⟩ := u8_at (n := n % 128 + 128) (by omega)
    rw [show std.cmp .geq (n : Int) 128 = true by rw [s_geq]; exact decide_eq_true (by omega), br_true, e, ck_t h1, h2, ck_t (show std.appOk TyS.byte 1 l [UInt8.ofNat (n % 128 + 128)] from ⟨by simp; omega, by simp; omega⟩), Bay n (by unfold big63; omega)]
    rfl
   rw [hB]
   have := Asq (n / 128) (l ++ [UInt8.ofNat (n % 128 + 128)]) (by simp; omega)
   simp only
   rw [this, List.append_assoc]
   rfl
 termination_by n => n
 decreasing_by omega
theorem Axb (n : Nat) (h : n ≤ 10000000000000) : Ams std (n : Int) = some (numS n, 0) := by
 unfold Ams
 have e : std.or (std.cmp .lss (n : Int) 0) (std.cmp .geq (n : Int) 4611686018427387904) = false := by
  rw [s_lor, s_lss, s_geq, decide_eq_false (by omega), decide_eq_false (by omega)]; rfl
 rw [e, br_false, Asq n [] (by simp; omega)]
 rfl
theorem Avb : ∀ (n : Nat) (l : List UInt8), l.length + n ≤ 100000000000000 → Loop (Ab1 std) ((n : Int), l) = some ⟨(l ++ numL n).toArray⟩
 | n, l, h => by
  rw [Acg]
  unfold numL
  by_cases hn : n < 128
  ·rw [dif_pos hn]
   have hB : Ab1 std ((n : Int), l) = some (.inr ⟨(l ++ [UInt8.ofNat n]).toArray⟩) := by
    unfold Ab1
    simp only
    obtain ⟨h1, h2⟩ := u8_at (n := n) (by omega)
    rw [show std.cmp .gtr (n : Int) 127 = false by rw [s_gtr]; exact decide_eq_false (by omega), br_false, ck_t h1, h2, ck_t (show std.appOk TyS.byte 1 l [UInt8.ofNat n] from ⟨by simp; omega, by simp; omega⟩)]
    rw [s_app, A3d]
    rfl
   rw [hB]
  ·rw [dif_neg hn]
   have hB : Ab1 std ((n : Int), l) = some (.inl (((n / 128 : Nat) : Int), l ++ [UInt8.ofNat (n % 128 + 128)])) := by
    unfold Ab1
    simp only
    have e : std.ar .add .i64 128 (std.ar .rem .i64 (n : Int) 128) = ((n % 128 + 128 : Nat) : Int) := by
     rw [Bax, s_add, w64 (by omega)]; omega
    obtain ⟨h1, h2⟩ := u8_at (n := n % 128 + 128) (by omega)
    rw [show std.cmp .gtr (n : Int) 127 = true by rw [s_gtr]; exact decide_eq_true (by omega), br_true, e, ck_t h1, h2, ck_t (show std.appOk TyS.byte 1 l [UInt8.ofNat (n % 128 + 128)] from ⟨by simp; omega, by simp; omega⟩), Bay n (by unfold big63; omega)]
    rfl
   rw [hB]
   have := Avb (n / 128) (l ++ [UInt8.ofNat (n % 128 + 128)]) (by simp; omega)
   simp only
   rw [this, List.append_assoc]
   rfl
 termination_by n => n
 decreasing_by omega
theorem A1m (n : Nat) (h : n ≤ 10000000000000) : Adr std (n : Int) = some (numS n) := by
 unfold Adr
 rw [Avb n [] (by simp; omega)]
 rfl
def bindL (l : List ByteArray) : List UInt8 := (l.map fun p => numL p.size ++ bytes p).flatten
def bindS (l : List ByteArray) : ByteArray := ⟨(bindL l).toArray⟩
theorem mkb (s : ByteArray) : (⟨(bytes s).toArray⟩ : ByteArray) = s := by cases s; rfl
theorem Aay (l : List UInt8) : bytes ⟨l.toArray⟩ = l := by simp
theorem Aah (a b : ByteArray) : bytes (a ++ b) = bytes a ++ bytes b := by
 show (a ++ b).data.toList = _
 rw [ByteArray.data_append, Array.toList_append]
theorem Axc : ∀ n : Nat, n ≤ 100000000000 → (numL n).length ≤ 10 + n / 128
 | n, h => by
  unfold numL
  by_cases hn : n < 128
  ·rw [dif_pos hn, List.length_singleton]; omega
  ·rw [dif_neg hn]
   have := Axc (n / 128) (by omega)
   simp only [List.length_cons]
   omega
 termination_by n => n
 decreasing_by omega
theorem A3e (l : List UInt8) : Adl std l = some l := by
 unfold Adl Ad8 Ad9 Arm
 simp only [bd_some]
 exact ck_t True.intro
theorem write_eq (l : List UInt8) (s : ByteArray) (h : l.length + s.size ≤ 100000000000000) : Aal std l s = some (l ++ bytes s) := by
 unfold Aal
 rw [A3e, bd_some, A24, ck_t (show std.appOk TyS.byte 1 l (bytes s) from ⟨by rw [Aag]; omega, by rw [Aag]; omega⟩)]
 rfl
theorem A3f {l : List ByteArray} {i : Nat} {p : ByteArray} (h : l[i]? = some p) : bindL (l.take (i + 1)) = bindL (l.take i) ++ (numL p.size ++ bytes p) := by
 unfold bindL
 exact Aj3 (fun p : ByteArray => numL p.size ++ bytes p) h
theorem Av3 : ∀ (l : List ByteArray) (m : Nat), m ≤ 100000000000 → (∀ p ∈ l, p.size ≤ m) → (bindL l).length ≤ l.length * (10 + 2 * m)
 | [], m, _, _ => by simp [bindL]
 | p :: l, m, hm, h => by
  have h1 := Av3 l m hm fun p hp => h p (List.mem_cons_of_mem _ hp)
  have h2 := h p (List.mem_cons_self ..)
  have h3 := Axc p.size (by omega)
  simp only [bindL, List.map_cons, List.flatten_cons, List.length_append, List.length_cons, Aag, Nat.succ_mul] at h1 ⊢
  omega
def Aq5 (l : List ByteArray) : Bool := decide (l.length ≤ 512) && l.all fun p => decide (p.size ≤ 8192)
theorem A1n (l : List ByteArray) (h : Aq5 l = true) : Ap0 std l = some (bindS l, 0) := by
 simp only [Aq5, Bool.and_eq_true, decide_eq_true_eq, List.all_eq_true] at h
 obtain ⟨hl, hp⟩ := h
 unfold Ap0
 rw [show std.cmp .gtr (std.len TyS.str l) 512 = false by rw [show std.cmp .gtr (std.len TyS.str l) 512 = !decide (l.length ≤ 512) from Aus (t := TyS.str) l 512, decide_eq_true hl]; rfl, br_false]
 have hbl := Av3 l 8192 (by omega) hp
 have := Aap (B := Anh std l) (fun i (_ : Unit) => ((i : Int), bindL (l.take i))) l (fun _ _ (_ : Unit) => (.inl () : Unit ⊕ (ByteArray × Int))) (fun _ => (bindS l, 0)) (fun i p u hx hi => by
  have hps := hp p (Abl hx)
  have htl := Av3 (l.take i) 8192 (by omega) fun q hq => hp q (List.mem_of_mem_take hq)
  have h10 := Axc p.size (by omega)
  have hti : (l.take i).length ≤ 512 := by rw [List.length_take]; omega
  have hmul : (l.take i).length * (10 + 2 * 8192) ≤ 512 * (10 + 2 * 8192) := Nat.mul_le_mul_right _ hti
  unfold Anh
  simp only
  rw [Aaa, lssT hi, br_true, ck_t (inbT hi), Aab (t := TyS.str) hx, s_slen, show std.cmp .gtr (p.size : Int) 8192 = false by rw [s_gtr]; exact decide_eq_false (by omega), br_false, Axb p.size (by omega), bd_some]
  have hn : (numS p.size).size = (numL p.size).length := by show (numL p.size).toArray.size = _; simp
  rw [write_eq _ _ (by rw [hn]; omega), bd_some, write_eq _ _ (by rw [List.length_append, show (bytes (numS p.size)) = numL p.size from Aay _]; omega), bd_some, s_add, wrap_succ hi (by unfold big63; omega), A3f hx, show (bytes (numS p.size)) = numL p.size from Aay _, List.append_assoc]) (fun _ => by
  unfold Anh
  simp only
  rw [Aaa, lssF, br_false, List.take_length]
  have hmul : l.length * (10 + 2 * 8192) ≤ 512 * (10 + 2 * 8192) := Nat.mul_le_mul_right _ hl
  unfold strings_Builder_String
  rw [ck_t (by omega), bd_some]
  rfl) ()
 refine this.trans (congrArg some ?_)
 have key : ∀ (xs : List ByteArray) (i : Nat), runL (fun _ _ (_ : Unit) => (.inl () : Unit ⊕ (ByteArray × Int))) (fun _ => (bindS l, 0)) i xs () = (bindS l, 0) := by
  intro xs
  induction xs with
  | nil => intro i; rfl
  | cons x xs ih => intro i; exact ih (i + 1)
 exact key l 0
theorem ba_ext {a b : ByteArray} (h : bytes a = bytes b) : a = b := by rw [← mkb a, ← mkb b, h]
theorem Acb (s : ByteArray) : s.size = (bytes s).length := (Aag s).symm
theorem Al5 (l : List ByteArray) : bytes (bindS l) = bindL l := Aay _
theorem Azm (n : Nat) : bytes (numS n) = numL n := Aay _
theorem Atb (l : List ByteArray) (h : Aq5 l = true) : Acm std l = some (bindS l) := by
 simp only [Aq5, Bool.and_eq_true, decide_eq_true_eq, List.all_eq_true] at h
 obtain ⟨hl, hp⟩ := h
 unfold Acm
 have := Aap (B := Afi std l) (fun i (_ : Unit) => (bindS (l.take i), (i : Int))) l (fun _ _ (_ : Unit) => (.inl () : Unit ⊕ ByteArray)) (fun _ => bindS l) (fun i p u hx hi => by
  have hps := hp p (Abl hx)
  have htl := Av3 (l.take i) 8192 (by omega) fun q hq => hp q (List.mem_of_mem_take hq)
  have h10 := Axc p.size (by omega)
  have hti : (l.take i).length ≤ 512 := by rw [List.length_take]; omega
  have hmul : (l.take i).length * (10 + 2 * 8192) ≤ 512 * (10 + 2 * 8192) := Nat.mul_le_mul_right _ hti
  have s1 : (bindS (l.take i)).size = (bindL (l.take i)).length := by rw [Acb, Al5]
  have s2 : (numS p.size).size = (numL p.size).length := by rw [Acb, Azm]
  unfold Afi
  simp only
  rw [Aaa, lssT hi, br_true, ck_t (inbT hi), Aab (t := TyS.str) hx, s_slen, A1m p.size (by omega), bd_some]
  have e : std.cat (std.cat (bindS (l.take i)) (numS p.size)) p = bindS (l.take (i + 1)) := by
   rw [s_cat, s_cat]
   apply ba_ext
   rw [Aah, Aah, Al5, Al5, Azm, A3f hx, List.append_assoc]
  have s3 : (bindS (l.take i) ++ numS p.size).size = (bindS (l.take i)).size + (numS p.size).size := ByteArray.size_append
  rw [ck_t (show std.catOk (bindS (l.take i)) (numS p.size) by rw [Aaw]; omega), ck_t (show std.catOk (std.cat (bindS (l.take i)) (numS p.size)) p by rw [Aaw, s_cat, s3]; omega), e, s_add, wrap_succ hi (by unfold big63; omega)]) (fun _ => by
  unfold Afi
  simp only
  rw [Aaa, lssF, br_false, List.take_length]
  rfl) ()
 refine this.trans (congrArg some ?_)
 have key : ∀ (xs : List ByteArray) (i : Nat), runL (fun _ _ (_ : Unit) => (.inl () : Unit ⊕ ByteArray)) (fun _ => bindS l) i xs () = bindS l := by
  intro xs
  induction xs with
  | nil => intro i; rfl
  | cons x xs ih => intro i; exact ih (i + 1)
 exact key l 0
theorem config_bind_eq (b : Bool) (l : List ByteArray) (h : Aq5 l = true) : Akb std b l = some (bindS l, b) := by
 unfold Akb
 rw [A1n l h, bd_some]
 cases b <;> rfl
def signL (n : Int) : List UInt8 := if n = 1 then [61] else if n = 2 then [33, 61] else if n = 3 then [61, 126] else if n = 4 then [33, 126] else []
def barsL : List ByteArray → List UInt8
 | [] => []
 | w :: r => bytes w ++ (r.map fun x => 124 :: bytes x).flatten
def textL (m : Matcher) : List UInt8 := bytes m.Name ++ signL m.How ++ [34] ++ barsL m.Words ++ [34]
def textS (m : Matcher) : ByteArray := ⟨(textL m).toArray⟩
theorem Aol (m : Matcher) : bytes (textS m) = textL m := Aay _
theorem A85 (ws : List ByteArray) : Lib.join (ws.map (·.data.toList)) [124] = barsL ws := by
 cases ws with
 | nil => rfl
 | cons w r =>
  rw [List.map_cons, Lib.join_cons]
  simp only [barsL, Lib.joinTail, List.map_map]
  rfl
theorem A86 {n : Int} (h1 : 1 ≤ n) (h4 : n ≤ 4) : bytes (lookI std n [(1, ByteArray.mk (Array.mk [61])), (2, ByteArray.mk (Array.mk [33, 61])), (3, ByteArray.mk (Array.mk [61, 126])), (4, ByteArray.mk (Array.mk [33, 126]))] (ByteArray.mk (Array.mk []))).1 = signL n := by
 have : n = 1 ∨ n = 2 ∨ n = 3 ∨ n = 4 := by omega
 rcases this with rfl | rfl | rfl | rfl <;> rfl
theorem Ars {may : ByteArray → Bool} {xs : List ByteArray} (h : Azh may xs = true) : ∀ x ∈ xs, may x = true := by
 rw [Aw4, Bool.and_eq_true, List.all_eq_true] at h
 exact h.1
theorem A5c {α : Type} (f : α → List UInt8) (m : Nat) : ∀ xs : List α, (∀ x ∈ xs, (f x).length ≤ m) → (xs.map f).flatten.length ≤ xs.length * m
 | [], _ => by simp
 | x :: xs, h => by
  have h1 := h x (List.mem_cons_self ..)
  have h2 := A5c f m xs fun y hy => h y (List.mem_cons_of_mem _ hy)
  simp only [List.map_cons, List.flatten_cons, List.length_append, List.length_cons, Nat.succ_mul]
  omega
structure MatcherOK (m : Matcher) : Prop where
 name : m.Name.size ≤ 64
 how1 : 1 ≤ m.How
 how4 : m.How ≤ 4
 len : m.Words.length ≤ 8
 words : ∀ w ∈ m.Words, w.size ≤ 64
theorem Aom {m : Matcher} (h : Ad0 m = true) : MatcherOK m := by
 simp only [Ad0, Bool.and_eq_true, decide_eq_true_eq] at h
 obtain ⟨h1, ⟨⟨⟨⟨h2, h3⟩, h4⟩, _⟩, h5⟩, _⟩ := h
 refine ⟨?_, h3, h4, h5, fun w hw => ?_⟩
 ·simp only [nameS, Bool.and_eq_true, decide_eq_true_eq] at h2; exact h2.2
 ·have := Ars h1 w hw
  simp only [Ao3, Bool.and_eq_true, decide_eq_true_eq] at this
  exact this.2
theorem A5d {m : Matcher} (h : MatcherOK m) : (barsL m.Words).length ≤ 600 := by
 have hl := h.len
 have hw := h.words
 generalize m.Words = ws at hl hw
 cases ws with
 | nil => simp [barsL]
 | cons w r =>
  have h1 := hw w (List.mem_cons_self ..)
  have h2 := A5c (fun x : ByteArray => 124 :: bytes x) 65 r fun x hx => by
   have := hw x (List.mem_cons_of_mem _ hx)
   rw [List.length_cons, Aag]; omega
  have h3 : r.length * 65 ≤ 7 * 65 := Nat.mul_le_mul_right _ (by simp only [List.length_cons] at hl; omega)
  simp only [barsL, List.length_append, Aag]
  omega
theorem A5e (n : Int) : (signL n).length ≤ 2 := by
 unfold signL
 split
 ·simp
 split
 ·simp
 split
 ·simp
 split <;> simp
theorem Bbf {m : Matcher} (h : MatcherOK m) : (textL m).length ≤ 700 := by
 have h1 := A5d h
 have h2 := A5e m.How
 have h3 := h.name
 simp only [textL, List.length_append, Aag, List.length_singleton]
 omega
theorem Axd (m : Matcher) (hf : Agr m) (h : Ad0 m = true) : Amr std m = some (textS m, 0) := by
 have ok := Aom h
 have hb := A5d ok
 have hs := A5e m.How
 have hn := ok.name
 unfold Amr Afd
 rw [Am6 m hf, bd_some, h, show std.not true = false from rfl, br_false, bd_some, bd_some]
 have hv := A86 ok.how1 ok.how4
 generalize (lookI std m.How [(1, ByteArray.mk (Array.mk [61])), (2, ByteArray.mk (Array.mk [33, 61])), (3, ByteArray.mk (Array.mk [61, 126])), (4, ByteArray.mk (Array.mk [33, 126]))] (ByteArray.mk (Array.mk []))).1 = sg at hv
 have hsg : sg.size = (signL m.How).length := by rw [Acb, hv]
 have hj : strings_Join std m.Words (ByteArray.mk (Array.mk [124])) = some ⟨(barsL m.Words).toArray⟩ := by
  unfold strings_Join
  have e : Lib.join (m.Words.map (·.data.toList)) (ByteArray.mk (Array.mk [124])).data.toList = barsL m.Words := A85 m.Words
  rw [e]
  exact ck_t ⟨by have := ok.len; omega, by omega⟩
 have hjs : (⟨(barsL m.Words).toArray⟩ : ByteArray).size = (barsL m.Words).length := by rw [Acb, Aay]
 have q1 : (ByteArray.mk (Array.mk [34])).size = 1 := rfl
 have z1 : (m.Name ++ sg).size = m.Name.size + sg.size := ByteArray.size_append
 have z2 : (m.Name ++ sg ++ ByteArray.mk (Array.mk [34])).size = m.Name.size + sg.size + 1 := by rw [ByteArray.size_append, z1, q1]
 have z3 : (m.Name ++ sg ++ ByteArray.mk (Array.mk [34]) ++ (⟨(barsL m.Words).toArray⟩ : ByteArray)).size = m.Name.size + sg.size + 1 + (barsL m.Words).length := by rw [ByteArray.size_append, z2, hjs]
 rw [ck_t (show std.catOk m.Name sg by rw [Aaw]; omega), ck_t (show std.catOk (std.cat m.Name sg) (ByteArray.mk (Array.mk [34])) by rw [Aaw, s_cat, z1, q1]; omega), hj, bd_some]
 rw [ck_t (show std.catOk (std.cat (std.cat m.Name sg) (ByteArray.mk (Array.mk [34]))) ⟨(barsL m.Words).toArray⟩ by rw [Aaw, s_cat, s_cat, z2, hjs]; omega), ck_t (show std.catOk (std.cat (std.cat (std.cat m.Name sg) (ByteArray.mk (Array.mk [34]))) ⟨(barsL m.Words).toArray⟩) (ByteArray.mk (Array.mk [34])) by rw [Aaw, s_cat, s_cat, s_cat, z3, q1]; omega)]
 congr 2
 rw [s_cat, s_cat, s_cat, s_cat]
 apply ba_ext
 rw [Aah, Aah, Aah, Aah, hv, Aay, Aol]
 rfl
theorem A87 {ws : List ByteArray} {i : Nat} {w : ByteArray} (h : ws[i]? = some w) : barsL (ws.take (i + 1)) = if i = 0 then bytes w else barsL (ws.take i) ++ 124 :: bytes w := by
 cases ws with
 | nil => cases h
 | cons x r =>
  cases i with
  | zero => cases h; simp [barsL]
  | succ i =>
   have hr : r[i]? = some w := by simpa using h
   rw [if_neg (by omega), List.take_succ_cons, List.take_succ_cons]
   simp only [barsL]
   rw [Aj3 (fun x : ByteArray => 124 :: bytes x) hr, List.append_assoc]
theorem A88 (ws : List ByteArray) (i : Nat) : (barsL (ws.take i)).length ≤ (barsL ws).length := by
 cases ws with
 | nil => simp
 | cons x r =>
  cases i with
  | zero => simp [barsL]
  | succ i =>
   rw [List.take_succ_cons]
   simp only [barsL, List.length_append]
   have := Atz (fun x : ByteArray => 124 :: bytes x) r i
   omega
theorem A5f {n : Int} (h1 : 1 ≤ n) (h4 : n ≤ 4) : ∃ s, Ae1 std n = some s ∧ bytes s = signL n := by
 have : n = 1 ∨ n = 2 ∨ n = 3 ∨ n = 4 := by omega
 unfold Ae1
 rcases this with rfl | rfl | rfl | rfl
 ·exact ⟨_, ck_t ⟨by omega, by show (1 : Int) < 5; omega⟩, rfl⟩
 ·exact ⟨_, ck_t ⟨by omega, by show (2 : Int) < 5; omega⟩, rfl⟩
 ·exact ⟨_, ck_t ⟨by omega, by show (3 : Int) < 5; omega⟩, rfl⟩
 ·exact ⟨_, ck_t ⟨by omega, by show (4 : Int) < 5; omega⟩, rfl⟩
theorem A5g (m : Matcher) (ok : MatcherOK m) : Ae2 std m = some (textS m) := by
 have hb := A5d ok
 have hs := A5e m.How
 have hn := ok.name
 have hl := ok.len
 obtain ⟨sg, hsg, hv⟩ := A5f ok.how1 ok.how4
 have hsz : sg.size = (signL m.How).length := by rw [Acb, hv]
 unfold Ae2
 have q1 : (ByteArray.mk (Array.mk [34])).size = 1 := rfl
 have z1 : (m.Name ++ sg).size = m.Name.size + sg.size := ByteArray.size_append
 rw [hsg, bd_some, ck_t (show std.catOk m.Name sg by rw [Aaw]; omega), ck_t (show std.catOk (std.cat m.Name sg) (ByteArray.mk (Array.mk [34])) by rw [Aaw, s_cat, z1, q1]; omega)]
 have hpre : std.cat (std.cat m.Name sg) (ByteArray.mk (Array.mk [34])) = ⟨(bytes m.Name ++ signL m.How ++ [34] ++ barsL (m.Words.take 0)).toArray⟩ := by
  rw [s_cat, s_cat]
  apply ba_ext
  rw [Aah, Aah, hv, Aay]
  simp [barsL]
 rw [hpre]
 have sz : ∀ l : List UInt8, (⟨l.toArray⟩ : ByteArray).size = l.length := fun l => by rw [Acb, Aay]
 have := Aap (B := Afh std m) (fun i (_ : Unit) => ((⟨(bytes m.Name ++ signL m.How ++ [34] ++ barsL (m.Words.take i)).toArray⟩ : ByteArray), (i : Int))) m.Words (fun _ _ (_ : Unit) => (.inl () : Unit ⊕ ByteArray)) (fun _ => textS m) (fun i w u hx hi => by
  have hw := ok.words w (Abl hx)
  have hp := A88 m.Words i
  have hlen : (bytes m.Name ++ signL m.How ++ [34] ++ barsL (m.Words.take i)).length ≤ 1000 := by
   simp only [List.length_append, Aag, List.length_singleton]; omega
  unfold Afh
  simp only
  rw [Aaa, lssT hi, br_true, ck_t (inbT hi), Aab (t := TyS.str) hx, A87 hx, s_add, wrap_succ hi (by unfold big63; omega)]
  generalize hL : bytes m.Name ++ signL m.How ++ [34] = L at hlen
  cases i with
  | zero =>
   rw [show std.cmp .gtr ((0 : Nat) : Int) 0 = false from rfl, br_false, ck_t (show std.catOk _ _ by rw [Aaw, sz]; omega), s_cat, if_pos rfl]
   congr 4
   apply ba_ext
   rw [Aah, Aay, Aay]
   simp [barsL]
  | succ i =>
   have q2 : (ByteArray.mk (Array.mk [124])).size = 1 := rfl
   rw [show std.cmp .gtr ((i + 1 : Nat) : Int) 0 = true by rw [s_gtr]; exact decide_eq_true (by omega), br_true, ck_t (show std.catOk _ _ by rw [Aaw, sz, q2]; omega), ck_t (show std.catOk _ _ by rw [Aaw, s_cat, ByteArray.size_append, sz, q2]; omega), s_cat, s_cat, if_neg (by omega)]
   congr 4
   apply ba_ext
   rw [Aah, Aah, Aay, Aay]
   simp) (fun _ => by
  unfold Afh
  simp only
  rw [Aaa, lssF, br_false, List.take_length]
  have hlen : (bytes m.Name ++ signL m.How ++ [34] ++ barsL m.Words).length ≤ 1000 := by
   simp only [List.length_append, Aag, List.length_singleton]; omega
  rw [ck_t (show std.catOk _ _ by rw [Aaw, sz, q1]; omega), s_cat]
  refine congrArg (fun x => some (Sum.inr x)) (ba_ext ?_)
  rw [Aah, Aay, Aol]
  rfl) ()
 refine this.trans (congrArg some ?_)
 have key : ∀ (xs : List ByteArray) (i : Nat), runL (fun _ _ (_ : Unit) => (.inl () : Unit ⊕ ByteArray)) (fun _ => textS m) i xs () = textS m := by
  intro xs
  induction xs with
  | nil => intro i; rfl
  | cons x xs ih => intro i; exact ih (i + 1)
 exact key m.Words 0
def Alj (l : List Matcher) : ByteArray := bindS (l.map textS)
def Aau (x : Inhibit) : ByteArray := bindS [Alj x.Source, Alj x.Target, bindS x.Equal]
theorem Auu (l : List ByteArray) : (bindS l).size = (bindL l).length := by rw [Acb, Al5]
theorem A7b {m : Matcher} (h : MatcherOK m) : (textS m).size ≤ 700 := by rw [Acb, Aol]; exact Bbf h
theorem At2 : ∀ (l : List ByteArray) (m : Nat), m ≤ 100000000000 → (∀ p ∈ l, p.size ≤ m) → (bindL l).length ≤ l.length * (10 + m / 128 + m)
 | [], m, _, _ => by simp [bindL]
 | p :: l, m, hm, h => by
  have h1 := At2 l m hm fun p hp => h p (List.mem_cons_of_mem _ hp)
  have h2 := h p (List.mem_cons_self ..)
  have h3 := Axc p.size (by omega)
  simp only [bindL, List.map_cons, List.flatten_cons, List.length_append, List.length_cons, Aag, Nat.succ_mul] at h1 ⊢
  omega
theorem Amx {l : List Matcher} (h : Ade l = true) : l.length ≤ 8 ∧ ∀ m ∈ l, Ad0 m = true := by
 simp only [Ade, Bool.and_eq_true, decide_eq_true_eq, List.all_eq_true] at h
 exact ⟨h.2, h.1⟩
theorem Av4 {l : List Matcher} (h : Ade l = true) : Aq5 (l.map textS) = true ∧ (Alj l).size ≤ 5720 := by
 obtain ⟨h1, h2⟩ := Amx h
 have hm : ∀ p ∈ l.map textS, p.size ≤ 700 := by
  intro p hp
  obtain ⟨m, hm, rfl⟩ := List.mem_map.1 hp
  exact A7b (Aom (h2 m hm))
 refine ⟨?_, ?_⟩
 ·simp only [Aq5, Bool.and_eq_true, decide_eq_true_eq, List.all_eq_true, List.length_map]
  exact ⟨by omega, fun p hp => by have := hm p hp; omega⟩
 ·unfold Alj
  rw [Auu]
  have := At2 (l.map textS) 700 (by omega) hm
  rw [List.length_map] at this
  have h3 : l.length * (10 + 700 / 128 + 700) ≤ 8 * (10 + 700 / 128 + 700) := Nat.mul_le_mul_right _ h1
  omega
theorem A1o {x : Inhibit} (h : Adh x = true) : Aq5 x.Equal = true ∧ (bindS x.Equal).size ≤ 5720 := by
 simp only [Adh, Bool.and_eq_true, decide_eq_true_eq] at h
 obtain ⟨hw, ⟨⟨_, he⟩, _⟩, _⟩ := h
 have hm : ∀ p ∈ x.Equal, p.size ≤ 64 := by
  intro p hp
  have := Ars hw p hp
  simp only [nameS, Bool.and_eq_true, decide_eq_true_eq] at this
  exact this.2
 refine ⟨?_, ?_⟩
 ·simp only [Aq5, Bool.and_eq_true, decide_eq_true_eq, List.all_eq_true]
  exact ⟨by omega, fun p hp => by have := hm p hp; omega⟩
 ·rw [Auu]
  have := At2 x.Equal 64 (by omega) hm
  have h3 : x.Equal.length * (10 + 64 / 128 + 64) ≤ 8 * (10 + 64 / 128 + 64) := Nat.mul_le_mul_right _ he
  omega
theorem A1p {x : Inhibit} (h : Adh x = true) : Aq5 [Alj x.Source, Alj x.Target, bindS x.Equal] = true := by
 have h0 := h
 simp only [Adh, Bool.and_eq_true, decide_eq_true_eq] at h
 have h1 := (Av4 h.2.1.2).2
 have h2 := (Av4 h.2.2).2
 have h3 := (A1o h0).2
 simp only [Aq5, List.length_cons, List.length_nil, List.all_cons, List.all_nil, Bool.and_true, Bool.and_eq_true, decide_eq_true_eq]
 omega
theorem Ao4 (b : Bool) (l : List Matcher) (hf : fitL Agr l) (h : Ade l = true) : Ahd std b l = some (Alj l, b) := by
 obtain ⟨h1, h2⟩ := Amx h
 unfold Ahd
 have := Aap (B := Aig std b l) (fun i (_ : Unit) => ((l.take i).map textS, (i : Int))) l (fun _ _ (_ : Unit) => (.inl () : Unit ⊕ (ByteArray × Bool))) (fun _ => (Alj l, b)) (fun i m u hm hi => by
  unfold Aig
  simp only
  rw [Aaa, lssT hi, br_true, ck_t (inbT hi), Aab (t := TyS.matcher) hm, Axd m (hf.2 m (Abl hm)) (h2 m (Abl hm)), bd_some, ck_t (show std.appOk TyS.str 16 ((l.take i).map textS) [textS m] from ⟨by simp; omega, by simp; omega⟩), s_add, wrap_succ hi hf.1, take_snoc hm, List.map_append]
  rfl) (fun _ => by
  unfold Aig
  simp only
  rw [Aaa, lssF, br_false, List.take_length, config_bind_eq b _ (Av4 h).1, bd_some]
  rfl) ()
 refine this.trans (congrArg some ?_)
 have key : ∀ (xs : List Matcher) (i : Nat), runL (fun _ _ (_ : Unit) => (.inl () : Unit ⊕ (ByteArray × Bool))) (fun _ => (Alj l, b)) i xs () = (Alj l, b) := by
  intro xs
  induction xs with
  | nil => intro i; rfl
  | cons x xs ih => intro i; exact ih (i + 1)
 exact key l 0
theorem config_quiet_eq (b : Bool) (x : Inhibit) (hf : Al3 x) (h : Adh x = true) : Afo std x b = some (Aau x, b) := by
 have h0 := h
 simp only [Adh, Bool.and_eq_true, decide_eq_true_eq] at h
 unfold Afo Amb
 rw [Ao4 b x.Source hf.1 h.2.1.2, bd_some, Ao4 b x.Target hf.2.1 h.2.2, bd_some, config_bind_eq b _ (A1o h0).1, bd_some, config_bind_eq b _ (A1p h0), bd_some, bd_some]
 rfl
theorem Art (l : List Matcher) (h : Ade l = true) : Aca std l = some (Alj l) := by
 obtain ⟨h1, h2⟩ := Amx h
 unfold Aca
 have := Aap (B := Ado std l) (fun i (_ : Unit) => ((l.take i).map textS, (i : Int))) l (fun _ _ (_ : Unit) => (.inl () : Unit ⊕ ByteArray)) (fun _ => Alj l) (fun i m u hm hi => by
  unfold Ado
  simp only
  rw [Aaa, lssT hi, br_true, ck_t (inbT hi), Aab (t := TyS.matcher) hm, A5g m (Aom (h2 m (Abl hm))), bd_some, ck_t (show std.appOk TyS.str 16 ((l.take i).map textS) [textS m] from ⟨by simp; omega, by simp; omega⟩), s_add, wrap_succ hi (by unfold big63; omega), take_snoc hm, List.map_append]
  rfl) (fun _ => by
  unfold Ado
  simp only
  rw [Aaa, lssF, br_false, List.take_length, Atb _ (Av4 h).1, bd_some]
  rfl) ()
 refine this.trans (congrArg some ?_)
 have key : ∀ (xs : List Matcher) (i : Nat), runL (fun _ _ (_ : Unit) => (.inl () : Unit ⊕ ByteArray)) (fun _ => Alj l) i xs () = Alj l := by
  intro xs
  induction xs with
  | nil => intro i; rfl
  | cons x xs ih => intro i; exact ih (i + 1)
 exact key l 0
theorem ref_Quiet_eq (x : Inhibit) (h : Adh x = true) : Aei std x = some (Aau x) := by
 have h0 := h
 simp only [Adh, Bool.and_eq_true, decide_eq_true_eq] at h
 unfold Aei
 rw [Art x.Source h.2.1.2, bd_some, Art x.Target h.2.2, bd_some, Atb _ (A1o h0).1, bd_some, Atb _ (A1p h0), bd_some]
 rfl
theorem A1q (a b : UInt8) (l m : List UInt8) : Op.bytesLess (a :: l) (b :: m) = (decide (a < b) || (a == b && Op.bytesLess l m)) := by
 simp [Op.bytesLess]
theorem A3g : ∀ l : List UInt8, Op.bytesLess l l = false
 | [] => rfl
 | a :: l => by rw [A1q, A3g l]; simp
theorem Baz : ∀ l m : List UInt8, Op.bytesLess l m = false → Op.bytesLess m l = false → l = m
 | [], [], _, _ => rfl
 | [], _ :: _, h, _ => by simp [Op.bytesLess] at h
 | _ :: _, [], _, h => by simp [Op.bytesLess] at h
 | a :: l, b :: m, h1, h2 => by
  rw [A1q] at h1 h2
  simp only [Bool.or_eq_false_iff, decide_eq_false_iff_not, Bool.and_eq_false_iff, beq_eq_false_iff_ne] at h1 h2
  have e : a = b := by
   apply UInt8.toNat_inj.1
   have h3 := h1.1
   have h4 := h2.1
   rw [UInt8.lt_iff_toNat_lt] at h3 h4
   omega
  subst e
  rw [Baz l m (h1.2.resolve_left fun h => h rfl) (h2.2.resolve_left fun h => h rfl)]
theorem A6d : ∀ l m n : List UInt8, Op.bytesLess l m = true → Op.bytesLess m n = true → Op.bytesLess l n = true
 | [], [], _, h, _ => by simp [Op.bytesLess] at h
 | _ :: _, [], _, h, _ => by simp [Op.bytesLess] at h
 | _, _ :: _, [], _, h => by simp [Op.bytesLess] at h
 | [], _ :: _, _ :: _, _, _ => by simp [Op.bytesLess]
 | a :: l, b :: m, c :: n, h1, h2 => by
  rw [A1q] at h1 h2 ⊢
  simp only [Bool.or_eq_true, decide_eq_true_eq, Bool.and_eq_true, beq_iff_eq, UInt8.lt_iff_toNat_lt] at h1 h2 ⊢
  rcases h1 with h1 | ⟨rfl, h1⟩
  ·rcases h2 with h2 | ⟨rfl, h2⟩
   ·left; omega
   ·left; exact h1
  ·rcases h2 with h2 | ⟨rfl, h2⟩
   ·left; exact h2
   ·right; exact ⟨rfl, A6d l m n h1 h2⟩
theorem Ar8 (a b : ByteArray) : lessS a b = Op.bytesLess (bytes a) (bytes b) := by
 show Op.bytesLess a.toList b.toList = _
 rw [ByteArray.toList_eq, ByteArray.toList_eq]
theorem Atc (a : ByteArray) : lessS a a = false := by rw [Ar8]; exact A3g _
theorem Av5 {a b : ByteArray} (h1 : lessS a b = false) (h2 : lessS b a = false) : a = b := by
 rw [Ar8] at h1 h2; exact ba_ext (Baz _ _ h1 h2)
theorem Aqb {a b c : ByteArray} (h1 : lessS a b = true) (h2 : lessS b c = true) : lessS a c = true := by
 rw [Ar8] at h1 h2 ⊢; exact A6d _ _ _ h1 h2
theorem Auv {a b : ByteArray} (h : lessS a b = true) : lessS b a = false := by
 cases h2 : lessS b a with
 | false => rfl
 | true => have := Aqb h h2; rw [Atc] at this; cases this
theorem Axe : ∀ l m : List UInt8, Lib.compareBytes l m < 0 ↔ Op.bytesLess l m = true
 | [], [] => by simp [Lib.compareBytes, Op.bytesLess]
 | [], _ :: _ => by simp [Lib.compareBytes, Op.bytesLess]
 | _ :: _, [] => by simp [Lib.compareBytes, Op.bytesLess]
 | a :: l, b :: m => by
  rw [A1q]
  simp only [Lib.compareBytes]
  by_cases h1 : a < b
  ·rw [if_pos h1, decide_eq_true h1]; simp
  ·rw [if_neg h1, decide_eq_false h1, Bool.false_or]
   by_cases h2 : b < a
   ·rw [if_pos h2]
    have : (a == b) = false := by
     rw [beq_eq_false_iff_ne]; rintro rfl; exact h1 h2
    rw [this]; simp
   ·rw [if_neg h2]
    have : (a == b) = true := by
     rw [beq_iff_eq]
     apply UInt8.toNat_inj.1
     rw [UInt8.lt_iff_toNat_lt] at h1 h2
     omega
    rw [this, Bool.true_and]
    exact Axe l m
theorem Ao5 (a b : ByteArray) : decide (Lib.compareBytes a.data.toList b.data.toList < 0) = lessS a b := by
 rw [Ar8, Bool.eq_iff_iff, decide_eq_true_eq]
 exact Axe _ _
section
variable {α : Type} (key : α → ByteArray)
def insL (x : α) : List α → List α
 | [] => [x]
 | y :: ys => if lessS (key y) (key x) then y :: insL x ys else x :: y :: ys
def hasK (l : List α) (x : α) : Bool := l.any fun y => decide (key y = key x)
def normL (l : List α) : List α := l.foldl (fun acc x => if hasK key acc x then acc else insL key x acc) []
def Asc (l : List α) : Prop := l.Pairwise fun x y => lessS (key x) (key y) = true
theorem insL_mem (x y : α) : ∀ l : List α, y ∈ insL key x l ↔ y = x ∨ y ∈ l
 | [] => by simp [insL]
 | z :: l => by
  simp only [insL]
  split
  ·simp only [List.mem_cons, insL_mem x y l]
   constructor
   iterate 2 (rintro (h | h | h) <;> simp [h])
  ·simp
theorem insL_asc (x : α) : ∀ l : List α, Asc key l → hasK key l x = false → Asc key (insL key x l)
 | [], _, _ => by simp [insL, Asc]
 | z :: l, h, hx => by
  unfold Asc at h ⊢
  rw [List.pairwise_cons] at h
  simp only [hasK, List.any_cons, Bool.or_eq_false_iff, decide_eq_false_iff_not] at hx
  simp only [insL]
  split
  ·rename_i hz
   rw [List.pairwise_cons]
   refine ⟨fun y hy => ?_, insL_asc x l h.2 hx.2⟩
   rcases (insL_mem key x y l).1 hy with rfl | hy
   ·exact hz
   ·exact h.1 y hy
  ·rename_i hz
   have hxz : lessS (key x) (key z) = true := by
    cases hc : lessS (key x) (key z) with
    | true => rfl
    | false => exact absurd (Av5 (by simpa using hz) hc) hx.1
   rw [List.pairwise_cons]
   refine ⟨fun y hy => ?_, List.pairwise_cons.2 h⟩
   rcases List.mem_cons.1 hy with rfl | hy
   ·exact hxz
   ·exact Aqb hxz (h.1 y hy)
theorem A89 : ∀ (l m : List α), Asc key l → Asc key m → (∀ x, x ∈ l ↔ x ∈ m) → l = m
 | [], [], _, _, _ => rfl
 | [], y :: m, _, _, h => absurd ((h y).2 (List.mem_cons_self ..)) (by simp)
 | x :: l, [], _, _, h => absurd ((h x).1 (List.mem_cons_self ..)) (by simp)
 | x :: l, y :: m, hl, hm, h => by
  unfold Asc at hl hm
  rw [List.pairwise_cons] at hl hm
  have hxy : x = y := by
   rcases List.mem_cons.1 ((h x).1 (List.mem_cons_self ..)) with e | hx
   ·exact e
   rcases List.mem_cons.1 ((h y).2 (List.mem_cons_self ..)) with e | hy
   ·exact e.symm
   have := Auv (hm.1 x hx)
   rw [hl.1 y hy] at this; cases this
  subst hxy
  refine congrArg _ (A89 l m hl.2 hm.2 fun z => ?_)
  have hz := h z
  simp only [List.mem_cons] at hz
  constructor
  ·intro hzl
   rcases hz.1 (.inr hzl) with rfl | hm'
   ·have := hl.1 z hzl; rw [Atc] at this; cases this
   ·exact hm'
  ·intro hzm
   rcases hz.2 (.inr hzm) with rfl | hl'
   ·have := hm.1 z hzm; rw [Atc] at this; cases this
   ·exact hl'
end
end Go.PL
namespace Go.PL
section
variable {α : Type}
theorem Azn (L R : List α) (x : α) : (L.reverse ++ x :: R)[L.length]? = some x := by
 rw [List.getElem?_append_right (by simp)]; simp
theorem At3 (L R : List α) (x y : α) : ((y :: L).reverse ++ x :: R)[L.length]? = some y := by
 rw [List.reverse_cons, List.append_assoc]
 exact Azn L (x :: R) y
theorem Av6 (L R : List α) (x y : α) : (((y :: L).reverse ++ x :: R).set (L.length + 1) y).set L.length x = L.reverse ++ x :: y :: R := by
 apply List.ext_getElem?
 intro i
 simp only [List.reverse_cons, List.append_assoc, List.singleton_append, List.getElem?_set, List.length_set, List.length_append, List.length_reverse, List.length_cons]
 rcases Nat.lt_trichotomy i L.length with h | h | h
 ·rw [if_neg (by omega), if_neg (by omega), List.getElem?_append_left (by simpa using h), List.getElem?_append_left (by simpa using h)]
 ·subst h
  rw [if_pos rfl, if_pos (by omega), Azn]
 ·rw [if_neg (by omega), List.getElem?_append_right (by simp; omega), List.getElem?_append_right (by simp; omega), List.length_reverse]
  obtain ⟨k, rfl⟩ : ∃ k, i = L.length + 1 + k := ⟨i - L.length - 1, by omega⟩
  rw [show L.length + 1 + k - L.length = k + 1 by omega]
  cases k with
  | zero => simp
  | succ k => rw [if_neg (by omega)]; simp
def insR (less : α → α → Bool) (x : α) : List α → List α → List α
 | [], R => x :: R
 | y :: L, R => if less x y then insR less x L (y :: R) else (y :: L).reverse ++ x :: R
theorem Avc {less : α → α → Bool} {x y : α} {L R : List α} (h : less x y = true) : insR less x (y :: L) R = insR less x L (y :: R) := if_pos h
theorem Avd {less : α → α → Bool} {x y : α} {L R : List α} (h : less x y = false) : insR less x (y :: L) R = (y :: L).reverse ++ x :: R := if_neg (by rw [h]; simp)
theorem A3h (less : α → α → Bool) (x : α) : ∀ L R : List α, (insR less x L R).Perm (L.reverse ++ x :: R)
 | [], R => .refl _
 | y :: L, R => by
  simp only [insR]
  split
  ·refine (A3h less x L (y :: R)).trans ?_
   rw [List.reverse_cons, List.append_assoc]
   exact List.Perm.append_left _ (List.Perm.swap ..)
  ·exact .refl _
theorem Aqc (less : α → α → Bool) (x : α) : ∀ L R : List α, insR less x L R = insR less x L [] ++ R
 | [], R => rfl
 | y :: L, R => by
  cases h : less x y with
  | true => rw [Avc h, Avc h, Aqc less x L (y :: R), Aqc less x L [y], List.append_assoc]; rfl
  | false => rw [Avd h, Avd h, List.append_assoc]; rfl
def sortI (less : α → α → Bool) (xs : List α) : List α := xs.foldl (fun P x => insR less x P.reverse []) []
theorem Ant (less : α → α → Bool) (xs : List α) (x : α) : sortI less (xs ++ [x]) = insR less x (sortI less xs).reverse [] := by
 unfold sortI; rw [List.foldl_append]; rfl
theorem Ags (less : α → α → Bool) (xs : List α) : (sortI less xs).Perm xs := by
 have key : ∀ (xs P : List α), (xs.foldl (fun P x => insR less x P.reverse []) P).Perm (P ++ xs) := by
  intro xs
  induction xs with
  | nil => intro P; simp
  | cons x xs ih =>
   intro P
   rw [List.foldl_cons]
   refine (ih _).trans ?_
   have h1 := A3h less x P.reverse []
   rw [List.reverse_reverse] at h1
   refine (h1.append_right xs).trans ?_
   rw [List.append_assoc]
   exact .refl _
 exact key xs []
theorem Aen (less : α → α → Bool) (xs : List α) : (sortI less xs).length = xs.length := (Ags less xs).length_eq
end
end Go.PL
namespace Go.PL
theorem A6e (q : Rule → Rule → Option Int) (cmp : Rule → Rule → Int) (hq : ∀ x y, q x y = some (cmp x y)) (n i : Nat) (hn : n ≤ 1000) (hi : i ≤ 1000) : ∀ (L R : List Rule) (x : Rule), (L.reverse ++ x :: R).length = n →
  Loop (Aas std (n : Int) 0 q (i : Int)) ((L.length : Int), L.reverse ++ x :: R) = some (.inl (((i + 1 : Nat) : Int), insR (fun a b => decide (cmp a b < 0)) x L R))
 | [], R, x, hl => by
  rw [Acg]
  have hB : Aas std (n : Int) 0 q (i : Int) ((([] : List Rule).length : Int), ([] : List Rule).reverse ++ x :: R) = some (.inr (.inl (((i + 1 : Nat) : Int), x :: R))) := by
   unfold Aas
   simp only [List.length_nil, List.reverse_nil, List.nil_append]
   rw [show std.cmp .gtr ((0 : Nat) : Int) 0 = false from rfl]
   have hv : ∀ p : Prop, vc false p := fun p => True.intro
   rw [ck_t (hv _), ck_t (hv _), ck_t (hv _), ck_t (hv _), gd_f, bd_some, s_land, Bool.false_and, br_false, s_add, wrap_succ (n := 1001) (by omega) (by unfold big63; omega)]
   rfl
  rw [hB]
  rfl
 | y :: L, R, x, hl => by
  rw [Acg]
  have hlen : (y :: L).length + 1 ≤ n := by simp at hl ⊢; omega
  have hj : L.length + 1 < n := by simp only [List.length_cons] at hlen; omega
  have g1 : std.cmp .gtr (((y :: L).length : Nat) : Int) 0 = true := by rw [s_gtr]; exact decide_eq_true (by simp only [List.length_cons]; omega)
  have e1 : std.ar .sub .i64 (((y :: L).length : Nat) : Int) 1 = (L.length : Int) := by rw [prevI (by simp) (by unfold big63; simp only [List.length_cons]; omega)]; simp
  have p0 : ∀ k : Nat, std.pl 0 (k : Int) = (k : Int) := fun k => by rw [s_pl]; omega
  have ax := Aab (t := TyS.rule) (Azn (y :: L) R x)
  have ay := Aab (t := TyS.rule) (At3 L R x y)
  have hrl : std.len TyS.rule ((y :: L).reverse ++ x :: R) = (n : Int) := by rw [Aaa, hl]
  have hB : Aas std (n : Int) 0 q (i : Int) (((y :: L).length : Int), (y :: L).reverse ++ x :: R) = some (if cmp x y < 0 then .inl ((L.length : Int), L.reverse ++ x :: y :: R) else .inr (.inl (((i + 1 : Nat) : Int), (y :: L).reverse ++ x :: R))) := by
   unfold Aas
   simp only
   rw [g1, e1, p0, p0, hrl]
   have hv : ∀ {p : Prop}, p → vc true p := fun h => h
   rw [ck_t (hv (inbT (by simp only [List.length_cons]; omega))), ck_t (hv (inbT (by simp only [List.length_cons]; omega))), ck_t (hv (inbT (by omega))), ck_t (hv (inbT (by omega))), gd_t, ax, ay, hq, bd_some, s_land, Bool.true_and, s_lss]
   by_cases hc : cmp x y < 0
   ·rw [decide_eq_true hc, br_true, if_pos hc, ck_t (inbT (by omega)), ck_t (inbT (by omega)), ck_t (inbT (by simp only [List.length_cons]; omega)), ck_t (inbT (by simp only [List.length_cons]; omega))]
    have hs : std.len TyS.rule (std.set TyS.rule ((y :: L).reverse ++ x :: R) (((y :: L).length : Nat) : Int) y) = (n : Int) := by
     rw [s_set, Aaa, List.length_set, hl]
    rw [hs, ck_t (inbT (by omega)), s_set, s_set, Int.toNat_natCast, Int.toNat_natCast]
    have := Av6 L R x y
    exact congrArg (fun r => some (Sum.inl ((L.length : Int), r))) this
   ·rw [decide_eq_false hc, br_false, if_neg hc, s_add, wrap_succ (n := 1001) (by omega) (by unfold big63; omega)]
    rfl
  rw [hB]
  by_cases hc : cmp x y < 0
  ·rw [if_pos hc, Avc (decide_eq_true hc)]
   exact A6e q cmp hq n i hn hi L (y :: R) x (by rw [← hl]; simp)
  ·rw [if_neg hc, Avd (decide_eq_false hc)]
theorem A9a (q : Rule → Rule → Option Int) (cmp : Rule → Rule → Int) (hq : ∀ x y, q x y = some (cmp x y)) (xs : List Rule) (hn : xs.length ≤ 1000) :
  Aa3 std xs (xs.length : Int) 0 (xs.length : Int) q = some (sortI (fun a b => decide (cmp a b < 0)) xs) := by
 unfold Aa3
 rw [show std.ar .add .i64 0 1 = ((1 : Nat) : Int) from rfl]
 cases xs with
 | nil => rw [Acg]; rfl
 | cons x0 ys =>
  generalize hxs : x0 :: ys = xs at hn
  have h1 : 1 ≤ xs.length := by rw [← hxs]; simp
  have hstart : xs = sortI (fun a b => decide (cmp a b < 0)) (xs.take 1) ++ xs.drop 1 := by rw [← hxs]; rfl
  have := Aht (B := Acd std (xs.length : Int) 0 (xs.length : Int) q) (fun i (_ : Unit) => ((i : Int), sortI (fun a b => decide (cmp a b < 0)) (xs.take i) ++ xs.drop i)) xs (fun _ _ (_ : Unit) => (.inl () : Unit ⊕ List Rule)) (fun _ => sortI (fun a b => decide (cmp a b < 0)) xs) (fun _ _ => True)
   (fun i x u hx _ => by
    have hi := Agh hx
    refine ⟨fun s' _ => ⟨?_, trivial⟩, fun e he => by cases he⟩
    obtain ⟨x', hx', _, hd, ht⟩ := i_at (xs := xs) (i := i) hi
    rw [hx] at hx'; cases hx'
    unfold Acd
    simp only
    rw [lssT hi, br_true]
    have hlen : (sortI (fun a b => decide (cmp a b < 0)) (xs.take i)).reverse.length = i := by rw [List.length_reverse, Aen, List.length_take]; omega
    have := A6e q cmp hq xs.length i hn (by omega) (sortI (fun a b => decide (cmp a b < 0)) (xs.take i)).reverse (xs.drop (i + 1)) x (by
     rw [List.reverse_reverse, ← hd, List.length_append, Aen, List.length_take, List.length_drop]; omega)
    rw [hlen, List.reverse_reverse, ← hd] at this
    rw [this, ht, Ant, Aqc]
    rfl)
   (fun s _ => by
    unfold Acd
    simp only
    rw [lssF, br_false, List.take_length, List.drop_length, List.append_nil]
    rfl) 1 h1 () trivial
  rw [← hstart] at this
  refine this.trans (congrArg some ?_)
  have key : ∀ (l : List Rule) (i : Nat), runL (fun _ _ (_ : Unit) => (.inl () : Unit ⊕ List Rule)) (fun _ => sortI (fun a b => decide (cmp a b < 0)) xs) i l () = sortI (fun a b => decide (cmp a b < 0)) xs := by
   intro l
   induction l with
   | nil => intro i; rfl
   | cons x xs ih => intro i; exact ih (i + 1)
  exact key _ _
theorem stable_Rule (q : Rule → Rule → Option Int) (cmp : Rule → Rule → Int) (hq : ∀ x y, q x y = some (cmp x y)) (xs : List Rule) (hn : xs.length < 20) :
  Acj std xs (xs.length : Int) (xs.length : Int) q = some (sortI (fun a b => decide (cmp a b < 0)) xs) := by
 unfold Acj
 have hB : Agd std (xs.length : Int) (xs.length : Int) q (0, 20, xs) = some (.inr (sortI (fun a b => decide (cmp a b < 0)) xs)) := by
  unfold Agd
  simp only
  rw [show std.cmp .leq 20 (xs.length : Int) = false by rw [s_leq]; exact decide_eq_false (by omega), br_false, A9a q cmp hq xs (by omega), bd_some, Acg]
  have h2 : Agc std (xs.length : Int) (sortI (fun a b => decide (cmp a b < 0)) xs) 20 = some (.inr (sortI (fun a b => decide (cmp a b < 0)) xs)) := by
   unfold Agc
   simp only
   rw [show std.cmp .lss 20 (xs.length : Int) = false by rw [s_lss]; exact decide_eq_false (by omega), br_false]
   rfl
  rw [h2]
  rfl
 rw [Acg, hB]
theorem Azo (q : ByteArray → ByteArray → Option Int) (cmp : ByteArray → ByteArray → Int) (hq : ∀ x y, q x y = some (cmp x y)) (n i : Nat) (hn : n ≤ 1000) (hi : i ≤ 1000) : ∀ (L R : List ByteArray) (x : ByteArray), (L.reverse ++ x :: R).length = n →
  Loop (Aam std (n : Int) 0 q (i : Int)) ((L.length : Int), L.reverse ++ x :: R) = some (.inl (((i + 1 : Nat) : Int), insR (fun a b => decide (cmp a b < 0)) x L R))
 | [], R, x, hl => by
  rw [Acg]
  have hB : Aam std (n : Int) 0 q (i : Int) ((([] : List ByteArray).length : Int), ([] : List ByteArray).reverse ++ x :: R) = some (.inr (.inl (((i + 1 : Nat) : Int), x :: R))) := by
   unfold Aam
   simp only [List.length_nil, List.reverse_nil, List.nil_append]
   rw [show std.cmp .gtr ((0 : Nat) : Int) 0 = false from rfl]
   have hv : ∀ p : Prop, vc false p := fun p => True.intro
   rw [ck_t (hv _), ck_t (hv _), ck_t (hv _), ck_t (hv _), gd_f, bd_some, s_land, Bool.false_and, br_false, s_add, wrap_succ (n := 1001) (by omega) (by unfold big63; omega)]
   rfl
  rw [hB]
  rfl
 | y :: L, R, x, hl => by
  rw [Acg]
  have hlen : (y :: L).length + 1 ≤ n := by simp at hl ⊢; omega
  have hj : L.length + 1 < n := by simp only [List.length_cons] at hlen; omega
  have g1 : std.cmp .gtr (((y :: L).length : Nat) : Int) 0 = true := by rw [s_gtr]; exact decide_eq_true (by simp only [List.length_cons]; omega)
  have e1 : std.ar .sub .i64 (((y :: L).length : Nat) : Int) 1 = (L.length : Int) := by rw [prevI (by simp) (by unfold big63; simp only [List.length_cons]; omega)]; simp
  have p0 : ∀ k : Nat, std.pl 0 (k : Int) = (k : Int) := fun k => by rw [s_pl]; omega
  have ax := Aab (t := TyS.str) (Azn (y :: L) R x)
  have ay := Aab (t := TyS.str) (At3 L R x y)
  have hrl : std.len TyS.str ((y :: L).reverse ++ x :: R) = (n : Int) := by rw [Aaa, hl]
  have hB : Aam std (n : Int) 0 q (i : Int) (((y :: L).length : Int), (y :: L).reverse ++ x :: R) = some (if cmp x y < 0 then .inl ((L.length : Int), L.reverse ++ x :: y :: R) else .inr (.inl (((i + 1 : Nat) : Int), (y :: L).reverse ++ x :: R))) := by
   unfold Aam
   simp only
   rw [g1, e1, p0, p0, hrl]
   have hv : ∀ {p : Prop}, p → vc true p := fun h => h
   rw [ck_t (hv (inbT (by simp only [List.length_cons]; omega))), ck_t (hv (inbT (by simp only [List.length_cons]; omega))), ck_t (hv (inbT (by omega))), ck_t (hv (inbT (by omega))), gd_t, ax, ay, hq, bd_some, s_land, Bool.true_and, s_lss]
   by_cases hc : cmp x y < 0
   ·rw [decide_eq_true hc, br_true, if_pos hc, ck_t (inbT (by omega)), ck_t (inbT (by omega)), ck_t (inbT (by simp only [List.length_cons]; omega)), ck_t (inbT (by simp only [List.length_cons]; omega))]
    have hs : std.len TyS.str (std.set TyS.str ((y :: L).reverse ++ x :: R) (((y :: L).length : Nat) : Int) y) = (n : Int) := by
     rw [s_set, Aaa, List.length_set, hl]
    rw [hs, ck_t (inbT (by omega)), s_set, s_set, Int.toNat_natCast, Int.toNat_natCast]
    have := Av6 L R x y
    exact congrArg (fun r => some (Sum.inl ((L.length : Int), r))) this
   ·rw [decide_eq_false hc, br_false, if_neg hc, s_add, wrap_succ (n := 1001) (by omega) (by unfold big63; omega)]
    rfl
  rw [hB]
  by_cases hc : cmp x y < 0
  ·rw [if_pos hc, Avc (decide_eq_true hc)]
   exact Azo q cmp hq n i hn hi L (y :: R) x (by rw [← hl]; simp)
  ·rw [if_neg hc, Avd (decide_eq_false hc)]
theorem A5h (q : ByteArray → ByteArray → Option Int) (cmp : ByteArray → ByteArray → Int) (hq : ∀ x y, q x y = some (cmp x y)) (xs : List ByteArray) (hn : xs.length ≤ 1000) :
  Aav std xs (xs.length : Int) 0 (xs.length : Int) q = some (sortI (fun a b => decide (cmp a b < 0)) xs) := by
 unfold Aav
 rw [show std.ar .add .i64 0 1 = ((1 : Nat) : Int) from rfl]
 cases xs with
 | nil => rw [Acg]; rfl
 | cons x0 ys =>
  generalize hxs : x0 :: ys = xs at hn
  have h1 : 1 ≤ xs.length := by rw [← hxs]; simp
  have hstart : xs = sortI (fun a b => decide (cmp a b < 0)) (xs.take 1) ++ xs.drop 1 := by rw [← hxs]; rfl
  have := Aht (B := Abs std (xs.length : Int) 0 (xs.length : Int) q) (fun i (_ : Unit) => ((i : Int), sortI (fun a b => decide (cmp a b < 0)) (xs.take i) ++ xs.drop i)) xs (fun _ _ (_ : Unit) => (.inl () : Unit ⊕ List ByteArray)) (fun _ => sortI (fun a b => decide (cmp a b < 0)) xs) (fun _ _ => True)
   (fun i x u hx _ => by
    have hi := Agh hx
    refine ⟨fun s' _ => ⟨?_, trivial⟩, fun e he => by cases he⟩
    obtain ⟨x', hx', _, hd, ht⟩ := i_at (xs := xs) (i := i) hi
    rw [hx] at hx'; cases hx'
    unfold Abs
    simp only
    rw [lssT hi, br_true]
    have hlen : (sortI (fun a b => decide (cmp a b < 0)) (xs.take i)).reverse.length = i := by rw [List.length_reverse, Aen, List.length_take]; omega
    have := Azo q cmp hq xs.length i hn (by omega) (sortI (fun a b => decide (cmp a b < 0)) (xs.take i)).reverse (xs.drop (i + 1)) x (by
     rw [List.reverse_reverse, ← hd, List.length_append, Aen, List.length_take, List.length_drop]; omega)
    rw [hlen, List.reverse_reverse, ← hd] at this
    rw [this, ht, Ant, Aqc]
    rfl)
   (fun s _ => by
    unfold Abs
    simp only
    rw [lssF, br_false, List.take_length, List.drop_length, List.append_nil]
    rfl) 1 h1 () trivial
  rw [← hstart] at this
  refine this.trans (congrArg some ?_)
  have key : ∀ (l : List ByteArray) (i : Nat), runL (fun _ _ (_ : Unit) => (.inl () : Unit ⊕ List ByteArray)) (fun _ => sortI (fun a b => decide (cmp a b < 0)) xs) i l () = sortI (fun a b => decide (cmp a b < 0)) xs := by
   intro l
   induction l with
   | nil => intro i; rfl
   | cons x xs ih => intro i; exact ih (i + 1)
  exact key _ _
theorem stable_string (q : ByteArray → ByteArray → Option Int) (cmp : ByteArray → ByteArray → Int) (hq : ∀ x y, q x y = some (cmp x y)) (xs : List ByteArray) (hn : xs.length < 20) :
  Aby std xs (xs.length : Int) (xs.length : Int) q = some (sortI (fun a b => decide (cmp a b < 0)) xs) := by
 unfold Aby
 have hB : Afq std (xs.length : Int) (xs.length : Int) q (0, 20, xs) = some (.inr (sortI (fun a b => decide (cmp a b < 0)) xs)) := by
  unfold Afq
  simp only
  rw [show std.cmp .leq 20 (xs.length : Int) = false by rw [s_leq]; exact decide_eq_false (by omega), br_false, A5h q cmp hq xs (by omega), bd_some, Acg]
  have h2 : Afp std (xs.length : Int) (sortI (fun a b => decide (cmp a b < 0)) xs) 20 = some (.inr (sortI (fun a b => decide (cmp a b < 0)) xs)) := by
   unfold Afp
   simp only
   rw [show std.cmp .lss 20 (xs.length : Int) = false by rw [s_lss]; exact decide_eq_false (by omega), br_false]
   rfl
  rw [h2]
  rfl
 rw [Acg, hB]
theorem A3i (q : Hours → Hours → Option Int) (cmp : Hours → Hours → Int) (hq : ∀ x y, q x y = some (cmp x y)) (n i : Nat) (hn : n ≤ 1000) (hi : i ≤ 1000) : ∀ (L R : List Hours) (x : Hours), (L.reverse ++ x :: R).length = n →
  Loop (Aaq std (n : Int) 0 q (i : Int)) ((L.length : Int), L.reverse ++ x :: R) = some (.inl (((i + 1 : Nat) : Int), insR (fun a b => decide (cmp a b < 0)) x L R))
 | [], R, x, hl => by
  rw [Acg]
  have hB : Aaq std (n : Int) 0 q (i : Int) ((([] : List Hours).length : Int), ([] : List Hours).reverse ++ x :: R) = some (.inr (.inl (((i + 1 : Nat) : Int), x :: R))) := by
   unfold Aaq
   simp only [List.length_nil, List.reverse_nil, List.nil_append]
   rw [show std.cmp .gtr ((0 : Nat) : Int) 0 = false from rfl]
   have hv : ∀ p : Prop, vc false p := fun p => True.intro
   rw [ck_t (hv _), ck_t (hv _), ck_t (hv _), ck_t (hv _), gd_f, bd_some, s_land, Bool.false_and, br_false, s_add, wrap_succ (n := 1001) (by omega) (by unfold big63; omega)]
   rfl
  rw [hB]
  rfl
 | y :: L, R, x, hl => by
  rw [Acg]
  have hlen : (y :: L).length + 1 ≤ n := by simp at hl ⊢; omega
  have hj : L.length + 1 < n := by simp only [List.length_cons] at hlen; omega
  have g1 : std.cmp .gtr (((y :: L).length : Nat) : Int) 0 = true := by rw [s_gtr]; exact decide_eq_true (by simp only [List.length_cons]; omega)
  have e1 : std.ar .sub .i64 (((y :: L).length : Nat) : Int) 1 = (L.length : Int) := by rw [prevI (by simp) (by unfold big63; simp only [List.length_cons]; omega)]; simp
  have p0 : ∀ k : Nat, std.pl 0 (k : Int) = (k : Int) := fun k => by rw [s_pl]; omega
  have ax := Aab (t := TyS.hours) (Azn (y :: L) R x)
  have ay := Aab (t := TyS.hours) (At3 L R x y)
  have hrl : std.len TyS.hours ((y :: L).reverse ++ x :: R) = (n : Int) := by rw [Aaa, hl]
  have hB : Aaq std (n : Int) 0 q (i : Int) (((y :: L).length : Int), (y :: L).reverse ++ x :: R) = some (if cmp x y < 0 then .inl ((L.length : Int), L.reverse ++ x :: y :: R) else .inr (.inl (((i + 1 : Nat) : Int), (y :: L).reverse ++ x :: R))) := by
   unfold Aaq
   simp only
   rw [g1, e1, p0, p0, hrl]
   have hv : ∀ {p : Prop}, p → vc true p := fun h => h
   rw [ck_t (hv (inbT (by simp only [List.length_cons]; omega))), ck_t (hv (inbT (by simp only [List.length_cons]; omega))), ck_t (hv (inbT (by omega))), ck_t (hv (inbT (by omega))), gd_t, ax, ay, hq, bd_some, s_land, Bool.true_and, s_lss]
   by_cases hc : cmp x y < 0
   ·rw [decide_eq_true hc, br_true, if_pos hc, ck_t (inbT (by omega)), ck_t (inbT (by omega)), ck_t (inbT (by simp only [List.length_cons]; omega)), ck_t (inbT (by simp only [List.length_cons]; omega))]
    have hs : std.len TyS.hours (std.set TyS.hours ((y :: L).reverse ++ x :: R) (((y :: L).length : Nat) : Int) y) = (n : Int) := by
     rw [s_set, Aaa, List.length_set, hl]
    rw [hs, ck_t (inbT (by omega)), s_set, s_set, Int.toNat_natCast, Int.toNat_natCast]
    have := Av6 L R x y
    exact congrArg (fun r => some (Sum.inl ((L.length : Int), r))) this
   ·rw [decide_eq_false hc, br_false, if_neg hc, s_add, wrap_succ (n := 1001) (by omega) (by unfold big63; omega)]
    rfl
  rw [hB]
  by_cases hc : cmp x y < 0
  ·rw [if_pos hc, Avc (decide_eq_true hc)]
   exact A3i q cmp hq n i hn hi L (y :: R) x (by rw [← hl]; simp)
  ·rw [if_neg hc, Avd (decide_eq_false hc)]
theorem A7c (q : Hours → Hours → Option Int) (cmp : Hours → Hours → Int) (hq : ∀ x y, q x y = some (cmp x y)) (xs : List Hours) (hn : xs.length ≤ 1000) :
  Aax std xs (xs.length : Int) 0 (xs.length : Int) q = some (sortI (fun a b => decide (cmp a b < 0)) xs) := by
 unfold Aax
 rw [show std.ar .add .i64 0 1 = ((1 : Nat) : Int) from rfl]
 cases xs with
 | nil => rw [Acg]; rfl
 | cons x0 ys =>
  generalize hxs : x0 :: ys = xs at hn
  have h1 : 1 ≤ xs.length := by rw [← hxs]; simp
  have hstart : xs = sortI (fun a b => decide (cmp a b < 0)) (xs.take 1) ++ xs.drop 1 := by rw [← hxs]; rfl
  have := Aht (B := Ab6 std (xs.length : Int) 0 (xs.length : Int) q) (fun i (_ : Unit) => ((i : Int), sortI (fun a b => decide (cmp a b < 0)) (xs.take i) ++ xs.drop i)) xs (fun _ _ (_ : Unit) => (.inl () : Unit ⊕ List Hours)) (fun _ => sortI (fun a b => decide (cmp a b < 0)) xs) (fun _ _ => True)
   (fun i x u hx _ => by
    have hi := Agh hx
    refine ⟨fun s' _ => ⟨?_, trivial⟩, fun e he => by cases he⟩
    obtain ⟨x', hx', _, hd, ht⟩ := i_at (xs := xs) (i := i) hi
    rw [hx] at hx'; cases hx'
    unfold Ab6
    simp only
    rw [lssT hi, br_true]
    have hlen : (sortI (fun a b => decide (cmp a b < 0)) (xs.take i)).reverse.length = i := by rw [List.length_reverse, Aen, List.length_take]; omega
    have := A3i q cmp hq xs.length i hn (by omega) (sortI (fun a b => decide (cmp a b < 0)) (xs.take i)).reverse (xs.drop (i + 1)) x (by
     rw [List.reverse_reverse, ← hd, List.length_append, Aen, List.length_take, List.length_drop]; omega)
    rw [hlen, List.reverse_reverse, ← hd] at this
    rw [this, ht, Ant, Aqc]
    rfl)
   (fun s _ => by
    unfold Ab6
    simp only
    rw [lssF, br_false, List.take_length, List.drop_length, List.append_nil]
    rfl) 1 h1 () trivial
  rw [← hstart] at this
  refine this.trans (congrArg some ?_)
  have key : ∀ (l : List Hours) (i : Nat), runL (fun _ _ (_ : Unit) => (.inl () : Unit ⊕ List Hours)) (fun _ => sortI (fun a b => decide (cmp a b < 0)) xs) i l () = sortI (fun a b => decide (cmp a b < 0)) xs := by
   intro l
   induction l with
   | nil => intro i; rfl
   | cons x xs ih => intro i; exact ih (i + 1)
  exact key _ _
theorem stable_Hours (q : Hours → Hours → Option Int) (cmp : Hours → Hours → Int) (hq : ∀ x y, q x y = some (cmp x y)) (xs : List Hours) (hn : xs.length < 20) :
  Ab9 std xs (xs.length : Int) (xs.length : Int) q = some (sortI (fun a b => decide (cmp a b < 0)) xs) := by
 unfold Ab9
 have hB : Af8 std (xs.length : Int) (xs.length : Int) q (0, 20, xs) = some (.inr (sortI (fun a b => decide (cmp a b < 0)) xs)) := by
  unfold Af8
  simp only
  rw [show std.cmp .leq 20 (xs.length : Int) = false by rw [s_leq]; exact decide_eq_false (by omega), br_false, A7c q cmp hq xs (by omega), bd_some, Acg]
  have h2 : Af7 std (xs.length : Int) (sortI (fun a b => decide (cmp a b < 0)) xs) 20 = some (.inr (sortI (fun a b => decide (cmp a b < 0)) xs)) := by
   unfold Af7
   simp only
   rw [show std.cmp .lss 20 (xs.length : Int) = false by rw [s_lss]; exact decide_eq_false (by omega), br_false]
   rfl
  rw [h2]
  rfl
 rw [Acg, hB]
def Abq {α : Type} (key : α → ByteArray) (a b : α) : Bool := lessS (key a) (key b)
theorem A7d (xs : List Rule) (h : xs.length ≤ 1000) : Aey std xs = some ((xs.length : Int), xs) := by
 unfold Aey
 have e : ∀ k : Nat, k ≤ 1000 → std.appOk TyS.rule k [] xs := fun k hk => ⟨by have := Nat.mul_le_mul (show ([] : List (U TyS.rule)).length + xs.length ≤ 1000 by simpa using h) hk; omega, by simp; omega⟩
 rw [A57 (fun hc => by
  have h0 : xs = [] := by
   rw [s_eql, Aaa] at hc
   have : xs.length = 0 := by simpa using hc
   exact List.length_eq_zero_iff.1 this
  subst h0
  rw [ck_t (e _ (by decide))]
  rfl), ck_t (e _ (by decide))]
 rfl
theorem A5i (xs : List Rule) (q : Rule → Option ByteArray) (key : Rule → ByteArray) (hq : ∀ x, q x = some (key x)) (h : xs.length < 20) : Af2 std xs q = some (sortI (Abq key) xs) := by
 unfold Af2 Abx
 rw [A7d xs (by omega), bd_some]
 simp only
 rw [stable_Rule (fun y0 y1 => Aga std y0 y1 q) (fun a b => Lib.compareBytes (key a).data.toList (key b).data.toList) (fun x y => by unfold Aga strings_Compare; rw [hq, bd_some, hq, bd_some, bd_some]) xs h, bd_some, bd_some]
 have e : (fun a b : Rule => decide (Lib.compareBytes (key a).data.toList (key b).data.toList < 0)) = Abq key := funext fun a => funext fun b => Ao5 _ _
 have hl := Aen (Abq key) xs
 rw [e, s_pl, Int.zero_add, Aaa, ck_t (show std.subOk 0 (xs.length : Int) ((sortI (Abq key) xs).length : Int) from ⟨by omega, by omega, by omega⟩), Atq]
 simp [← hl]
theorem A3j (xs : List ByteArray) (h : xs.length ≤ 1000) : Adc std xs = some ((xs.length : Int), xs) := by
 unfold Adc
 have e : ∀ k : Nat, k ≤ 1000 → std.appOk TyS.str k [] xs := fun k hk => ⟨by have := Nat.mul_le_mul (show ([] : List (U TyS.str)).length + xs.length ≤ 1000 by simpa using h) hk; omega, by simp; omega⟩
 rw [A57 (fun hc => by
  have h0 : xs = [] := by
   rw [s_eql, Aaa] at hc
   have : xs.length = 0 := by simpa using hc
   exact List.length_eq_zero_iff.1 this
  subst h0
  rw [ck_t (e _ (by decide))]
  rfl), ck_t (e _ (by decide))]
 rfl
theorem A1r (xs : List ByteArray) (q : ByteArray → Option ByteArray) (key : ByteArray → ByteArray) (hq : ∀ x, q x = some (key x)) (h : xs.length < 20) : Aeq std xs q = some (sortI (Abq key) xs) := by
 unfold Aeq Aba
 rw [A3j xs (by omega), bd_some]
 simp only
 rw [stable_string (fun y0 y1 => Aez std y0 y1 q) (fun a b => Lib.compareBytes (key a).data.toList (key b).data.toList) (fun x y => by unfold Aez strings_Compare; rw [hq, bd_some, hq, bd_some, bd_some]) xs h, bd_some, bd_some]
 have e : (fun a b : ByteArray => decide (Lib.compareBytes (key a).data.toList (key b).data.toList < 0)) = Abq key := funext fun a => funext fun b => Ao5 _ _
 have hl := Aen (Abq key) xs
 rw [e, s_pl, Int.zero_add, Aaa, ck_t (show std.subOk 0 (xs.length : Int) ((sortI (Abq key) xs).length : Int) from ⟨by omega, by omega, by omega⟩), Atq]
 simp [← hl]
theorem A5j (xs : List Hours) (h : xs.length ≤ 1000) : Adp std xs = some ((xs.length : Int), xs) := by
 unfold Adp
 have e : ∀ k : Nat, k ≤ 1000 → std.appOk TyS.hours k [] xs := fun k hk => ⟨by have := Nat.mul_le_mul (show ([] : List (U TyS.hours)).length + xs.length ≤ 1000 by simpa using h) hk; omega, by simp; omega⟩
 rw [A57 (fun hc => by
  have h0 : xs = [] := by
   rw [s_eql, Aaa] at hc
   have : xs.length = 0 := by simpa using hc
   exact List.length_eq_zero_iff.1 this
  subst h0
  rw [ck_t (e _ (by decide))]
  rfl), ck_t (e _ (by decide))]
 rfl
theorem A3k (xs : List Hours) (q : Hours → Option ByteArray) (key : Hours → ByteArray) (hq : ∀ x, q x = some (key x)) (h : xs.length < 20) : Ae9 std xs q = some (sortI (Abq key) xs) := by
 unfold Ae9 Abh
 rw [A5j xs (by omega), bd_some]
 simp only
 rw [stable_Hours (fun y0 y1 => Afr std y0 y1 q) (fun a b => Lib.compareBytes (key a).data.toList (key b).data.toList) (fun x y => by unfold Afr strings_Compare; rw [hq, bd_some, hq, bd_some, bd_some]) xs h, bd_some, bd_some]
 have e : (fun a b : Hours => decide (Lib.compareBytes (key a).data.toList (key b).data.toList < 0)) = Abq key := funext fun a => funext fun b => Ao5 _ _
 have hl := Aen (Abq key) xs
 rw [e, s_pl, Int.zero_add, Aaa, ck_t (show std.subOk 0 (xs.length : Int) ((sortI (Abq key) xs).length : Int) from ⟨by omega, by omega, by omega⟩), Atq]
 simp [← hl]
section
variable {α : Type} (key : α → ByteArray)
theorem A6f (x : α) : ∀ L R : List α, Asc key (L.reverse ++ R) → (∀ y ∈ R, lessS (key x) (key y) = true) → (∀ y ∈ L, key y ≠ key x) → Asc key (insR (Abq key) x L R)
 | [], R, h, hR, _ => by
  simp only [insR, Asc]
  exact List.pairwise_cons.2 ⟨hR, by simpa [Asc] using h⟩
 | y :: L, R, h, hR, hL => by
  cases hc : Abq key x y with
  | true =>
   rw [Avc hc]
   refine A6f x L (y :: R) (by rw [List.reverse_cons, List.append_assoc] at h; exact h) (fun z hz => ?_) fun z hz => hL z (List.mem_cons_of_mem _ hz)
   rcases List.mem_cons.1 hz with rfl | hz
   ·exact hc
   ·exact hR z hz
  | false =>
   rw [Avd hc]
   have hyx : lessS (key y) (key x) = true := by
    cases h2 : lessS (key y) (key x) with
    | true => rfl
    | false => exact absurd (Av5 h2 hc) (hL y (List.mem_cons_self ..))
   unfold Asc at h ⊢
   rw [List.pairwise_append] at h ⊢
   obtain ⟨h1, h2, h3⟩ := h
   refine ⟨h1, List.pairwise_cons.2 ⟨hR, h2⟩, fun a ha b hb => ?_⟩
   rcases List.mem_cons.1 hb with rfl | hb
   ·rw [List.mem_reverse] at ha
    rcases List.mem_cons.1 ha with rfl | ha
    ·exact hyx
    ·rw [List.reverse_cons, List.pairwise_append] at h1
     exact Aqb (h1.2.2 a (List.mem_reverse.2 ha) y (by simp)) hyx
   ·exact h3 a ha b hb
theorem A3l : ∀ (n : Nat) (xs : List α), xs.length = n → (xs.map key).Nodup → Asc key (sortI (Abq key) xs)
 | 0, xs, h, _ => by
  rw [List.length_eq_zero_iff.1 h]; exact List.Pairwise.nil
 | n + 1, xs, h, hd => by
  rcases List.eq_nil_or_concat xs with rfl | ⟨ys, x, rfl⟩
  ·exact List.Pairwise.nil
  ·rw [List.concat_eq_append] at *
   rw [List.map_append, List.nodup_append] at hd
   obtain ⟨h1, _, h3⟩ := hd
   have ih := A3l n ys (by simpa using h) h1
   rw [Ant]
   refine A6f key x _ [] (by rw [List.reverse_reverse, List.append_nil]; exact ih) (fun y hy => by cases hy) fun y hy => ?_
   rw [List.mem_reverse] at hy
   have hy' := (Ags (Abq key) ys).mem_iff.1 hy
   exact h3 _ (List.mem_map_of_mem hy') _ (by simp)
end
end Go.PL
namespace Go.PL
theorem A6g {α : Type} {p : Nat → α → Bool} : ∀ {xs : List α} {i : Nat}, allI p i xs = true → ∀ (j : Nat) (x : α), xs[j]? = some x → p (i + j) x = true
 | [], _, _, j, x, h => by simp at h
 | y :: ys, i, h, j, x, hx => by
  simp only [allI, Bool.and_eq_true] at h
  cases j with
  | zero => cases hx; exact h.1
  | succ j =>
   have := A6g h.2 j x (by simpa using hx)
   rwa [show i + 1 + j = i + (j + 1) by omega] at this
theorem Auw {names : List ByteArray} (h : onceS names = true) : names.Nodup := by
 unfold List.Nodup
 rw [List.pairwise_iff_getElem]
 intro i j hi hj hij e
 have hs : names[j]? = some names[j] := List.getElem?_eq_getElem hj
 have := A6g h j names[j] hs
 rw [Nat.zero_add] at this
 simp only [onceP, hasS, Bool.not_eq_true', List.any_eq_false, decide_eq_true_eq] at this
 refine this names[j] (List.mem_of_getElem? (i := i) ?_) rfl
 rw [List.getElem?_take, if_pos hij, List.getElem?_eq_getElem hi, e]
def atS (l : List ByteArray) (k : Nat) : ByteArray := l.getD k ⟨#[]⟩
def castI (l : List Nat) : List Int := l.map fun k : Nat => (k : Int)
theorem A3m {l : List ByteArray} {k : Nat} (h : k < l.length) : l[k]? = some (atS l k) := by
 unfold atS; rw [List.getD_eq_getElem?_getD, List.getElem?_eq_getElem h]; rfl
theorem Aqv (l : List Nat) : std.len TyS.int (castI l) = (l.length : Int) := by rw [Aaa]; simp [castI]
theorem A6h {l : List Nat} {k y : Nat} (h : l[k]? = some y) : std.get TyS.int (castI l) (k : Int) = (y : Int) := Aab (t := TyS.int) (by unfold castI; rw [List.getElem?_map, h]; rfl)
theorem A1s (l m : List Nat) : castI (l ++ m) = castI l ++ castI m := List.map_append ..
theorem Azp (l : List ByteArray) (i : Nat) (hi : i ≤ 1000) (pre post : List Nat) (hn : (pre ++ post).length ≤ 1000) :
  (ck (std.subOk 0 (pre.length : Int) (std.len TyS.int (castI (pre ++ post)))) <|
    ck (std.appOk TyS.int 8 [] (std.lsub TyS.int (castI (pre ++ post)) 0 (pre.length : Int))) <|
    ck (std.appOk TyS.int 8 (std.app TyS.int [] (std.lsub TyS.int (castI (pre ++ post)) 0 (pre.length : Int))) [(i : Int)]) <|
    ck (std.subOk (pre.length : Int) (std.len TyS.int (castI (pre ++ post))) (std.len TyS.int (castI (pre ++ post)))) <|
    ck (std.appOk TyS.int 8 (std.app TyS.int (std.app TyS.int [] (std.lsub TyS.int (castI (pre ++ post)) 0 (pre.length : Int))) [(i : Int)]) (std.lsub TyS.int (castI (pre ++ post)) (pre.length : Int) (std.len TyS.int (castI (pre ++ post))))) <|
    some ((.inl (std.app TyS.int (std.app TyS.int (std.app TyS.int [] (std.lsub TyS.int (castI (pre ++ post)) 0 (pre.length : Int))) [(i : Int)]) (std.lsub TyS.int (castI (pre ++ post)) (pre.length : Int) (std.len TyS.int (castI (pre ++ post)))), std.ar .add .i64 (i : Int) 1)) : (List Int × Int) ⊕ List Int)) = some (.inl (castI (pre ++ i :: post), ((i + 1 : Nat) : Int))) := by
 have e1 : std.lsub TyS.int (castI (pre ++ post)) 0 (pre.length : Int) = castI pre := by
  rw [Atq, A1s, Int.toNat_natCast]
  have : (castI pre).length = pre.length := by simp [castI]
  simp [← this]
 have e2 : std.lsub TyS.int (castI (pre ++ post)) (pre.length : Int) (std.len TyS.int (castI (pre ++ post))) = castI post := by
  rw [Atq, Aqv, Int.toNat_natCast, Int.toNat_natCast, A1s]
  have h1 : (castI pre).length = pre.length := by simp [castI]
  have h2 : (castI pre ++ castI post).length = (pre ++ post).length := by simp [castI]
  rw [← h2, List.take_length, ← h1, List.drop_left]
 rw [List.length_append] at hn
 have l1 : (castI pre).length = pre.length := by simp [castI]
 have l2 : (castI post).length = post.length := by simp [castI]
 rw [e1, e2, Aqv, s_app, s_app, s_app, List.nil_append]
 rw [ck_t (show std.subOk 0 (pre.length : Int) ((pre ++ post).length : Int) from ⟨by omega, by omega, by rw [List.length_append]; omega⟩), ck_t (show std.appOk TyS.int 8 [] (castI pre) from ⟨by simp [l1]; omega, by simp [l1]; omega⟩), ck_t (show std.appOk TyS.int 8 (castI pre) [(i : Int)] from ⟨by simp [l1]; omega, by simp [l1]; omega⟩), ck_t (show std.subOk (pre.length : Int) ((pre ++ post).length : Int) ((pre ++ post).length : Int) from ⟨by omega, by rw [List.length_append]; omega, by omega⟩), ck_t (show std.appOk TyS.int 8 (castI pre ++ [(i : Int)]) (castI post) from ⟨by simp [l1, l2]; omega, by simp [l1, l2]; omega⟩), s_add, wrap_succ (n := 1001) (by omega) (by unfold big63; omega)]
 congr 3
 rw [A1s, List.append_assoc]
 rfl
theorem Ave (l : List ByteArray) (i : Nat) (s : ByteArray) (hs : l[i]? = some s) (hi : i ≤ 1000) (hf : ∀ x ∈ l, fitS x) : ∀ (post pre : List Nat), (∀ k ∈ pre ++ post, k < l.length) → (pre ++ post).length ≤ 1000 →
  Loop (Ab0 std l (castI (pre ++ post)) (i : Int)) (pre.length : Int) = some (.inl (castI (pre ++ insL (atS l) i post), ((i + 1 : Nat) : Int)))
 | [], pre, hk, hn => by
  rw [Acg]
  have hput := Azp l i hi pre [] hn
  have hB : Ab0 std l (castI (pre ++ [])) (i : Int) (pre.length : Int) = some (.inr (.inl (castI (pre ++ [i]), ((i + 1 : Nat) : Int)))) := by
   unfold Ab0
   simp only
   rw [show std.cmp .lss (pre.length : Int) (std.len TyS.int (castI (pre ++ []))) = false by rw [Aqv, List.append_nil]; exact lssF]
   have hv : ∀ p : Prop, vc false p := fun p => True.intro
   rw [ck_t (hv _), ck_t (hv _), gd_f, bd_some, s_land, Bool.false_and, br_false, hput]
   rfl
  rw [hB]
  rfl
 | y :: post, pre, hk, hn => by
  rw [Acg]
  have hput := Azp l i hi pre (y :: post) hn
  have hlt : pre.length < (pre ++ y :: post).length := by simp
  have hy : (pre ++ y :: post)[pre.length]? = some y := by simp
  have hyl : y < l.length := hk y (by simp)
  have hs' : s = atS l i := by have := A3m (Agh hs); rw [hs] at this; exact Option.some.inj this
  have hB : Ab0 std l (castI (pre ++ y :: post)) (i : Int) (pre.length : Int) = some (if lessS (atS l y) (atS l i) = true then .inl ((pre.length + 1 : Nat) : Int) else .inr (.inl (castI (pre ++ i :: y :: post), ((i + 1 : Nat) : Int)))) := by
   unfold Ab0
   simp only
   rw [show std.cmp .lss (pre.length : Int) (std.len TyS.int (castI (pre ++ y :: post))) = true by rw [Aqv]; exact lssT hlt]
   have hv : ∀ {p : Prop}, p → vc true p := fun h => h
   rw [ck_t (hv (by rw [Aqv]; exact inbT hlt)), A6h hy, ck_t (hv (by rw [Aaa]; exact inbT hyl)), gd_t, Aab (t := TyS.str) (A3m hyl), Aab (t := TyS.str) hs, As6 _ _ (hf _ (Abl (A3m hyl))), bd_some, s_land, Bool.true_and, ← hs']
   cases hc : lessS (atS l y) s with
   | true => rw [br_true, s_add, wrap_succ (n := 1001) (by omega) (by unfold big63; omega), if_pos rfl]
   | false => rw [br_false, hput, if_neg (by simp)]; rfl
  rw [hB]
  cases hc : lessS (atS l y) (atS l i) with
  | true =>
   rw [if_pos rfl]
   have := Ave l i s hs hi hf post (pre ++ [y]) (by simpa using hk) (by simpa using hn)
   rw [List.length_append, List.length_singleton, List.append_assoc, List.append_assoc] at this
   rw [insL, if_pos hc]
   exact this
  | false =>
   rw [if_neg (by simp), insL, if_neg (by rw [hc]; simp)]
def stepP (l : List ByteArray) (acc : List Nat) (i : Nat) : List Nat := if hasS (l.take i) (atS l i) = true then acc else insL (atS l) i acc
def placesTo (l : List ByteArray) (i : Nat) : List Nat := (List.range i).foldl (stepP l) []
theorem Ano (l : List ByteArray) (i : Nat) : placesTo l (i + 1) = stepP l (placesTo l i) i := by
 unfold placesTo; rw [List.range_succ, List.foldl_append]; rfl
theorem A6i {α : Type} (key : α → ByteArray) (x : α) : ∀ l : List α, (insL key x l).length = l.length + 1
 | [] => rfl
 | y :: l => by
  simp only [insL]
  split
  ·simp [A6i key x l]
  ·simp
theorem Aqw (l : List ByteArray) : ∀ i, (placesTo l i).length ≤ i ∧ ∀ k ∈ placesTo l i, k < i
 | 0 => ⟨by simp [placesTo], fun k hk => by simp [placesTo] at hk⟩
 | i + 1 => by
  obtain ⟨h1, h2⟩ := Aqw l i
  rw [Ano]
  unfold stepP
  split
  ·exact ⟨by omega, fun k hk => by have := h2 k hk; omega⟩
  ·refine ⟨by rw [A6i]; omega, fun k hk => ?_⟩
   rcases (insL_mem (atS l) i k _).1 hk with rfl | hk
   ·omega
   ·have := h2 k hk; omega
theorem Anp (l : List ByteArray) (hl : l.length ≤ 1000) (hf : ∀ x ∈ l, fitS x) : Aad std l = some (castI (placesTo l l.length)) := by
 unfold Aad
 have := Aap (B := Aeh std l) (fun i (_ : Unit) => (castI (placesTo l i), (i : Int))) l (fun _ _ (_ : Unit) => (.inl () : Unit ⊕ List Int)) (fun _ => castI (placesTo l l.length)) (fun i s u hs hi => by
  obtain ⟨h1, h2⟩ := Aqw l i
  have hs' : s = atS l i := by have := A3m hi; rw [hs] at this; exact Option.some.inj this
  unfold Aeh
  simp only
  have e : std.lsub TyS.str l 0 (i : Int) = l.take i := by rw [Atq]; simp
  rw [Aaa, lssT hi, br_true, ck_t (inbT hi), ck_t (show std.subOk 0 (i : Int) (l.length : Int) from ⟨by omega, by omega, by omega⟩), e, Aab (t := TyS.str) hs, Ar5 _ _ (by rw [List.length_take]; unfold big63; omega), bd_some, Ano]
  unfold stepP
  rw [← hs']
  cases hh : hasS (l.take i) s with
  | true => rw [br_true, s_add, wrap_succ hi (by unfold big63; omega), if_pos rfl]
  | false =>
   rw [br_false, if_neg (by simp)]
   have := Ave l i s hs (by omega) hf (placesTo l i) [] (fun k hk => by have := h2 k (by simpa using hk); omega) (by simp; omega)
   exact this) (fun _ => by
  unfold Aeh
  simp only
  rw [Aaa, lssF, br_false]
  rfl) ()
 refine this.trans (congrArg some ?_)
 have key : ∀ (xs : List ByteArray) (i : Nat), runL (fun _ _ (_ : Unit) => (.inl () : Unit ⊕ List Int)) (fun _ => castI (placesTo l l.length)) i xs () = castI (placesTo l l.length) := by
  intro xs
  induction xs with
  | nil => intro i; rfl
  | cons x xs ih => intro i; exact ih (i + 1)
 exact key l 0
theorem Axf : ∀ (a b : Nat) (x y : List UInt8), numL a ++ x = numL b ++ y → a = b ∧ x = y
 | a, b, x, y, h => by
  have e : ∀ n : Nat, (UInt8.ofNat n).toNat = n % 256 := fun n => by simp
  rw [numL.eq_def a, numL.eq_def b] at h
  by_cases ha : a < 128 <;> by_cases hb : b < 128
  ·rw [dif_pos ha, dif_pos hb] at h
   have h1 := congrArg UInt8.toNat (List.cons.inj h).1
   rw [e, e] at h1
   exact ⟨by omega, (List.cons.inj h).2⟩
  ·rw [dif_pos ha, dif_neg hb] at h
   have h1 := congrArg UInt8.toNat (List.cons.inj h).1
   rw [e, e] at h1
   omega
  ·rw [dif_neg ha, dif_pos hb] at h
   have h1 := congrArg UInt8.toNat (List.cons.inj h).1
   rw [e, e] at h1
   omega
  ·rw [dif_neg ha, dif_neg hb] at h
   have h1 := congrArg UInt8.toNat (List.cons.inj h).1
   rw [e, e] at h1
   obtain ⟨h2, h3⟩ := Axf (a / 128) (b / 128) x y (List.cons.inj h).2
   exact ⟨by omega, h3⟩
 termination_by a => a
 decreasing_by omega
theorem A9b (n : Nat) : numL n ≠ [] := by
 rw [numL.eq_def]; split <;> simp
theorem Ar9 (p : ByteArray) (l : List ByteArray) : bindL (p :: l) = numL p.size ++ (bytes p ++ bindL l) := by
 simp [bindL]
theorem A3n : ∀ l m : List ByteArray, bindL l = bindL m → l = m
 | [], [], _ => rfl
 | [], q :: m, h => by
  rw [Ar9] at h
  have := (List.append_eq_nil_iff.1 h.symm).1
  exact absurd this (A9b _)
 | p :: l, [], h => by
  rw [Ar9] at h
  exact absurd (List.append_eq_nil_iff.1 h).1 (A9b _)
 | p :: l, q :: m, h => by
  rw [Ar9, Ar9] at h
  obtain ⟨h1, h2⟩ := Axf _ _ _ _ h
  obtain ⟨h3, h4⟩ := List.append_inj h2 (by rw [Aag, Aag, h1])
  rw [ba_ext h3, A3n l m h4]
theorem Axg {l m : List ByteArray} (h : bindS l = bindS m) : l = m := by
 apply A3n
 rw [← Al5, ← Al5, h]
theorem A1t {p : UInt8 → Bool} : ∀ A B C D : List UInt8, (∀ x ∈ A, p x = true) → (∀ x ∈ B, p x = true) → (∀ c, C.head? = some c → p c = false) → (∀ c, D.head? = some c → p c = false) → A ++ C = B ++ D → A = B ∧ C = D
 | [], [], _, _, _, _, _, _, h => ⟨rfl, h⟩
 | [], b :: B, C, D, _, hB, hC, _, h => by
  have h1 := hC b (by rw [List.nil_append] at h; rw [h]; rfl)
  rw [hB b (List.mem_cons_self ..)] at h1; cases h1
 | a :: A, [], C, D, hA, _, _, hD, h => by
  have h1 := hD a (by rw [List.nil_append] at h; rw [← h]; rfl)
  rw [hA a (List.mem_cons_self ..)] at h1; cases h1
 | a :: A, b :: B, C, D, hA, hB, hC, hD, h => by
  obtain ⟨h1, h2⟩ := List.cons.inj h
  obtain ⟨h3, h4⟩ := A1t A B C D (fun x hx => hA x (List.mem_cons_of_mem _ hx)) (fun x hx => hB x (List.mem_cons_of_mem _ hx)) hC hD h2
  exact ⟨by rw [h1, h3], h4⟩
theorem Azq (r : List ByteArray) : ∀ c, (r.map fun x => 124 :: bytes x).flatten.head? = some c → mwC c = false := by
 intro c h
 cases r with
 | nil => cases h
 | cons x r =>
  simp only [List.map_cons, List.flatten_cons, List.cons_append, List.head?_cons, Option.some.injEq] at h
  subst h; decide
theorem A3o : ∀ (w v : ByteArray) (r s : List ByteArray), (∀ x ∈ w :: r, (bytes x).all mwC = true) → (∀ x ∈ v :: s, (bytes x).all mwC = true) → bytes w ++ (r.map fun x => 124 :: bytes x).flatten = bytes v ++ (s.map fun x => 124 :: bytes x).flatten → w :: r = v :: s
 | w, v, r, s, hw, hv, h => by
  have h1 := hw w (List.mem_cons_self ..)
  have h2 := hv v (List.mem_cons_self ..)
  rw [List.all_eq_true] at h1 h2
  obtain ⟨h3, h4⟩ := A1t _ _ _ _ h1 h2 (Azq r) (Azq s) h
  rw [ba_ext h3]
  cases r with
  | nil =>
   cases s with
   | nil => rfl
   | cons y s => simp at h4
  | cons x r =>
   cases s with
   | nil => simp at h4
   | cons y s =>
    simp only [List.map_cons, List.flatten_cons, List.cons_append] at h4
    rw [A3o x y r s (fun z hz => hw z (List.mem_cons_of_mem _ hz)) (fun z hz => hv z (List.mem_cons_of_mem _ hz)) (List.cons.inj h4).2]
 termination_by _ _ r => r.length
theorem Azr {s : ByteArray} (h : nameS s = true) : ∀ c ∈ bytes s, (letC c || digC c) = true := by
 intro c hc
 simp only [nameS, Bool.and_eq_true] at h
 obtain ⟨j, hj⟩ := Av2 h.1.1 c hc
 simp only [nameP, Bool.or_eq_true, Bool.and_eq_true] at hj ⊢
 exact hj.imp id fun h => h.2
theorem A9c {a b : Int} (a1 : 1 ≤ a) (a4 : a ≤ 4) (b1 : 1 ≤ b) (b4 : b ≤ 4) {x y : List UInt8} (h : signL a ++ 34 :: x = signL b ++ 34 :: y) : a = b ∧ x = y := by
 have ha : a = 1 ∨ a = 2 ∨ a = 3 ∨ a = 4 := by omega
 have hb : b = 1 ∨ b = 2 ∨ b = 3 ∨ b = 4 := by omega
 rcases ha with rfl | rfl | rfl | rfl <;> rcases hb with rfl | rfl | rfl | rfl <;> simp [signL] at h ⊢ <;> exact h
theorem Azs {a : Int} (a1 : 1 ≤ a) (a4 : a ≤ 4) (x : List UInt8) : ∀ c, (signL a ++ x).head? = some c → (letC c || digC c) = false := by
 intro c h
 have ha : a = 1 ∨ a = 2 ∨ a = 3 ∨ a = 4 := by omega
 rcases ha with rfl | rfl | rfl | rfl <;> simp [signL] at h <;> subst h <;> decide
theorem A9d {m n : Matcher} (hm : Ad0 m = true) (hn : Ad0 n = true) (h : textS m = textS n) : m = n := by
 have h := congrArg bytes h
 rw [Aol, Aol] at h
 have hm0 := Aom hm
 have hn0 := Aom hn
 simp only [Ad0, Bool.and_eq_true, decide_eq_true_eq] at hm hn
 obtain ⟨hmw, ⟨⟨⟨⟨hm2, _⟩, _⟩, hm1⟩, _⟩, _⟩ := hm
 obtain ⟨hnw, ⟨⟨⟨⟨hn2, _⟩, _⟩, hn1⟩, _⟩, _⟩ := hn
 unfold textL at h
 have h := List.append_cancel_right h
 rw [List.append_assoc, List.append_assoc, List.append_assoc, List.append_assoc] at h
 obtain ⟨h1, h2⟩ := A1t _ _ _ _ (Azr hm2) (Azr hn2) (Azs hm0.how1 hm0.how4 _) (Azs hn0.how1 hn0.how4 _) h
 obtain ⟨h3, h4⟩ := A9c hm0.how1 hm0.how4 hn0.how1 hn0.how4 h2
 have wm : ∀ x ∈ m.Words, (bytes x).all mwC = true := fun x hx => by
  have := Ars hmw x hx
  simp only [Ao3, Bool.and_eq_true] at this
  exact this.1
 have wn : ∀ x ∈ n.Words, (bytes x).all mwC = true := fun x hx => by
  have := Ars hnw x hx
  simp only [Ao3, Bool.and_eq_true] at this
  exact this.1
 obtain ⟨mn, mh, mw⟩ := m
 obtain ⟨nn, nh, nw⟩ := n
 simp only at *
 subst h3
 rw [ba_ext h1]
 cases mw with
 | nil => simp at hm1
 | cons x mw =>
  cases nw with
  | nil => simp at hn1
  | cons y nw => rw [A3o x y mw nw wm wn h4]
theorem Azt {α β : Type} {f : α → β} {P : α → Prop} (hf : ∀ x y, P x → P y → f x = f y → x = y) : ∀ l m : List α, (∀ x ∈ l, P x) → (∀ x ∈ m, P x) → l.map f = m.map f → l = m
 | [], [], _, _, _ => rfl
 | [], _ :: _, _, _, h => by simp at h
 | _ :: _, [], _, _, h => by simp at h
 | x :: l, y :: m, hl, hm, h => by
  rw [List.map_cons, List.map_cons] at h
  obtain ⟨h1, h2⟩ := List.cons.inj h
  rw [hf x y (hl x (List.mem_cons_self ..)) (hm y (List.mem_cons_self ..)) h1, Azt hf l m (fun z hz => hl z (List.mem_cons_of_mem _ hz)) (fun z hz => hm z (List.mem_cons_of_mem _ hz)) h2]
theorem Azu {l m : List Matcher} (hl : Ade l = true) (hm : Ade m = true) (h : Alj l = Alj m) : l = m :=
 Azt (P := fun m => Ad0 m = true) (fun x y hx hy => A9d hx hy) l m (Amx hl).2 (Amx hm).2 (Axg h)
theorem A7e {x y : Inhibit} (hx : Adh x = true) (hy : Adh y = true) (h : Aau x = Aau y) : x = y := by
 simp only [Adh, Bool.and_eq_true, decide_eq_true_eq] at hx hy
 have h := Axg h
 simp only [List.cons.injEq, and_true] at h
 obtain ⟨h1, h2, h3⟩ := h
 have e1 := Azu hx.2.1.2 hy.2.1.2 h1
 have e2 := Azu hx.2.2 hy.2.2 h2
 have e3 := Axg h3
 cases x; cases y
 simp only at e1 e2 e3
 rw [e1, e2, e3]
section
variable {α : Type} (key : α → ByteArray)
structure Norm (xs l : List α) : Prop where
 asc : Asc key l
 sub : ∀ x ∈ l, x ∈ xs
 all : ∀ x ∈ xs, ∃ y ∈ l, key y = key x
theorem Norm.uniq {xs l m : List α} (hi : ∀ x ∈ xs, ∀ y ∈ xs, key x = key y → x = y) (hl : Norm key xs l) (hm : Norm key xs m) : l = m := by
 refine A89 key l m hl.asc hm.asc fun x => ⟨fun hx => ?_, fun hx => ?_⟩
 ·obtain ⟨y, hy, he⟩ := hm.all x (hl.sub x hx)
  rw [← hi y (hm.sub y hy) x (hl.sub x hx) he]; exact hy
 ·obtain ⟨y, hy, he⟩ := hl.all x (hm.sub x hx)
  rw [← hi y (hl.sub y hy) x (hm.sub x hx) he]; exact hy
theorem Norm.same {xs ys l : List α} (h : Norm key xs l) (he : ∀ x, x ∈ xs ↔ x ∈ ys) : Norm key ys l :=
 ⟨h.asc, fun x hx => (he x).1 (h.sub x hx), fun x hx => h.all x ((he x).2 hx)⟩
def WAsc (l : List α) : Prop := l.Pairwise fun x y => lessS (key y) (key x) = false
theorem A1u {a b c : ByteArray} (h1 : lessS a b = true) (h2 : lessS c b = false) : lessS a c = true := by
 cases h3 : lessS a c with
 | true => rfl
 | false =>
  cases h4 : lessS c a with
  | true => rw [Aqb h4 h1] at h2; cases h2
  | false => obtain rfl := Av5 h3 h4; rw [h1] at h2; cases h2
theorem A9e {a b c : ByteArray} (h1 : lessS b a = false) (h2 : lessS c b = false) : lessS c a = false := by
 cases h : lessS c a with
 | false => rfl
 | true => have := A1u h h1; rw [this] at h2; cases h2
theorem A3p (x : α) : ∀ L R : List α, WAsc key (L.reverse ++ R) → (∀ y ∈ R, lessS (key x) (key y) = true) → WAsc key (insR (Abq key) x L R)
 | [], R, h, hR => by
  simp only [insR, WAsc]
  exact List.pairwise_cons.2 ⟨fun y hy => Auv (hR y hy), by simpa [WAsc] using h⟩
 | y :: L, R, h, hR => by
  cases hc : Abq key x y with
  | true =>
   rw [Avc hc]
   refine A3p x L (y :: R) (by rw [List.reverse_cons, List.append_assoc] at h; exact h) (fun z hz => ?_)
   rcases List.mem_cons.1 hz with rfl | hz
   ·exact hc
   ·exact hR z hz
  | false =>
   rw [Avd hc]
   have hc' : lessS (key x) (key y) = false := hc
   unfold WAsc at h ⊢
   rw [List.pairwise_append] at h ⊢
   obtain ⟨h1, h2, h3⟩ := h
   refine ⟨h1, List.pairwise_cons.2 ⟨fun z hz => Auv (hR z hz), h2⟩, fun a ha b hb => ?_⟩
   rcases List.mem_cons.1 hb with rfl | hb
   ·rw [List.mem_reverse] at ha
    rcases List.mem_cons.1 ha with rfl | ha
    ·exact hc'
    ·rw [List.reverse_cons, List.pairwise_append] at h1
     exact A9e (h1.2.2 a (List.mem_reverse.2 ha) y (by simp)) hc'
   ·exact h3 a ha b hb
theorem Azv : ∀ (n : Nat) (xs : List α), xs.length = n → WAsc key (sortI (Abq key) xs)
 | 0, xs, h => by
  rw [List.length_eq_zero_iff.1 h]; exact List.Pairwise.nil
 | n + 1, xs, h => by
  rcases List.eq_nil_or_concat xs with rfl | ⟨ys, x, rfl⟩
  ·exact List.Pairwise.nil
  ·rw [List.concat_eq_append] at *
   have ih := Azv n ys (by simpa using h)
   rw [Ant]
   exact A3p key x _ [] (by rw [List.reverse_reverse, List.append_nil]; exact ih) (fun y hy => by cases hy)
def Ag0 : α → List α → List α
 | _, [] => []
 | p, y :: r => if key y = key p then Ag0 y r else y :: Ag0 y r
def Ag1 : List α → List α
 | [] => []
 | x :: r => x :: Ag0 key x r
theorem Aru : ∀ (p : α) (r : List α), ∀ z ∈ Ag0 key p r, z ∈ r
 | p, [], z, h => by cases h
 | p, y :: r, z, h => by
  rw [Ag0] at h
  split at h
  ·exact List.mem_cons_of_mem _ (Aru y r z h)
  ·rcases List.mem_cons.1 h with rfl | h
   ·exact List.mem_cons_self ..
   ·exact List.mem_cons_of_mem _ (Aru y r z h)
theorem compactA_all : ∀ (p : α) (r : List α), ∀ x ∈ r, key x = key p ∨ ∃ y ∈ Ag0 key p r, key y = key x
 | p, [], x, h => by cases h
 | p, y :: r, x, h => by
  rw [Ag0]
  split
  ·rename_i he
   rcases List.mem_cons.1 h with rfl | h
   ·exact .inl he
   ·rcases compactA_all y r x h with h | h
    ·exact .inl (h.trans he)
    ·exact .inr h
  ·rcases List.mem_cons.1 h with rfl | h
   ·exact .inr ⟨x, List.mem_cons_self .., rfl⟩
   ·rcases compactA_all y r x h with h | ⟨z, hz, he⟩
    ·exact .inr ⟨y, List.mem_cons_self .., h.symm⟩
    ·exact .inr ⟨z, List.mem_cons_of_mem _ hz, he⟩
theorem Avf : ∀ (p : α) (r : List α), WAsc key (p :: r) → Asc key (p :: Ag0 key p r)
 | p, [], h => by simp [Ag0, Asc]
 | p, y :: r, h => by
  unfold WAsc at h
  rw [List.pairwise_cons] at h
  have ih := Avf y r h.2
  have hy := h.1 y (List.mem_cons_self ..)
  unfold Asc at ih ⊢
  rw [List.pairwise_cons] at ih
  rw [Ag0]
  split
  ·rename_i he
   exact List.pairwise_cons.2 ⟨fun z hz => by rw [← he]; exact ih.1 z hz, ih.2⟩
  ·rename_i he
   have hpy : lessS (key p) (key y) = true := by
    cases hc : lessS (key p) (key y) with
    | true => rfl
    | false => exact absurd (Av5 hy hc) he
   refine List.pairwise_cons.2 ⟨fun z hz => ?_, List.pairwise_cons.2 ih⟩
   rcases List.mem_cons.1 hz with rfl | hz
   ·exact hpy
   ·exact Aqb hpy (ih.1 z hz)
theorem Avg (xs : List α) : Norm key xs (Ag1 key (sortI (Abq key) xs)) := by
 have hw := Azv key _ xs rfl
 have hp := Ags (Abq key) xs
 cases hs : sortI (Abq key) xs with
 | nil =>
  rw [hs] at hp
  have : xs = [] := List.length_eq_zero_iff.1 hp.length_eq.symm
  subst this
  exact ⟨List.Pairwise.nil, fun x hx => (by cases hx), fun x hx => (by cases hx)⟩
 | cons p r =>
  rw [hs] at hw hp
  refine ⟨Avf key p r hw, fun x hx => ?_, fun x hx => ?_⟩
  ·refine hp.mem_iff.1 ?_
   rcases List.mem_cons.1 hx with rfl | hx
   ·exact List.mem_cons_self ..
   ·exact List.mem_cons_of_mem _ (Aru key p r x hx)
  ·rcases List.mem_cons.1 (hp.mem_iff.2 hx) with rfl | hx
   ·exact ⟨x, List.mem_cons_self .., rfl⟩
   ·rcases compactA_all key p r x hx with h | ⟨y, hy, he⟩
    ·exact ⟨p, List.mem_cons_self .., h.symm⟩
    ·exact ⟨y, List.mem_cons_of_mem _ hy, he⟩
theorem Axh (xs : List α) (hd : (xs.map key).Nodup) : Norm key xs (sortI (Abq key) xs) := by
 have hp := Ags (Abq key) xs
 exact ⟨A3l key _ xs rfl hd, fun x hx => hp.mem_iff.1 hx, fun x hx => ⟨x, hp.mem_iff.2 hx, rfl⟩⟩
theorem Axi {xs : List α} (hd : (xs.map key).Nodup) : ∀ x ∈ xs, ∀ y ∈ xs, key x = key y → x = y := by
 intro x hx y hy he
 unfold List.Nodup at hd
 rw [List.pairwise_map] at hd
 by_cases h : x = y
 ·exact h
 ·exfalso
  induction xs with
  | nil => cases hx
  | cons z xs ih =>
   rw [List.pairwise_cons] at hd
   rcases List.mem_cons.1 hx with rfl | hx'
   ·rcases List.mem_cons.1 hy with rfl | hy'
    ·exact h rfl
    ·exact hd.1 y hy' he
   ·rcases List.mem_cons.1 hy with rfl | hy'
    ·exact hd.1 x hx' he.symm
    ·exact ih hd.2 hx' hy'
theorem Arv (l : List ByteArray) : ∀ i, i ≤ l.length → ∀ k, k ∈ placesTo l i ↔ k < i ∧ hasS (l.take k) (atS l k) = false
 | 0, _, k => by simp [placesTo]
 | i + 1, hi, k => by
  rw [Ano]
  unfold stepP
  have ih := Arv l i (by omega)
  split
  ·rename_i h
   rw [ih k]
   constructor
   ·rintro ⟨h1, h2⟩; exact ⟨by omega, h2⟩
   ·rintro ⟨h1, h2⟩
    refine ⟨?_, h2⟩
    rcases Nat.lt_or_ge k i with h3 | h3
    ·exact h3
    ·obtain rfl : k = i := by omega
     rw [h] at h2; cases h2
  ·rename_i h
   rw [insL_mem, ih k]
   constructor
   ·rintro (rfl | ⟨h1, h2⟩)
    ·exact ⟨by omega, by simpa using h⟩
    ·exact ⟨by omega, h2⟩
   ·rintro ⟨h1, h2⟩
    rcases Nat.lt_or_ge k i with h3 | h3
    ·exact .inr ⟨h3, h2⟩
    ·exact .inl (by omega)
theorem Avh (l : List ByteArray) : ∀ i, i ≤ l.length → Asc (atS l) (placesTo l i)
 | 0, _ => by simp [placesTo, Asc]
 | i + 1, hi => by
  rw [Ano]
  unfold stepP
  have ih := Avh l i (by omega)
  split
  ·exact ih
  ·rename_i h
   refine insL_asc (atS l) i _ ih ?_
   simp only [hasK, List.any_eq_false, decide_eq_true_eq]
   intro k hk he
   apply h
   have hk' := ((Arv l i (by omega) k).1 hk).1
   unfold hasS
   rw [List.any_eq_true]
   refine ⟨atS l k, List.mem_of_getElem? (i := k) ?_, by simpa using he⟩
   rw [List.getElem?_take, if_pos hk', A3m (by omega)]
def pick (d : α) (xs : List α) (ps : List Nat) : List α := ps.map fun k => xs.getD k d
theorem key_at {d : α} {xs : List α} {k : Nat} (h : k < xs.length) : key (xs.getD k d) = atS (xs.map key) k := by
 unfold atS
 rw [List.getD_eq_getElem?_getD, List.getD_eq_getElem?_getD, List.getElem?_map, List.getElem?_eq_getElem h]
 rfl
theorem Aqx (d : α) (xs : List α) : Norm key xs (pick d xs (placesTo (xs.map key) xs.length)) := by
 have hl : xs.length ≤ (xs.map key).length := by simp
 have hm := Arv (xs.map key) xs.length hl
 refine ⟨?_, fun x hx => ?_, fun x hx => ?_⟩
 ·unfold Asc pick
  rw [List.pairwise_map]
  refine List.Pairwise.imp_of_mem ?_ (Avh (xs.map key) xs.length hl)
  intro a b ha hb h
  rw [key_at key ((hm a).1 ha).1, key_at key ((hm b).1 hb).1]
  exact h
 ·obtain ⟨k, hk, rfl⟩ := List.mem_map.1 hx
  have := ((hm k).1 hk).1
  rw [List.getD_eq_getElem?_getD, List.getElem?_eq_getElem this]
  exact List.getElem_mem ..
 ·obtain ⟨n, hn, rfl⟩ := List.getElem_of_mem hx
  have key2 : ∀ n, n < xs.length → ∃ k ∈ placesTo (xs.map key) xs.length, atS (xs.map key) k = atS (xs.map key) n := by
   intro n
   induction n using Nat.strongRecOn with
   | _ n ih =>
    intro hn
    cases hh : hasS ((xs.map key).take n) (atS (xs.map key) n) with
    | false => exact ⟨n, (hm n).2 ⟨hn, hh⟩, rfl⟩
    | true =>
     unfold hasS at hh
     rw [List.any_eq_true] at hh
     obtain ⟨y, hy, he⟩ := hh
     obtain ⟨j, hj, rfl⟩ := List.getElem_of_mem hy
     have hjn : j < n := by rw [List.length_take] at hj; omega
     obtain ⟨k, hk, e⟩ := ih j hjn (by omega)
     refine ⟨k, hk, e.trans ?_⟩
     have he : ((xs.map key).take n)[j] = atS (xs.map key) n := by simpa using he
     rw [← he, List.getElem_take]
     unfold atS
     rw [List.getD_eq_getElem?_getD, List.getElem?_eq_getElem (by simp; omega)]
     rfl
  obtain ⟨k, hk, e⟩ := key2 n hn
  refine ⟨xs.getD k d, List.mem_map.2 ⟨k, hk, rfl⟩, ?_⟩
  rw [key_at key ((hm k).1 hk).1, e, ← key_at (d := d) key hn, List.getD_eq_getElem?_getD, List.getElem?_eq_getElem hn]
  rfl
end
end Go.PL
namespace Go.PL
def InhOK (x : Inhibit) : Prop := Al3 x ∧ Adh x = true
def cmpQ (x y : Inhibit) : Int := Lib.compareBytes (Aau x).data.toList (Aau y).data.toList
theorem Bbg (a b : Inhibit) : decide (cmpQ a b < 0) = Abq Aau a b := Ao5 _ _
theorem Axj (x y : Inhibit) (b : Bool) (hx : InhOK x) (hy : InhOK y) : Aea std x y b = some (cmpQ x y, b) := by
 unfold Aea strings_Compare
 rw [config_quiet_eq b x hx.1 hx.2, bd_some, config_quiet_eq b y hy.1 hy.2, bd_some, bd_some]
 rfl
theorem Azw (x y : Inhibit) (b : Bool) (hx : InhOK x) (hy : InhOK y) : Ahe std x y b = some (decide (Aau x = Aau y), b) := by
 unfold Ahe
 rw [config_quiet_eq b x hx.1 hx.2, bd_some, config_quiet_eq b y hy.1 hy.2, bd_some, s_seql]
theorem Axk (b : Bool) (n i : Nat) (hn : n ≤ 1000) (hi : i ≤ 1000) : ∀ (L R : List Inhibit) (x : Inhibit), (∀ y ∈ L, InhOK y) → InhOK x → (L.reverse ++ x :: R).length = n →
  Loop (Aak std (n : Int) 0 (i : Int)) ((L.length : Int), b, L.reverse ++ x :: R) = some (.inl (((i + 1 : Nat) : Int), b, insR (Abq Aau) x L R))
 | [], R, x, hL, hx, hl => by
  rw [Acg]
  have hB : Aak std (n : Int) 0 (i : Int) ((([] : List Inhibit).length : Int), b, ([] : List Inhibit).reverse ++ x :: R) = some (.inr (.inl (((i + 1 : Nat) : Int), b, x :: R))) := by
   unfold Aak
   simp only [List.length_nil, List.reverse_nil, List.nil_append]
   rw [show std.cmp .gtr ((0 : Nat) : Int) 0 = false from rfl, br_false, show std.and false false = false from rfl, br_false, s_add, wrap_succ (n := 1001) (by omega) (by unfold big63; omega)]
   rfl
  rw [hB]
  rfl
 | y :: L, R, x, hL, hx, hl => by
  rw [Acg]
  have hlen : (y :: L).length + 1 ≤ n := by simp at hl ⊢; omega
  have hj : L.length + 1 < n := by simp only [List.length_cons] at hlen; omega
  have g1 : std.cmp .gtr (((y :: L).length : Nat) : Int) 0 = true := by rw [s_gtr]; exact decide_eq_true (by simp only [List.length_cons]; omega)
  have e1 : std.ar .sub .i64 (((y :: L).length : Nat) : Int) 1 = (L.length : Int) := by rw [prevI (by simp) (by unfold big63; simp only [List.length_cons]; omega)]; simp
  have p0 : ∀ k : Nat, std.pl 0 (k : Int) = (k : Int) := fun k => by rw [s_pl]; omega
  have ax := Aab (t := TyS.inhibit) (Azn (y :: L) R x)
  have ay := Aab (t := TyS.inhibit) (At3 L R x y)
  have hrl : std.len TyS.inhibit ((y :: L).reverse ++ x :: R) = (n : Int) := by rw [Aaa, hl]
  have hB : Aak std (n : Int) 0 (i : Int) (((y :: L).length : Int), b, (y :: L).reverse ++ x :: R) = some (if Abq Aau x y = true then .inl ((L.length : Int), b, L.reverse ++ x :: y :: R) else .inr (.inl (((i + 1 : Nat) : Int), b, (y :: L).reverse ++ x :: R))) := by
   unfold Aak
   simp only
   rw [g1, br_true, e1, p0, p0, hrl]
   rw [ck_t (inbT (by simp only [List.length_cons]; omega)), ck_t (inbT (by simp only [List.length_cons]; omega)), ck_t (inbT (by omega)), ck_t (inbT (by omega)), ax, ay, Axj x y b hx (hL y (List.mem_cons_self ..)), bd_some, s_land, Bool.true_and, s_lss, Bbg]
   have hs : std.len TyS.inhibit (std.set TyS.inhibit ((y :: L).reverse ++ x :: R) (((y :: L).length : Nat) : Int) y) = (n : Int) := by
    rw [s_set, Aaa, List.length_set, hl]
   cases hc : Abq Aau x y with
   | true =>
    rw [br_true, if_pos rfl, hs, ck_t (inbT (by omega)), s_set, s_set, Int.toNat_natCast, Int.toNat_natCast]
    have := Av6 L R x y
    exact congrArg (fun r => some (Sum.inl ((L.length : Int), b, r))) this
   | false =>
    rw [br_false, if_neg (by simp), s_add, wrap_succ (n := 1001) (by omega) (by unfold big63; omega)]
    rfl
  rw [hB]
  cases hc : Abq Aau x y with
  | true =>
   rw [if_pos rfl, Avc hc]
   exact Axk b n i hn hi L (y :: R) x (fun z hz => hL z (List.mem_cons_of_mem _ hz)) hx (by rw [← hl]; simp)
  | false => rw [if_neg (by simp), Avd hc]
theorem A3q (b : Bool) (xs : List Inhibit) (hn : xs.length ≤ 1000) (hP : ∀ x ∈ xs, InhOK x) :
  Aat std xs (xs.length : Int) 0 (xs.length : Int) b = some (sortI (Abq Aau) xs, b) := by
 unfold Aat
 rw [show std.ar .add .i64 0 1 = ((1 : Nat) : Int) from rfl]
 cases xs with
 | nil => rw [Acg]; rfl
 | cons x0 ys =>
  generalize hxs : x0 :: ys = xs at hn hP
  have h1 : 1 ≤ xs.length := by rw [← hxs]; simp
  have hstart : xs = sortI (Abq Aau) (xs.take 1) ++ xs.drop 1 := by rw [← hxs]; rfl
  have := Aht (B := Abn std (xs.length : Int) 0 (xs.length : Int)) (fun i (_ : Unit) => ((i : Int), b, sortI (Abq Aau) (xs.take i) ++ xs.drop i)) xs (fun _ _ (_ : Unit) => (.inl () : Unit ⊕ (List Inhibit × Bool))) (fun _ => (sortI (Abq Aau) xs, b)) (fun _ _ => True)
   (fun i x u hx _ => by
    have hi := Agh hx
    refine ⟨fun s' _ => ⟨?_, trivial⟩, fun e he => by cases he⟩
    obtain ⟨x', hx', _, hd, ht⟩ := i_at (xs := xs) (i := i) hi
    rw [hx] at hx'; cases hx'
    unfold Abn
    simp only
    rw [lssT hi, br_true]
    have hlen : (sortI (Abq Aau) (xs.take i)).reverse.length = i := by rw [List.length_reverse, Aen, List.length_take]; omega
    have := Axk b xs.length i hn (by omega) (sortI (Abq Aau) (xs.take i)).reverse (xs.drop (i + 1)) x (fun y hy => by
     rw [List.mem_reverse] at hy
     exact hP y (List.mem_of_mem_take ((Ags _ _).mem_iff.1 hy))) (hP x (Abl hx)) (by
     rw [List.reverse_reverse, ← hd, List.length_append, Aen, List.length_take, List.length_drop]; omega)
    rw [hlen, List.reverse_reverse, ← hd] at this
    rw [this, ht, Ant, Aqc])
   (fun s _ => by
    unfold Abn
    simp only
    rw [lssF, br_false, List.take_length, List.drop_length, List.append_nil]
    rfl) 1 h1 () trivial
  rw [← hstart] at this
  refine this.trans (congrArg some ?_)
  have key : ∀ (l : List Inhibit) (i : Nat), runL (fun _ _ (_ : Unit) => (.inl () : Unit ⊕ (List Inhibit × Bool))) (fun _ => (sortI (Abq Aau) xs, b)) i l () = (sortI (Abq Aau) xs, b) := by
   intro l
   induction l with
   | nil => intro i; rfl
   | cons x xs ih => intro i; exact ih (i + 1)
  exact key _ _
theorem stable_Inhibit (b : Bool) (xs : List Inhibit) (hn : xs.length < 20) (hP : ∀ x ∈ xs, InhOK x) :
  Aco std xs (xs.length : Int) (xs.length : Int) b = some (sortI (Abq Aau) xs, b) := by
 unfold Aco
 have hB : Afb std (xs.length : Int) (xs.length : Int) (0, 20, b, xs) = some (.inr (sortI (Abq Aau) xs, b)) := by
  unfold Afb
  simp only
  rw [show std.cmp .leq 20 (xs.length : Int) = false by rw [s_leq]; exact decide_eq_false (by omega), br_false, A3q b xs (by omega) hP, bd_some, Acg]
  have h2 : Afa std (xs.length : Int) (sortI (Abq Aau) xs, b) 20 = some (.inr (sortI (Abq Aau) xs, b)) := by
   unfold Afa
   simp only
   rw [show std.cmp .lss 20 (xs.length : Int) = false by rw [s_lss]; exact decide_eq_false (by omega), br_false]
   rfl
  rw [h2]
  rfl
 rw [Acg, hB]
theorem A1v (xs : List Inhibit) (h : xs.length ≤ 1000) : Acn std xs = some ((xs.length : Int), xs) := by
 unfold Acn
 have e : ∀ k : Nat, k ≤ 1000 → std.appOk TyS.inhibit k [] xs := fun k hk => ⟨by have := Nat.mul_le_mul (show ([] : List (U TyS.inhibit)).length + xs.length ≤ 1000 by simpa using h) hk; omega, by simp; omega⟩
 rw [A57 (fun hc => by
  have h0 : xs = [] := by
   rw [s_eql, Aaa] at hc
   have : xs.length = 0 := by simpa using hc
   exact List.length_eq_zero_iff.1 this
  subst h0
  rw [ck_t (e _ (by decide))]
  rfl), ck_t (e _ (by decide))]
 rfl
theorem Ayy (b : Bool) (xs : List Inhibit) (h : xs.length < 20) (hP : ∀ x ∈ xs, InhOK x) : Afs std xs b = some ((xs.length : Int), sortI (Abq Aau) xs, b) := by
 unfold Afs Abt
 rw [A1v xs (by omega), bd_some]
 simp only
 rw [stable_Inhibit b xs h hP, bd_some, bd_some]
theorem At4 {α : Type} (key : α → ByteArray) (z : α) : ∀ (p : α) (r : List α), Ag0 key p (r ++ [z]) = Ag0 key p r ++ (if key z = key ((p :: r).getLast (by simp)) then [] else [z])
 | p, [] => by
  simp only [List.nil_append, Ag0, List.getLast_singleton]
  by_cases h : key z = key p <;> simp [h]
 | p, y :: r => by
  rw [List.cons_append, Ag0, Ag0, At4 key z y r]
  have : (p :: y :: r).getLast (by simp) = (y :: r).getLast (by simp) := by rw [List.getLast_cons]
  rw [this]
  split
  iterate 2 (rfl)
theorem A1w {α : Type} (key : α → ByteArray) {xs : List α} {m : Nat} {y z : α} (hy : xs[m]? = some y) (hz : xs[m + 1]? = some z) : Ag1 key (xs.take (m + 2)) = Ag1 key (xs.take (m + 1)) ++ (if key z = key y then [] else [z]) := by
 rw [take_snoc hz]
 have h1 := take_snoc hy
 cases hc : xs.take (m + 1) with
 | nil => rw [hc] at h1; simp at h1
 | cons p r =>
  rw [List.cons_append, Ag1, Ag1, At4, List.cons_append]
  have : (p :: r).getLast (by simp) = y := by
   have h2 : (p :: r) = xs.take m ++ [y] := by rw [← hc, h1]
   simp only [h2]
   exact List.getLast_concat
  rw [this]
theorem Avi {α : Type} (key : α → ByteArray) : ∀ (p : α) (r : List α), (Ag0 key p r).length ≤ r.length
 | p, [] => Nat.le_refl _
 | p, y :: r => by
  rw [Ag0]
  have := Avi key y r
  split
  iterate 2 (simp only [List.length_cons]; omega)
theorem Arw {α : Type} (key : α → ByteArray) : ∀ (r : List α), (Ag1 key r).length ≤ r.length
 | [] => Nat.le_refl _
 | y :: r => by
  have := Avi key y r
  simp only [Ag1, List.length_cons]; omega
abbrev cQ (xs : List Inhibit) (m : Nat) : List Inhibit := Ag1 Aau (xs.take m)
theorem A9f {xs : List Inhibit} {m : Nat} {y z : Inhibit} (h1 : 1 ≤ m) (hy : xs[m - 1]? = some y) (hz : xs[m]? = some z) : cQ xs (m + 1) = cQ xs m ++ (if Aau z = Aau y then [] else [z]) := by
 obtain ⟨k, rfl⟩ : ∃ k, m = k + 1 := ⟨m - 1, by omega⟩
 exact A1w Aau hy hz
theorem Bbw (xs : List Inhibit) (m : Nat) : (cQ xs m).length ≤ m := by
 have h1 := Arw Aau (xs.take m)
 have h2 : (xs.take m).length ≤ m := by rw [List.length_take]; omega
 exact Nat.le_trans h1 h2
theorem Ba0 {α : Type} (C xs : List α) {i : Nat} (h : C.length ≤ i) : (C ++ xs.drop C.length)[i]? = xs[i]? := by
 rw [List.getElem?_append_right h, List.getElem?_drop]
 congr 1; omega
theorem mix_len {α : Type} (C xs : List α) (h : C.length ≤ xs.length) : (C ++ xs.drop C.length).length = xs.length := by
 rw [List.length_append, List.length_drop]; omega
theorem Bbh {α : Type} (C xs : List α) (z : α) (h : C.length < xs.length) : (C ++ xs.drop C.length).set C.length z = (C ++ [z]) ++ xs.drop (C ++ [z]).length := by
 rw [List.drop_eq_getElem_cons h, List.set_append_right _ _ (Nat.le_refl _), Nat.sub_self, List.set_cons_zero]
 simp
theorem A1x (b : Bool) (xs : List Inhibit) (hn : xs.length ≤ 1000) (hP : ∀ x ∈ xs, InhOK x) (k : Nat) (h1 : 1 ≤ k) (hk : k < xs.length) (hc : cQ xs (k + 1) = xs.take k) :
  ∃ row, Loop (Aan std (xs.length : Int) (k : Int)) ((k : Int), 1, b, xs) = some (.inr (0, ((cQ xs xs.length).length : Int), row, b)) ∧ row.take (cQ xs xs.length).length = cQ xs xs.length ∧ row.length = xs.length := by
 have pk : ∀ j : Nat, std.pl (std.pl 0 (k : Int)) (j : Int) = ((k + j : Nat) : Int) := fun j => by rw [s_pl, s_pl]; omega
 have p0 : ∀ j : Nat, std.pl 0 (j : Int) = (j : Int) := fun j => by rw [s_pl]; omega
 have mk : ∀ j : Nat, j ≤ xs.length → std.mi (xs.length : Int) (j : Int) = ((xs.length - j : Nat) : Int) := fun j hj => by rw [s_mi]; omega
 have hl : (cQ xs xs.length).length ≤ xs.length := Bbw xs _
 have := Aht (B := Aan std (xs.length : Int) (k : Int)) (fun m (_ : Unit) => (((cQ xs m).length : Int), ((m - k : Nat) : Int), b, cQ xs m ++ xs.drop (cQ xs m).length)) xs (fun _ _ (_ : Unit) => (.inl () : Unit ⊕ ((Int × Bool) ⊕ (Int × Int × List Inhibit × Bool))))
  (fun _ => .inr (0, ((cQ xs xs.length).length : Int), std.fill TyS.inhibit (cQ xs xs.length ++ xs.drop (cQ xs xs.length).length) ((cQ xs xs.length).length : Int) ((xs.length - (cQ xs xs.length).length : Nat) : Int) (Inhibit.mk [] [] []), b)) (fun m _ => k + 1 ≤ m ∧ (cQ xs m).length + 1 ≤ m)
  (fun m z u hz ⟨hm1, hm2⟩ => by
   have hm := Agh hz
   obtain ⟨y, hy⟩ := Ale (xs := xs) (i := m - 1) (by omega)
   have hs := A9f (by omega) hy hz
   refine ⟨fun s' _ => ⟨?_, by omega, ?_⟩, fun e he => by cases he⟩
   ·unfold Aan
    simp only
    generalize hC : cQ xs m = C at hm2 hs
    have hrow : (C ++ xs.drop C.length).length = xs.length := mix_len C xs (by omega)
    have e1 : std.ar .sub .i64 ((m - k : Nat) : Int) 1 = ((m - k - 1 : Nat) : Int) := prevI (by omega) (by unfold big63; omega)
    rw [mk k (by omega), show std.cmp .lss ((m - k : Nat) : Int) ((xs.length - k : Nat) : Int) = true by rw [s_lss]; exact decide_eq_true (by omega), br_true, e1, pk, pk, Aaa, hrow, show k + (m - k) = m by omega, show k + (m - k - 1) = m - 1 by omega, p0]
    rw [ck_t (inbT (by omega)), ck_t (inbT (by omega)), ck_t (inbT (by omega)), ck_t (inbT (by omega)), Aab (t := TyS.inhibit) ((Ba0 C xs (by omega)).trans hz), Aab (t := TyS.inhibit) ((Ba0 C xs (by omega)).trans hy), Azw z y b (hP z (Abl hz)) (hP y (Abl hy)), bd_some]
    simp only
    rw [show std.ar .add .i64 ((m - k : Nat) : Int) 1 = ((m + 1 - k : Nat) : Int) by rw [s_add, wrap_succ (n := 1001) (by omega) (by unfold big63; omega)]; congr 1; omega]
    rw [hs]
    by_cases he : Aau z = Aau y
    ·rw [decide_eq_true he, if_pos he, List.append_nil, s_not, Bool.not_true, br_false]
    ·rw [decide_eq_false he, if_neg he, s_not, Bool.not_false, br_true, ck_t (inbT (by omega)), ck_t (inbT (by omega)), s_set, Int.toNat_natCast, Bbh C xs z (by omega), s_add, wrap_succ (n := 1001) (by omega) (by unfold big63; omega), List.length_append, List.length_singleton]
   ·rw [hs, List.length_append]
    split <;> simp <;> omega)
  (fun s ⟨hm1, hm2⟩ => by
   unfold Aan
   simp only
   have hrow : (cQ xs xs.length ++ xs.drop (cQ xs xs.length).length).length = xs.length := mix_len _ xs hl
   rw [mk k (by omega), show std.cmp .lss ((xs.length - k : Nat) : Int) ((xs.length - k : Nat) : Int) = false from lssF, br_false, mk _ hl, p0, Aaa, hrow, show std.pl ((cQ xs xs.length).length : Int) ((xs.length - (cQ xs xs.length).length : Nat) : Int) = (xs.length : Int) by rw [s_pl]; omega]
   rw [ck_t (show std.subOk ((cQ xs xs.length).length : Int) (xs.length : Int) (xs.length : Int) from ⟨by omega, by omega, by omega⟩), ck_t (show std.subOk ((cQ xs xs.length).length : Int) (xs.length : Int) (xs.length : Int) from ⟨by omega, by omega, by omega⟩), ck_t (show std.subOk 0 ((cQ xs xs.length).length : Int) (xs.length : Int) from ⟨by omega, by omega, by omega⟩)]
   rw [show std.pl 0 0 = 0 from rfl, show std.mi ((cQ xs xs.length).length : Int) 0 = ((cQ xs xs.length).length : Int) by rw [s_mi]; omega]
   rfl) (k + 1) (by omega) () ⟨Nat.le_refl _, by rw [hc, List.length_take]; omega⟩
 have hstart : (((cQ xs (k + 1)).length : Int), ((k + 1 - k : Nat) : Int), b, cQ xs (k + 1) ++ xs.drop (cQ xs (k + 1)).length) = ((k : Int), 1, b, xs) := by
  rw [hc]
  have : (xs.take k).length = k := by rw [List.length_take]; omega
  rw [this, List.take_append_drop, show k + 1 - k = 1 by omega]
  rfl
 rw [hstart] at this
 have key : ∀ (R : (Int × Bool) ⊕ (Int × Int × List Inhibit × Bool)) (l : List Inhibit) (i : Nat), runL (fun _ _ (_ : Unit) => (.inl () : Unit ⊕ ((Int × Bool) ⊕ (Int × Int × List Inhibit × Bool)))) (fun _ => R) i l () = R := by
  intro R l
  induction l with
  | nil => intro i; rfl
  | cons x xs ih => intro i; exact ih (i + 1)
 rw [key] at this
 refine ⟨_, this, ?_, ?_⟩
 ·rw [s_fill, Int.toNat_natCast, List.append_assoc, List.take_append_of_le_length (by rw [List.length_take, mix_len _ xs hl]; omega), List.take_take, Nat.min_self, List.take_append_of_le_length (Nat.le_refl _), List.take_length]
 ·rw [s_fill, Int.toNat_natCast, Int.toNat_natCast, List.length_append, List.length_append, List.length_take, List.length_drop, List.length_replicate, mix_len _ xs hl]
  omega
theorem At5 (b : Bool) (xs : List Inhibit) (hn : xs.length ≤ 1000) (hP : ∀ x ∈ xs, InhOK x) : ∀ (d i : Nat), 1 ≤ i → i + d = xs.length → cQ xs i = xs.take i →
  ∃ row, Loop (Aa2 std xs (xs.length : Int)) ((i : Int), b) = some (0, ((cQ xs xs.length).length : Int), row, b) ∧ row.take (cQ xs xs.length).length = cQ xs xs.length ∧ row.length = xs.length
 | 0, i, h1, hi, hc => by
  obtain rfl : i = xs.length := by omega
  rw [hc, List.take_length]
  refine ⟨xs, ?_, List.take_length, rfl⟩
  rw [Acg]
  unfold Aa2
  simp only
  rw [lssF, br_false]
  rfl
 | d + 1, i, h1, hi, hc => by
  have hlt : i < xs.length := by omega
  obtain ⟨z, hz⟩ := Ale hlt
  obtain ⟨y, hy⟩ := Ale (xs := xs) (i := i - 1) (by omega)
  have hs := A9f h1 hy hz
  have p0 : ∀ j : Nat, std.pl 0 (j : Int) = (j : Int) := fun j => by rw [s_pl]; omega
  have hB : Aa2 std xs (xs.length : Int) ((i : Int), b) = br (decide (Aau z = Aau y)) (Loop (Aan std (xs.length : Int) (i : Int)) ((i : Int), 1, b, xs)) (some (.inl (((i + 1 : Nat) : Int), b))) := by
   unfold Aa2
   simp only
   rw [lssT hlt, br_true, prevI h1 (by unfold big63; omega), p0, p0, Aaa, ck_t (inbT hlt), ck_t (inbT hlt), ck_t (inbT (by omega)), ck_t (inbT (by omega)), Aab (t := TyS.inhibit) hz, Aab (t := TyS.inhibit) hy, Azw z y b (hP z (Abl hz)) (hP y (Abl hy)), bd_some]
   simp only
   rw [ck_t (show std.subOk (i : Int) (xs.length : Int) (xs.length : Int) from ⟨by omega, by omega, by omega⟩), s_add, wrap_succ (n := 1001) (by omega) (by unfold big63; omega)]
  rw [Acg, hB]
  by_cases he : Aau z = Aau y
  ·rw [decide_eq_true he, br_true]
   obtain ⟨row, h2, h3, h4⟩ := A1x b xs hn hP i h1 hlt (by rw [hs, if_pos he, List.append_nil, hc])
   exact ⟨row, by rw [h2], h3, h4⟩
  ·rw [decide_eq_false he, br_false]
   exact At5 b xs hn hP d (i + 1) (by omega) (by omega) (by rw [hs, if_neg he, hc, take_snoc hz])
theorem Axl (b : Bool) (xs : List Inhibit) (hn : xs.length ≤ 1000) (hP : ∀ x ∈ xs, InhOK x) :
  ∃ row, Abe std xs (xs.length : Int) b = some (0, ((Ag1 Aau xs).length : Int), row, b) ∧ row.take (Ag1 Aau xs).length = Ag1 Aau xs ∧ row.length = xs.length := by
 have e : cQ xs xs.length = Ag1 Aau xs := by unfold cQ; rw [List.take_length]
 unfold Abe
 rcases Nat.lt_or_ge xs.length 2 with h2 | h2
 ·rw [show std.cmp .lss (xs.length : Int) 2 = true by rw [s_lss]; exact decide_eq_true (by omega), br_true]
  have : Ag1 Aau xs = xs := by
   match xs, h2 with
   | [], _ => rfl
   | [x], _ => rfl
   | x :: y :: r, h2 => simp only [List.length_cons] at h2; omega
  rw [this]
  exact ⟨xs, rfl, List.take_length, rfl⟩
 ·rw [show std.cmp .lss (xs.length : Int) 2 = false by rw [s_lss]; exact decide_eq_false (by omega), br_false]
  have := At5 b xs hn hP (xs.length - 1) 1 (Nat.le_refl _) (by omega) (by
   match xs, h2 with
   | x :: r, h2 => rfl)
  rw [e] at this
  exact this
open Classical in
noncomputable def eqB {α : Type} (a b : α) : Bool := decide (a = b)
theorem Atd {α : Type} {a b : α} : eqB a b = true ↔ a = b := by unfold eqB; simp
theorem Bai {α : Type} (a : α) : eqB a a = true := Atd.2 rfl
theorem Bbx {α : Type} {a b : α} (h : a ≠ b) : eqB a b = false := by
 cases hc : eqB a b with
 | false => rfl
 | true => exact absurd (Atd.1 hc) h
theorem Bbi (a b : ByteArray) : decide (a = b) = eqB a b := by rw [Bool.eq_iff_iff, Atd]; simp
theorem Ba1 {α : Type} {a b : α} {c : Bool} (h : c = true ↔ a = b) : c = eqB a b := by rw [Bool.eq_iff_iff, Atd]; exact h
theorem A9g {α : Type} (ys : List α) : ∀ (xs : List α) (i : Nat), allI (fun i x => eqB (ys[i]?) (some x)) i xs = true ↔ ∀ j x, xs[j]? = some x → ys[i + j]? = some x
 | [], i => by simp [allI]
 | x :: xs, i => by
  simp only [allI, Bool.and_eq_true, Atd, A9g ys xs (i + 1)]
  constructor
  ·rintro ⟨h1, h2⟩ j y hy
   cases j with
   | zero => cases hy; exact h1
   | succ j => have := h2 j y (by simpa using hy); rwa [show i + 1 + j = i + (j + 1) by omega] at this
  ·intro h
   refine ⟨by simpa using h 0 x rfl, fun j y hy => ?_⟩
   have := h (j + 1) y (by simpa using hy)
   rwa [show i + (j + 1) = i + 1 + j by omega] at this
theorem A9h {α : Type} (xs ys : List α) (hl : xs.length = ys.length) : allI (fun i x => eqB (ys[i]?) (some x)) 0 xs = eqB xs ys := by
 refine Ba1 ?_
 rw [A9g]
 constructor
 ·intro h
  apply List.ext_getElem?
  intro i
  rcases Nat.lt_or_ge i xs.length with hi | hi
  ·obtain ⟨x, hx⟩ := Ale hi
   have := h i x hx
   rw [Nat.zero_add] at this
   rw [hx, this]
  ·rw [List.getElem?_eq_none hi, List.getElem?_eq_none (by omega)]
 ·rintro rfl j x hx
  rw [Nat.zero_add]; exact hx
theorem Bbj {S : Type} {t : Ty} {B : S → Option (S ⊕ Bool)} (enc : Int → S) (xs ys : List (U t)) (hl : xs.length = ys.length) (hb : xs.length ≤ big63) (fin : Bool) (step : Int → Option (S ⊕ Bool)) (out : Option Bool)
  (hB : ∀ i, B (enc i) = br (std.cmp .lss i (std.len t xs)) (ck (std.inb i (std.len t xs)) (ck (std.inb i (std.len t ys)) (step i))) (rt out))
  (hs : ∀ (i : Nat) (x y : U t), xs[i]? = some x → ys[i]? = some y → step i = some (if eqB x y = true then .inl (enc (std.ar .add .i64 i 1)) else .inr false)) (h2 : xs = ys → out = some fin) (h3 : ∃ v, out = some v) : Loop B (enc 0) = some (eqB xs ys && fin) := by
 rw [← A9h xs ys hl]
 refine Acs (t := t) (B := B) enc xs hb _ fin (fun i => ck (std.inb i (std.len t ys)) (step i)) out hB (fun i x hx hi => ?_) (fun ha => h2 ?_) (fun _ => h3)
 ·obtain ⟨y, hy⟩ := Ale (xs := ys) (i := i) (by omega)
  rw [ck_t (show std.inb (i : Int) (std.len t ys) by rw [Aaa]; exact inbT (by omega)), hs i x y hx hy, hy]
  have : eqB (some y) (some x) = eqB x y := (Ba1 (by rw [Atd, Option.some.injEq]; exact ⟨fun h => h.symm, fun h => h.symm⟩)).symm
  rw [this]
 ·rw [A9h xs ys hl] at ha
  exact Atd.1 ha
theorem Bby {α : Type} {xs ys : List α} (h : xs.length ≠ ys.length) : eqB xs ys = false := Bbx fun e => h (by rw [e])
theorem Bbk {t : Ty} (xs ys : List (U t)) : std.cmp .neq (std.len t xs) (std.len t ys) = !decide (xs.length = ys.length) := by
 rw [s_neq, Aaa, Aaa, Bool.eq_iff_iff]
 simp only [bne_iff_ne, ne_eq, Bool.not_eq_true', decide_eq_false_iff_not]
 omega
theorem Baj (a b : ByteArray) : std.scmp .neq a b = !eqB a b := by rw [Azg, ← Bbi]; simp
theorem Bbl {t : Ty} {B : Int → Option (Int ⊕ Bool)} (xs ys : List (U t)) (hb : xs.length ≤ big63) (step : Int → Option (Int ⊕ Bool))
  (hB : ∀ i, B i = br (std.cmp .lss i (std.len t xs)) (ck (std.inb i (std.len t xs)) (ck (std.inb i (std.len t ys)) (step i))) (rt (some true)))
  (hs : ∀ (i : Nat) (x y : U t), xs[i]? = some x → ys[i]? = some y → step i = some (if eqB x y = true then .inl (std.ar .add .i64 i 1) else .inr false)) :
  br (std.cmp .neq (std.len t xs) (std.len t ys)) (some false) (Loop B 0) = some (eqB xs ys) := by
 rw [Bbk]
 by_cases hl : xs.length = ys.length
 ·rw [decide_eq_true hl, Bool.not_true, br_false, Bbj (fun i => i) xs ys hl hb true step (some true) hB hs (fun _ => rfl) ⟨_, rfl⟩, Bool.and_true]
 ·rw [decide_eq_false hl, Bool.not_false, br_true, Bby hl]
theorem Apk (xs ys : List ByteArray) (hb : xs.length ≤ big63) : Adi std xs ys = some (eqB xs ys) := by
 unfold Adi
 refine Bbl (t := TyS.str) (B := Ajz std xs ys) xs ys hb _ (fun i => rfl) (fun i x y hx hy => ?_)
 rw [Aab (t := TyS.str) hx, Aab (t := TyS.str) hy, show std.scmp .neq x y = !eqB x y from Baj x y]
 cases eqB x y <;> rfl
theorem A9i {r : Route} (h : RouteFit r) : fitS r.Receiver ∧ fitL Agr r.Match ∧ fitL fitS r.By ∧ fitL fitS r.Mute ∧ r.Routes.length ≤ big63 ∧ ∀ k ∈ r.Routes, RouteFit k := by
 cases h with
 | mk _ h1 h2 h3 h4 h5 h6 => exact ⟨h1, h2, h3, h4, h5, h6⟩
end Go.PL
namespace Go.PL
def normS (c : Config) : Config := ⟨sortI (Abq (·.Name)) c.Rules, c.Route, sortI (Abq fun x => x) c.Receivers, Ag1 Aau (sortI (Abq Aau) c.Inhibits), sortI (Abq (·.Name)) c.Hours⟩
def A6j : Config := ⟨[], ⟨⟨#[]⟩, [], [], 0, 0, 0, [], false, []⟩, [], [], []⟩
structure ConfigOK (c : Config) : Prop where
 rules : c.Rules.length ≤ 16 ∧ (∀ r ∈ c.Rules, ruleS r = true) ∧ (c.Rules.map (·.Name)).Nodup
 recv : c.Receivers.length ≤ 16 ∧ (∀ r ∈ c.Receivers, wordS r = true) ∧ c.Receivers.Nodup
 inh : c.Inhibits.length ≤ 8 ∧ ∀ x ∈ c.Inhibits, Adh x = true
 hours : c.Hours.length ≤ 8 ∧ (∀ h ∈ c.Hours, hourS h = true) ∧ (c.Hours.map (·.Name)).Nodup
 top : topS c = true
 names : Axa c = true
theorem Aqd {c : Config} (h : Aft c = true) : ConfigOK c := by
 simp only [Aft, Au8, Ar6, Amw, At0, Bool.and_eq_true, decide_eq_true_eq, List.all_eq_true] at h
 obtain ⟨⟨⟨⟨⟨⟨⟨h1, h2⟩, h3⟩, ⟨h4, h5⟩, h6⟩, h7, h8⟩, ⟨h9, h10⟩, h11⟩, h12⟩, h13⟩ := h
 exact ⟨⟨h1, h2, Auw h3⟩, ⟨h4, h5, Auw h6⟩, ⟨h7, h8⟩, ⟨h9, h10, Auw h11⟩, h12, h13⟩
theorem Aq6 (c : Config) (h : Ae6 c) : Ak9 std c = some (cond (Aft c) (normS c, 0) (A6j, 1)) := by
 unfold Ak9
 rw [Aok c h, bd_some, s_not]
 cases hc : Aft c with
 | false => rfl
 | true =>
  have ok := Aqd hc
  have hP : ∀ x ∈ c.Inhibits, InhOK x := fun x hx => ⟨h.2.2.2.1.2 x hx, ok.inh.2 x hx⟩
  have hP' : ∀ x ∈ sortI (Abq Aau) c.Inhibits, InhOK x := fun x hx => hP x ((Ags _ _).mem_iff.1 hx)
  have hl : (sortI (Abq Aau) c.Inhibits).length = c.Inhibits.length := Aen _ _
  obtain ⟨row, h1, h2, h3⟩ := Axl false (sortI (Abq Aau) c.Inhibits) (by rw [hl]; have := ok.inh.1; omega) hP'
  rw [hl] at h1
  have hcl := Arw Aau (sortI (Abq Aau) c.Inhibits)
  rw [Bool.not_true, br_false, A5i c.Rules (fun y0 => Aki std y0) (fun r : Rule => r.Name) (fun _ => rfl) (by have := ok.rules.1; omega), bd_some, A1r c.Receivers (fun y0 => Ahn std y0) (fun x : ByteArray => x) (fun _ => rfl) (by have := ok.recv.1; omega), bd_some, A3k c.Hours (fun y0 => Aiv std y0) (fun r : Hours => r.Name) (fun _ => rfl) (by have := ok.hours.1; omega), bd_some, Ayy false c.Inhibits (by have := ok.inh.1; omega) hP, bd_some]
  simp only
  rw [h1, bd_some]
  simp only
  rw [s_pl, Int.zero_add, Aaa, ck_t (show std.subOk 0 ((Ag1 Aau (sortI (Abq Aau) c.Inhibits)).length : Int) (row.length : Int) from ⟨by omega, by omega, by omega⟩), Atq, Int.toNat_natCast]
  show some (Config.mk _ _ _ (List.drop 0 (row.take (Ag1 Aau (sortI (Abq Aau) c.Inhibits)).length)) _, (0 : Int)) = some (normS c, 0)
  rw [List.drop_zero, h2]
  rfl
theorem At6 {t : Ty} {ε : Type} (d : U t) (B : Int × List (U t) → Option ((Int × List (U t)) ⊕ ε)) (xs : List (U t)) (ps : List Nat) (sz : Nat) (k : List (U t) → Option ε) (e : ε)
  (hB : ∀ j acc, B (j, acc) = br (std.cmp .lss j (std.len TyS.int (castI ps))) (ck (std.inb j (std.len TyS.int (castI ps))) <| ck (std.inb (std.get TyS.int (castI ps) j) (std.len t xs)) <| ck (std.appOk t sz acc [std.get t xs (std.get TyS.int (castI ps) j)]) <| some (.inl (std.ar .add .i64 j 1, std.app t acc [std.get t xs (std.get TyS.int (castI ps) j)]))) (rt (k acc)))
  (hsz : sz ≤ 1000) (hps : ∀ p ∈ ps, p < xs.length) (hl : ps.length ≤ 1000) (hk : k (pick d xs ps) = some e) : Loop B (0, []) = some e := by
 have := Aap (B := B) (fun i (_ : Unit) => ((i : Int), pick d xs (ps.take i))) ps (fun _ _ (_ : Unit) => (.inl () : Unit ⊕ ε)) (fun _ => e) (fun i p u hp hi => by
  have hpx := hps p (Abl hp)
  have hgx : std.get t xs (p : Int) = xs.getD p d := by
   rw [s_get, Int.toNat_natCast, List.getD_eq_getElem?_getD, List.getD_eq_getElem?_getD, List.getElem?_eq_getElem hpx]; rfl
  have hpl : (pick d xs (ps.take i)).length ≤ i := by unfold pick; rw [List.length_map, List.length_take]; omega
  rw [hB, Aqv, lssT hi, br_true, ck_t (inbT hi), A6h hp, Aaa, ck_t (inbT hpx), hgx, ck_t (show std.appOk t sz (pick d xs (ps.take i)) [xs.getD p d] from ⟨by
   have := Nat.mul_le_mul (show (pick d xs (ps.take i)).length + [xs.getD p d].length ≤ 1001 by simp; omega) hsz
   omega, by simp; omega⟩), s_add, wrap_succ (n := 1001) (by omega) (by unfold big63; omega), s_app]
  simp only
  rw [take_snoc hp]
  unfold pick
  rw [List.map_append]
  rfl) (fun _ => by
  rw [hB, Aqv, lssF, br_false, List.take_length, hk]
  rfl) ()
 refine this.trans (congrArg some ?_)
 have key : ∀ (l : List Nat) (i : Nat), runL (fun _ _ (_ : Unit) => (.inl () : Unit ⊕ ε)) (fun _ => e) i l () = e := by
  intro l
  induction l with
  | nil => intro i; rfl
  | cons x xs ih => intro i; exact ih (i + 1)
 exact key _ _
def dRule : Rule := Enc.dflt TyS.rule
def A3r : Hours := Enc.dflt TyS.hours
def dInh : Inhibit := Enc.dflt TyS.inhibit
def dStr : ByteArray := Enc.dflt TyS.str
def normR (c : Config) : Config := ⟨pick dRule c.Rules (placesTo (c.Rules.map (·.Name)) c.Rules.length), c.Route, pick dStr c.Receivers (placesTo c.Receivers c.Receivers.length), pick dInh c.Inhibits (placesTo (c.Inhibits.map Aau) c.Inhibits.length), pick A3r c.Hours (placesTo (c.Hours.map (·.Name)) c.Hours.length)⟩
theorem Bak {c : Config} (ok : ConfigOK c) : normR c = normS c := by
 unfold normR normS
 have h1 : pick dRule c.Rules (placesTo (c.Rules.map (·.Name)) c.Rules.length) = sortI (Abq (·.Name)) c.Rules := Norm.uniq (fun r : Rule => r.Name) (Axi (fun r : Rule => r.Name) ok.rules.2.2) (Aqx _ dRule c.Rules) (Axh _ _ ok.rules.2.2)
 have h2 : pick dStr c.Receivers (placesTo c.Receivers c.Receivers.length) = sortI (Abq fun x => x) c.Receivers := by
  have hd : (c.Receivers.map fun x => x).Nodup := by rw [List.map_id']; exact ok.recv.2.2
  have := Norm.uniq (fun x : ByteArray => x) (Axi (fun x : ByteArray => x) hd) (Aqx (fun x => x) dStr c.Receivers) (Axh _ _ hd)
  rw [List.map_id'] at this
  exact this
 have h3 : pick dInh c.Inhibits (placesTo (c.Inhibits.map Aau) c.Inhibits.length) = Ag1 Aau (sortI (Abq Aau) c.Inhibits) :=
  Norm.uniq Aau (fun x hx y hy he => A7e (ok.inh.2 x hx) (ok.inh.2 y hy) he) (Aqx _ dInh c.Inhibits) (Avg _ _)
 have h4 : pick A3r c.Hours (placesTo (c.Hours.map (·.Name)) c.Hours.length) = sortI (Abq (·.Name)) c.Hours := Norm.uniq (fun r : Hours => r.Name) (Axi (fun r : Hours => r.Name) ok.hours.2.2) (Aqx _ A3r c.Hours) (Axh _ _ ok.hours.2.2)
 rw [h1, h2, h3, h4]
theorem At7 (l : List ByteArray) (n : Nat) (h : n = l.length) : (∀ k ∈ placesTo l n, k < n) ∧ (placesTo l n).length ≤ n := ⟨(Aqw l n).2, (Aqw l n).1⟩
theorem A7f (x : Inhibit) (h : Adh x = true) : fitS (Aau x) := by
 have h0 := A1p h
 simp only [Aq5, Bool.and_eq_true, decide_eq_true_eq, List.all_eq_true] at h0
 have := At2 [Alj x.Source, Alj x.Target, bindS x.Equal] 8192 (by omega) h0.2
 unfold fitS Aau
 rw [Auu]
 simp only [List.length_cons, List.length_nil] at this
 unfold big63; omega
theorem Ad1 {α ε : Type} (e : ε) : ∀ (l : List α) (i : Nat), runL (fun _ _ (_ : Unit) => (.inl () : Unit ⊕ ε)) (fun _ => e) i l () = e
 | [], i => rfl
 | x :: xs, i => Ad1 e xs (i + 1)
theorem Bbz (c : Config) (rR : List Rule) (rV : List ByteArray) (rH : List Hours) (n3 : c.Inhibits.length ≤ 8) (ok : ∀ x ∈ c.Inhibits, Adh x = true) :
  Loop (Abb std c rR rV rH) ([], 0) = some ⟨rR, c.Route, rV, pick dInh c.Inhibits (placesTo (c.Inhibits.map Aau) c.Inhibits.length), rH⟩ := by
 have f3 : ∀ x ∈ c.Inhibits.map Aau, fitS x := fun x hx => by
  obtain ⟨r, hr, rfl⟩ := List.mem_map.1 hx; exact A7f r (ok r hr)
 obtain ⟨l3, m3⟩ := At7 (c.Inhibits.map Aau) c.Inhibits.length (by simp)
 generalize hE : Config.mk rR c.Route rV (pick dInh c.Inhibits (placesTo (c.Inhibits.map Aau) c.Inhibits.length)) rH = E
 have hend : (bd (Aad std (c.Inhibits.map Aau)) fun w18 => Loop (Agn std c rR rV rH w18) (0, [])) = some E := by
  rw [Anp _ (by rw [List.length_map]; omega) f3, bd_some, List.length_map]
  exact At6 (t := TyS.inhibit) dInh (Agn std c rR rV rH (castI (placesTo (c.Inhibits.map Aau) c.Inhibits.length))) c.Inhibits _ 72 (fun acc => some (Config.mk rR c.Route rV acc rH)) E (fun j acc => rfl) (by omega) l3 (by omega) (congrArg some hE)
 have hq := Aap (B := Abb std c rR rV rH) (fun i (_ : Unit) => ((c.Inhibits.take i).map Aau, (i : Int))) c.Inhibits (fun _ _ (_ : Unit) => (.inl () : Unit ⊕ Config)) (fun _ => E) (fun i x u hx hi => by
  unfold Abb
  simp only
  rw [Aaa, lssT hi, br_true, ck_t (inbT hi), Aab (t := TyS.inhibit) hx, ref_Quiet_eq x (ok x (Abl hx)), bd_some, ck_t (show std.appOk TyS.str 16 ((c.Inhibits.take i).map Aau) [Aau x] from ⟨by simp; omega, by simp; omega⟩), s_add, wrap_succ hi (by unfold big63; omega), take_snoc hx, List.map_append]
  rfl) (fun _ => by
  unfold Abb
  simp only
  rw [Aaa, lssF, br_false, List.take_length, hend]
  rfl) ()
 rw [Ad1] at hq
 exact hq
theorem Bb0 (c : Config) (h : Ae6 c) (rR : List Rule) (rV : List ByteArray) (E : Config) (a2 : c.Hours.all hourS = true) (n4 : c.Hours.length ≤ 8)
  (hE : Loop (Abb std c rR rV (pick A3r c.Hours (placesTo (c.Hours.map (·.Name)) c.Hours.length))) ([], 0) = some E) :
  (bd (Aa4 std c.Hours) fun w10 => bd (Aad std w10.1) fun w11 => Loop (Ac0 std c rR rV w11) (0, [])) = some E := by
 obtain ⟨hR, hT, hV, hI, hH⟩ := id h
 have f4 : ∀ x ∈ c.Hours.map (·.Name), fitS x := fun x hx => by
  obtain ⟨r, hr, rfl⟩ := List.mem_map.1 hx; exact hH.2 r hr
 obtain ⟨l4, m4⟩ := At7 (c.Hours.map (·.Name)) c.Hours.length (by simp)
 rw [Ava c.Hours hH (by omega), bd_some, a2]
 simp only [cond_true]
 rw [Anp _ (by rw [List.length_map]; omega) f4, bd_some, List.length_map]
 generalize placesTo (c.Hours.map (·.Name)) c.Hours.length = ps at *
 exact At6 (t := TyS.hours) A3r (Ac0 std c rR rV (castI ps)) c.Hours ps 40 (fun acc => Loop (Abb std c rR rV acc) ([], 0)) E (fun j acc => rfl) (by omega) l4 (by omega) hE
theorem Bb1 (c : Config) (h : Ae6 c) (rR : List Rule) (E : Config) (n2 : c.Receivers.length ≤ 16)
  (hE : (bd (Aa4 std c.Hours) fun w10 => bd (Aad std w10.1) fun w11 => Loop (Ac0 std c rR (pick dStr c.Receivers (placesTo c.Receivers c.Receivers.length)) w11) (0, [])) = some E) :
  (bd (Aad std c.Receivers) fun w6 => Loop (Aej std c rR w6) (0, [])) = some E := by
 obtain ⟨hR, hT, hV, hI, hH⟩ := id h
 obtain ⟨l2, m2⟩ := At7 c.Receivers c.Receivers.length rfl
 rw [Anp _ (by omega) hV.2, bd_some]
 exact At6 (t := TyS.str) dStr (Aej std c rR (castI (placesTo c.Receivers c.Receivers.length))) c.Receivers _ 16 (fun acc => bd (Aa4 std c.Hours) fun w10 => bd (Aad std w10.1) fun w11 => Loop (Ac0 std c rR acc w11) (0, [])) E (fun j acc => rfl) (by omega) l2 (by omega) hE
theorem A1y (c : Config) (h : Ae6 c) (hc : Aft c = true) : Ads std c = some (normS c) := by
 have ok := Aqd hc
 obtain ⟨hR, hT, hV, hI, hH⟩ := id h
 rw [← Bak ok]
 unfold Ads normR
 have a1 : c.Rules.all ruleS = true := List.all_eq_true.2 ok.rules.2.1
 have a2 : c.Hours.all hourS = true := List.all_eq_true.2 ok.hours.2.1
 have n1 := ok.rules.1
 have f1 : ∀ x ∈ c.Rules.map (·.Name), fitS x := fun x hx => by
  obtain ⟨r, hr, rfl⟩ := List.mem_map.1 hx; exact (hR.2 r hr).1
 obtain ⟨l1, m1⟩ := At7 (c.Rules.map (·.Name)) c.Rules.length (by simp)
 have h3 := Bb1 c h _ _ ok.recv.1 (Bb0 c h (pick dRule c.Rules (placesTo (c.Rules.map (·.Name)) c.Rules.length)) _ _ a2 ok.hours.1 (Bbz c _ _ _ ok.inh.1 ok.inh.2))
 rw [Au9 c.Rules hR (by omega), bd_some, a1]
 simp only [cond_true]
 rw [Anp _ (by rw [List.length_map]; omega) f1, bd_some, List.length_map]
 generalize placesTo (c.Rules.map (·.Name)) c.Rules.length = ps at *
 exact At6 (t := TyS.rule) dRule (Air std c (castI ps)) c.Rules ps 96 (fun acc => bd (Aad std c.Receivers) fun w6 => Loop (Aej std c acc w6) (0, [])) _ (fun j acc => rfl) (by omega) l1 (by omega) h3
theorem Av7 {α : Type} {P : α → Prop} {xs ys : List α} (h : fitL P xs) (hl : ys.length ≤ xs.length) (hs : ∀ y ∈ ys, y ∈ xs) : fitL P ys := ⟨Nat.le_trans hl h.1, fun y hy => h.2 y (hs y hy)⟩
theorem Aqy {α : Type} {P : α → Prop} : fitL P [] := ⟨by simp, fun x hx => by cases hx⟩
theorem A3s (c : Config) : (normS c).Inhibits.length ≤ c.Inhibits.length := by
 have := Arw Aau (sortI (Abq Aau) c.Inhibits)
 rw [Aen] at this
 exact this
theorem A3t {c : Config} {x : Inhibit} (h : x ∈ (normS c).Inhibits) : x ∈ c.Inhibits := (Avg Aau c.Inhibits).sub x h
theorem Bal {c : Config} (h : Ae6 c) : Ae6 (normS c) :=
 ⟨Av7 h.1 (Nat.le_of_eq (Aen _ _)) fun y hy => (Ags _ _).mem_iff.1 hy, h.2.1, Av7 h.2.2.1 (Nat.le_of_eq (Aen _ _)) fun y hy => (Ags _ _).mem_iff.1 hy,
  Av7 h.2.2.2.1 (A3s c) fun y hy => A3t hy, Av7 h.2.2.2.2 (Nat.le_of_eq (Aen _ _)) fun y hy => (Ags _ _).mem_iff.1 hy⟩
def normC (c : Config) : Config := cond (Aft c) (normS c) A6j
def normE (c : Config) : Int := cond (Aft c) 0 1
structure Small (c : Config) : Prop where
 rules : c.Rules.length ≤ 18
 recv : c.Receivers.length ≤ 18
 inh : c.Inhibits.length ≤ 10
 hours : c.Hours.length ≤ 10
def opsT : ByteArray := ByteArray.mk (Array.mk [111, 112, 115])
def devT : ByteArray := ByteArray.mk (Array.mk [100, 101, 118])
def Bcm : Config := ⟨[], ⟨opsT, [], [], 0, 1, 1, [], false, []⟩, [opsT, devT], [], []⟩
theorem size_le {s : ByteArray} (n : Nat) (h : s.size = n) (hn : n ≤ 1000) : fitS s := by unfold fitS big63; omega
noncomputable def woS (R : ByteArray) (xs : List ByteArray) : List ByteArray := xs.filter fun x => !eqB x R
end Go.PL
