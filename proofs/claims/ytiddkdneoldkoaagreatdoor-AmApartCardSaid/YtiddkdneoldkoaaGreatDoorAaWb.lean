/- Texts of this claim: plain laws of what the program's functions compute. No condition of their own. -/
import Derived.Test.YtiddkdneoldkoaaGreatDoorAaWa
namespace Go.PL
set_option linter.unusedSimpArgs false
set_option linter.unusedVariables false
set_option linter.unusedSectionVars false
open Tys (Ty U)
open Enc (sz enc dflt tb ofB toB)
open Dec (dec dok)
set_option maxRecDepth 100000
def numL (n : Nat) : List UInt8 := if h : n < 128 then [UInt8.ofNat n] else UInt8.ofNat (n % 128 + 128) :: numL (n / 128)
 termination_by n
 decreasing_by omega
def numS (n : Nat) : ByteArray := ⟨(numL n).toArray⟩
theorem b2s_eq (l : List UInt8) : std.b2s l = ⟨l.toArray⟩ := by
 show (⟨(l.map Enc.toB).toArray⟩ : ByteArray) = _
 rw [show l.map Enc.toB = l from List.map_id _]
theorem u8_at {n : Nat} (h : n < 256) : std.u8ok (std.conv .u8 (n : Int)) ∧ std.u8 (std.conv .u8 (n : Int)) = UInt8.ofNat n := by
 have e : std.conv .u8 (n : Int) = (n : Int) := by rw [s_conv, w8 (by omega)]
 rw [e]
 exact ⟨⟨by omega, by omega⟩, by rw [s_u8, Int.toNat_natCast]⟩
theorem rem_at (n : Nat) : std.ar .rem .i64 (n : Int) 128 = ((n % 128 : Nat) : Int) := by rw [s_rem, tmod0 (by omega)]; rfl
theorem quo_at (n : Nat) (h : n ≤ big63) : std.ar .quo .i64 (n : Int) 128 = ((n / 128 : Nat) : Int) := by
 unfold big63 at h
 rw [s_quo, tdiv0 (by omega), w64 (by omega)]; rfl
theorem frame_num_loop : ∀ (n : Nat) (l : List UInt8), l.length + n ≤ 100000000000000 → Loop (frame_Number_B1 std) ((n : Int), l) = some (⟨(l ++ numL n).toArray⟩, 0)
 | n, l, h => by
  rw [Loop_eq]
  unfold numL
  by_cases hn : n < 128
  ·rw [dif_pos hn]
   have hB : frame_Number_B1 std ((n : Int), l) = some (.inr (⟨(l ++ [UInt8.ofNat n]).toArray⟩, 0)) := by
    unfold frame_Number_B1
    simp only
    obtain ⟨h1, h2⟩ := u8_at (n := n) (by omega)
    rw [show std.cmp .geq (n : Int) 128 = false by rw [s_geq]; exact decide_eq_false (by omega), br_false, ck_t h1, h2, ck_t (show std.appOk TyS.byte 1 l [UInt8.ofNat n] from ⟨by simp; omega, by simp; omega⟩)]
    rw [s_app, b2s_eq]
    rfl
   rw [hB]
  ·rw [dif_neg hn]
   have hB : frame_Number_B1 std ((n : Int), l) = some (.inl (((n / 128 : Nat) : Int), l ++ [UInt8.ofNat (n % 128 + 128)])) := by
    unfold frame_Number_B1
    simp only
    have e : std.ar .add .i64 (std.ar .rem .i64 (n : Int) 128) 128 = ((n % 128 + 128 : Nat) : Int) := by
     rw [rem_at, s_add, w64 (by omega)]; rfl
    obtain ⟨h1, h2⟩ := u8_at (n := n % 128 + 128) (by omega)
    rw [show std.cmp .geq (n : Int) 128 = true by rw [s_geq]; exact decide_eq_true (by omega), br_true, e, ck_t h1, h2, ck_t (show std.appOk TyS.byte 1 l [UInt8.ofNat (n % 128 + 128)] from ⟨by simp; omega, by simp; omega⟩), quo_at n (by unfold big63; omega)]
    rfl
   rw [hB]
   have := frame_num_loop (n / 128) (l ++ [UInt8.ofNat (n % 128 + 128)]) (by simp; omega)
   simp only
   rw [this, List.append_assoc]
   rfl
 termination_by n => n
 decreasing_by omega
theorem frame_Number_eq (n : Nat) (h : n ≤ 10000000000000) : frame_Number std (n : Int) = some (numS n, 0) := by
 unfold frame_Number
 have e : std.or (std.cmp .lss (n : Int) 0) (std.cmp .geq (n : Int) 4611686018427387904) = false := by
  rw [s_lor, s_lss, s_geq, decide_eq_false (by omega), decide_eq_false (by omega)]; rfl
 rw [e, br_false, frame_num_loop n [] (by simp; omega)]
 rfl
end Go.PL
namespace Go.PL
set_option linter.unusedSimpArgs false
set_option linter.unusedVariables false
set_option linter.unusedSectionVars false
open Tys (Ty U)
open Enc (sz enc dflt tb ofB toB)
open Dec (dec dok)
set_option maxRecDepth 100000
def bindL (l : List ByteArray) : List UInt8 := (l.map fun p => numL p.size ++ bytes p).flatten
def bindS (l : List ByteArray) : ByteArray := ⟨(bindL l).toArray⟩
theorem mkb (s : ByteArray) : (⟨(bytes s).toArray⟩ : ByteArray) = s := by cases s; rfl
theorem bytes_mk (l : List UInt8) : bytes ⟨l.toArray⟩ = l := by simp
theorem bytes_app (a b : ByteArray) : bytes (a ++ b) = bytes a ++ bytes b := by
 show (a ++ b).data.toList = _
 rw [ByteArray.data_append, Array.toList_append]
theorem numL_le : ∀ n : Nat, n ≤ 100000000000 → (numL n).length ≤ 10 + n / 128
 | n, h => by
  unfold numL
  by_cases hn : n < 128
  ·rw [dif_pos hn, List.length_singleton]; omega
  ·rw [dif_neg hn]
   have := numL_le (n / 128) (by omega)
   simp only [List.length_cons]
   omega
 termination_by n => n
 decreasing_by omega
theorem copyCheck_eq (l : List UInt8) : strings_Builder_copyCheck std l = some l := by
 unfold strings_Builder_copyCheck strings_Builder_copyCheck_1 strings_Builder_copyCheck_2 abi_NoEscape
 simp only [bd_some]
 exact ck_t True.intro
theorem write_eq (l : List UInt8) (s : ByteArray) (h : l.length + s.size ≤ 100000000000000) : strings_Builder_WriteString std l s = some (l ++ bytes s) := by
 unfold strings_Builder_WriteString
 rw [copyCheck_eq, bd_some, s2b_eq, ck_t (show std.appOk TyS.byte 1 l (bytes s) from ⟨by rw [len_bytes]; omega, by rw [len_bytes]; omega⟩)]
 rfl
theorem bind_take {l : List ByteArray} {i : Nat} {p : ByteArray} (h : l[i]? = some p) : bindL (l.take (i + 1)) = bindL (l.take i) ++ (numL p.size ++ bytes p) := by
 unfold bindL
 exact take_flat (fun p : ByteArray => numL p.size ++ bytes p) h
theorem bindL_le : ∀ (l : List ByteArray) (m : Nat), m ≤ 100000000000 → (∀ p ∈ l, p.size ≤ m) → (bindL l).length ≤ l.length * (10 + 2 * m)
 | [], m, _, _ => by simp [bindL]
 | p :: l, m, hm, h => by
  have h1 := bindL_le l m hm fun p hp => h p (List.mem_cons_of_mem _ hp)
  have h2 := h p (List.mem_cons_self ..)
  have h3 := numL_le p.size (by omega)
  simp only [bindL, List.map_cons, List.flatten_cons, List.length_append, List.length_cons, len_bytes, Nat.succ_mul] at h1 ⊢
  omega
def bindOk (l : List ByteArray) : Bool := decide (l.length ≤ 512) && l.all fun p => decide (p.size ≤ 8192)
theorem frame_Bind_eq (l : List ByteArray) (h : bindOk l = true) : frame_Bind std l = some (bindS l, 0) := by
 simp only [bindOk, Bool.and_eq_true, decide_eq_true_eq, List.all_eq_true] at h
 obtain ⟨hl, hp⟩ := h
 unfold frame_Bind
 rw [show std.cmp .gtr (std.len TyS.str l) 512 = false by rw [show std.cmp .gtr (std.len TyS.str l) 512 = !decide (l.length ≤ 512) from gtr_len (t := TyS.str) l 512, decide_eq_true hl]; rfl, br_false]
 have hbl := bindL_le l 8192 (by omega) hp
 have := Loop_each (B := frame_Bind_B1 std l) (fun i (_ : Unit) => ((i : Int), bindL (l.take i))) l (fun _ _ (_ : Unit) => (.inl () : Unit ⊕ (ByteArray × Int))) (fun _ => (bindS l, 0)) (fun i p u hx hi => by
  have hps := hp p (mem_at hx)
  have htl := bindL_le (l.take i) 8192 (by omega) fun q hq => hp q (List.mem_of_mem_take hq)
  have h10 := numL_le p.size (by omega)
  have hti : (l.take i).length ≤ 512 := by rw [List.length_take]; omega
  have hmul : (l.take i).length * (10 + 2 * 8192) ≤ 512 * (10 + 2 * 8192) := Nat.mul_le_mul_right _ hti
  unfold frame_Bind_B1
  simp only
  rw [len_nat, lssT hi, br_true, ck_t (inbT hi), get_nat (t := TyS.str) hx, s_slen, show std.cmp .gtr (p.size : Int) 8192 = false by rw [s_gtr]; exact decide_eq_false (by omega), br_false, frame_Number_eq p.size (by omega), bd_some]
  have hn : (numS p.size).size = (numL p.size).length := by show (numL p.size).toArray.size = _; simp
  rw [write_eq _ _ (by rw [hn]; omega), bd_some, write_eq _ _ (by rw [List.length_append, show (bytes (numS p.size)) = numL p.size from bytes_mk _]; omega), bd_some, s_add, wrap_succ hi (by unfold big63; omega), bind_take hx, show (bytes (numS p.size)) = numL p.size from bytes_mk _, List.append_assoc]) (fun _ => by
  unfold frame_Bind_B1
  simp only
  rw [len_nat, lssF, br_false, List.take_length]
  have hmul : l.length * (10 + 2 * 8192) ≤ 512 * (10 + 2 * 8192) := Nat.mul_le_mul_right _ hl
  unfold strings_Builder_String
  rw [ck_t (by omega), bd_some]
  rfl) ()
 refine this.trans (congrArg some ?_)
 have key : ∀ (xs : List ByteArray) (i : Nat), runL (fun _ _ (_ : Unit) => (.inl () : Unit ⊕ (ByteArray × Int))) (fun _ => (bindS l, 0)) i xs () = (bindS l, 0) := by
  intro xs
  induction xs with
  | nil => intro i; rfl
  | cons x xs ih => intro i; exact ih (i + 1)
 exact key l 0
theorem ba_ext {a b : ByteArray} (h : bytes a = bytes b) : a = b := by rw [← mkb a, ← mkb b, h]
theorem size_bytes (s : ByteArray) : s.size = (bytes s).length := (len_bytes s).symm
theorem bindS_bytes (l : List ByteArray) : bytes (bindS l) = bindL l := bytes_mk _
theorem config_bind_eq (b : Bool) (l : List ByteArray) (h : bindOk l = true) : config_bind std b l = some (bindS l, b) := by
 unfold config_bind
 rw [frame_Bind_eq l h, bd_some]
 cases b <;> rfl
end Go.PL
namespace Go.PL
set_option linter.unusedSimpArgs false
set_option linter.unusedVariables false
set_option linter.unusedSectionVars false
open Tys (Ty U)
open Enc (sz enc dflt tb ofB toB)
open Dec (dec dok)
set_option maxRecDepth 100000
def signL (n : Int) : List UInt8 := if n = 1 then [61] else if n = 2 then [33, 61] else if n = 3 then [61, 126] else if n = 4 then [33, 126] else []
def barsL : List ByteArray → List UInt8
 | [] => []
 | w :: r => bytes w ++ (r.map fun x => 124 :: bytes x).flatten
def textL (m : Matcher) : List UInt8 := bytes m.Name ++ signL m.How ++ [34] ++ barsL m.Words ++ [34]
def textS (m : Matcher) : ByteArray := ⟨(textL m).toArray⟩
theorem textS_bytes (m : Matcher) : bytes (textS m) = textL m := bytes_mk _
theorem join_bars (ws : List ByteArray) : Lib.join (ws.map (·.data.toList)) [124] = barsL ws := by
 cases ws with
 | nil => rfl
 | cons w r =>
  rw [List.map_cons, Lib.join_cons]
  simp only [barsL, Lib.joinTail, List.map_map]
  rfl
theorem signs_val {n : Int} (h1 : 1 ≤ n) (h4 : n ≤ 4) : bytes (lookI std n [(1, ByteArray.mk (Array.mk [61])), (2, ByteArray.mk (Array.mk [33, 61])), (3, ByteArray.mk (Array.mk [61, 126])), (4, ByteArray.mk (Array.mk [33, 126]))] (ByteArray.mk (Array.mk []))).1 = signL n := by
 have : n = 1 ∨ n = 2 ∨ n = 3 ∨ n = 4 := by omega
 rcases this with rfl | rfl | rfl | rfl <;> rfl
theorem words_mem {may : ByteArray → Bool} {xs : List ByteArray} (h : wordsS may xs = true) : ∀ x ∈ xs, may x = true := by
 rw [wordsS_eq, Bool.and_eq_true, List.all_eq_true] at h
 exact h.1
theorem flat_le {α : Type} (f : α → List UInt8) (m : Nat) : ∀ xs : List α, (∀ x ∈ xs, (f x).length ≤ m) → (xs.map f).flatten.length ≤ xs.length * m
 | [], _ => by simp
 | x :: xs, h => by
  have h1 := h x (List.mem_cons_self ..)
  have h2 := flat_le f m xs fun y hy => h y (List.mem_cons_of_mem _ hy)
  simp only [List.map_cons, List.flatten_cons, List.length_append, List.length_cons, Nat.succ_mul]
  omega
structure MatcherOK (m : Matcher) : Prop where
 name : m.Name.size ≤ 64
 how1 : 1 ≤ m.How
 how4 : m.How ≤ 4
 len : m.Words.length ≤ 8
 words : ∀ w ∈ m.Words, w.size ≤ 64
theorem matcherS_ok {m : Matcher} (h : matcherS m = true) : MatcherOK m := by
 simp only [matcherS, Bool.and_eq_true, decide_eq_true_eq] at h
 obtain ⟨h1, ⟨⟨⟨⟨h2, h3⟩, h4⟩, _⟩, h5⟩, _⟩ := h
 refine ⟨?_, h3, h4, h5, fun w hw => ?_⟩
 ·simp only [nameS, Bool.and_eq_true, decide_eq_true_eq] at h2; exact h2.2
 ·have := words_mem h1 w hw
  simp only [mwordS, Bool.and_eq_true, decide_eq_true_eq] at this
  exact this.2
theorem bars_le {m : Matcher} (h : MatcherOK m) : (barsL m.Words).length ≤ 600 := by
 have hl := h.len
 have hw := h.words
 generalize m.Words = ws at hl hw
 cases ws with
 | nil => simp [barsL]
 | cons w r =>
  have h1 := hw w (List.mem_cons_self ..)
  have h2 := flat_le (fun x : ByteArray => 124 :: bytes x) 65 r fun x hx => by
   have := hw x (List.mem_cons_of_mem _ hx)
   rw [List.length_cons, len_bytes]; omega
  have h3 : r.length * 65 ≤ 7 * 65 := Nat.mul_le_mul_right _ (by simp only [List.length_cons] at hl; omega)
  simp only [barsL, List.length_append, len_bytes]
  omega
theorem sign_le (n : Int) : (signL n).length ≤ 2 := by
 unfold signL
 split
 ·simp
 split
 ·simp
 split
 ·simp
 split <;> simp
theorem text_le {m : Matcher} (h : MatcherOK m) : (textL m).length ≤ 700 := by
 have h1 := bars_le h
 have h2 := sign_le m.How
 have h3 := h.name
 simp only [textL, List.length_append, len_bytes, List.length_singleton]
 omega
theorem matcher_Text_eq (m : Matcher) (hf : matcherFit m) (h : matcherS m = true) : matcher_Text std m = some (textS m, 0) := by
 have ok := matcherS_ok h
 have hb := bars_le ok
 have hs := sign_le m.How
 have hn := ok.name
 unfold matcher_Text matcher_signs
 rw [matcher_Right_eq m hf, bd_some, h, show std.not true = false from rfl, br_false, bd_some, bd_some]
 have hv := signs_val ok.how1 ok.how4
 generalize (lookI std m.How [(1, ByteArray.mk (Array.mk [61])), (2, ByteArray.mk (Array.mk [33, 61])), (3, ByteArray.mk (Array.mk [61, 126])), (4, ByteArray.mk (Array.mk [33, 126]))] (ByteArray.mk (Array.mk []))).1 = sg at hv
 have hsg : sg.size = (signL m.How).length := by rw [size_bytes, hv]
 have hj : strings_Join std m.Words (ByteArray.mk (Array.mk [124])) = some ⟨(barsL m.Words).toArray⟩ := by
  unfold strings_Join
  have e : Lib.join (m.Words.map (·.data.toList)) (ByteArray.mk (Array.mk [124])).data.toList = barsL m.Words := join_bars m.Words
  rw [e]
  exact ck_t ⟨by have := ok.len; omega, by omega⟩
 have hjs : (⟨(barsL m.Words).toArray⟩ : ByteArray).size = (barsL m.Words).length := by rw [size_bytes, bytes_mk]
 have q1 : (ByteArray.mk (Array.mk [34])).size = 1 := rfl
 have z1 : (m.Name ++ sg).size = m.Name.size + sg.size := ByteArray.size_append
 have z2 : (m.Name ++ sg ++ ByteArray.mk (Array.mk [34])).size = m.Name.size + sg.size + 1 := by rw [ByteArray.size_append, z1, q1]
 have z3 : (m.Name ++ sg ++ ByteArray.mk (Array.mk [34]) ++ (⟨(barsL m.Words).toArray⟩ : ByteArray)).size = m.Name.size + sg.size + 1 + (barsL m.Words).length := by rw [ByteArray.size_append, z2, hjs]
 rw [ck_t (show std.catOk m.Name sg by rw [s_catOk]; omega), ck_t (show std.catOk (std.cat m.Name sg) (ByteArray.mk (Array.mk [34])) by rw [s_catOk, s_cat, z1, q1]; omega), hj, bd_some]
 rw [ck_t (show std.catOk (std.cat (std.cat m.Name sg) (ByteArray.mk (Array.mk [34]))) ⟨(barsL m.Words).toArray⟩ by rw [s_catOk, s_cat, s_cat, z2, hjs]; omega), ck_t (show std.catOk (std.cat (std.cat (std.cat m.Name sg) (ByteArray.mk (Array.mk [34]))) ⟨(barsL m.Words).toArray⟩) (ByteArray.mk (Array.mk [34])) by rw [s_catOk, s_cat, s_cat, s_cat, z3, q1]; omega)]
 congr 2
 rw [s_cat, s_cat, s_cat, s_cat]
 apply ba_ext
 rw [bytes_app, bytes_app, bytes_app, bytes_app, hv, bytes_mk, textS_bytes]
 rfl
end Go.PL
namespace Go.PL
set_option linter.unusedSimpArgs false
set_option linter.unusedVariables false
set_option linter.unusedSectionVars false
open Tys (Ty U)
open Enc (sz enc dflt tb ofB toB)
open Dec (dec dok)
set_option maxRecDepth 100000
def textsS (l : List Matcher) : ByteArray := bindS (l.map textS)
def quietS (x : Inhibit) : ByteArray := bindS [textsS x.Source, textsS x.Target, bindS x.Equal]
theorem bindS_size (l : List ByteArray) : (bindS l).size = (bindL l).length := by rw [size_bytes, bindS_bytes]
theorem textS_size {m : Matcher} (h : MatcherOK m) : (textS m).size ≤ 700 := by rw [size_bytes, textS_bytes]; exact text_le h
theorem bindL_le' : ∀ (l : List ByteArray) (m : Nat), m ≤ 100000000000 → (∀ p ∈ l, p.size ≤ m) → (bindL l).length ≤ l.length * (10 + m / 128 + m)
 | [], m, _, _ => by simp [bindL]
 | p :: l, m, hm, h => by
  have h1 := bindL_le' l m hm fun p hp => h p (List.mem_cons_of_mem _ hp)
  have h2 := h p (List.mem_cons_self ..)
  have h3 := numL_le p.size (by omega)
  simp only [bindL, List.map_cons, List.flatten_cons, List.length_append, List.length_cons, len_bytes, Nat.succ_mul] at h1 ⊢
  omega
theorem matchersS_ok {l : List Matcher} (h : matchersS l = true) : l.length ≤ 8 ∧ ∀ m ∈ l, matcherS m = true := by
 simp only [matchersS, Bool.and_eq_true, decide_eq_true_eq, List.all_eq_true] at h
 exact ⟨h.2, h.1⟩
theorem texts_ok {l : List Matcher} (h : matchersS l = true) : bindOk (l.map textS) = true ∧ (textsS l).size ≤ 5720 := by
 obtain ⟨h1, h2⟩ := matchersS_ok h
 have hm : ∀ p ∈ l.map textS, p.size ≤ 700 := by
  intro p hp
  obtain ⟨m, hm, rfl⟩ := List.mem_map.1 hp
  exact textS_size (matcherS_ok (h2 m hm))
 refine ⟨?_, ?_⟩
 ·simp only [bindOk, Bool.and_eq_true, decide_eq_true_eq, List.all_eq_true, List.length_map]
  exact ⟨by omega, fun p hp => by have := hm p hp; omega⟩
 ·unfold textsS
  rw [bindS_size]
  have := bindL_le' (l.map textS) 700 (by omega) hm
  rw [List.length_map] at this
  have h3 : l.length * (10 + 700 / 128 + 700) ≤ 8 * (10 + 700 / 128 + 700) := Nat.mul_le_mul_right _ h1
  omega
theorem equal_ok {x : Inhibit} (h : inhibitS x = true) : bindOk x.Equal = true ∧ (bindS x.Equal).size ≤ 5720 := by
 simp only [inhibitS, Bool.and_eq_true, decide_eq_true_eq] at h
 obtain ⟨hw, ⟨⟨_, he⟩, _⟩, _⟩ := h
 have hm : ∀ p ∈ x.Equal, p.size ≤ 64 := by
  intro p hp
  have := words_mem hw p hp
  simp only [nameS, Bool.and_eq_true, decide_eq_true_eq] at this
  exact this.2
 refine ⟨?_, ?_⟩
 ·simp only [bindOk, Bool.and_eq_true, decide_eq_true_eq, List.all_eq_true]
  exact ⟨by omega, fun p hp => by have := hm p hp; omega⟩
 ·rw [bindS_size]
  have := bindL_le' x.Equal 64 (by omega) hm
  have h3 : x.Equal.length * (10 + 64 / 128 + 64) ≤ 8 * (10 + 64 / 128 + 64) := Nat.mul_le_mul_right _ he
  omega
theorem quiet_ok {x : Inhibit} (h : inhibitS x = true) : bindOk [textsS x.Source, textsS x.Target, bindS x.Equal] = true := by
 have h0 := h
 simp only [inhibitS, Bool.and_eq_true, decide_eq_true_eq] at h
 have h1 := (texts_ok h.2.1.2).2
 have h2 := (texts_ok h.2.2).2
 have h3 := (equal_ok h0).2
 simp only [bindOk, List.length_cons, List.length_nil, List.all_cons, List.all_nil, Bool.and_true, Bool.and_eq_true, decide_eq_true_eq]
 omega
theorem config_matchers_eq (b : Bool) (l : List Matcher) (hf : fitL matcherFit l) (h : matchersS l = true) : config_matchers std b l = some (textsS l, b) := by
 obtain ⟨h1, h2⟩ := matchersS_ok h
 unfold config_matchers
 have := Loop_each (B := config_matchers_B1 std b l) (fun i (_ : Unit) => ((l.take i).map textS, (i : Int))) l (fun _ _ (_ : Unit) => (.inl () : Unit ⊕ (ByteArray × Bool))) (fun _ => (textsS l, b)) (fun i m u hm hi => by
  unfold config_matchers_B1
  simp only
  rw [len_nat, lssT hi, br_true, ck_t (inbT hi), get_nat (t := TyS.matcher) hm, matcher_Text_eq m (hf.2 m (mem_at hm)) (h2 m (mem_at hm)), bd_some, ck_t (show std.appOk TyS.str 16 ((l.take i).map textS) [textS m] from ⟨by simp; omega, by simp; omega⟩), s_add, wrap_succ hi hf.1, take_snoc hm, List.map_append]
  rfl) (fun _ => by
  unfold config_matchers_B1
  simp only
  rw [len_nat, lssF, br_false, List.take_length, config_bind_eq b _ (texts_ok h).1, bd_some]
  rfl) ()
 refine this.trans (congrArg some ?_)
 have key : ∀ (xs : List Matcher) (i : Nat), runL (fun _ _ (_ : Unit) => (.inl () : Unit ⊕ (ByteArray × Bool))) (fun _ => (textsS l, b)) i xs () = (textsS l, b) := by
  intro xs
  induction xs with
  | nil => intro i; rfl
  | cons x xs ih => intro i; exact ih (i + 1)
 exact key l 0
theorem config_quiet_eq (b : Bool) (x : Inhibit) (hf : inhibitFit x) (h : inhibitS x = true) : config_Normal_1 std x b = some (quietS x, b) := by
 have h0 := h
 simp only [inhibitS, Bool.and_eq_true, decide_eq_true_eq] at h
 unfold config_Normal_1 config_inhibit
 rw [config_matchers_eq b x.Source hf.1 h.2.1.2, bd_some, config_matchers_eq b x.Target hf.2.1 h.2.2, bd_some, config_bind_eq b _ (equal_ok h0).1, bd_some, config_bind_eq b _ (quiet_ok h0), bd_some, bd_some]
 rfl
end Go.PL
namespace Go.PL
set_option linter.unusedSimpArgs false
set_option linter.unusedVariables false
set_option linter.unusedSectionVars false
open Tys (Ty U)
open Enc (sz enc dflt tb ofB toB)
open Dec (dec dok)
set_option maxRecDepth 100000
theorem bl_cons (a b : UInt8) (l m : List UInt8) : Op.bytesLess (a :: l) (b :: m) = (decide (a < b) || (a == b && Op.bytesLess l m)) := by
 simp [Op.bytesLess]
theorem bl_irrefl : ∀ l : List UInt8, Op.bytesLess l l = false
 | [] => rfl
 | a :: l => by rw [bl_cons, bl_irrefl l]; simp
theorem bl_tri : ∀ l m : List UInt8, Op.bytesLess l m = false → Op.bytesLess m l = false → l = m
 | [], [], _, _ => rfl
 | [], _ :: _, h, _ => by simp [Op.bytesLess] at h
 | _ :: _, [], _, h => by simp [Op.bytesLess] at h
 | a :: l, b :: m, h1, h2 => by
  rw [bl_cons] at h1 h2
  simp only [Bool.or_eq_false_iff, decide_eq_false_iff_not, Bool.and_eq_false_iff, beq_eq_false_iff_ne] at h1 h2
  have e : a = b := by
   apply UInt8.toNat_inj.1
   have h3 := h1.1
   have h4 := h2.1
   rw [UInt8.lt_iff_toNat_lt] at h3 h4
   omega
  subst e
  rw [bl_tri l m (h1.2.resolve_left fun h => h rfl) (h2.2.resolve_left fun h => h rfl)]
theorem bl_trans : ∀ l m n : List UInt8, Op.bytesLess l m = true → Op.bytesLess m n = true → Op.bytesLess l n = true
 | [], [], _, h, _ => by simp [Op.bytesLess] at h
 | _ :: _, [], _, h, _ => by simp [Op.bytesLess] at h
 | _, _ :: _, [], _, h => by simp [Op.bytesLess] at h
 | [], _ :: _, _ :: _, _, _ => by simp [Op.bytesLess]
 | a :: l, b :: m, c :: n, h1, h2 => by
  rw [bl_cons] at h1 h2 ⊢
  simp only [Bool.or_eq_true, decide_eq_true_eq, Bool.and_eq_true, beq_iff_eq, UInt8.lt_iff_toNat_lt] at h1 h2 ⊢
  rcases h1 with h1 | ⟨rfl, h1⟩
  ·rcases h2 with h2 | ⟨rfl, h2⟩
   ·left; omega
   ·left; exact h1
  ·rcases h2 with h2 | ⟨rfl, h2⟩
   ·left; exact h2
   ·right; exact ⟨rfl, bl_trans l m n h1 h2⟩
theorem less_bytes (a b : ByteArray) : lessS a b = Op.bytesLess (bytes a) (bytes b) := by
 show Op.bytesLess a.toList b.toList = _
 rw [ByteArray.toList_eq, ByteArray.toList_eq]
theorem less_irrefl (a : ByteArray) : lessS a a = false := by rw [less_bytes]; exact bl_irrefl _
theorem less_tri {a b : ByteArray} (h1 : lessS a b = false) (h2 : lessS b a = false) : a = b := by
 rw [less_bytes] at h1 h2; exact ba_ext (bl_tri _ _ h1 h2)
theorem less_trans {a b c : ByteArray} (h1 : lessS a b = true) (h2 : lessS b c = true) : lessS a c = true := by
 rw [less_bytes] at h1 h2 ⊢; exact bl_trans _ _ _ h1 h2
theorem less_asymm {a b : ByteArray} (h : lessS a b = true) : lessS b a = false := by
 cases h2 : lessS b a with
 | false => rfl
 | true => have := less_trans h h2; rw [less_irrefl] at this; cases this
theorem compare_iff : ∀ l m : List UInt8, Lib.compareBytes l m < 0 ↔ Op.bytesLess l m = true
 | [], [] => by simp [Lib.compareBytes, Op.bytesLess]
 | [], _ :: _ => by simp [Lib.compareBytes, Op.bytesLess]
 | _ :: _, [] => by simp [Lib.compareBytes, Op.bytesLess]
 | a :: l, b :: m => by
  rw [bl_cons]
  simp only [Lib.compareBytes]
  by_cases h1 : a < b
  ·rw [if_pos h1, decide_eq_true h1]; simp
  ·rw [if_neg h1, decide_eq_false h1, Bool.false_or]
   by_cases h2 : b < a
   ·rw [if_pos h2]
    have : (a == b) = false := by
     rw [beq_eq_false_iff_ne]; rintro rfl; exact h1 h2
    rw [this]; simp
   ·rw [if_neg h2]
    have : (a == b) = true := by
     rw [beq_iff_eq]
     apply UInt8.toNat_inj.1
     rw [UInt8.lt_iff_toNat_lt] at h1 h2
     omega
    rw [this, Bool.true_and]
    exact compare_iff l m
theorem compare_less (a b : ByteArray) : decide (Lib.compareBytes a.data.toList b.data.toList < 0) = lessS a b := by
 rw [less_bytes, Bool.eq_iff_iff, decide_eq_true_eq]
 exact compare_iff _ _
end Go.PL
namespace Go.PL
set_option linter.unusedSimpArgs false
set_option linter.unusedVariables false
set_option linter.unusedSectionVars false
open Tys (Ty U)
open Enc (sz enc dflt tb ofB toB)
open Dec (dec dok)
set_option maxRecDepth 100000
section
variable {α : Type} (key : α → ByteArray)
def insL (x : α) : List α → List α
 | [] => [x]
 | y :: ys => if lessS (key y) (key x) then y :: insL x ys else x :: y :: ys
def hasK (l : List α) (x : α) : Bool := l.any fun y => decide (key y = key x)
def normL (l : List α) : List α := l.foldl (fun acc x => if hasK key acc x then acc else insL key x acc) []
def Asc (l : List α) : Prop := l.Pairwise fun x y => lessS (key x) (key y) = true
end
end Go.PL
namespace Go.PL
set_option linter.unusedSimpArgs false
set_option linter.unusedVariables false
set_option linter.unusedSectionVars false
open Tys (Ty U)
open Enc (sz enc dflt tb ofB toB)
open Dec (dec dok)
set_option maxRecDepth 100000
section
variable {α : Type}
theorem row_at (L R : List α) (x : α) : (L.reverse ++ x :: R)[L.length]? = some x := by
 rw [List.getElem?_append_right (by simp)]; simp
theorem row_ahead (L R : List α) (x y : α) : ((y :: L).reverse ++ x :: R)[L.length]? = some y := by
 rw [List.reverse_cons, List.append_assoc]
 exact row_at L (x :: R) y
theorem row_swap (L R : List α) (x y : α) : (((y :: L).reverse ++ x :: R).set (L.length + 1) y).set L.length x = L.reverse ++ x :: y :: R := by
 apply List.ext_getElem?
 intro i
 simp only [List.reverse_cons, List.append_assoc, List.singleton_append, List.getElem?_set, List.length_set, List.length_append, List.length_reverse, List.length_cons]
 rcases Nat.lt_trichotomy i L.length with h | h | h
 ·rw [if_neg (by omega), if_neg (by omega), List.getElem?_append_left (by simpa using h), List.getElem?_append_left (by simpa using h)]
 ·subst h
  rw [if_pos rfl, if_pos (by omega), row_at]
 ·rw [if_neg (by omega), List.getElem?_append_right (by simp; omega), List.getElem?_append_right (by simp; omega), List.length_reverse]
  obtain ⟨k, rfl⟩ : ∃ k, i = L.length + 1 + k := ⟨i - L.length - 1, by omega⟩
  rw [show L.length + 1 + k - L.length = k + 1 by omega]
  cases k with
  | zero => simp
  | succ k => rw [if_neg (by omega)]; simp
def insR (less : α → α → Bool) (x : α) : List α → List α → List α
 | [], R => x :: R
 | y :: L, R => if less x y then insR less x L (y :: R) else (y :: L).reverse ++ x :: R
theorem insR_t {less : α → α → Bool} {x y : α} {L R : List α} (h : less x y = true) : insR less x (y :: L) R = insR less x L (y :: R) := if_pos h
theorem insR_f {less : α → α → Bool} {x y : α} {L R : List α} (h : less x y = false) : insR less x (y :: L) R = (y :: L).reverse ++ x :: R := if_neg (by rw [h]; simp)
theorem insR_perm (less : α → α → Bool) (x : α) : ∀ L R : List α, (insR less x L R).Perm (L.reverse ++ x :: R)
 | [], R => .refl _
 | y :: L, R => by
  simp only [insR]
  split
  ·refine (insR_perm less x L (y :: R)).trans ?_
   rw [List.reverse_cons, List.append_assoc]
   exact List.Perm.append_left _ (List.Perm.swap ..)
  ·exact .refl _
theorem insR_tail (less : α → α → Bool) (x : α) : ∀ L R : List α, insR less x L R = insR less x L [] ++ R
 | [], R => rfl
 | y :: L, R => by
  cases h : less x y with
  | true => rw [insR_t h, insR_t h, insR_tail less x L (y :: R), insR_tail less x L [y], List.append_assoc]; rfl
  | false => rw [insR_f h, insR_f h, List.append_assoc]; rfl
def sortI (less : α → α → Bool) (xs : List α) : List α := xs.foldl (fun P x => insR less x P.reverse []) []
theorem sortI_snoc (less : α → α → Bool) (xs : List α) (x : α) : sortI less (xs ++ [x]) = insR less x (sortI less xs).reverse [] := by
 unfold sortI; rw [List.foldl_append]; rfl
theorem sortI_perm (less : α → α → Bool) (xs : List α) : (sortI less xs).Perm xs := by
 have key : ∀ (xs P : List α), (xs.foldl (fun P x => insR less x P.reverse []) P).Perm (P ++ xs) := by
  intro xs
  induction xs with
  | nil => intro P; simp
  | cons x xs ih =>
   intro P
   rw [List.foldl_cons]
   refine (ih _).trans ?_
   have h1 := insR_perm less x P.reverse []
   rw [List.reverse_reverse] at h1
   refine (h1.append_right xs).trans ?_
   rw [List.append_assoc]
   exact .refl _
 exact key xs []
theorem sortI_len (less : α → α → Bool) (xs : List α) : (sortI less xs).length = xs.length := (sortI_perm less xs).length_eq
end
end Go.PL
namespace Go.PL
set_option linter.unusedSimpArgs false
set_option linter.unusedVariables false
set_option linter.unusedSectionVars false
open Tys (Ty U)
open Enc (sz enc dflt tb ofB toB)
open Dec (dec dok)
set_option maxRecDepth 100000
theorem ins_Rule (q : Rule → Rule → Option Int) (cmp : Rule → Rule → Int) (hq : ∀ x y, q x y = some (cmp x y)) (n i : Nat) (hn : n ≤ 1000) (hi : i ≤ 1000) : ∀ (L R : List Rule) (x : Rule), (L.reverse ++ x :: R).length = n →
  Loop (slices_insertionSortCmpFunc_Rule_B1 std (n : Int) 0 q (i : Int)) ((L.length : Int), L.reverse ++ x :: R) = some (.inl (((i + 1 : Nat) : Int), insR (fun a b => decide (cmp a b < 0)) x L R))
 | [], R, x, hl => by
  rw [Loop_eq]
  have hB : slices_insertionSortCmpFunc_Rule_B1 std (n : Int) 0 q (i : Int) ((([] : List Rule).length : Int), ([] : List Rule).reverse ++ x :: R) = some (.inr (.inl (((i + 1 : Nat) : Int), x :: R))) := by
   unfold slices_insertionSortCmpFunc_Rule_B1
   simp only [List.length_nil, List.reverse_nil, List.nil_append]
   rw [show std.cmp .gtr ((0 : Nat) : Int) 0 = false from rfl]
   have hv : ∀ p : Prop, vc false p := fun p => True.intro
   rw [ck_t (hv _), ck_t (hv _), ck_t (hv _), ck_t (hv _), gd_f, bd_some, s_land, Bool.false_and, br_false, s_add, wrap_succ (n := 1001) (by omega) (by unfold big63; omega)]
   rfl
  rw [hB]
  rfl
 | y :: L, R, x, hl => by
  rw [Loop_eq]
  have hlen : (y :: L).length + 1 ≤ n := by simp at hl ⊢; omega
  have hj : L.length + 1 < n := by simp only [List.length_cons] at hlen; omega
  have g1 : std.cmp .gtr (((y :: L).length : Nat) : Int) 0 = true := by rw [s_gtr]; exact decide_eq_true (by simp only [List.length_cons]; omega)
  have e1 : std.ar .sub .i64 (((y :: L).length : Nat) : Int) 1 = (L.length : Int) := by rw [prevI (by simp) (by unfold big63; simp only [List.length_cons]; omega)]; simp
  have p0 : ∀ k : Nat, std.pl 0 (k : Int) = (k : Int) := fun k => by rw [s_pl]; omega
  have ax := get_nat (t := TyS.rule) (row_at (y :: L) R x)
  have ay := get_nat (t := TyS.rule) (row_ahead L R x y)
  have hrl : std.len TyS.rule ((y :: L).reverse ++ x :: R) = (n : Int) := by rw [len_nat, hl]
  have hB : slices_insertionSortCmpFunc_Rule_B1 std (n : Int) 0 q (i : Int) (((y :: L).length : Int), (y :: L).reverse ++ x :: R) = some (if cmp x y < 0 then .inl ((L.length : Int), L.reverse ++ x :: y :: R) else .inr (.inl (((i + 1 : Nat) : Int), (y :: L).reverse ++ x :: R))) := by
   unfold slices_insertionSortCmpFunc_Rule_B1
   simp only
   rw [g1, e1, p0, p0, hrl]
   have hv : ∀ {p : Prop}, p → vc true p := fun h => h
   rw [ck_t (hv (inbT (by simp only [List.length_cons]; omega))), ck_t (hv (inbT (by simp only [List.length_cons]; omega))), ck_t (hv (inbT (by omega))), ck_t (hv (inbT (by omega))), gd_t, ax, ay, hq, bd_some, s_land, Bool.true_and, s_lss]
   by_cases hc : cmp x y < 0
   ·rw [decide_eq_true hc, br_true, if_pos hc, ck_t (inbT (by omega)), ck_t (inbT (by omega)), ck_t (inbT (by simp only [List.length_cons]; omega)), ck_t (inbT (by simp only [List.length_cons]; omega))]
    have hs : std.len TyS.rule (std.set TyS.rule ((y :: L).reverse ++ x :: R) (((y :: L).length : Nat) : Int) y) = (n : Int) := by
     rw [s_set, len_nat, List.length_set, hl]
    rw [hs, ck_t (inbT (by omega)), s_set, s_set, Int.toNat_natCast, Int.toNat_natCast]
    have := row_swap L R x y
    exact congrArg (fun r => some (Sum.inl ((L.length : Int), r))) this
   ·rw [decide_eq_false hc, br_false, if_neg hc, s_add, wrap_succ (n := 1001) (by omega) (by unfold big63; omega)]
    rfl
  rw [hB]
  by_cases hc : cmp x y < 0
  ·rw [if_pos hc, insR_t (decide_eq_true hc)]
   exact ins_Rule q cmp hq n i hn hi L (y :: R) x (by rw [← hl]; simp)
  ·rw [if_neg hc, insR_f (decide_eq_false hc)]
theorem sort_Rule (q : Rule → Rule → Option Int) (cmp : Rule → Rule → Int) (hq : ∀ x y, q x y = some (cmp x y)) (xs : List Rule) (hn : xs.length ≤ 1000) :
  slices_insertionSortCmpFunc_Rule std xs (xs.length : Int) 0 (xs.length : Int) q = some (sortI (fun a b => decide (cmp a b < 0)) xs) := by
 unfold slices_insertionSortCmpFunc_Rule
 rw [show std.ar .add .i64 0 1 = ((1 : Nat) : Int) from rfl]
 cases xs with
 | nil => rw [Loop_eq]; rfl
 | cons x0 ys =>
  generalize hxs : x0 :: ys = xs at hn
  have h1 : 1 ≤ xs.length := by rw [← hxs]; simp
  have hstart : xs = sortI (fun a b => decide (cmp a b < 0)) (xs.take 1) ++ xs.drop 1 := by rw [← hxs]; rfl
  have := Loop_row_from (B := slices_insertionSortCmpFunc_Rule_B2 std (xs.length : Int) 0 (xs.length : Int) q) (fun i (_ : Unit) => ((i : Int), sortI (fun a b => decide (cmp a b < 0)) (xs.take i) ++ xs.drop i)) xs (fun _ _ (_ : Unit) => (.inl () : Unit ⊕ List Rule)) (fun _ => sortI (fun a b => decide (cmp a b < 0)) xs) (fun _ _ => True)
   (fun i x u hx _ => by
    have hi := lt_of_at hx
    refine ⟨fun s' _ => ⟨?_, trivial⟩, fun e he => by cases he⟩
    obtain ⟨x', hx', _, hd, ht⟩ := i_at (xs := xs) (i := i) hi
    rw [hx] at hx'; cases hx'
    unfold slices_insertionSortCmpFunc_Rule_B2
    simp only
    rw [lssT hi, br_true]
    have hlen : (sortI (fun a b => decide (cmp a b < 0)) (xs.take i)).reverse.length = i := by rw [List.length_reverse, sortI_len, List.length_take]; omega
    have := ins_Rule q cmp hq xs.length i hn (by omega) (sortI (fun a b => decide (cmp a b < 0)) (xs.take i)).reverse (xs.drop (i + 1)) x (by
     rw [List.reverse_reverse, ← hd, List.length_append, sortI_len, List.length_take, List.length_drop]; omega)
    rw [hlen, List.reverse_reverse, ← hd] at this
    rw [this, ht, sortI_snoc, insR_tail]
    rfl)
   (fun s _ => by
    unfold slices_insertionSortCmpFunc_Rule_B2
    simp only
    rw [lssF, br_false, List.take_length, List.drop_length, List.append_nil]
    rfl) 1 h1 () trivial
  rw [← hstart] at this
  refine this.trans (congrArg some ?_)
  have key : ∀ (l : List Rule) (i : Nat), runL (fun _ _ (_ : Unit) => (.inl () : Unit ⊕ List Rule)) (fun _ => sortI (fun a b => decide (cmp a b < 0)) xs) i l () = sortI (fun a b => decide (cmp a b < 0)) xs := by
   intro l
   induction l with
   | nil => intro i; rfl
   | cons x xs ih => intro i; exact ih (i + 1)
  exact key _ _
theorem stable_Rule (q : Rule → Rule → Option Int) (cmp : Rule → Rule → Int) (hq : ∀ x y, q x y = some (cmp x y)) (xs : List Rule) (hn : xs.length < 20) :
  slices_stableCmpFunc_Rule std xs (xs.length : Int) (xs.length : Int) q = some (sortI (fun a b => decide (cmp a b < 0)) xs) := by
 unfold slices_stableCmpFunc_Rule
 have hB : slices_stableCmpFunc_Rule_B3 std (xs.length : Int) (xs.length : Int) q (0, 20, xs) = some (.inr (sortI (fun a b => decide (cmp a b < 0)) xs)) := by
  unfold slices_stableCmpFunc_Rule_B3
  simp only
  rw [show std.cmp .leq 20 (xs.length : Int) = false by rw [s_leq]; exact decide_eq_false (by omega), br_false, sort_Rule q cmp hq xs (by omega), bd_some, Loop_eq]
  have h2 : slices_stableCmpFunc_Rule_B2 std (xs.length : Int) (sortI (fun a b => decide (cmp a b < 0)) xs) 20 = some (.inr (sortI (fun a b => decide (cmp a b < 0)) xs)) := by
   unfold slices_stableCmpFunc_Rule_B2
   simp only
   rw [show std.cmp .lss 20 (xs.length : Int) = false by rw [s_lss]; exact decide_eq_false (by omega), br_false]
   rfl
  rw [h2]
  rfl
 rw [Loop_eq, hB]
theorem ins_string (q : ByteArray → ByteArray → Option Int) (cmp : ByteArray → ByteArray → Int) (hq : ∀ x y, q x y = some (cmp x y)) (n i : Nat) (hn : n ≤ 1000) (hi : i ≤ 1000) : ∀ (L R : List ByteArray) (x : ByteArray), (L.reverse ++ x :: R).length = n →
  Loop (slices_insertionSortCmpFunc_string_B1 std (n : Int) 0 q (i : Int)) ((L.length : Int), L.reverse ++ x :: R) = some (.inl (((i + 1 : Nat) : Int), insR (fun a b => decide (cmp a b < 0)) x L R))
 | [], R, x, hl => by
  rw [Loop_eq]
  have hB : slices_insertionSortCmpFunc_string_B1 std (n : Int) 0 q (i : Int) ((([] : List ByteArray).length : Int), ([] : List ByteArray).reverse ++ x :: R) = some (.inr (.inl (((i + 1 : Nat) : Int), x :: R))) := by
   unfold slices_insertionSortCmpFunc_string_B1
   simp only [List.length_nil, List.reverse_nil, List.nil_append]
   rw [show std.cmp .gtr ((0 : Nat) : Int) 0 = false from rfl]
   have hv : ∀ p : Prop, vc false p := fun p => True.intro
   rw [ck_t (hv _), ck_t (hv _), ck_t (hv _), ck_t (hv _), gd_f, bd_some, s_land, Bool.false_and, br_false, s_add, wrap_succ (n := 1001) (by omega) (by unfold big63; omega)]
   rfl
  rw [hB]
  rfl
 | y :: L, R, x, hl => by
  rw [Loop_eq]
  have hlen : (y :: L).length + 1 ≤ n := by simp at hl ⊢; omega
  have hj : L.length + 1 < n := by simp only [List.length_cons] at hlen; omega
  have g1 : std.cmp .gtr (((y :: L).length : Nat) : Int) 0 = true := by rw [s_gtr]; exact decide_eq_true (by simp only [List.length_cons]; omega)
  have e1 : std.ar .sub .i64 (((y :: L).length : Nat) : Int) 1 = (L.length : Int) := by rw [prevI (by simp) (by unfold big63; simp only [List.length_cons]; omega)]; simp
  have p0 : ∀ k : Nat, std.pl 0 (k : Int) = (k : Int) := fun k => by rw [s_pl]; omega
  have ax := get_nat (t := TyS.str) (row_at (y :: L) R x)
  have ay := get_nat (t := TyS.str) (row_ahead L R x y)
  have hrl : std.len TyS.str ((y :: L).reverse ++ x :: R) = (n : Int) := by rw [len_nat, hl]
  have hB : slices_insertionSortCmpFunc_string_B1 std (n : Int) 0 q (i : Int) (((y :: L).length : Int), (y :: L).reverse ++ x :: R) = some (if cmp x y < 0 then .inl ((L.length : Int), L.reverse ++ x :: y :: R) else .inr (.inl (((i + 1 : Nat) : Int), (y :: L).reverse ++ x :: R))) := by
   unfold slices_insertionSortCmpFunc_string_B1
   simp only
   rw [g1, e1, p0, p0, hrl]
   have hv : ∀ {p : Prop}, p → vc true p := fun h => h
   rw [ck_t (hv (inbT (by simp only [List.length_cons]; omega))), ck_t (hv (inbT (by simp only [List.length_cons]; omega))), ck_t (hv (inbT (by omega))), ck_t (hv (inbT (by omega))), gd_t, ax, ay, hq, bd_some, s_land, Bool.true_and, s_lss]
   by_cases hc : cmp x y < 0
   ·rw [decide_eq_true hc, br_true, if_pos hc, ck_t (inbT (by omega)), ck_t (inbT (by omega)), ck_t (inbT (by simp only [List.length_cons]; omega)), ck_t (inbT (by simp only [List.length_cons]; omega))]
    have hs : std.len TyS.str (std.set TyS.str ((y :: L).reverse ++ x :: R) (((y :: L).length : Nat) : Int) y) = (n : Int) := by
     rw [s_set, len_nat, List.length_set, hl]
    rw [hs, ck_t (inbT (by omega)), s_set, s_set, Int.toNat_natCast, Int.toNat_natCast]
    have := row_swap L R x y
    exact congrArg (fun r => some (Sum.inl ((L.length : Int), r))) this
   ·rw [decide_eq_false hc, br_false, if_neg hc, s_add, wrap_succ (n := 1001) (by omega) (by unfold big63; omega)]
    rfl
  rw [hB]
  by_cases hc : cmp x y < 0
  ·rw [if_pos hc, insR_t (decide_eq_true hc)]
   exact ins_string q cmp hq n i hn hi L (y :: R) x (by rw [← hl]; simp)
  ·rw [if_neg hc, insR_f (decide_eq_false hc)]
theorem sort_string (q : ByteArray → ByteArray → Option Int) (cmp : ByteArray → ByteArray → Int) (hq : ∀ x y, q x y = some (cmp x y)) (xs : List ByteArray) (hn : xs.length ≤ 1000) :
  slices_insertionSortCmpFunc_string std xs (xs.length : Int) 0 (xs.length : Int) q = some (sortI (fun a b => decide (cmp a b < 0)) xs) := by
 unfold slices_insertionSortCmpFunc_string
 rw [show std.ar .add .i64 0 1 = ((1 : Nat) : Int) from rfl]
 cases xs with
 | nil => rw [Loop_eq]; rfl
 | cons x0 ys =>
  generalize hxs : x0 :: ys = xs at hn
  have h1 : 1 ≤ xs.length := by rw [← hxs]; simp
  have hstart : xs = sortI (fun a b => decide (cmp a b < 0)) (xs.take 1) ++ xs.drop 1 := by rw [← hxs]; rfl
  have := Loop_row_from (B := slices_insertionSortCmpFunc_string_B2 std (xs.length : Int) 0 (xs.length : Int) q) (fun i (_ : Unit) => ((i : Int), sortI (fun a b => decide (cmp a b < 0)) (xs.take i) ++ xs.drop i)) xs (fun _ _ (_ : Unit) => (.inl () : Unit ⊕ List ByteArray)) (fun _ => sortI (fun a b => decide (cmp a b < 0)) xs) (fun _ _ => True)
   (fun i x u hx _ => by
    have hi := lt_of_at hx
    refine ⟨fun s' _ => ⟨?_, trivial⟩, fun e he => by cases he⟩
    obtain ⟨x', hx', _, hd, ht⟩ := i_at (xs := xs) (i := i) hi
    rw [hx] at hx'; cases hx'
    unfold slices_insertionSortCmpFunc_string_B2
    simp only
    rw [lssT hi, br_true]
    have hlen : (sortI (fun a b => decide (cmp a b < 0)) (xs.take i)).reverse.length = i := by rw [List.length_reverse, sortI_len, List.length_take]; omega
    have := ins_string q cmp hq xs.length i hn (by omega) (sortI (fun a b => decide (cmp a b < 0)) (xs.take i)).reverse (xs.drop (i + 1)) x (by
     rw [List.reverse_reverse, ← hd, List.length_append, sortI_len, List.length_take, List.length_drop]; omega)
    rw [hlen, List.reverse_reverse, ← hd] at this
    rw [this, ht, sortI_snoc, insR_tail]
    rfl)
   (fun s _ => by
    unfold slices_insertionSortCmpFunc_string_B2
    simp only
    rw [lssF, br_false, List.take_length, List.drop_length, List.append_nil]
    rfl) 1 h1 () trivial
  rw [← hstart] at this
  refine this.trans (congrArg some ?_)
  have key : ∀ (l : List ByteArray) (i : Nat), runL (fun _ _ (_ : Unit) => (.inl () : Unit ⊕ List ByteArray)) (fun _ => sortI (fun a b => decide (cmp a b < 0)) xs) i l () = sortI (fun a b => decide (cmp a b < 0)) xs := by
   intro l
   induction l with
   | nil => intro i; rfl
   | cons x xs ih => intro i; exact ih (i + 1)
  exact key _ _
theorem stable_string (q : ByteArray → ByteArray → Option Int) (cmp : ByteArray → ByteArray → Int) (hq : ∀ x y, q x y = some (cmp x y)) (xs : List ByteArray) (hn : xs.length < 20) :
  slices_stableCmpFunc_string std xs (xs.length : Int) (xs.length : Int) q = some (sortI (fun a b => decide (cmp a b < 0)) xs) := by
 unfold slices_stableCmpFunc_string
 have hB : slices_stableCmpFunc_string_B3 std (xs.length : Int) (xs.length : Int) q (0, 20, xs) = some (.inr (sortI (fun a b => decide (cmp a b < 0)) xs)) := by
  unfold slices_stableCmpFunc_string_B3
  simp only
  rw [show std.cmp .leq 20 (xs.length : Int) = false by rw [s_leq]; exact decide_eq_false (by omega), br_false, sort_string q cmp hq xs (by omega), bd_some, Loop_eq]
  have h2 : slices_stableCmpFunc_string_B2 std (xs.length : Int) (sortI (fun a b => decide (cmp a b < 0)) xs) 20 = some (.inr (sortI (fun a b => decide (cmp a b < 0)) xs)) := by
   unfold slices_stableCmpFunc_string_B2
   simp only
   rw [show std.cmp .lss 20 (xs.length : Int) = false by rw [s_lss]; exact decide_eq_false (by omega), br_false]
   rfl
  rw [h2]
  rfl
 rw [Loop_eq, hB]
theorem ins_Hours (q : Hours → Hours → Option Int) (cmp : Hours → Hours → Int) (hq : ∀ x y, q x y = some (cmp x y)) (n i : Nat) (hn : n ≤ 1000) (hi : i ≤ 1000) : ∀ (L R : List Hours) (x : Hours), (L.reverse ++ x :: R).length = n →
  Loop (slices_insertionSortCmpFunc_Hours_B1 std (n : Int) 0 q (i : Int)) ((L.length : Int), L.reverse ++ x :: R) = some (.inl (((i + 1 : Nat) : Int), insR (fun a b => decide (cmp a b < 0)) x L R))
 | [], R, x, hl => by
  rw [Loop_eq]
  have hB : slices_insertionSortCmpFunc_Hours_B1 std (n : Int) 0 q (i : Int) ((([] : List Hours).length : Int), ([] : List Hours).reverse ++ x :: R) = some (.inr (.inl (((i + 1 : Nat) : Int), x :: R))) := by
   unfold slices_insertionSortCmpFunc_Hours_B1
   simp only [List.length_nil, List.reverse_nil, List.nil_append]
   rw [show std.cmp .gtr ((0 : Nat) : Int) 0 = false from rfl]
   have hv : ∀ p : Prop, vc false p := fun p => True.intro
   rw [ck_t (hv _), ck_t (hv _), ck_t (hv _), ck_t (hv _), gd_f, bd_some, s_land, Bool.false_and, br_false, s_add, wrap_succ (n := 1001) (by omega) (by unfold big63; omega)]
   rfl
  rw [hB]
  rfl
 | y :: L, R, x, hl => by
  rw [Loop_eq]
  have hlen : (y :: L).length + 1 ≤ n := by simp at hl ⊢; omega
  have hj : L.length + 1 < n := by simp only [List.length_cons] at hlen; omega
  have g1 : std.cmp .gtr (((y :: L).length : Nat) : Int) 0 = true := by rw [s_gtr]; exact decide_eq_true (by simp only [List.length_cons]; omega)
  have e1 : std.ar .sub .i64 (((y :: L).length : Nat) : Int) 1 = (L.length : Int) := by rw [prevI (by simp) (by unfold big63; simp only [List.length_cons]; omega)]; simp
  have p0 : ∀ k : Nat, std.pl 0 (k : Int) = (k : Int) := fun k => by rw [s_pl]; omega
  have ax := get_nat (t := TyS.hours) (row_at (y :: L) R x)
  have ay := get_nat (t := TyS.hours) (row_ahead L R x y)
  have hrl : std.len TyS.hours ((y :: L).reverse ++ x :: R) = (n : Int) := by rw [len_nat, hl]
  have hB : slices_insertionSortCmpFunc_Hours_B1 std (n : Int) 0 q (i : Int) (((y :: L).length : Int), (y :: L).reverse ++ x :: R) = some (if cmp x y < 0 then .inl ((L.length : Int), L.reverse ++ x :: y :: R) else .inr (.inl (((i + 1 : Nat) : Int), (y :: L).reverse ++ x :: R))) := by
   unfold slices_insertionSortCmpFunc_Hours_B1
   simp only
   rw [g1, e1, p0, p0, hrl]
   have hv : ∀ {p : Prop}, p → vc true p := fun h => h
   rw [ck_t (hv (inbT (by simp only [List.length_cons]; omega))), ck_t (hv (inbT (by simp only [List.length_cons]; omega))), ck_t (hv (inbT (by omega))), ck_t (hv (inbT (by omega))), gd_t, ax, ay, hq, bd_some, s_land, Bool.true_and, s_lss]
   by_cases hc : cmp x y < 0
   ·rw [decide_eq_true hc, br_true, if_pos hc, ck_t (inbT (by omega)), ck_t (inbT (by omega)), ck_t (inbT (by simp only [List.length_cons]; omega)), ck_t (inbT (by simp only [List.length_cons]; omega))]
    have hs : std.len TyS.hours (std.set TyS.hours ((y :: L).reverse ++ x :: R) (((y :: L).length : Nat) : Int) y) = (n : Int) := by
     rw [s_set, len_nat, List.length_set, hl]
    rw [hs, ck_t (inbT (by omega)), s_set, s_set, Int.toNat_natCast, Int.toNat_natCast]
    have := row_swap L R x y
    exact congrArg (fun r => some (Sum.inl ((L.length : Int), r))) this
   ·rw [decide_eq_false hc, br_false, if_neg hc, s_add, wrap_succ (n := 1001) (by omega) (by unfold big63; omega)]
    rfl
  rw [hB]
  by_cases hc : cmp x y < 0
  ·rw [if_pos hc, insR_t (decide_eq_true hc)]
   exact ins_Hours q cmp hq n i hn hi L (y :: R) x (by rw [← hl]; simp)
  ·rw [if_neg hc, insR_f (decide_eq_false hc)]
theorem sort_Hours (q : Hours → Hours → Option Int) (cmp : Hours → Hours → Int) (hq : ∀ x y, q x y = some (cmp x y)) (xs : List Hours) (hn : xs.length ≤ 1000) :
  slices_insertionSortCmpFunc_Hours std xs (xs.length : Int) 0 (xs.length : Int) q = some (sortI (fun a b => decide (cmp a b < 0)) xs) := by
 unfold slices_insertionSortCmpFunc_Hours
 rw [show std.ar .add .i64 0 1 = ((1 : Nat) : Int) from rfl]
 cases xs with
 | nil => rw [Loop_eq]; rfl
 | cons x0 ys =>
  generalize hxs : x0 :: ys = xs at hn
  have h1 : 1 ≤ xs.length := by rw [← hxs]; simp
  have hstart : xs = sortI (fun a b => decide (cmp a b < 0)) (xs.take 1) ++ xs.drop 1 := by rw [← hxs]; rfl
  have := Loop_row_from (B := slices_insertionSortCmpFunc_Hours_B2 std (xs.length : Int) 0 (xs.length : Int) q) (fun i (_ : Unit) => ((i : Int), sortI (fun a b => decide (cmp a b < 0)) (xs.take i) ++ xs.drop i)) xs (fun _ _ (_ : Unit) => (.inl () : Unit ⊕ List Hours)) (fun _ => sortI (fun a b => decide (cmp a b < 0)) xs) (fun _ _ => True)
   (fun i x u hx _ => by
    have hi := lt_of_at hx
    refine ⟨fun s' _ => ⟨?_, trivial⟩, fun e he => by cases he⟩
    obtain ⟨x', hx', _, hd, ht⟩ := i_at (xs := xs) (i := i) hi
    rw [hx] at hx'; cases hx'
    unfold slices_insertionSortCmpFunc_Hours_B2
    simp only
    rw [lssT hi, br_true]
    have hlen : (sortI (fun a b => decide (cmp a b < 0)) (xs.take i)).reverse.length = i := by rw [List.length_reverse, sortI_len, List.length_take]; omega
    have := ins_Hours q cmp hq xs.length i hn (by omega) (sortI (fun a b => decide (cmp a b < 0)) (xs.take i)).reverse (xs.drop (i + 1)) x (by
     rw [List.reverse_reverse, ← hd, List.length_append, sortI_len, List.length_take, List.length_drop]; omega)
    rw [hlen, List.reverse_reverse, ← hd] at this
    rw [this, ht, sortI_snoc, insR_tail]
    rfl)
   (fun s _ => by
    unfold slices_insertionSortCmpFunc_Hours_B2
    simp only
    rw [lssF, br_false, List.take_length, List.drop_length, List.append_nil]
    rfl) 1 h1 () trivial
  rw [← hstart] at this
  refine this.trans (congrArg some ?_)
  have key : ∀ (l : List Hours) (i : Nat), runL (fun _ _ (_ : Unit) => (.inl () : Unit ⊕ List Hours)) (fun _ => sortI (fun a b => decide (cmp a b < 0)) xs) i l () = sortI (fun a b => decide (cmp a b < 0)) xs := by
   intro l
   induction l with
   | nil => intro i; rfl
   | cons x xs ih => intro i; exact ih (i + 1)
  exact key _ _
theorem stable_Hours (q : Hours → Hours → Option Int) (cmp : Hours → Hours → Int) (hq : ∀ x y, q x y = some (cmp x y)) (xs : List Hours) (hn : xs.length < 20) :
  slices_stableCmpFunc_Hours std xs (xs.length : Int) (xs.length : Int) q = some (sortI (fun a b => decide (cmp a b < 0)) xs) := by
 unfold slices_stableCmpFunc_Hours
 have hB : slices_stableCmpFunc_Hours_B3 std (xs.length : Int) (xs.length : Int) q (0, 20, xs) = some (.inr (sortI (fun a b => decide (cmp a b < 0)) xs)) := by
  unfold slices_stableCmpFunc_Hours_B3
  simp only
  rw [show std.cmp .leq 20 (xs.length : Int) = false by rw [s_leq]; exact decide_eq_false (by omega), br_false, sort_Hours q cmp hq xs (by omega), bd_some, Loop_eq]
  have h2 : slices_stableCmpFunc_Hours_B2 std (xs.length : Int) (sortI (fun a b => decide (cmp a b < 0)) xs) 20 = some (.inr (sortI (fun a b => decide (cmp a b < 0)) xs)) := by
   unfold slices_stableCmpFunc_Hours_B2
   simp only
   rw [show std.cmp .lss 20 (xs.length : Int) = false by rw [s_lss]; exact decide_eq_false (by omega), br_false]
   rfl
  rw [h2]
  rfl
 rw [Loop_eq, hB]
end Go.PL
namespace Go.PL
set_option linter.unusedSimpArgs false
set_option linter.unusedVariables false
set_option linter.unusedSectionVars false
open Tys (Ty U)
open Enc (sz enc dflt tb ofB toB)
open Dec (dec dok)
set_option maxRecDepth 100000
def byName {α : Type} (key : α → ByteArray) (a b : α) : Bool := lessS (key a) (key b)
theorem clone_Rule (xs : List Rule) (h : xs.length ≤ 1000) : slices_Clone_Rule_Rule std xs = some ((xs.length : Int), xs) := by
 unfold slices_Clone_Rule_Rule
 have e : ∀ k : Nat, k ≤ 1000 → std.appOk TyS.rule k [] xs := fun k hk => ⟨by have := Nat.mul_le_mul (show ([] : List (U TyS.rule)).length + xs.length ≤ 1000 by simpa using h) hk; omega, by simp; omega⟩
 rw [both_t (fun hc => by
  have h0 : xs = [] := by
   rw [s_eql, len_nat] at hc
   have : xs.length = 0 := by simpa using hc
   exact List.length_eq_zero_iff.1 this
  subst h0
  rw [ck_t (e _ (by decide))]
  rfl), ck_t (e _ (by decide))]
 rfl
theorem sorted_Rule (xs : List Rule) (q : Rule → Option ByteArray) (key : Rule → ByteArray) (hq : ∀ x, q x = some (key x)) (h : xs.length < 20) : config_sorted_Rule std xs q = some (sortI (byName key) xs) := by
 unfold config_sorted_Rule slices_SortStableFunc_Rule_Rule
 rw [clone_Rule xs (by omega), bd_some]
 simp only
 rw [stable_Rule (fun y0 y1 => config_sorted_Rule_1 std y0 y1 q) (fun a b => Lib.compareBytes (key a).data.toList (key b).data.toList) (fun x y => by unfold config_sorted_Rule_1 strings_Compare; rw [hq, bd_some, hq, bd_some, bd_some]) xs h, bd_some, bd_some]
 have e : (fun a b : Rule => decide (Lib.compareBytes (key a).data.toList (key b).data.toList < 0)) = byName key := funext fun a => funext fun b => compare_less _ _
 have hl := sortI_len (byName key) xs
 rw [e, s_pl, Int.zero_add, len_nat, ck_t (show std.subOk 0 (xs.length : Int) ((sortI (byName key) xs).length : Int) from ⟨by omega, by omega, by omega⟩), s_lsub]
 simp [← hl]
theorem clone_string (xs : List ByteArray) (h : xs.length ≤ 1000) : slices_Clone_string_string std xs = some ((xs.length : Int), xs) := by
 unfold slices_Clone_string_string
 have e : ∀ k : Nat, k ≤ 1000 → std.appOk TyS.str k [] xs := fun k hk => ⟨by have := Nat.mul_le_mul (show ([] : List (U TyS.str)).length + xs.length ≤ 1000 by simpa using h) hk; omega, by simp; omega⟩
 rw [both_t (fun hc => by
  have h0 : xs = [] := by
   rw [s_eql, len_nat] at hc
   have : xs.length = 0 := by simpa using hc
   exact List.length_eq_zero_iff.1 this
  subst h0
  rw [ck_t (e _ (by decide))]
  rfl), ck_t (e _ (by decide))]
 rfl
theorem sorted_string (xs : List ByteArray) (q : ByteArray → Option ByteArray) (key : ByteArray → ByteArray) (hq : ∀ x, q x = some (key x)) (h : xs.length < 20) : config_sorted_string std xs q = some (sortI (byName key) xs) := by
 unfold config_sorted_string slices_SortStableFunc_string_string
 rw [clone_string xs (by omega), bd_some]
 simp only
 rw [stable_string (fun y0 y1 => config_sorted_string_1 std y0 y1 q) (fun a b => Lib.compareBytes (key a).data.toList (key b).data.toList) (fun x y => by unfold config_sorted_string_1 strings_Compare; rw [hq, bd_some, hq, bd_some, bd_some]) xs h, bd_some, bd_some]
 have e : (fun a b : ByteArray => decide (Lib.compareBytes (key a).data.toList (key b).data.toList < 0)) = byName key := funext fun a => funext fun b => compare_less _ _
 have hl := sortI_len (byName key) xs
 rw [e, s_pl, Int.zero_add, len_nat, ck_t (show std.subOk 0 (xs.length : Int) ((sortI (byName key) xs).length : Int) from ⟨by omega, by omega, by omega⟩), s_lsub]
 simp [← hl]
theorem clone_Hours (xs : List Hours) (h : xs.length ≤ 1000) : slices_Clone_Hours_Hours std xs = some ((xs.length : Int), xs) := by
 unfold slices_Clone_Hours_Hours
 have e : ∀ k : Nat, k ≤ 1000 → std.appOk TyS.hours k [] xs := fun k hk => ⟨by have := Nat.mul_le_mul (show ([] : List (U TyS.hours)).length + xs.length ≤ 1000 by simpa using h) hk; omega, by simp; omega⟩
 rw [both_t (fun hc => by
  have h0 : xs = [] := by
   rw [s_eql, len_nat] at hc
   have : xs.length = 0 := by simpa using hc
   exact List.length_eq_zero_iff.1 this
  subst h0
  rw [ck_t (e _ (by decide))]
  rfl), ck_t (e _ (by decide))]
 rfl
theorem sorted_Hours (xs : List Hours) (q : Hours → Option ByteArray) (key : Hours → ByteArray) (hq : ∀ x, q x = some (key x)) (h : xs.length < 20) : config_sorted_Hours std xs q = some (sortI (byName key) xs) := by
 unfold config_sorted_Hours slices_SortStableFunc_Hours_Hours
 rw [clone_Hours xs (by omega), bd_some]
 simp only
 rw [stable_Hours (fun y0 y1 => config_sorted_Hours_1 std y0 y1 q) (fun a b => Lib.compareBytes (key a).data.toList (key b).data.toList) (fun x y => by unfold config_sorted_Hours_1 strings_Compare; rw [hq, bd_some, hq, bd_some, bd_some]) xs h, bd_some, bd_some]
 have e : (fun a b : Hours => decide (Lib.compareBytes (key a).data.toList (key b).data.toList < 0)) = byName key := funext fun a => funext fun b => compare_less _ _
 have hl := sortI_len (byName key) xs
 rw [e, s_pl, Int.zero_add, len_nat, ck_t (show std.subOk 0 (xs.length : Int) ((sortI (byName key) xs).length : Int) from ⟨by omega, by omega, by omega⟩), s_lsub]
 simp [← hl]
end Go.PL
namespace Go.PL
set_option linter.unusedSimpArgs false
set_option linter.unusedVariables false
set_option linter.unusedSectionVars false
open Tys (Ty U)
open Enc (sz enc dflt tb ofB toB)
open Dec (dec dok)
set_option maxRecDepth 100000
section
variable {α : Type} (key : α → ByteArray)
end
end Go.PL
namespace Go.PL
set_option linter.unusedSimpArgs false
set_option linter.unusedVariables false
set_option linter.unusedSectionVars false
open Tys (Ty U)
open Enc (sz enc dflt tb ofB toB)
open Dec (dec dok)
set_option maxRecDepth 100000
theorem allI_get {α : Type} {p : Nat → α → Bool} : ∀ {xs : List α} {i : Nat}, allI p i xs = true → ∀ (j : Nat) (x : α), xs[j]? = some x → p (i + j) x = true
 | [], _, _, j, x, h => by simp at h
 | y :: ys, i, h, j, x, hx => by
  simp only [allI, Bool.and_eq_true] at h
  cases j with
  | zero => cases hx; exact h.1
  | succ j =>
   have := allI_get h.2 j x (by simpa using hx)
   rwa [show i + 1 + j = i + (j + 1) by omega] at this
theorem once_nodup {names : List ByteArray} (h : onceS names = true) : names.Nodup := by
 unfold List.Nodup
 rw [List.pairwise_iff_getElem]
 intro i j hi hj hij e
 have hs : names[j]? = some names[j] := List.getElem?_eq_getElem hj
 have := allI_get h j names[j] hs
 rw [Nat.zero_add] at this
 simp only [onceP, hasS, Bool.not_eq_true', List.any_eq_false, decide_eq_true_eq] at this
 refine this names[j] (List.mem_of_getElem? (i := i) ?_) rfl
 rw [List.getElem?_take, if_pos hij, List.getElem?_eq_getElem hi, e]
end Go.PL
namespace Go.PL
set_option linter.unusedSimpArgs false
set_option linter.unusedVariables false
set_option linter.unusedSectionVars false
open Tys (Ty U)
open Enc (sz enc dflt tb ofB toB)
open Dec (dec dok)
set_option maxRecDepth 100000
def atS (l : List ByteArray) (k : Nat) : ByteArray := l.getD k ⟨#[]⟩
def castI (l : List Nat) : List Int := l.map fun k : Nat => (k : Int)
def stepP (l : List ByteArray) (acc : List Nat) (i : Nat) : List Nat := if hasS (l.take i) (atS l i) = true then acc else insL (atS l) i acc
def placesTo (l : List ByteArray) (i : Nat) : List Nat := (List.range i).foldl (stepP l) []
end Go.PL
namespace Go.PL
set_option linter.unusedSimpArgs false
set_option linter.unusedVariables false
set_option linter.unusedSectionVars false
open Tys (Ty U)
open Enc (sz enc dflt tb ofB toB)
open Dec (dec dok)
set_option maxRecDepth 100000
theorem span_inj {p : UInt8 → Bool} : ∀ A B C D : List UInt8, (∀ x ∈ A, p x = true) → (∀ x ∈ B, p x = true) → (∀ c, C.head? = some c → p c = false) → (∀ c, D.head? = some c → p c = false) → A ++ C = B ++ D → A = B ∧ C = D
 | [], [], _, _, _, _, _, _, h => ⟨rfl, h⟩
 | [], b :: B, C, D, _, hB, hC, _, h => by
  have h1 := hC b (by rw [List.nil_append] at h; rw [h]; rfl)
  rw [hB b (List.mem_cons_self ..)] at h1; cases h1
 | a :: A, [], C, D, hA, _, _, hD, h => by
  have h1 := hD a (by rw [List.nil_append] at h; rw [← h]; rfl)
  rw [hA a (List.mem_cons_self ..)] at h1; cases h1
 | a :: A, b :: B, C, D, hA, hB, hC, hD, h => by
  obtain ⟨h1, h2⟩ := List.cons.inj h
  obtain ⟨h3, h4⟩ := span_inj A B C D (fun x hx => hA x (List.mem_cons_of_mem _ hx)) (fun x hx => hB x (List.mem_cons_of_mem _ hx)) hC hD h2
  exact ⟨by rw [h1, h3], h4⟩
theorem tails_head (r : List ByteArray) : ∀ c, (r.map fun x => 124 :: bytes x).flatten.head? = some c → mwC c = false := by
 intro c h
 cases r with
 | nil => cases h
 | cons x r =>
  simp only [List.map_cons, List.flatten_cons, List.cons_append, List.head?_cons, Option.some.injEq] at h
  subst h; decide
theorem tails_inj : ∀ (w v : ByteArray) (r s : List ByteArray), (∀ x ∈ w :: r, (bytes x).all mwC = true) → (∀ x ∈ v :: s, (bytes x).all mwC = true) → bytes w ++ (r.map fun x => 124 :: bytes x).flatten = bytes v ++ (s.map fun x => 124 :: bytes x).flatten → w :: r = v :: s
 | w, v, r, s, hw, hv, h => by
  have h1 := hw w (List.mem_cons_self ..)
  have h2 := hv v (List.mem_cons_self ..)
  rw [List.all_eq_true] at h1 h2
  obtain ⟨h3, h4⟩ := span_inj _ _ _ _ h1 h2 (tails_head r) (tails_head s) h
  rw [ba_ext h3]
  cases r with
  | nil =>
   cases s with
   | nil => rfl
   | cons y s => simp at h4
  | cons x r =>
   cases s with
   | nil => simp at h4
   | cons y s =>
    simp only [List.map_cons, List.flatten_cons, List.cons_append] at h4
    rw [tails_inj x y r s (fun z hz => hw z (List.mem_cons_of_mem _ hz)) (fun z hz => hv z (List.mem_cons_of_mem _ hz)) (List.cons.inj h4).2]
 termination_by _ _ r => r.length
theorem name_chars {s : ByteArray} (h : nameS s = true) : ∀ c ∈ bytes s, (letC c || digC c) = true := by
 intro c hc
 simp only [nameS, Bool.and_eq_true] at h
 obtain ⟨j, hj⟩ := allI_mem h.1.1 c hc
 simp only [nameP, Bool.or_eq_true, Bool.and_eq_true] at hj ⊢
 exact hj.imp id fun h => h.2
theorem signL_inj {a b : Int} (a1 : 1 ≤ a) (a4 : a ≤ 4) (b1 : 1 ≤ b) (b4 : b ≤ 4) {x y : List UInt8} (h : signL a ++ 34 :: x = signL b ++ 34 :: y) : a = b ∧ x = y := by
 have ha : a = 1 ∨ a = 2 ∨ a = 3 ∨ a = 4 := by omega
 have hb : b = 1 ∨ b = 2 ∨ b = 3 ∨ b = 4 := by omega
 rcases ha with rfl | rfl | rfl | rfl <;> rcases hb with rfl | rfl | rfl | rfl <;> simp [signL] at h ⊢ <;> exact h
theorem signL_head {a : Int} (a1 : 1 ≤ a) (a4 : a ≤ 4) (x : List UInt8) : ∀ c, (signL a ++ x).head? = some c → (letC c || digC c) = false := by
 intro c h
 have ha : a = 1 ∨ a = 2 ∨ a = 3 ∨ a = 4 := by omega
 rcases ha with rfl | rfl | rfl | rfl <;> simp [signL] at h <;> subst h <;> decide
theorem textS_inj {m n : Matcher} (hm : matcherS m = true) (hn : matcherS n = true) (h : textS m = textS n) : m = n := by
 have h := congrArg bytes h
 rw [textS_bytes, textS_bytes] at h
 have hm0 := matcherS_ok hm
 have hn0 := matcherS_ok hn
 simp only [matcherS, Bool.and_eq_true, decide_eq_true_eq] at hm hn
 obtain ⟨hmw, ⟨⟨⟨⟨hm2, _⟩, _⟩, hm1⟩, _⟩, _⟩ := hm
 obtain ⟨hnw, ⟨⟨⟨⟨hn2, _⟩, _⟩, hn1⟩, _⟩, _⟩ := hn
 unfold textL at h
 have h := List.append_cancel_right h
 rw [List.append_assoc, List.append_assoc, List.append_assoc, List.append_assoc] at h
 obtain ⟨h1, h2⟩ := span_inj _ _ _ _ (name_chars hm2) (name_chars hn2) (signL_head hm0.how1 hm0.how4 _) (signL_head hn0.how1 hn0.how4 _) h
 obtain ⟨h3, h4⟩ := signL_inj hm0.how1 hm0.how4 hn0.how1 hn0.how4 h2
 have wm : ∀ x ∈ m.Words, (bytes x).all mwC = true := fun x hx => by
  have := words_mem hmw x hx
  simp only [mwordS, Bool.and_eq_true] at this
  exact this.1
 have wn : ∀ x ∈ n.Words, (bytes x).all mwC = true := fun x hx => by
  have := words_mem hnw x hx
  simp only [mwordS, Bool.and_eq_true] at this
  exact this.1
 obtain ⟨mn, mh, mw⟩ := m
 obtain ⟨nn, nh, nw⟩ := n
 simp only at *
 subst h3
 rw [ba_ext h1]
 cases mw with
 | nil => simp at hm1
 | cons x mw =>
  cases nw with
  | nil => simp at hn1
  | cons y nw => rw [tails_inj x y mw nw wm wn h4]
theorem map_inj_on {α β : Type} {f : α → β} {P : α → Prop} (hf : ∀ x y, P x → P y → f x = f y → x = y) : ∀ l m : List α, (∀ x ∈ l, P x) → (∀ x ∈ m, P x) → l.map f = m.map f → l = m
 | [], [], _, _, _ => rfl
 | [], _ :: _, _, _, h => by simp at h
 | _ :: _, [], _, _, h => by simp at h
 | x :: l, y :: m, hl, hm, h => by
  rw [List.map_cons, List.map_cons] at h
  obtain ⟨h1, h2⟩ := List.cons.inj h
  rw [hf x y (hl x (List.mem_cons_self ..)) (hm y (List.mem_cons_self ..)) h1, map_inj_on hf l m (fun z hz => hl z (List.mem_cons_of_mem _ hz)) (fun z hz => hm z (List.mem_cons_of_mem _ hz)) h2]
end Go.PL
namespace Go.PL
set_option linter.unusedSimpArgs false
set_option linter.unusedVariables false
set_option linter.unusedSectionVars false
open Tys (Ty U)
open Enc (sz enc dflt tb ofB toB)
open Dec (dec dok)
set_option maxRecDepth 100000
section
variable {α : Type} (key : α → ByteArray)
structure Norm (xs l : List α) : Prop where
 asc : Asc key l
 sub : ∀ x ∈ l, x ∈ xs
 all : ∀ x ∈ xs, ∃ y ∈ l, key y = key x
theorem Norm.same {xs ys l : List α} (h : Norm key xs l) (he : ∀ x, x ∈ xs ↔ x ∈ ys) : Norm key ys l :=
 ⟨h.asc, fun x hx => (he x).1 (h.sub x hx), fun x hx => h.all x ((he x).2 hx)⟩
def WAsc (l : List α) : Prop := l.Pairwise fun x y => lessS (key y) (key x) = false
theorem less_le_trans {a b c : ByteArray} (h1 : lessS a b = true) (h2 : lessS c b = false) : lessS a c = true := by
 cases h3 : lessS a c with
 | true => rfl
 | false =>
  cases h4 : lessS c a with
  | true => rw [less_trans h4 h1] at h2; cases h2
  | false => obtain rfl := less_tri h3 h4; rw [h1] at h2; cases h2
theorem le_trans' {a b c : ByteArray} (h1 : lessS b a = false) (h2 : lessS c b = false) : lessS c a = false := by
 cases h : lessS c a with
 | false => rfl
 | true => have := less_le_trans h h1; rw [this] at h2; cases h2
theorem insR_wasc (x : α) : ∀ L R : List α, WAsc key (L.reverse ++ R) → (∀ y ∈ R, lessS (key x) (key y) = true) → WAsc key (insR (byName key) x L R)
 | [], R, h, hR => by
  simp only [insR, WAsc]
  exact List.pairwise_cons.2 ⟨fun y hy => less_asymm (hR y hy), by simpa [WAsc] using h⟩
 | y :: L, R, h, hR => by
  cases hc : byName key x y with
  | true =>
   rw [insR_t hc]
   refine insR_wasc x L (y :: R) (by rw [List.reverse_cons, List.append_assoc] at h; exact h) (fun z hz => ?_)
   rcases List.mem_cons.1 hz with rfl | hz
   ·exact hc
   ·exact hR z hz
  | false =>
   rw [insR_f hc]
   have hc' : lessS (key x) (key y) = false := hc
   unfold WAsc at h ⊢
   rw [List.pairwise_append] at h ⊢
   obtain ⟨h1, h2, h3⟩ := h
   refine ⟨h1, List.pairwise_cons.2 ⟨fun z hz => less_asymm (hR z hz), h2⟩, fun a ha b hb => ?_⟩
   rcases List.mem_cons.1 hb with rfl | hb
   ·rw [List.mem_reverse] at ha
    rcases List.mem_cons.1 ha with rfl | ha
    ·exact hc'
    ·rw [List.reverse_cons, List.pairwise_append] at h1
     exact le_trans' (h1.2.2 a (List.mem_reverse.2 ha) y (by simp)) hc'
   ·exact h3 a ha b hb
theorem sortI_wasc : ∀ (n : Nat) (xs : List α), xs.length = n → WAsc key (sortI (byName key) xs)
 | 0, xs, h => by
  rw [List.length_eq_zero_iff.1 h]; exact List.Pairwise.nil
 | n + 1, xs, h => by
  rcases List.eq_nil_or_concat xs with rfl | ⟨ys, x, rfl⟩
  ·exact List.Pairwise.nil
  ·rw [List.concat_eq_append] at *
   have ih := sortI_wasc n ys (by simpa using h)
   rw [sortI_snoc]
   exact insR_wasc key x _ [] (by rw [List.reverse_reverse, List.append_nil]; exact ih) (fun y hy => by cases hy)
def compactA : α → List α → List α
 | _, [] => []
 | p, y :: r => if key y = key p then compactA y r else y :: compactA y r
def compactK : List α → List α
 | [] => []
 | x :: r => x :: compactA key x r
theorem compactA_sub : ∀ (p : α) (r : List α), ∀ z ∈ compactA key p r, z ∈ r
 | p, [], z, h => by cases h
 | p, y :: r, z, h => by
  rw [compactA] at h
  split at h
  ·exact List.mem_cons_of_mem _ (compactA_sub y r z h)
  ·rcases List.mem_cons.1 h with rfl | h
   ·exact List.mem_cons_self ..
   ·exact List.mem_cons_of_mem _ (compactA_sub y r z h)
theorem compactA_all : ∀ (p : α) (r : List α), ∀ x ∈ r, key x = key p ∨ ∃ y ∈ compactA key p r, key y = key x
 | p, [], x, h => by cases h
 | p, y :: r, x, h => by
  rw [compactA]
  split
  ·rename_i he
   rcases List.mem_cons.1 h with rfl | h
   ·exact .inl he
   ·rcases compactA_all y r x h with h | h
    ·exact .inl (h.trans he)
    ·exact .inr h
  ·rcases List.mem_cons.1 h with rfl | h
   ·exact .inr ⟨x, List.mem_cons_self .., rfl⟩
   ·rcases compactA_all y r x h with h | ⟨z, hz, he⟩
    ·exact .inr ⟨y, List.mem_cons_self .., h.symm⟩
    ·exact .inr ⟨z, List.mem_cons_of_mem _ hz, he⟩
theorem compactA_asc : ∀ (p : α) (r : List α), WAsc key (p :: r) → Asc key (p :: compactA key p r)
 | p, [], h => by simp [compactA, Asc]
 | p, y :: r, h => by
  unfold WAsc at h
  rw [List.pairwise_cons] at h
  have ih := compactA_asc y r h.2
  have hy := h.1 y (List.mem_cons_self ..)
  unfold Asc at ih ⊢
  rw [List.pairwise_cons] at ih
  rw [compactA]
  split
  ·rename_i he
   exact List.pairwise_cons.2 ⟨fun z hz => by rw [← he]; exact ih.1 z hz, ih.2⟩
  ·rename_i he
   have hpy : lessS (key p) (key y) = true := by
    cases hc : lessS (key p) (key y) with
    | true => rfl
    | false => exact absurd (less_tri hy hc) he
   refine List.pairwise_cons.2 ⟨fun z hz => ?_, List.pairwise_cons.2 ih⟩
   rcases List.mem_cons.1 hz with rfl | hz
   ·exact hpy
   ·exact less_trans hpy (ih.1 z hz)
theorem compact_norm (xs : List α) : Norm key xs (compactK key (sortI (byName key) xs)) := by
 have hw := sortI_wasc key _ xs rfl
 have hp := sortI_perm (byName key) xs
 cases hs : sortI (byName key) xs with
 | nil =>
  rw [hs] at hp
  have : xs = [] := List.length_eq_zero_iff.1 hp.length_eq.symm
  subst this
  exact ⟨List.Pairwise.nil, fun x hx => (by cases hx), fun x hx => (by cases hx)⟩
 | cons p r =>
  rw [hs] at hw hp
  refine ⟨compactA_asc key p r hw, fun x hx => ?_, fun x hx => ?_⟩
  ·refine hp.mem_iff.1 ?_
   rcases List.mem_cons.1 hx with rfl | hx
   ·exact List.mem_cons_self ..
   ·exact List.mem_cons_of_mem _ (compactA_sub key p r x hx)
  ·rcases List.mem_cons.1 (hp.mem_iff.2 hx) with rfl | hx
   ·exact ⟨x, List.mem_cons_self .., rfl⟩
   ·rcases compactA_all key p r x hx with h | ⟨y, hy, he⟩
    ·exact ⟨p, List.mem_cons_self .., h.symm⟩
    ·exact ⟨y, List.mem_cons_of_mem _ hy, he⟩
def pick (d : α) (xs : List α) (ps : List Nat) : List α := ps.map fun k => xs.getD k d
end
end Go.PL
namespace Go.PL
set_option linter.unusedSimpArgs false
set_option linter.unusedVariables false
set_option linter.unusedSectionVars false
open Tys (Ty U)
open Enc (sz enc dflt tb ofB toB)
open Dec (dec dok)
set_option maxRecDepth 100000
def InhOK (x : Inhibit) : Prop := inhibitFit x ∧ inhibitS x = true
def cmpQ (x y : Inhibit) : Int := Lib.compareBytes (quietS x).data.toList (quietS y).data.toList
theorem cmpQ_at (a b : Inhibit) : decide (cmpQ a b < 0) = byName quietS a b := compare_less _ _
theorem sorted1_Inhibit (x y : Inhibit) (b : Bool) (hx : InhOK x) (hy : InhOK y) : config_sorted_Inhibit_1 std x y b = some (cmpQ x y, b) := by
 unfold config_sorted_Inhibit_1 strings_Compare
 rw [config_quiet_eq b x hx.1 hx.2, bd_some, config_quiet_eq b y hy.1 hy.2, bd_some, bd_some]
 rfl
theorem normal2_eq (x y : Inhibit) (b : Bool) (hx : InhOK x) (hy : InhOK y) : config_Normal_2 std x y b = some (decide (quietS x = quietS y), b) := by
 unfold config_Normal_2
 rw [config_quiet_eq b x hx.1 hx.2, bd_some, config_quiet_eq b y hy.1 hy.2, bd_some, s_seql]
theorem ins_Inhibit (b : Bool) (n i : Nat) (hn : n ≤ 1000) (hi : i ≤ 1000) : ∀ (L R : List Inhibit) (x : Inhibit), (∀ y ∈ L, InhOK y) → InhOK x → (L.reverse ++ x :: R).length = n →
  Loop (slices_insertionSortCmpFunc_Inhibit_B1 std (n : Int) 0 (i : Int)) ((L.length : Int), b, L.reverse ++ x :: R) = some (.inl (((i + 1 : Nat) : Int), b, insR (byName quietS) x L R))
 | [], R, x, hL, hx, hl => by
  rw [Loop_eq]
  have hB : slices_insertionSortCmpFunc_Inhibit_B1 std (n : Int) 0 (i : Int) ((([] : List Inhibit).length : Int), b, ([] : List Inhibit).reverse ++ x :: R) = some (.inr (.inl (((i + 1 : Nat) : Int), b, x :: R))) := by
   unfold slices_insertionSortCmpFunc_Inhibit_B1
   simp only [List.length_nil, List.reverse_nil, List.nil_append]
   rw [show std.cmp .gtr ((0 : Nat) : Int) 0 = false from rfl, br_false, show std.and false false = false from rfl, br_false, s_add, wrap_succ (n := 1001) (by omega) (by unfold big63; omega)]
   rfl
  rw [hB]
  rfl
 | y :: L, R, x, hL, hx, hl => by
  rw [Loop_eq]
  have hlen : (y :: L).length + 1 ≤ n := by simp at hl ⊢; omega
  have hj : L.length + 1 < n := by simp only [List.length_cons] at hlen; omega
  have g1 : std.cmp .gtr (((y :: L).length : Nat) : Int) 0 = true := by rw [s_gtr]; exact decide_eq_true (by simp only [List.length_cons]; omega)
  have e1 : std.ar .sub .i64 (((y :: L).length : Nat) : Int) 1 = (L.length : Int) := by rw [prevI (by simp) (by unfold big63; simp only [List.length_cons]; omega)]; simp
  have p0 : ∀ k : Nat, std.pl 0 (k : Int) = (k : Int) := fun k => by rw [s_pl]; omega
  have ax := get_nat (t := TyS.inhibit) (row_at (y :: L) R x)
  have ay := get_nat (t := TyS.inhibit) (row_ahead L R x y)
  have hrl : std.len TyS.inhibit ((y :: L).reverse ++ x :: R) = (n : Int) := by rw [len_nat, hl]
  have hB : slices_insertionSortCmpFunc_Inhibit_B1 std (n : Int) 0 (i : Int) (((y :: L).length : Int), b, (y :: L).reverse ++ x :: R) = some (if byName quietS x y = true then .inl ((L.length : Int), b, L.reverse ++ x :: y :: R) else .inr (.inl (((i + 1 : Nat) : Int), b, (y :: L).reverse ++ x :: R))) := by
   unfold slices_insertionSortCmpFunc_Inhibit_B1
   simp only
   rw [g1, br_true, e1, p0, p0, hrl]
   rw [ck_t (inbT (by simp only [List.length_cons]; omega)), ck_t (inbT (by simp only [List.length_cons]; omega)), ck_t (inbT (by omega)), ck_t (inbT (by omega)), ax, ay, sorted1_Inhibit x y b hx (hL y (List.mem_cons_self ..)), bd_some, s_land, Bool.true_and, s_lss, cmpQ_at]
   have hs : std.len TyS.inhibit (std.set TyS.inhibit ((y :: L).reverse ++ x :: R) (((y :: L).length : Nat) : Int) y) = (n : Int) := by
    rw [s_set, len_nat, List.length_set, hl]
   cases hc : byName quietS x y with
   | true =>
    rw [br_true, if_pos rfl, hs, ck_t (inbT (by omega)), s_set, s_set, Int.toNat_natCast, Int.toNat_natCast]
    have := row_swap L R x y
    exact congrArg (fun r => some (Sum.inl ((L.length : Int), b, r))) this
   | false =>
    rw [br_false, if_neg (by simp), s_add, wrap_succ (n := 1001) (by omega) (by unfold big63; omega)]
    rfl
  rw [hB]
  cases hc : byName quietS x y with
  | true =>
   rw [if_pos rfl, insR_t hc]
   exact ins_Inhibit b n i hn hi L (y :: R) x (fun z hz => hL z (List.mem_cons_of_mem _ hz)) hx (by rw [← hl]; simp)
  | false => rw [if_neg (by simp), insR_f hc]
theorem sort_Inhibit (b : Bool) (xs : List Inhibit) (hn : xs.length ≤ 1000) (hP : ∀ x ∈ xs, InhOK x) :
  slices_insertionSortCmpFunc_Inhibit std xs (xs.length : Int) 0 (xs.length : Int) b = some (sortI (byName quietS) xs, b) := by
 unfold slices_insertionSortCmpFunc_Inhibit
 rw [show std.ar .add .i64 0 1 = ((1 : Nat) : Int) from rfl]
 cases xs with
 | nil => rw [Loop_eq]; rfl
 | cons x0 ys =>
  generalize hxs : x0 :: ys = xs at hn hP
  have h1 : 1 ≤ xs.length := by rw [← hxs]; simp
  have hstart : xs = sortI (byName quietS) (xs.take 1) ++ xs.drop 1 := by rw [← hxs]; rfl
  have := Loop_row_from (B := slices_insertionSortCmpFunc_Inhibit_B2 std (xs.length : Int) 0 (xs.length : Int)) (fun i (_ : Unit) => ((i : Int), b, sortI (byName quietS) (xs.take i) ++ xs.drop i)) xs (fun _ _ (_ : Unit) => (.inl () : Unit ⊕ (List Inhibit × Bool))) (fun _ => (sortI (byName quietS) xs, b)) (fun _ _ => True)
   (fun i x u hx _ => by
    have hi := lt_of_at hx
    refine ⟨fun s' _ => ⟨?_, trivial⟩, fun e he => by cases he⟩
    obtain ⟨x', hx', _, hd, ht⟩ := i_at (xs := xs) (i := i) hi
    rw [hx] at hx'; cases hx'
    unfold slices_insertionSortCmpFunc_Inhibit_B2
    simp only
    rw [lssT hi, br_true]
    have hlen : (sortI (byName quietS) (xs.take i)).reverse.length = i := by rw [List.length_reverse, sortI_len, List.length_take]; omega
    have := ins_Inhibit b xs.length i hn (by omega) (sortI (byName quietS) (xs.take i)).reverse (xs.drop (i + 1)) x (fun y hy => by
     rw [List.mem_reverse] at hy
     exact hP y (List.mem_of_mem_take ((sortI_perm _ _).mem_iff.1 hy))) (hP x (mem_at hx)) (by
     rw [List.reverse_reverse, ← hd, List.length_append, sortI_len, List.length_take, List.length_drop]; omega)
    rw [hlen, List.reverse_reverse, ← hd] at this
    rw [this, ht, sortI_snoc, insR_tail])
   (fun s _ => by
    unfold slices_insertionSortCmpFunc_Inhibit_B2
    simp only
    rw [lssF, br_false, List.take_length, List.drop_length, List.append_nil]
    rfl) 1 h1 () trivial
  rw [← hstart] at this
  refine this.trans (congrArg some ?_)
  have key : ∀ (l : List Inhibit) (i : Nat), runL (fun _ _ (_ : Unit) => (.inl () : Unit ⊕ (List Inhibit × Bool))) (fun _ => (sortI (byName quietS) xs, b)) i l () = (sortI (byName quietS) xs, b) := by
   intro l
   induction l with
   | nil => intro i; rfl
   | cons x xs ih => intro i; exact ih (i + 1)
  exact key _ _
theorem stable_Inhibit (b : Bool) (xs : List Inhibit) (hn : xs.length < 20) (hP : ∀ x ∈ xs, InhOK x) :
  slices_stableCmpFunc_Inhibit std xs (xs.length : Int) (xs.length : Int) b = some (sortI (byName quietS) xs, b) := by
 unfold slices_stableCmpFunc_Inhibit
 have hB : slices_stableCmpFunc_Inhibit_B3 std (xs.length : Int) (xs.length : Int) (0, 20, b, xs) = some (.inr (sortI (byName quietS) xs, b)) := by
  unfold slices_stableCmpFunc_Inhibit_B3
  simp only
  rw [show std.cmp .leq 20 (xs.length : Int) = false by rw [s_leq]; exact decide_eq_false (by omega), br_false, sort_Inhibit b xs (by omega) hP, bd_some, Loop_eq]
  have h2 : slices_stableCmpFunc_Inhibit_B2 std (xs.length : Int) (sortI (byName quietS) xs, b) 20 = some (.inr (sortI (byName quietS) xs, b)) := by
   unfold slices_stableCmpFunc_Inhibit_B2
   simp only
   rw [show std.cmp .lss 20 (xs.length : Int) = false by rw [s_lss]; exact decide_eq_false (by omega), br_false]
   rfl
  rw [h2]
  rfl
 rw [Loop_eq, hB]
theorem clone_Inhibit (xs : List Inhibit) (h : xs.length ≤ 1000) : slices_Clone_Inhibit_Inhibit std xs = some ((xs.length : Int), xs) := by
 unfold slices_Clone_Inhibit_Inhibit
 have e : ∀ k : Nat, k ≤ 1000 → std.appOk TyS.inhibit k [] xs := fun k hk => ⟨by have := Nat.mul_le_mul (show ([] : List (U TyS.inhibit)).length + xs.length ≤ 1000 by simpa using h) hk; omega, by simp; omega⟩
 rw [both_t (fun hc => by
  have h0 : xs = [] := by
   rw [s_eql, len_nat] at hc
   have : xs.length = 0 := by simpa using hc
   exact List.length_eq_zero_iff.1 this
  subst h0
  rw [ck_t (e _ (by decide))]
  rfl), ck_t (e _ (by decide))]
 rfl
theorem sorted_Inhibit (b : Bool) (xs : List Inhibit) (h : xs.length < 20) (hP : ∀ x ∈ xs, InhOK x) : config_sorted_Inhibit std xs b = some ((xs.length : Int), sortI (byName quietS) xs, b) := by
 unfold config_sorted_Inhibit slices_SortStableFunc_Inhibit_Inhibit
 rw [clone_Inhibit xs (by omega), bd_some]
 simp only
 rw [stable_Inhibit b xs h hP, bd_some, bd_some]
theorem compactA_snoc {α : Type} (key : α → ByteArray) (z : α) : ∀ (p : α) (r : List α), compactA key p (r ++ [z]) = compactA key p r ++ (if key z = key ((p :: r).getLast (by simp)) then [] else [z])
 | p, [] => by
  simp only [List.nil_append, compactA, List.getLast_singleton]
  by_cases h : key z = key p <;> simp [h]
 | p, y :: r => by
  rw [List.cons_append, compactA, compactA, compactA_snoc key z y r]
  have : (p :: y :: r).getLast (by simp) = (y :: r).getLast (by simp) := by rw [List.getLast_cons]
  rw [this]
  split
  ·rfl
  ·rfl
theorem compactK_succ {α : Type} (key : α → ByteArray) {xs : List α} {m : Nat} {y z : α} (hy : xs[m]? = some y) (hz : xs[m + 1]? = some z) : compactK key (xs.take (m + 2)) = compactK key (xs.take (m + 1)) ++ (if key z = key y then [] else [z]) := by
 rw [take_snoc hz]
 have h1 := take_snoc hy
 cases hc : xs.take (m + 1) with
 | nil => rw [hc] at h1; simp at h1
 | cons p r =>
  rw [List.cons_append, compactK, compactK, compactA_snoc, List.cons_append]
  have : (p :: r).getLast (by simp) = y := by
   have h2 : (p :: r) = xs.take m ++ [y] := by rw [← hc, h1]
   simp only [h2]
   exact List.getLast_concat
  rw [this]
theorem compactA_len {α : Type} (key : α → ByteArray) : ∀ (p : α) (r : List α), (compactA key p r).length ≤ r.length
 | p, [] => Nat.le_refl _
 | p, y :: r => by
  rw [compactA]
  have := compactA_len key y r
  split
  ·simp only [List.length_cons]; omega
  ·simp only [List.length_cons]; omega
theorem compactK_len {α : Type} (key : α → ByteArray) : ∀ (r : List α), (compactK key r).length ≤ r.length
 | [] => Nat.le_refl _
 | y :: r => by
  have := compactA_len key y r
  simp only [compactK, List.length_cons]; omega
end Go.PL
namespace Go.PL
set_option linter.unusedSimpArgs false
set_option linter.unusedVariables false
set_option linter.unusedSectionVars false
open Tys (Ty U)
open Enc (sz enc dflt tb ofB toB)
open Dec (dec dok)
set_option maxRecDepth 100000
abbrev cQ (xs : List Inhibit) (m : Nat) : List Inhibit := compactK quietS (xs.take m)
theorem cQ_succ {xs : List Inhibit} {m : Nat} {y z : Inhibit} (h1 : 1 ≤ m) (hy : xs[m - 1]? = some y) (hz : xs[m]? = some z) : cQ xs (m + 1) = cQ xs m ++ (if quietS z = quietS y then [] else [z]) := by
 obtain ⟨k, rfl⟩ : ∃ k, m = k + 1 := ⟨m - 1, by omega⟩
 exact compactK_succ quietS hy hz
theorem cQ_len (xs : List Inhibit) (m : Nat) : (cQ xs m).length ≤ m := by
 have h1 := compactK_len quietS (xs.take m)
 have h2 : (xs.take m).length ≤ m := by rw [List.length_take]; omega
 exact Nat.le_trans h1 h2
theorem mix_at {α : Type} (C xs : List α) {i : Nat} (h : C.length ≤ i) : (C ++ xs.drop C.length)[i]? = xs[i]? := by
 rw [List.getElem?_append_right h, List.getElem?_drop]
 congr 1; omega
theorem mix_len {α : Type} (C xs : List α) (h : C.length ≤ xs.length) : (C ++ xs.drop C.length).length = xs.length := by
 rw [List.length_append, List.length_drop]; omega
theorem mix_set {α : Type} (C xs : List α) (z : α) (h : C.length < xs.length) : (C ++ xs.drop C.length).set C.length z = (C ++ [z]) ++ xs.drop (C ++ [z]).length := by
 rw [List.drop_eq_getElem_cons h, List.set_append_right _ _ (Nat.le_refl _), Nat.sub_self, List.set_cons_zero]
 simp
theorem compact_inner (b : Bool) (xs : List Inhibit) (hn : xs.length ≤ 1000) (hP : ∀ x ∈ xs, InhOK x) (k : Nat) (h1 : 1 ≤ k) (hk : k < xs.length) (hc : cQ xs (k + 1) = xs.take k) :
  ∃ row, Loop (slices_CompactFunc_Inhibit_Inhibit_B1 std (xs.length : Int) (k : Int)) ((k : Int), 1, b, xs) = some (.inr (0, ((cQ xs xs.length).length : Int), row, b)) ∧ row.take (cQ xs xs.length).length = cQ xs xs.length ∧ row.length = xs.length := by
 have pk : ∀ j : Nat, std.pl (std.pl 0 (k : Int)) (j : Int) = ((k + j : Nat) : Int) := fun j => by rw [s_pl, s_pl]; omega
 have p0 : ∀ j : Nat, std.pl 0 (j : Int) = (j : Int) := fun j => by rw [s_pl]; omega
 have mk : ∀ j : Nat, j ≤ xs.length → std.mi (xs.length : Int) (j : Int) = ((xs.length - j : Nat) : Int) := fun j hj => by rw [s_mi]; omega
 have hl : (cQ xs xs.length).length ≤ xs.length := cQ_len xs _
 have := Loop_row_from (B := slices_CompactFunc_Inhibit_Inhibit_B1 std (xs.length : Int) (k : Int)) (fun m (_ : Unit) => (((cQ xs m).length : Int), ((m - k : Nat) : Int), b, cQ xs m ++ xs.drop (cQ xs m).length)) xs (fun _ _ (_ : Unit) => (.inl () : Unit ⊕ ((Int × Bool) ⊕ (Int × Int × List Inhibit × Bool))))
  (fun _ => .inr (0, ((cQ xs xs.length).length : Int), std.fill TyS.inhibit (cQ xs xs.length ++ xs.drop (cQ xs xs.length).length) ((cQ xs xs.length).length : Int) ((xs.length - (cQ xs xs.length).length : Nat) : Int) (Inhibit.mk [] [] []), b)) (fun m _ => k + 1 ≤ m ∧ (cQ xs m).length + 1 ≤ m)
  (fun m z u hz ⟨hm1, hm2⟩ => by
   have hm := lt_of_at hz
   obtain ⟨y, hy⟩ := at_some (xs := xs) (i := m - 1) (by omega)
   have hs := cQ_succ (by omega) hy hz
   refine ⟨fun s' _ => ⟨?_, by omega, ?_⟩, fun e he => by cases he⟩
   ·unfold slices_CompactFunc_Inhibit_Inhibit_B1
    simp only
    generalize hC : cQ xs m = C at hm2 hs
    have hrow : (C ++ xs.drop C.length).length = xs.length := mix_len C xs (by omega)
    have e1 : std.ar .sub .i64 ((m - k : Nat) : Int) 1 = ((m - k - 1 : Nat) : Int) := prevI (by omega) (by unfold big63; omega)
    rw [mk k (by omega), show std.cmp .lss ((m - k : Nat) : Int) ((xs.length - k : Nat) : Int) = true by rw [s_lss]; exact decide_eq_true (by omega), br_true, e1, pk, pk, len_nat, hrow, show k + (m - k) = m by omega, show k + (m - k - 1) = m - 1 by omega, p0]
    rw [ck_t (inbT (by omega)), ck_t (inbT (by omega)), ck_t (inbT (by omega)), ck_t (inbT (by omega)), get_nat (t := TyS.inhibit) ((mix_at C xs (by omega)).trans hz), get_nat (t := TyS.inhibit) ((mix_at C xs (by omega)).trans hy), normal2_eq z y b (hP z (mem_at hz)) (hP y (mem_at hy)), bd_some]
    simp only
    rw [show std.ar .add .i64 ((m - k : Nat) : Int) 1 = ((m + 1 - k : Nat) : Int) by rw [s_add, wrap_succ (n := 1001) (by omega) (by unfold big63; omega)]; congr 1; omega]
    rw [hs]
    by_cases he : quietS z = quietS y
    ·rw [decide_eq_true he, if_pos he, List.append_nil, s_not, Bool.not_true, br_false]
    ·rw [decide_eq_false he, if_neg he, s_not, Bool.not_false, br_true, ck_t (inbT (by omega)), ck_t (inbT (by omega)), s_set, Int.toNat_natCast, mix_set C xs z (by omega), s_add, wrap_succ (n := 1001) (by omega) (by unfold big63; omega), List.length_append, List.length_singleton]
   ·rw [hs, List.length_append]
    split <;> simp <;> omega)
  (fun s ⟨hm1, hm2⟩ => by
   unfold slices_CompactFunc_Inhibit_Inhibit_B1
   simp only
   have hrow : (cQ xs xs.length ++ xs.drop (cQ xs xs.length).length).length = xs.length := mix_len _ xs hl
   rw [mk k (by omega), show std.cmp .lss ((xs.length - k : Nat) : Int) ((xs.length - k : Nat) : Int) = false from lssF, br_false, mk _ hl, p0, len_nat, hrow, show std.pl ((cQ xs xs.length).length : Int) ((xs.length - (cQ xs xs.length).length : Nat) : Int) = (xs.length : Int) by rw [s_pl]; omega]
   rw [ck_t (show std.subOk ((cQ xs xs.length).length : Int) (xs.length : Int) (xs.length : Int) from ⟨by omega, by omega, by omega⟩), ck_t (show std.subOk ((cQ xs xs.length).length : Int) (xs.length : Int) (xs.length : Int) from ⟨by omega, by omega, by omega⟩), ck_t (show std.subOk 0 ((cQ xs xs.length).length : Int) (xs.length : Int) from ⟨by omega, by omega, by omega⟩)]
   rw [show std.pl 0 0 = 0 from rfl, show std.mi ((cQ xs xs.length).length : Int) 0 = ((cQ xs xs.length).length : Int) by rw [s_mi]; omega]
   rfl) (k + 1) (by omega) () ⟨Nat.le_refl _, by rw [hc, List.length_take]; omega⟩
 have hstart : (((cQ xs (k + 1)).length : Int), ((k + 1 - k : Nat) : Int), b, cQ xs (k + 1) ++ xs.drop (cQ xs (k + 1)).length) = ((k : Int), 1, b, xs) := by
  rw [hc]
  have : (xs.take k).length = k := by rw [List.length_take]; omega
  rw [this, List.take_append_drop, show k + 1 - k = 1 by omega]
  rfl
 rw [hstart] at this
 have key : ∀ (R : (Int × Bool) ⊕ (Int × Int × List Inhibit × Bool)) (l : List Inhibit) (i : Nat), runL (fun _ _ (_ : Unit) => (.inl () : Unit ⊕ ((Int × Bool) ⊕ (Int × Int × List Inhibit × Bool)))) (fun _ => R) i l () = R := by
  intro R l
  induction l with
  | nil => intro i; rfl
  | cons x xs ih => intro i; exact ih (i + 1)
 rw [key] at this
 refine ⟨_, this, ?_, ?_⟩
 ·rw [s_fill, Int.toNat_natCast, List.append_assoc, List.take_append_of_le_length (by rw [List.length_take, mix_len _ xs hl]; omega), List.take_take, Nat.min_self, List.take_append_of_le_length (Nat.le_refl _), List.take_length]
 ·rw [s_fill, Int.toNat_natCast, Int.toNat_natCast, List.length_append, List.length_append, List.length_take, List.length_drop, List.length_replicate, mix_len _ xs hl]
  omega
theorem compact_outer (b : Bool) (xs : List Inhibit) (hn : xs.length ≤ 1000) (hP : ∀ x ∈ xs, InhOK x) : ∀ (d i : Nat), 1 ≤ i → i + d = xs.length → cQ xs i = xs.take i →
  ∃ row, Loop (slices_CompactFunc_Inhibit_Inhibit_B2 std xs (xs.length : Int)) ((i : Int), b) = some (0, ((cQ xs xs.length).length : Int), row, b) ∧ row.take (cQ xs xs.length).length = cQ xs xs.length ∧ row.length = xs.length
 | 0, i, h1, hi, hc => by
  obtain rfl : i = xs.length := by omega
  rw [hc, List.take_length]
  refine ⟨xs, ?_, List.take_length, rfl⟩
  rw [Loop_eq]
  unfold slices_CompactFunc_Inhibit_Inhibit_B2
  simp only
  rw [lssF, br_false]
  rfl
 | d + 1, i, h1, hi, hc => by
  have hlt : i < xs.length := by omega
  obtain ⟨z, hz⟩ := at_some hlt
  obtain ⟨y, hy⟩ := at_some (xs := xs) (i := i - 1) (by omega)
  have hs := cQ_succ h1 hy hz
  have p0 : ∀ j : Nat, std.pl 0 (j : Int) = (j : Int) := fun j => by rw [s_pl]; omega
  have hB : slices_CompactFunc_Inhibit_Inhibit_B2 std xs (xs.length : Int) ((i : Int), b) = br (decide (quietS z = quietS y)) (Loop (slices_CompactFunc_Inhibit_Inhibit_B1 std (xs.length : Int) (i : Int)) ((i : Int), 1, b, xs)) (some (.inl (((i + 1 : Nat) : Int), b))) := by
   unfold slices_CompactFunc_Inhibit_Inhibit_B2
   simp only
   rw [lssT hlt, br_true, prevI h1 (by unfold big63; omega), p0, p0, len_nat, ck_t (inbT hlt), ck_t (inbT hlt), ck_t (inbT (by omega)), ck_t (inbT (by omega)), get_nat (t := TyS.inhibit) hz, get_nat (t := TyS.inhibit) hy, normal2_eq z y b (hP z (mem_at hz)) (hP y (mem_at hy)), bd_some]
   simp only
   rw [ck_t (show std.subOk (i : Int) (xs.length : Int) (xs.length : Int) from ⟨by omega, by omega, by omega⟩), s_add, wrap_succ (n := 1001) (by omega) (by unfold big63; omega)]
  rw [Loop_eq, hB]
  by_cases he : quietS z = quietS y
  ·rw [decide_eq_true he, br_true]
   obtain ⟨row, h2, h3, h4⟩ := compact_inner b xs hn hP i h1 hlt (by rw [hs, if_pos he, List.append_nil, hc])
   exact ⟨row, by rw [h2], h3, h4⟩
  ·rw [decide_eq_false he, br_false]
   exact compact_outer b xs hn hP d (i + 1) (by omega) (by omega) (by rw [hs, if_neg he, hc, take_snoc hz])
theorem compact_Inhibit (b : Bool) (xs : List Inhibit) (hn : xs.length ≤ 1000) (hP : ∀ x ∈ xs, InhOK x) :
  ∃ row, slices_CompactFunc_Inhibit_Inhibit std xs (xs.length : Int) b = some (0, ((compactK quietS xs).length : Int), row, b) ∧ row.take (compactK quietS xs).length = compactK quietS xs ∧ row.length = xs.length := by
 have e : cQ xs xs.length = compactK quietS xs := by unfold cQ; rw [List.take_length]
 unfold slices_CompactFunc_Inhibit_Inhibit
 rcases Nat.lt_or_ge xs.length 2 with h2 | h2
 ·rw [show std.cmp .lss (xs.length : Int) 2 = true by rw [s_lss]; exact decide_eq_true (by omega), br_true]
  have : compactK quietS xs = xs := by
   match xs, h2 with
   | [], _ => rfl
   | [x], _ => rfl
   | x :: y :: r, h2 => simp only [List.length_cons] at h2; omega
  rw [this]
  exact ⟨xs, rfl, List.take_length, rfl⟩
 ·rw [show std.cmp .lss (xs.length : Int) 2 = false by rw [s_lss]; exact decide_eq_false (by omega), br_false]
  have := compact_outer b xs hn hP (xs.length - 1) 1 (Nat.le_refl _) (by omega) (by
   match xs, h2 with
   | x :: r, h2 => rfl)
  rw [e] at this
  exact this
end Go.PL
namespace Go.PL
set_option linter.unusedSimpArgs false
set_option linter.unusedVariables false
set_option linter.unusedSectionVars false
open Tys (Ty U)
open Enc (sz enc dflt tb ofB toB)
open Dec (dec dok)
set_option maxRecDepth 100000
open Classical in
noncomputable def eqB {α : Type} (a b : α) : Bool := decide (a = b)
theorem eqB_iff {α : Type} {a b : α} : eqB a b = true ↔ a = b := by unfold eqB; simp
theorem eqB_ne {α : Type} {a b : α} (h : a ≠ b) : eqB a b = false := by
 cases hc : eqB a b with
 | false => rfl
 | true => exact absurd (eqB_iff.1 hc) h
theorem eqB_str (a b : ByteArray) : decide (a = b) = eqB a b := by rw [Bool.eq_iff_iff, eqB_iff]; simp
theorem eqB_of {α : Type} {a b : α} {c : Bool} (h : c = true ↔ a = b) : c = eqB a b := by rw [Bool.eq_iff_iff, eqB_iff]; exact h
theorem allI_at {α : Type} (ys : List α) : ∀ (xs : List α) (i : Nat), allI (fun i x => eqB (ys[i]?) (some x)) i xs = true ↔ ∀ j x, xs[j]? = some x → ys[i + j]? = some x
 | [], i => by simp [allI]
 | x :: xs, i => by
  simp only [allI, Bool.and_eq_true, eqB_iff, allI_at ys xs (i + 1)]
  constructor
  ·rintro ⟨h1, h2⟩ j y hy
   cases j with
   | zero => cases hy; exact h1
   | succ j => have := h2 j y (by simpa using hy); rwa [show i + 1 + j = i + (j + 1) by omega] at this
  ·intro h
   refine ⟨by simpa using h 0 x rfl, fun j y hy => ?_⟩
   have := h (j + 1) y (by simpa using hy)
   rwa [show i + (j + 1) = i + 1 + j by omega] at this
theorem allI_eq {α : Type} (xs ys : List α) (hl : xs.length = ys.length) : allI (fun i x => eqB (ys[i]?) (some x)) 0 xs = eqB xs ys := by
 refine eqB_of ?_
 rw [allI_at]
 constructor
 ·intro h
  apply List.ext_getElem?
  intro i
  rcases Nat.lt_or_ge i xs.length with hi | hi
  ·obtain ⟨x, hx⟩ := at_some hi
   have := h i x hx
   rw [Nat.zero_add] at this
   rw [hx, this]
  ·rw [List.getElem?_eq_none hi, List.getElem?_eq_none (by omega)]
 ·rintro rfl j x hx
  rw [Nat.zero_add]; exact hx
theorem eq_loop {S : Type} {t : Ty} {B : S → Option (S ⊕ Bool)} (enc : Int → S) (xs ys : List (U t)) (hl : xs.length = ys.length) (hb : xs.length ≤ big63) (fin : Bool) (step : Int → Option (S ⊕ Bool)) (out : Option Bool)
  (hB : ∀ i, B (enc i) = br (std.cmp .lss i (std.len t xs)) (ck (std.inb i (std.len t xs)) (ck (std.inb i (std.len t ys)) (step i))) (rt out))
  (hs : ∀ (i : Nat) (x y : U t), xs[i]? = some x → ys[i]? = some y → step i = some (if eqB x y = true then .inl (enc (std.ar .add .i64 i 1)) else .inr false)) (h2 : xs = ys → out = some fin) (h3 : ∃ v, out = some v) : Loop B (enc 0) = some (eqB xs ys && fin) := by
 rw [← allI_eq xs ys hl]
 refine Loop_elems (t := t) (B := B) enc xs hb _ fin (fun i => ck (std.inb i (std.len t ys)) (step i)) out hB (fun i x hx hi => ?_) (fun ha => h2 ?_) (fun _ => h3)
 ·obtain ⟨y, hy⟩ := at_some (xs := ys) (i := i) (by omega)
  rw [ck_t (show std.inb (i : Int) (std.len t ys) by rw [len_nat]; exact inbT (by omega)), hs i x y hx hy, hy]
  have : eqB (some y) (some x) = eqB x y := (eqB_of (by rw [eqB_iff, Option.some.injEq]; exact ⟨fun h => h.symm, fun h => h.symm⟩)).symm
  rw [this]
 ·rw [allI_eq xs ys hl] at ha
  exact eqB_iff.1 ha
theorem eq_len {α : Type} {xs ys : List α} (h : xs.length ≠ ys.length) : eqB xs ys = false := eqB_ne fun e => h (by rw [e])
theorem neq_len {t : Ty} (xs ys : List (U t)) : std.cmp .neq (std.len t xs) (std.len t ys) = !decide (xs.length = ys.length) := by
 rw [s_neq, len_nat, len_nat, Bool.eq_iff_iff]
 simp only [bne_iff_ne, ne_eq, Bool.not_eq_true', decide_eq_false_iff_not]
 omega
theorem sneq_eqB (a b : ByteArray) : std.scmp .neq a b = !eqB a b := by rw [s_sneq, ← eqB_str]; simp
theorem hours_eqB (x y : Hours) : std.and (std.scmp .eql x.1 y.1) (std.and (std.cmp .eql x.2 y.2) (std.and (std.cmp .eql x.3 y.3) (std.and (std.cmp .eql x.4 y.4) true))) = eqB x y := by
 refine eqB_of ?_
 cases x; cases y
 simp
theorem label_eqB (x y : Label) : std.and (std.scmp .eql x.1 y.1) (std.and (std.scmp .eql x.2 y.2) true) = eqB x y := by
 refine eqB_of ?_
 cases x; cases y
 simp
theorem eq_rows {t : Ty} {B : Int → Option (Int ⊕ Bool)} (xs ys : List (U t)) (hb : xs.length ≤ big63) (step : Int → Option (Int ⊕ Bool))
  (hB : ∀ i, B i = br (std.cmp .lss i (std.len t xs)) (ck (std.inb i (std.len t xs)) (ck (std.inb i (std.len t ys)) (step i))) (rt (some true)))
  (hs : ∀ (i : Nat) (x y : U t), xs[i]? = some x → ys[i]? = some y → step i = some (if eqB x y = true then .inl (std.ar .add .i64 i 1) else .inr false)) :
  br (std.cmp .neq (std.len t xs) (std.len t ys)) (some false) (Loop B 0) = some (eqB xs ys) := by
 rw [neq_len]
 by_cases hl : xs.length = ys.length
 ·rw [decide_eq_true hl, Bool.not_true, br_false, eq_loop (fun i => i) xs ys hl hb true step (some true) hB hs (fun _ => rfl) ⟨_, rfl⟩, Bool.and_true]
 ·rw [decide_eq_false hl, Bool.not_false, br_true, eq_len hl]
theorem equalF_Rule (xs ys : List Rule) (q : Rule → Rule → Option Bool) (hq : ∀ x ∈ xs, ∀ y ∈ ys, q x y = some (eqB x y)) (hb : xs.length ≤ big63) : slices_EqualFunc_Rule_Rule_Rule_Rule std xs ys q = some (eqB xs ys) := by
 unfold slices_EqualFunc_Rule_Rule_Rule_Rule
 refine eq_rows (t := TyS.rule) (B := slices_EqualFunc_Rule_Rule_Rule_Rule_B1 std xs ys q) xs ys hb _ (fun i => rfl) (fun i x y hx hy => ?_)
 rw [get_nat (t := TyS.rule) hx, get_nat (t := TyS.rule) hy, hq x (mem_at hx) y (mem_at hy), bd_some]
 cases eqB x y <;> rfl
theorem equalF_Inhibit (xs ys : List Inhibit) (q : Inhibit → Inhibit → Option Bool) (hq : ∀ x ∈ xs, ∀ y ∈ ys, q x y = some (eqB x y)) (hb : xs.length ≤ big63) : slices_EqualFunc_Inhibit_Inhibit_Inhibit_Inhibit std xs ys q = some (eqB xs ys) := by
 unfold slices_EqualFunc_Inhibit_Inhibit_Inhibit_Inhibit
 refine eq_rows (t := TyS.inhibit) (B := slices_EqualFunc_Inhibit_Inhibit_Inhibit_Inhibit_B1 std xs ys q) xs ys hb _ (fun i => rfl) (fun i x y hx hy => ?_)
 rw [get_nat (t := TyS.inhibit) hx, get_nat (t := TyS.inhibit) hy, hq x (mem_at hx) y (mem_at hy), bd_some]
 cases eqB x y <;> rfl
theorem equalF_Matcher (xs ys : List Matcher) (q : Matcher → Matcher → Option Bool) (hq : ∀ x ∈ xs, ∀ y ∈ ys, q x y = some (eqB x y)) (hb : xs.length ≤ big63) : slices_EqualFunc_Matcher_Matcher_Matcher_Matcher std xs ys q = some (eqB xs ys) := by
 unfold slices_EqualFunc_Matcher_Matcher_Matcher_Matcher
 refine eq_rows (t := TyS.matcher) (B := slices_EqualFunc_Matcher_Matcher_Matcher_Matcher_B1 std xs ys q) xs ys hb _ (fun i => rfl) (fun i x y hx hy => ?_)
 rw [get_nat (t := TyS.matcher) hx, get_nat (t := TyS.matcher) hy, hq x (mem_at hx) y (mem_at hy), bd_some]
 cases eqB x y <;> rfl
theorem equalF_Route (xs ys : List Route) (q : Route → Route → Option Bool) (hq : ∀ x ∈ xs, ∀ y ∈ ys, q x y = some (eqB x y)) (hb : xs.length ≤ big63) : slices_EqualFunc_Route_Route_Route_Route std xs ys q = some (eqB xs ys) := by
 unfold slices_EqualFunc_Route_Route_Route_Route
 refine eq_rows (t := TyS.route) (B := slices_EqualFunc_Route_Route_Route_Route_B1 std xs ys q) xs ys hb _ (fun i => rfl) (fun i x y hx hy => ?_)
 rw [get_nat (t := TyS.route) hx, get_nat (t := TyS.route) hy, hq x (mem_at hx) y (mem_at hy), bd_some]
 cases eqB x y <;> rfl
theorem slices_Equal_string_string_eq (xs ys : List ByteArray) (hb : xs.length ≤ big63) : slices_Equal_string_string std xs ys = some (eqB xs ys) := by
 unfold slices_Equal_string_string
 refine eq_rows (t := TyS.str) (B := slices_Equal_string_string_B1 std xs ys) xs ys hb _ (fun i => rfl) (fun i x y hx hy => ?_)
 rw [get_nat (t := TyS.str) hx, get_nat (t := TyS.str) hy, show std.scmp .neq x y = !eqB x y from sneq_eqB x y]
 cases eqB x y <;> rfl
theorem slices_Equal_Hours_Hours_eq (xs ys : List Hours) (hb : xs.length ≤ big63) : slices_Equal_Hours_Hours std xs ys = some (eqB xs ys) := by
 unfold slices_Equal_Hours_Hours
 refine eq_rows (t := TyS.hours) (B := slices_Equal_Hours_Hours_B1 std xs ys) xs ys hb _ (fun i => rfl) (fun i x y hx hy => ?_)
 rw [get_nat (t := TyS.hours) hx, get_nat (t := TyS.hours) hy]
 rw [hours_eqB x y]
 cases eqB x y <;> rfl
theorem slices_Equal_Label_Label_eq (xs ys : List Label) (hb : xs.length ≤ big63) : slices_Equal_Label_Label std xs ys = some (eqB xs ys) := by
 unfold slices_Equal_Label_Label
 refine eq_rows (t := TyS.label) (B := slices_Equal_Label_Label_B1 std xs ys) xs ys hb _ (fun i => rfl) (fun i x y hx hy => ?_)
 rw [get_nat (t := TyS.label) hx, get_nat (t := TyS.label) hy]
 rw [label_eqB x y]
 cases eqB x y <;> rfl
theorem rules_Like_eq (x y : Rule) (h : x.Labels.length ≤ big63) : rules_Like std x y = some (eqB x y) := by
 unfold rules_Like
 rw [slices_Equal_Label_Label_eq _ _ h, bd_some]
 refine congrArg some (eqB_of ?_)
 cases x; cases y
 simp only [s_land, s_seql, s_eql, Bool.and_eq_true, eqB_iff, decide_eq_true_eq, beq_iff_eq, Rule.mk.injEq]
 constructor
 ·rintro ⟨⟨⟨⟨⟨⟨⟨h8, h1⟩, h2⟩, h3⟩, h4⟩, h5⟩, h6⟩, h7⟩; exact ⟨h1, h2, h3, h4, h5, h6, h7, h8⟩
 ·rintro ⟨h1, h2, h3, h4, h5, h6, h7, h8⟩; exact ⟨⟨⟨⟨⟨⟨⟨h8, h1⟩, h2⟩, h3⟩, h4⟩, h5⟩, h6⟩, h7⟩
theorem matcher_Like_eq (x y : Matcher) (h : x.Words.length ≤ big63) : matcher_Like std x y = some (eqB x y) := by
 unfold matcher_Like
 rw [gd_b (fun _ => slices_Equal_string_string_eq _ _ h), bd_some]
 refine congrArg some (eqB_of ?_)
 cases x; cases y
 simp only [s_land, s_seql, s_eql, Bool.and_eq_true, eqB_iff, decide_eq_true_eq, beq_iff_eq, Matcher.mk.injEq]
 constructor
 ·rintro ⟨⟨h1, h2⟩, _, h3⟩; exact ⟨h1, h2, h3⟩
 ·rintro ⟨h1, h2, h3⟩; exact ⟨⟨h1, h2⟩, ⟨h1, h2⟩, h3⟩
theorem config_like_eq (x y : Inhibit) (h : inhibitFit x) : config_Same_1 std x y = some (eqB x y) := by
 unfold config_Same_1
 rw [equalF_Matcher x.Source y.Source (fun y0 y1 => matcher_Like std y0 y1) (fun a ha b _ => matcher_Like_eq a b (h.1.2 a ha).2.1) h.1.1, bd_some]
 rw [gd_b (fun _ => equalF_Matcher x.Target y.Target (fun y0 y1 => matcher_Like std y0 y1) (fun a ha b _ => matcher_Like_eq a b (h.2.1.2 a ha).2.1) h.2.1.1), bd_some]
 rw [gd_b (fun _ => slices_Equal_string_string_eq _ _ h.2.2.1), bd_some]
 refine congrArg some (eqB_of ?_)
 cases x; cases y
 simp only [s_land, Bool.and_eq_true, eqB_iff, Inhibit.mk.injEq]
 constructor
 ·rintro ⟨⟨h1, _, h2⟩, _, h3⟩; exact ⟨h1, h2, h3⟩
 ·rintro ⟨h1, h2, h3⟩; exact ⟨⟨h1, h1, h2⟩, ⟨h1, h1, h2⟩, h3⟩
theorem fit_route {r : Route} (h : RouteFit r) : fitS r.Receiver ∧ fitL matcherFit r.Match ∧ fitL fitS r.By ∧ fitL fitS r.Mute ∧ r.Routes.length ≤ big63 ∧ ∀ k ∈ r.Routes, RouteFit k := by
 cases h with
 | mk _ h1 h2 h3 h4 h5 h6 => exact ⟨h1, h2, h3, h4, h5, h6⟩
theorem routes_Like_N_eq : ∀ (n : Nat) (x y : Route), SizeOf.sizeOf x < n → RouteFit x → routes_Like_N std n x y = some (eqB x y)
 | 0, x, y, h, _ => absurd h (Nat.not_lt_zero _)
 | n + 1, x, y, h, hf => by
  obtain ⟨_, h2, h3, h4, h5, h6⟩ := fit_route hf
  rw [routes_Like_N, routes_Like_S]
  rw [gd_b (fun _ => equalF_Matcher x.Match y.Match (fun y0 y1 => matcher_Like std y0 y1) (fun a ha b _ => matcher_Like_eq a b (h2.2 a ha).2.1) h2.1), bd_some]
  rw [gd_b (fun _ => slices_Equal_string_string_eq _ _ h3.1), bd_some]
  rw [gd_b (fun _ => slices_Equal_string_string_eq _ _ h4.1), bd_some]
  rw [gd_b (fun _ => equalF_Route x.Routes y.Routes _ (fun a ha b _ => routes_Like_N_eq n a b (by have := route_lt ha; omega) (h6 a ha)) h5), bd_some]
  refine congrArg some (eqB_of ?_)
  rw [← route_eta x, ← route_eta y]
  simp only [s_land, s_seql, s_eql, s_eqb, Bool.and_eq_true, eqB_iff, decide_eq_true_eq, beq_iff_eq, Route.mk.injEq]
  constructor
  ·rintro ⟨⟨⟨⟨⟨⟨⟨⟨h1, h4⟩, h5⟩, h6⟩, h8⟩, _, h2⟩, _, h3⟩, _, h7⟩, _, h9⟩; exact ⟨h1, h2, h3, h4, h5, h6, h7, h8, h9⟩
  ·rintro ⟨h1, h2, h3, h4, h5, h6, h7, h8, h9⟩; simp [h1, h2, h3, h4, h5, h6, h7, h8, h9]
theorem routes_Like_eq (x y : Route) (h : RouteFit x) : routes_Like std x y = some (eqB x y) := routes_Like_N_eq _ x y (Nat.lt_succ_self _) h
end Go.PL
namespace Go.PL
set_option linter.unusedSimpArgs false
set_option linter.unusedVariables false
set_option linter.unusedSectionVars false
open Tys (Ty U)
open Enc (sz enc dflt tb ofB toB)
open Dec (dec dok)
set_option maxRecDepth 100000
def normS (c : Config) : Config := ⟨sortI (byName (·.Name)) c.Rules, c.Route, sortI (byName fun x => x) c.Receivers, compactK quietS (sortI (byName quietS) c.Inhibits), sortI (byName (·.Name)) c.Hours⟩
def noConfig : Config := ⟨[], ⟨⟨#[]⟩, [], [], 0, 0, 0, [], false, []⟩, [], [], []⟩
structure ConfigOK (c : Config) : Prop where
 rules : c.Rules.length ≤ 16 ∧ (∀ r ∈ c.Rules, ruleS r = true) ∧ (c.Rules.map (·.Name)).Nodup
 recv : c.Receivers.length ≤ 16 ∧ (∀ r ∈ c.Receivers, wordS r = true) ∧ c.Receivers.Nodup
 inh : c.Inhibits.length ≤ 8 ∧ ∀ x ∈ c.Inhibits, inhibitS x = true
 hours : c.Hours.length ≤ 8 ∧ (∀ h ∈ c.Hours, hourS h = true) ∧ (c.Hours.map (·.Name)).Nodup
 top : topS c = true
 names : namesS c = true
theorem configS_ok {c : Config} (h : configS c = true) : ConfigOK c := by
 simp only [configS, rulesS, receiversS, inhibitsS, hoursS, Bool.and_eq_true, decide_eq_true_eq, List.all_eq_true] at h
 obtain ⟨⟨⟨⟨⟨⟨⟨h1, h2⟩, h3⟩, ⟨h4, h5⟩, h6⟩, h7, h8⟩, ⟨h9, h10⟩, h11⟩, h12⟩, h13⟩ := h
 exact ⟨⟨h1, h2, once_nodup h3⟩, ⟨h4, h5, once_nodup h6⟩, ⟨h7, h8⟩, ⟨h9, h10, once_nodup h11⟩, h12, h13⟩
theorem config_Normal_eq (c : Config) (h : configFit c) : config_Normal std c = some (cond (configS c) (normS c, 0) (noConfig, 1)) := by
 unfold config_Normal
 rw [config_Right_eq c h, bd_some, s_not]
 cases hc : configS c with
 | false => rfl
 | true =>
  have ok := configS_ok hc
  have hP : ∀ x ∈ c.Inhibits, InhOK x := fun x hx => ⟨h.2.2.2.1.2 x hx, ok.inh.2 x hx⟩
  have hP' : ∀ x ∈ sortI (byName quietS) c.Inhibits, InhOK x := fun x hx => hP x ((sortI_perm _ _).mem_iff.1 hx)
  have hl : (sortI (byName quietS) c.Inhibits).length = c.Inhibits.length := sortI_len _ _
  obtain ⟨row, h1, h2, h3⟩ := compact_Inhibit false (sortI (byName quietS) c.Inhibits) (by rw [hl]; have := ok.inh.1; omega) hP'
  rw [hl] at h1
  have hcl := compactK_len quietS (sortI (byName quietS) c.Inhibits)
  rw [Bool.not_true, br_false, sorted_Rule c.Rules (fun y0 => config_ruled std y0) (fun r : Rule => r.Name) (fun _ => rfl) (by have := ok.rules.1; omega), bd_some, sorted_string c.Receivers (fun y0 => config_itself std y0) (fun x : ByteArray => x) (fun _ => rfl) (by have := ok.recv.1; omega), bd_some, sorted_Hours c.Hours (fun y0 => config_houred std y0) (fun r : Hours => r.Name) (fun _ => rfl) (by have := ok.hours.1; omega), bd_some, sorted_Inhibit false c.Inhibits (by have := ok.inh.1; omega) hP, bd_some]
  simp only
  rw [h1, bd_some]
  simp only
  rw [s_pl, Int.zero_add, len_nat, ck_t (show std.subOk 0 ((compactK quietS (sortI (byName quietS) c.Inhibits)).length : Int) (row.length : Int) from ⟨by omega, by omega, by omega⟩), s_lsub, Int.toNat_natCast]
  show some (Config.mk _ _ _ (List.drop 0 (row.take (compactK quietS (sortI (byName quietS) c.Inhibits)).length)) _, (0 : Int)) = some (normS c, 0)
  rw [List.drop_zero, h2]
  rfl
def dRule : Rule := Enc.dflt TyS.rule
def dHours : Hours := Enc.dflt TyS.hours
def dInh : Inhibit := Enc.dflt TyS.inhibit
def dStr : ByteArray := Enc.dflt TyS.str
def normR (c : Config) : Config := ⟨pick dRule c.Rules (placesTo (c.Rules.map (·.Name)) c.Rules.length), c.Route, pick dStr c.Receivers (placesTo c.Receivers c.Receivers.length), pick dInh c.Inhibits (placesTo (c.Inhibits.map quietS) c.Inhibits.length), pick dHours c.Hours (placesTo (c.Hours.map (·.Name)) c.Hours.length)⟩
theorem runL_end {α ε : Type} (e : ε) : ∀ (l : List α) (i : Nat), runL (fun _ _ (_ : Unit) => (.inl () : Unit ⊕ ε)) (fun _ => e) i l () = e
 | [], i => rfl
 | x :: xs, i => runL_end e xs (i + 1)
end Go.PL
namespace Go.PL
set_option linter.unusedSimpArgs false
set_option linter.unusedVariables false
set_option linter.unusedSectionVars false
open Tys (Ty U)
open Enc (sz enc dflt tb ofB toB)
open Dec (dec dok)
set_option maxRecDepth 100000
theorem fitL_sub {α : Type} {P : α → Prop} {xs ys : List α} (h : fitL P xs) (hl : ys.length ≤ xs.length) (hs : ∀ y ∈ ys, y ∈ xs) : fitL P ys := ⟨Nat.le_trans hl h.1, fun y hy => h.2 y (hs y hy)⟩
theorem fitL_nil {α : Type} {P : α → Prop} : fitL P [] := ⟨by simp, fun x hx => by cases hx⟩
theorem norm_inh_len (c : Config) : (normS c).Inhibits.length ≤ c.Inhibits.length := by
 have := compactK_len quietS (sortI (byName quietS) c.Inhibits)
 rw [sortI_len] at this
 exact this
theorem norm_inh_mem {c : Config} {x : Inhibit} (h : x ∈ (normS c).Inhibits) : x ∈ c.Inhibits := (compact_norm quietS c.Inhibits).sub x h
theorem norm_fit {c : Config} (h : configFit c) : configFit (normS c) :=
 ⟨fitL_sub h.1 (Nat.le_of_eq (sortI_len _ _)) fun y hy => (sortI_perm _ _).mem_iff.1 hy, h.2.1, fitL_sub h.2.2.1 (Nat.le_of_eq (sortI_len _ _)) fun y hy => (sortI_perm _ _).mem_iff.1 hy,
  fitL_sub h.2.2.2.1 (norm_inh_len c) fun y hy => norm_inh_mem hy, fitL_sub h.2.2.2.2 (Nat.le_of_eq (sortI_len _ _)) fun y hy => (sortI_perm _ _).mem_iff.1 hy⟩
theorem none_fit : configFit noConfig := ⟨fitL_nil, .mk _ (by show (0 : Nat) ≤ _; omega) fitL_nil fitL_nil fitL_nil (by simp [noConfig]) (fun k hk => by cases hk), fitL_nil, fitL_nil, fitL_nil⟩
def normC (c : Config) : Config := cond (configS c) (normS c) noConfig
def normE (c : Config) : Int := cond (configS c) 0 1
theorem config_Normal_eq' (c : Config) (h : configFit c) : config_Normal std c = some (normC c, normE c) := by
 rw [config_Normal_eq c h]
 unfold normC normE
 cases configS c <;> rfl
theorem normC_fit {c : Config} (h : configFit c) : configFit (normC c) := by
 unfold normC
 cases configS c
 ·exact none_fit
 ·exact norm_fit h
theorem normE_eq (c : Config) : std.cmp .eql (normE c) 0 = configS c := by
 unfold normE
 cases configS c <;> rfl
theorem config_parts (x y : Config) : (((eqB x.1 y.1 && eqB x.3 y.3) && eqB x.5 y.5) && eqB x.4 y.4 && eqB x.2 y.2) = eqB x y := by
 refine eqB_of ?_
 cases x; cases y
 simp only [Bool.and_eq_true, eqB_iff, Config.mk.injEq]
 constructor
 ·rintro ⟨⟨⟨⟨h1, h2⟩, h3⟩, h4⟩, h5⟩; exact ⟨h1, h5, h2, h4, h3⟩
 ·rintro ⟨h1, h5, h2, h4, h3⟩; exact ⟨⟨⟨⟨h1, h2⟩, h3⟩, h4⟩, h5⟩
theorem config_Same_eq (a b : Config) (ha : configFit a) (hb : configFit b) : config_Same std a b = some (configS a && configS b && eqB (normC a) (normC b)) := by
 unfold config_Same
 rw [config_Normal_eq' a ha, bd_some, config_Normal_eq' b hb, bd_some]
 simp only
 have hf := normC_fit ha
 generalize normC a = x at hf
 generalize normC b = y
 rw [normE_eq, normE_eq]
 rw [equalF_Rule x.Rules y.Rules (fun y0 y1 => rules_Like std y0 y1) (fun r hr s _ => rules_Like_eq r s (hf.1.2 r hr).2.2.1) hf.1.1, bd_some]
 rw [gd_b (fun _ => slices_Equal_string_string_eq x.Receivers y.Receivers hf.2.2.1.1), bd_some]
 rw [gd_b (fun _ => slices_Equal_Hours_Hours_eq x.Hours y.Hours hf.2.2.2.2.1), bd_some]
 rw [gd_b (fun _ => equalF_Inhibit x.Inhibits y.Inhibits (fun y0 y1 => config_Same_1 std y0 y1) (fun r hr s _ => config_like_eq r s (hf.2.2.2.1.2 r hr)) hf.2.2.2.1.1), bd_some]
 rw [gd_b (fun _ => routes_Like_eq x.Route y.Route hf.2.1), bd_some, ← config_parts]
 simp only [s_land]
 cases configS a <;> cases configS b <;> cases eqB x.1 y.1 <;> cases eqB x.3 y.3 <;> cases eqB x.5 y.5 <;> cases eqB x.4 y.4 <;> cases eqB x.2 y.2 <;> rfl
structure Small (c : Config) : Prop where
 rules : c.Rules.length ≤ 18
 recv : c.Receivers.length ≤ 18
 inh : c.Inhibits.length ≤ 10
 hours : c.Hours.length ≤ 10
def opsT : ByteArray := ByteArray.mk (Array.mk [111, 112, 115])
def devT : ByteArray := ByteArray.mk (Array.mk [100, 101, 118])
def aliveC : Config := ⟨[], ⟨opsT, [], [], 0, 1, 1, [], false, []⟩, [opsT, devT], [], []⟩
theorem size_le {s : ByteArray} (n : Nat) (h : s.size = n) (hn : n ≤ 1000) : fitS s := by unfold fitS big63; omega
end Go.PL
namespace Go.PL
set_option linter.unusedSimpArgs false
set_option linter.unusedVariables false
set_option linter.unusedSectionVars false
open Tys (Ty U)
open Enc (sz enc dflt tb ofB toB)
open Dec (dec dok)
set_option maxRecDepth 100000
theorem normC_t {c : Config} (h : configS c = true) : normC c = normS c := by unfold normC; rw [h]; rfl
theorem norm_inh_ok {c : Config} (h : configS c = true) : ∀ i ∈ (normS c).Inhibits, inhibitS i = true := fun i hi => (configS_ok h).inh.2 i (norm_inh_mem hi)
noncomputable def woS (R : ByteArray) (xs : List ByteArray) : List ByteArray := xs.filter fun x => !eqB x R
end Go.PL
