/- Texts of this claim: plain laws of what the program's functions compute. No condition of their own. -/
import Derived.Test.YteggibikppdhfaaGreatDoorWb
import Derived.Lib.ItoaLen
import Derived.Lib.SplitLaws
import Derived.Lib.Replace
namespace Go.PL
set_option linter.unusedSimpArgs false
set_option linter.unusedVariables false
set_option linter.unusedSectionVars false
open Tys (Ty U)
open Enc (sz enc dflt tb ofB toB)
open Dec (dec dok)
set_option maxRecDepth 100000
theorem bind_bound (l : List ByteArray) (h : bindOk l = true) : (bindS l).size ≤ 5000000 := by
 simp only [bindOk, Bool.and_eq_true, decide_eq_true_eq, List.all_eq_true] at h
 have h1 := bindL_le' l 8192 (by omega) h.2
 have h2 := Nat.mul_le_mul_right (10 + 8192 / 128 + 8192) h.1
 rw [bindS_size]
 omega
theorem frame_Bind_some (l : List ByteArray) : ∃ s e, frame_Bind std l = some (s, e) ∧ s.size ≤ 5000000 := by
 cases hb : bindOk l with
 | true => exact ⟨_, _, frame_Bind_eq l hb, bind_bound l hb⟩
 | false =>
  unfold frame_Bind
  rw [show std.cmp .gtr (std.len TyS.str l) 512 = !decide (l.length ≤ 512) from gtr_len (t := TyS.str) l 512]
  by_cases hl : l.length ≤ 512
  ·rw [decide_eq_true hl, Bool.not_true, br_false]
   have := Loop_row (B := frame_Bind_B1 std l) (fun i (_ : Unit) => ((i : Int), bindL (l.take i))) l (fun _ p (_ : Unit) => if decide (p.size ≤ 8192) = true then (.inl () : Unit ⊕ (ByteArray × Int)) else .inr (⟨#[]⟩, 2)) (fun _ => (bindS l, 0)) (fun i _ => i ≤ l.length ∧ ∀ q ∈ l.take i, q.size ≤ 8192) (fun i p u hx hI => by
    have hi := lt_of_at hx
    obtain ⟨_, hI⟩ := hI
    have htl := bindL_le (l.take i) 8192 (by omega) hI
    have hti : (l.take i).length ≤ 512 := by rw [List.length_take]; omega
    have hmul : (l.take i).length * (10 + 2 * 8192) ≤ 512 * (10 + 2 * 8192) := Nat.mul_le_mul_right _ hti
    by_cases hp : p.size ≤ 8192
    ·have h10 := numL_le p.size (by omega)
     refine ⟨fun s' hs => ?_, fun e he => ?_⟩
     ·refine ⟨?_, by omega, fun q hq => ?_⟩
      ·unfold frame_Bind_B1
       simp only
       rw [len_nat, lssT hi, br_true, ck_t (inbT hi), get_nat (t := TyS.str) hx, s_slen, show std.cmp .gtr (p.size : Int) 8192 = false by rw [s_gtr]; exact decide_eq_false (by omega), br_false, frame_Number_eq p.size (by omega), bd_some]
       have hn : (numS p.size).size = (numL p.size).length := by show (numL p.size).toArray.size = _; simp
       rw [write_eq _ _ (by rw [hn]; omega), bd_some, write_eq _ _ (by rw [List.length_append, show (bytes (numS p.size)) = numL p.size from bytes_mk _]; omega), bd_some, s_add, wrap_succ hi (by unfold big63; omega), bind_take hx, show (bytes (numS p.size)) = numL p.size from bytes_mk _, List.append_assoc]
      ·rw [take_snoc hx] at hq
       rcases List.mem_append.1 hq with hq | hq
       ·exact hI q hq
       ·rw [List.mem_singleton.1 hq]; exact hp
     ·rw [decide_eq_true hp] at he; cases he
    ·refine ⟨fun s' hs => ?_, fun e he => ?_⟩
     ·rw [decide_eq_false hp] at hs; cases hs
     ·rw [decide_eq_false hp] at he
      cases he
      unfold frame_Bind_B1
      simp only
      rw [len_nat, lssT hi, br_true, ck_t (inbT hi), get_nat (t := TyS.str) hx, s_slen, show std.cmp .gtr (p.size : Int) 8192 = true by rw [s_gtr]; exact decide_eq_true (by omega), br_true]
      rfl) (fun _ hI => by
    exfalso
    obtain ⟨_, hI⟩ := hI
    rw [List.take_length] at hI
    have : bindOk l = true := by
     simp only [bindOk, Bool.and_eq_true, decide_eq_true_eq, List.all_eq_true]
     exact ⟨hl, hI⟩
    rw [hb] at this; cases this) () ⟨Nat.zero_le _, fun q hq => by simp at hq⟩
   rw [runL_guard (fun p : ByteArray => decide (p.size ≤ 8192))] at this
   have hall : (l.all fun p : ByteArray => decide (p.size ≤ 8192)) = false := by
    unfold bindOk at hb
    rw [decide_eq_true hl, Bool.true_and] at hb
    exact hb
   rw [hall] at this
   exact ⟨_, _, this, by show (0 : Nat) ≤ _; omega⟩
  ·rw [decide_eq_false hl, Bool.not_false, br_true]
   exact ⟨_, _, rfl, by show (0 : Nat) ≤ _; omega⟩
theorem config_bind_some (b : Bool) (l : List ByteArray) : ∃ v, config_bind std b l = some v ∧ v.1.size ≤ 5000000 := by
 obtain ⟨s, e, h1, h2⟩ := frame_Bind_some l
 unfold config_bind
 rw [h1, bd_some]
 exact ⟨_, rfl, h2⟩
theorem config_matchers_some (b : Bool) (l : List Matcher) (hf : fitL matcherFit l) (h : matchersS l = true) : ∃ v, config_matchers std b l = some v ∧ v.1.size ≤ 5000000 :=
 ⟨_, config_matchers_eq b l hf h, by have := (texts_ok h).2; show (textsS l).size ≤ _; omega⟩
theorem replaceK_len (old new : List UInt8) : ∀ (k : Nat) (s : List UInt8), (Lib.replaceK old new k s).length ≤ s.length + k * new.length
 | 0, s => by simp [Lib.replaceK]
 | k + 1, s => by
  rw [Lib.replaceK]
  split
  ·exact Nat.le_add_right ..
  ·have h := replaceK_len old new k (s.drop ((Lib.index s old).toNat + old.length))
   simp only [List.length_append, List.length_take, List.length_drop, Nat.succ_mul] at h ⊢
   omega
theorem replace_some (s old new : ByteArray) (h0 : 1 ≤ old.size) (h2 : new.size = 2) (hs : s.size ≤ 1000) : ∃ t, strings_ReplaceAll std s old new = some t ∧ t.size ≤ 3 * s.size := by
 have hc := Lib.countB_le old h0 s.size s (Nat.le_refl _)
 unfold strings_ReplaceAll
 refine ⟨_, ck_t ⟨by omega, h0, by rw [h2]; omega⟩, ?_⟩
 rw [size_bytes, bytes_mk]
 unfold Lib.replaceAll Lib.replace
 split
 ·show (bytes s).length ≤ _
  rw [len_bytes]; omega
 ·have h := replaceK_len old.data.toList new.data.toList (Lib.replaceNum s.data.toList old.data.toList (-1)) s.data.toList
  have e : Lib.replaceNum s.data.toList old.data.toList (-1) = Lib.countB s old := by
   unfold Lib.replaceNum
   rw [if_pos (.inl (by omega))]
  have l1 : s.data.toList.length = s.size := len_bytes s
  have l2 : new.data.toList.length = 2 := (len_bytes new).trans h2
  rw [e] at h ⊢
  rw [l1, l2] at h
  omega
theorem mark_some (x : label_mark) (h1 : x.Name.size ≤ 64) (h2 : x.Value.size ≤ 64) : ∃ t, label_mark_text std x = some t ∧ t.size ≤ 1000 := by
 unfold label_mark_text
 have q2 : (ByteArray.mk (Array.mk [61, 34])).size = 2 := rfl
 have q1 : (ByteArray.mk (Array.mk [34])).size = 1 := rfl
 obtain ⟨a, ha, la⟩ := replace_some x.Value (ByteArray.mk (Array.mk [92])) (ByteArray.mk (Array.mk [92, 92])) (by decide) rfl (by omega)
 obtain ⟨b, hb, lb⟩ := replace_some a (ByteArray.mk (Array.mk [34])) (ByteArray.mk (Array.mk [92, 34])) (by decide) rfl (by omega)
 rw [ha, bd_some, hb, bd_some]
 have z1 : (x.Name ++ ByteArray.mk (Array.mk [61, 34])).size = x.Name.size + 2 := by rw [ByteArray.size_append, q2]
 have z2 : (x.Name ++ ByteArray.mk (Array.mk [61, 34]) ++ b).size = x.Name.size + 2 + b.size := by rw [ByteArray.size_append, z1]
 rw [s_cat, s_cat, s_cat, ck_t (show std.catOk _ _ by rw [s_catOk, q2]; omega), ck_t (show std.catOk _ _ by rw [s_catOk, z1]; omega), ck_t (show std.catOk _ _ by rw [s_catOk, z2, q1]; omega)]
 exact ⟨_, rfl, by rw [ByteArray.size_append, z2, q1]; omega⟩
theorem join_len (sep : List UInt8) : ∀ (l : List (List UInt8)) (m : Nat), (∀ x ∈ l, x.length ≤ m) → (Lib.join l sep).length ≤ l.length * (m + sep.length)
 | [], m, _ => by simp [Lib.join]
 | x :: l, m, h => by
  have key : ∀ l : List (List UInt8), (∀ x ∈ l, x.length ≤ m) → (Lib.joinTail sep l).length ≤ l.length * (m + sep.length) := by
   intro l
   induction l with
   | nil => intro _; simp [Lib.joinTail]
   | cons y l ih =>
    intro h
    have h1 := ih fun x hx => h x (List.mem_cons_of_mem _ hx)
    have h2 := h y (List.mem_cons_self ..)
    simp only [Lib.joinTail, List.map_cons, List.flatten_cons, List.length_append, List.length_cons, Nat.succ_mul] at h1 ⊢
    omega
  rw [Lib.join_cons]
  have h1 := key l fun x hx => h x (List.mem_cons_of_mem _ hx)
  have h2 := h x (List.mem_cons_self ..)
  simp only [List.length_append, List.length_cons, Nat.succ_mul]
  omega
theorem label_Text_some (xs : List Label) (hf : fitL labelFit xs) (h : labelsS xs = true) : ∃ s, label_Text std xs = some (s, 0) ∧ s.size ≤ 10000 := by
 have hl : xs.length ≤ 8 := by
  simp only [labelsS, Bool.and_eq_true, decide_eq_true_eq] at h; exact h.2
 have hm := labelsS_mem h
 unfold label_Text
 rw [label_Right_eq xs hf, bd_some, h, s_not, Bool.not_true, br_false]
 have e1 : label_marks std xs = some (xs.map fun l => (⟨l.Name, l.Value⟩ : label_mark)) := by
  unfold label_marks
  have := Loop_each (B := label_marks_B1 std xs) (fun i (_ : Unit) => ((xs.take i).map fun l => (⟨l.Name, l.Value⟩ : label_mark), (i : Int))) xs (fun _ _ (_ : Unit) => (.inl () : Unit ⊕ List label_mark)) (fun _ => xs.map fun l => (⟨l.Name, l.Value⟩ : label_mark)) (fun i x u hx hi => by
   unfold label_marks_B1
   simp only
   rw [len_nat, lssT hi, br_true, ck_t (inbT hi), get_nat (t := TyS.label) hx, ck_t (show std.appOk TyS.mark 32 ((xs.take i).map fun l => (⟨l.Name, l.Value⟩ : label_mark)) [⟨x.Name, x.Value⟩] from ⟨by simp; omega, by simp; omega⟩), s_add, wrap_succ hi (by unfold big63; omega), take_snoc hx, List.map_append]
   rfl) (fun _ => by
   unfold label_marks_B1
   simp only
   rw [len_nat, lssF, br_false, List.take_length]
   rfl) ()
  rw [runL_end] at this
  exact this
 rw [e1, bd_some]
 -- texts of marks
 have hmk : ∀ l ∈ xs, ∃ t, label_mark_text std ⟨l.Name, l.Value⟩ = some t ∧ t.size ≤ 1000 := fun l hl => by
  have := hm l hl
  simp only [labelS, Bool.and_eq_true, nameS, valueS, decide_eq_true_eq] at this
  exact mark_some _ this.1.2 this.2.2
 let f : Label → ByteArray := fun l => ((label_mark_text std ⟨l.Name, l.Value⟩).getD ⟨#[]⟩)
 have hf2 : ∀ l ∈ xs, label_mark_text std ⟨l.Name, l.Value⟩ = some (f l) ∧ (f l).size ≤ 1000 := fun l hl => by
  obtain ⟨t, h1, h2⟩ := hmk l hl
  have : f l = t := by show ((label_mark_text std ⟨l.Name, l.Value⟩).getD ⟨#[]⟩) = t; rw [h1]; rfl
  rw [this]; exact ⟨h1, h2⟩
 have hjl : (Lib.join ((xs.map f).map (·.data.toList)) [44]).length ≤ 8008 := by
  have := join_len [44] ((xs.map f).map (·.data.toList)) 1000 (fun x hx => by
   obtain ⟨y, hy, rfl⟩ := List.mem_map.1 hx
   obtain ⟨l, hl, rfl⟩ := List.mem_map.1 hy
   have := (hf2 l hl).2
   show (bytes (f l)).length ≤ 1000
   rw [len_bytes]; exact this)
  simp only [List.length_map, List.length_singleton] at this
  omega
 have hlen : (xs.map fun l => (⟨l.Name, l.Value⟩ : label_mark)).length = xs.length := List.length_map ..
 have hj : strings_Join std (xs.map f) (ByteArray.mk (Array.mk [44])) = some ⟨(Lib.join ((xs.map f).map (·.data.toList)) [44]).toArray⟩ := by
  unfold strings_Join
  exact ck_t ⟨by rw [List.length_map]; omega, by show (Lib.join ((xs.map f).map (·.data.toList)) [44]).length ≤ _; omega⟩
 have jz : (ByteArray.mk (Lib.join ((xs.map f).map (·.data.toList)) [44]).toArray).size ≤ 8008 := by rw [size_bytes, bytes_mk]; exact hjl
 generalize ByteArray.mk (Lib.join ((xs.map f).map (·.data.toList)) [44]).toArray = J at hj jz
 have q1 : (ByteArray.mk (Array.mk [123])).size = 1 := rfl
 have q2 : (ByteArray.mk (Array.mk [125])).size = 1 := rfl
 have := Loop_each (B := label_Text_B1 std (xs.map fun l => (⟨l.Name, l.Value⟩ : label_mark))) (fun i (_ : Unit) => ((xs.take i).map f, (i : Int))) xs (fun _ _ (_ : Unit) => (.inl () : Unit ⊕ (ByteArray × Int))) (fun _ => (ByteArray.mk (Array.mk [123]) ++ J ++ ByteArray.mk (Array.mk [125]), 0)) (fun i x u hx hi => by
  unfold label_Text_B1
  simp only
  have hx2 : (xs.map fun l => (⟨l.Name, l.Value⟩ : label_mark))[i]? = some ⟨x.Name, x.Value⟩ := by rw [List.getElem?_map, hx]; rfl
  rw [len_nat, hlen, lssT hi, br_true, ck_t (inbT hi), get_nat (t := TyS.mark) hx2, (hf2 x (mem_at hx)).1, bd_some, ck_t (show std.appOk TyS.str 16 ((xs.take i).map f) [f x] from ⟨by simp; omega, by simp; omega⟩), s_add, wrap_succ hi (by unfold big63; omega), take_snoc hx, List.map_append]
  rfl) (fun _ => by
  unfold label_Text_B1
  simp only
  rw [len_nat, hlen, lssF, br_false, List.take_length, hj, bd_some, s_cat, s_cat, ck_t (show std.catOk _ _ by rw [s_catOk, q1]; omega), ck_t (show std.catOk _ _ by rw [s_catOk, ByteArray.size_append, q1, q2]; omega)]
  rfl) ()
 rw [runL_end] at this
 exact ⟨_, this, by rw [ByteArray.size_append, ByteArray.size_append, q1, q2]; omega⟩
end Go.PL
namespace Go.PL
set_option linter.unusedSimpArgs false
set_option linter.unusedVariables false
set_option linter.unusedSectionVars false
open Tys (Ty U)
open Enc (sz enc dflt tb ofB toB)
open Dec (dec dok)
set_option maxRecDepth 100000
theorem Loop_go {S ε α σ : Type} {B : S → Option (S ⊕ ε)} (enc : Nat → σ → S) (xs : List α) (next : Nat → α → σ → σ) (I : Nat → σ → Prop) (G : ε → Prop)
  (h1 : ∀ i x s, xs[i]? = some x → I i s → B (enc i s) = some (.inl (enc (i + 1) (next i x s))) ∧ I (i + 1) (next i x s))
  (h2 : ∀ s, I xs.length s → ∃ e, B (enc xs.length s) = some (.inr e) ∧ G e) (s0 : σ) (h0 : I 0 s0) : ∃ e, Loop B (enc 0 s0) = some e ∧ G e := by
 have key : ∀ (n i : Nat) (s : σ), i + n = xs.length → I i s → ∃ e, Loop B (enc i s) = some e ∧ G e := by
  intro n
  induction n with
  | zero =>
   intro i s hi hI
   obtain rfl : i = xs.length := by omega
   obtain ⟨e, he, hg⟩ := h2 s hI
   exact ⟨e, by rw [Loop_eq, he], hg⟩
  | succ n ih =>
   intro i s hi hI
   have hl : i < xs.length := by omega
   obtain ⟨h3, h4⟩ := h1 i xs[i] s (List.getElem?_eq_getElem hl) hI
   obtain ⟨e, he, hg⟩ := ih (i + 1) _ (by omega) h4
   exact ⟨e, by rw [Loop_eq, h3]; exact he, hg⟩
 exact key xs.length 0 s0 (by omega) h0
theorem app_len {α : Type} {l : List α} {n : Nat} (x : α) (h : l.length ≤ n) : (l ++ [x]).length ≤ n + 1 := by
 rw [List.length_append, List.length_singleton]; omega
theorem rules_Words_some (r : Rule) (hf : ruleFit r) (h : ruleS r = true) : ∃ v, rules_Words std r = some v ∧ v.1.length ≤ 8 := by
 have h0 := h
 simp only [ruleS, timeS, Bool.and_eq_true, decide_eq_true_eq] at h0
 obtain ⟨⟨⟨⟨⟨⟨⟨⟨⟨⟨⟨⟨_, _⟩, a1⟩, a2⟩, b1, b2⟩, c1, c2⟩, d1⟩, d2⟩, e1⟩, e2⟩, _⟩, hl⟩, _⟩ := h0
 obtain ⟨s, hs, _⟩ := label_Text_some r.Labels hf.2.2 hl
 unfold rules_Words
 rw [rules_Right_eq r hf, bd_some, h, s_not, Bool.not_true, br_false, hs, bd_some]
 have hw : rules_ways std = some () := rfl
 rw [hw, bd_some, ck_t (show std.inb r.How (Int.ofNat 6) from ⟨by omega, by show r.How < 6; omega⟩)]
 have hn : ∀ n ∈ [r.Limit, r.For, r.Keep, r.Tries], -9223372036854775808 ≤ n ∧ n ≤ 9223372036854775807 := by
  intro n hn
  simp only [List.mem_cons, List.mem_nil_iff, or_false] at hn
  rcases hn with rfl | rfl | rfl | rfl <;> omega
 refine Loop_go (B := rules_Words_B1 std r (s, 0)) (fun i (l : List ByteArray) => (l, (i : Int))) [r.Limit, r.For, r.Keep, r.Tries] (fun _ n l => l ++ [⟨(Lib.itoa n).toArray⟩]) (fun i l => l.length ≤ 3 + i ∧ i ≤ 4) (fun v => v.1.length ≤ 8) (fun i n l hx ⟨hI, hi4⟩ => ?_) (fun l ⟨hI, _⟩ => ?_) _ ⟨by simp, by omega⟩
 ·have hi := lt_of_at hx
  simp only [List.length_cons, List.length_nil] at hi
  refine ⟨?_, app_len _ hI, by omega⟩
  unfold rules_Words_B1
  simp only
  have hI2 : strconv_Itoa std n = some ⟨(Lib.itoa n).toArray⟩ := by unfold strconv_Itoa; exact ck_t (hn n (mem_at hx))
  rw [len_nat, lssT (lt_of_at hx), br_true, ck_t (inbT (lt_of_at hx)), get_nat (t := TyS.int) hx, hI2, bd_some, ck_t (show std.appOk TyS.str 16 l [_] from ⟨by simp; omega, by simp; omega⟩), s_add, wrap_succ (lt_of_at hx) (by unfold big63; simp)]
  rfl
 ·unfold rules_Words_B1
  simp only
  simp only [List.length_cons, List.length_nil] at hI
  rw [len_nat, lssF, br_false, ck_t (show std.appOk TyS.str 16 l [s] from ⟨by simp; omega, by simp; omega⟩)]
  exact ⟨_, rfl, by show (l ++ [s]).length ≤ 8; rw [List.length_append, List.length_singleton]; omega⟩
theorem hours_two_some (n : Int) (h0 : 0 ≤ n) (h1 : n ≤ 99) : ∃ t, hours_two std n = some t ∧ t.size = 2 := by
 unfold hours_two
 have q1 : std.ar .quo .i64 n 10 = n / 10 := by rw [s_quo, tdiv0 h0, w64 (by omega)]
 have q2 : std.ar .rem .i64 n 10 = n % 10 := by rw [s_rem, tmod0 h0]
 have a1 : std.ar .add .i64 48 (n / 10) = 48 + n / 10 := by rw [s_add, w64 (by omega)]
 have a2 : std.ar .add .i64 48 (n % 10) = 48 + n % 10 := by rw [s_add, w64 (by omega)]
 rw [q1, q2, a1, a2, s_conv, s_conv, w8 (by omega), w8 (by omega), ck_t (show std.u8ok _ from ⟨by omega, by omega⟩), ck_t (show std.u8ok _ from ⟨by omega, by omega⟩), b2s_eq]
 exact ⟨_, rfl, rfl⟩
theorem hours_clock_some (n : Int) (h0 : 0 ≤ n) (h1 : n ≤ 1440) : ∃ t, hours_clock std n = some t ∧ t.size = 5 := by
 unfold hours_clock
 have q1 : std.ar .quo .i64 n 60 = n / 60 := by rw [s_quo, tdiv0 h0, w64 (by omega)]
 have q2 : std.ar .rem .i64 n 60 = n % 60 := by rw [s_rem, tmod0 h0]
 obtain ⟨a, ha, la⟩ := hours_two_some (n / 60) (by omega) (by omega)
 obtain ⟨b, hb, lb⟩ := hours_two_some (n % 60) (by omega) (by omega)
 have z : (ByteArray.mk (Array.mk [58])).size = 1 := rfl
 rw [q1, q2, ha, bd_some, ck_t (show std.catOk _ _ by rw [s_catOk, la, z]; omega), hb, bd_some, s_cat, s_cat, ck_t (show std.catOk _ _ by rw [s_catOk, ByteArray.size_append, la, lb, z]; omega)]
 exact ⟨_, rfl, by rw [ByteArray.size_append, ByteArray.size_append, la, lb, z]⟩
def dayT (i : Nat) : ByteArray := std.sel [ByteArray.mk (Array.mk [109, 111, 110]), ByteArray.mk (Array.mk [116, 117, 101]), ByteArray.mk (Array.mk [119, 101, 100]), ByteArray.mk (Array.mk [116, 104, 117]), ByteArray.mk (Array.mk [102, 114, 105]), ByteArray.mk (Array.mk [115, 97, 116]), ByteArray.mk (Array.mk [115, 117, 110])] (i : Int)
theorem dayT_size (i : Nat) (h : i < 7) : (dayT i).size = 3 := by
 have : i = 0 ∨ i = 1 ∨ i = 2 ∨ i = 3 ∨ i = 4 ∨ i = 5 ∨ i = 6 := by omega
 rcases this with rfl | rfl | rfl | rfl | rfl | rfl | rfl <;> rfl
theorem hours_Text_some (h : Hours) (hs : hourS h = true) : ∃ v, hours_Text std h = some v := by
 have h0 := hs
 simp only [hourS, Bool.and_eq_true, decide_eq_true_eq] at h0
 obtain ⟨⟨⟨⟨⟨⟨_, _⟩, _⟩, f0⟩, f1⟩, f2⟩, t1⟩ := h0
 obtain ⟨a, ha, la⟩ := hours_clock_some h.From f0 (by omega)
 obtain ⟨b, hb, lb⟩ := hours_clock_some h.To (by omega) t1
 unfold hours_Text
 rw [hours_Right_eq h, bd_some, hs, s_not, Bool.not_true, br_false]
 have := Loop_go (B := hours_Text_B1 std h) (fun i (l : List ByteArray) => (l, (i : Int))) (List.range 7) (fun i _ l => if std.cmp .eql (std.ar .and .i64 (std.ar .shr .i64 h.Days (i : Int)) 1) 1 = true then l ++ [dayT i] else l) (fun i l => i ≤ 7 ∧ l.length ≤ i ∧ ∀ x ∈ l, x.size ≤ 3) (fun _ => True) (fun i n l hx ⟨hi7, hI, hz⟩ => by
  have hi : i < 7 := by have := lt_of_at hx; simpa using this
  refine ⟨?_, by omega, ?_, ?_⟩
  ·unfold hours_Text_B1
   simp only
   rw [show std.cmp .lss (i : Int) 7 = true from lssT (n := 7) hi, br_true, ck_t (show std.inb (i : Int) (Int.ofNat 7) from inbT (n := 7) hi), ck_t (show std.nn (i : Int) by show (0 : Int) ≤ _; omega), s_add, wrap_succ (n := 7) hi (by unfold big63; omega)]
   cases std.cmp .eql (std.ar .and .i64 (std.ar .shr .i64 h.Days (i : Int)) 1) 1 with
   | true =>
    rw [br_true, if_pos rfl]
    have hA : std.appOk TyS.str 16 l [dayT i] := ⟨by simp; omega, by simp; omega⟩
    exact ck_t hA
   | false => rfl
  ·split
   ·exact app_len _ hI
   ·omega
  ·split
   ·intro x hx
    rcases List.mem_append.1 hx with hx | hx
    ·exact hz x hx
    ·rw [List.mem_singleton.1 hx, dayT_size i hi]; omega
   ·exact hz) (fun l ⟨_, hI, hz⟩ => by
  simp only [List.length_range] at hI
  unfold hours_Text_B1
  simp only [List.length_range]
  have hj := join_len [44] (l.map (·.data.toList)) 3 (fun x hx => by
   obtain ⟨y, hy, rfl⟩ := List.mem_map.1 hx
   show (bytes y).length ≤ 3
   rw [len_bytes]; exact hz y hy)
  simp only [List.length_map, List.length_singleton] at hj
  have hJ : strings_Join std l (ByteArray.mk (Array.mk [44])) = some ⟨(Lib.join (l.map (·.data.toList)) [44]).toArray⟩ := by
   unfold strings_Join
   exact ck_t ⟨by omega, by show (Lib.join (l.map (·.data.toList)) [44]).length ≤ _; omega⟩
  have jz : (ByteArray.mk (Lib.join (l.map (·.data.toList)) [44]).toArray).size ≤ 28 := by rw [size_bytes, bytes_mk]; omega
  generalize ByteArray.mk (Lib.join (l.map (·.data.toList)) [44]).toArray = J at hJ jz
  have z1 : (ByteArray.mk (Array.mk [32])).size = 1 := rfl
  have z2 : (ByteArray.mk (Array.mk [45])).size = 1 := rfl
  rw [show std.cmp .lss ((7 : Nat) : Int) 7 = false from rfl, br_false, hJ, bd_some, s_cat, ck_t (show std.catOk _ _ by rw [s_catOk, z1]; omega), ha, bd_some, s_cat, ck_t (show std.catOk _ _ by rw [s_catOk, ByteArray.size_append, z1, la]; omega), s_cat, ck_t (show std.catOk _ _ by rw [s_catOk, ByteArray.size_append, ByteArray.size_append, z1, z2, la]; omega), hb, bd_some, s_cat, ck_t (show std.catOk _ _ by rw [s_catOk, ByteArray.size_append, ByteArray.size_append, ByteArray.size_append, z1, z2, la, lb]; omega)]
  exact ⟨_, rfl, trivial⟩) [] ⟨by omega, by simp, fun x hx => by cases hx⟩
 obtain ⟨e, he, _⟩ := this
 exact ⟨e, he⟩
end Go.PL
namespace Go.PL
set_option linter.unusedSimpArgs false
set_option linter.unusedVariables false
set_option linter.unusedSectionVars false
open Tys (Ty U)
open Enc (sz enc dflt tb ofB toB)
open Dec (dec dok)
set_option maxRecDepth 100000
theorem number_some (n : Int) (h0 : 0 ≤ n) (h1 : n ≤ 1099511627776) : ∃ s, frame_Number std n = some (s, 0) := by
 have : n = ((n.toNat : Nat) : Int) := by omega
 rw [this]
 exact ⟨_, frame_Number_eq n.toNat (by omega)⟩
theorem config_inhibit_eq (b : Bool) (x : Inhibit) (hf : inhibitFit x) (h : inhibitS x = true) : config_inhibit std b x = some (quietS x, b) := by
 have h1 := config_quiet_eq b x hf h
 unfold config_Normal_1 at h1
 cases hc : config_inhibit std b x with
 | none => rw [hc] at h1; cases h1
 | some v => rw [hc] at h1; exact h1
theorem route_end (rf : Bool → Route → Option (ByteArray × Bool)) (r : Route) (t5 : List ByteArray) (b0 : Bool) (h5 : t5.length ≤ 10) (hr : r.Routes.length ≤ 16) (on : ByteArray)
  (hk : ∀ k ∈ r.Routes, ∀ b, ∃ v, rf b k = some v) (B : List ByteArray × Int × Bool → Option ((List ByteArray × Int × Bool) ⊕ (ByteArray × Bool)))
  (hB : ∀ l i b, B (l, i, b) = br (std.cmp .lss i (std.len TyS.route r.9)) (ck (std.inb i (std.len TyS.route r.9)) <| bd (rf b (std.get TyS.route r.9 i)) fun w8 => ck (std.appOk TyS.str 16 l [w8.1]) <| some (.inl ((std.app TyS.str l [w8.1], std.ar .add .i64 i 1, w8.2)))) (rt (bd (config_bind std b l) fun w10 => ck (std.appOk TyS.str 16 t5 [on, w10.1]) <| bd (config_bind std w10.2 (std.app TyS.str t5 [on, w10.1])) fun w12 => some w12))) :
  ∃ v, Loop B ([], 0, b0) = some v := by
 have := Loop_go (B := B) (fun i (s : List ByteArray × Bool) => (s.1, (i : Int), s.2)) r.Routes (fun _ k s => (s.1 ++ [((rf s.2 k).getD (⟨#[]⟩, false)).1], ((rf s.2 k).getD (⟨#[]⟩, false)).2)) (fun i s => i ≤ r.Routes.length ∧ s.1.length ≤ i) (fun _ => True) (fun i k s hx ⟨hi, hI⟩ => by
  have hlt := lt_of_at hx
  obtain ⟨v, hv⟩ := hk k (mem_at hx) s.2
  refine ⟨?_, by omega, app_len _ hI⟩
  rw [hB, len_nat, lssT hlt, br_true, ck_t (inbT hlt), get_nat (t := TyS.route) hx, hv, bd_some, ck_t (show std.appOk TyS.str 16 s.1 [v.1] from ⟨by simp; omega, by simp; omega⟩), s_add, wrap_succ hlt (by unfold big63; omega)]
  rfl) (fun s ⟨_, hI⟩ => by
  obtain ⟨w10, h10, _⟩ := config_bind_some s.2 s.1
  obtain ⟨w12, h12, _⟩ := config_bind_some w10.2 (std.app TyS.str t5 [on, w10.1])
  rw [hB, len_nat, lssF, br_false, h10, bd_some, ck_t (show std.appOk TyS.str 16 t5 [on, w10.1] from ⟨by simp; omega, by simp; omega⟩), h12, bd_some]
  exact ⟨_, rfl, trivial⟩) ([], b0) ⟨by omega, by simp⟩
 obtain ⟨v, hv, _⟩ := this
 exact ⟨v, hv⟩
theorem config_route_N_some : ∀ (n : Nat) (b : Bool) (r : Route) (d : Nat), SizeOf.sizeOf r < n → RouteFit r → routeS d r = true → ∃ v, config_route_N std n b r = some v
 | 0, b, r, d, h, _, _ => absurd h (Nat.not_lt_zero _)
 | n + 1, b, r, d, h, hf, hs => by
  obtain ⟨f1, f2, f3, f4, f5, f6⟩ := fit_route hf
  obtain ⟨e, rfl⟩ := routeS_pos hs
  obtain ⟨k1, k2⟩ := routeS_kids hs
  have h0 := hs
  simp only [routeS, oneS, fromS, Bool.and_eq_true, decide_eq_true_eq] at h0
  obtain ⟨⟨⟨⟨⟨⟨⟨⟨_, hm⟩, _⟩, _⟩, _⟩, w0, w1⟩, e0, e1⟩, r0, r1⟩, _⟩ := h0
  have hk : ∀ k ∈ r.Routes, ∀ b, ∃ v, config_route_N std n b k = some v := fun k hk b => config_route_N_some n b k e (by have := route_lt hk; omega) (f6 k hk) (k2 k hk)
  rw [config_route_N, config_route_S]
  obtain ⟨v1, h1, _⟩ := config_matchers_some b r.Match f2 hm
  obtain ⟨v2, h2, _⟩ := config_bind_some v1.2 r.By
  obtain ⟨v3, h3, _⟩ := config_bind_some v2.2 r.Mute
  rw [h1, bd_some, h2, bd_some, h3, bd_some]
  have := Loop_go (B := config_route_S_B3 std (config_route_N std n) r v3) (fun i (l : List ByteArray) => (l, (i : Int))) [r.Wait, r.Every, r.Repeat] (fun _ m l => l ++ [((frame_Number std m).getD (⟨#[]⟩, 0)).1]) (fun i l => i ≤ 3 ∧ l.length ≤ 4 + i) (fun _ => True) (fun i m l hx ⟨hi, hI⟩ => by
   have hlt := lt_of_at hx
   have hm2 : 0 ≤ m ∧ m ≤ 1099511627776 := by
    have hmem := mem_at hx
    simp only [List.mem_cons, List.mem_nil_iff, or_false] at hmem
    rcases hmem with rfl | rfl | rfl <;> omega
   obtain ⟨s, hs⟩ := number_some m hm2.1 hm2.2
   have hlt' := hlt
   simp only [List.length_cons, List.length_nil] at hlt'
   refine ⟨?_, by omega, app_len _ hI⟩
   unfold config_route_S_B3
   simp only
   rw [len_nat, lssT hlt, br_true, ck_t (inbT hlt), get_nat (t := TyS.int) hx, hs, bd_some, ck_t (show std.appOk TyS.str 16 l [s] from ⟨by simp; omega, by simp; omega⟩), s_add, wrap_succ hlt (by unfold big63; simp)]
   rfl) (fun l ⟨_, hI⟩ => by
   simp only [List.length_cons, List.length_nil] at hI
   unfold config_route_S_B3
   simp only
   rw [len_nat, lssF, br_false]
   rcases Bool.eq_false_or_eq_true r.On with ho | ho
   ·rw [ho, br_true]
    obtain ⟨v, hv⟩ := route_end (config_route_N std n) r l v3.2 (by omega) k1 (ByteArray.mk (Array.mk [49])) hk (config_route_S_B1 std (config_route_N std n) r l) (fun _ _ _ => rfl)
    rw [hv]
    exact ⟨_, rfl, trivial⟩
   ·rw [ho, br_false]
    obtain ⟨v, hv⟩ := route_end (config_route_N std n) r l v3.2 (by omega) k1 (ByteArray.mk (Array.mk [48])) hk (config_route_S_B2 std (config_route_N std n) r l) (fun _ _ _ => rfl)
    rw [hv]
    exact ⟨_, rfl, trivial⟩) [r.1, v1.1, v2.1, v3.1] ⟨by omega, by simp⟩
  obtain ⟨v, hv, _⟩ := this
  exact ⟨v, hv⟩
theorem config_Text_some (c : Config) (hf : configFit c) (hc : configS c = true) : ∃ v, config_Text std c = some v := by
 have ok := configS_ok hc
 have hnf := norm_fit hf
 have hR : ∀ r ∈ (normS c).Rules, ruleS r = true := fun r hr => ok.rules.2.1 r ((sortI_perm _ _).mem_iff.1 hr)
 have hH : ∀ r ∈ (normS c).Hours, hourS r = true := fun r hr => ok.hours.2.1 r ((sortI_perm _ _).mem_iff.1 hr)
 have hI : ∀ r ∈ (normS c).Inhibits, inhibitS r = true := norm_inh_ok hc
 have lR : (normS c).Rules.length ≤ 16 := by have := ok.rules.1; show (sortI _ _).length ≤ 16; rw [sortI_len]; exact this
 have lH : (normS c).Hours.length ≤ 8 := by have := ok.hours.1; show (sortI _ _).length ≤ 8; rw [sortI_len]; exact this
 have lI : (normS c).Inhibits.length ≤ 8 := by have := ok.inh.1; have := norm_inh_len c; omega
 have hT : routeS 4 c.Route = true := by have := ok.top; simp only [topS, Bool.and_eq_true] at this; exact this.1.1.1
 unfold config_Text
 rw [config_Normal_eq c hf, hc, cond_true, bd_some]
 simp only
 rw [show std.cmp .neq 0 0 = false from rfl, br_false]
 generalize hN : normS c = N at *
 have hroute : ∀ b, ∃ v, config_route std b N.Route = some v := fun b => by
  have : N.Route = c.Route := by rw [← hN]; rfl
  rw [this]
  exact config_route_N_some _ b c.Route 4 (Nat.lt_succ_self _) hf.2.1 hT
 have s1 : ∀ t7 t8 : List ByteArray, ∃ v, Loop (config_Text_B1 std (N, 0) t7 t8) ([], 0, false) = some v := fun t7 t8 => by
  have := Loop_go (B := config_Text_B1 std (N, 0) t7 t8) (fun i (l : List ByteArray) => (l, (i : Int), false)) N.Inhibits (fun _ x l => l ++ [quietS x]) (fun i l => i ≤ N.Inhibits.length ∧ l.length ≤ i) (fun _ => True) (fun i x l hx ⟨hi, hl⟩ => by
   have hlt := lt_of_at hx
   refine ⟨?_, by omega, app_len _ hl⟩
   unfold config_Text_B1
   simp only
   rw [len_nat, lssT hlt, br_true, ck_t (inbT hlt), get_nat (t := TyS.inhibit) hx, config_inhibit_eq false x (hnf.2.2.2.1.2 x (mem_at hx)) (hI x (mem_at hx)), bd_some, ck_t (show std.appOk TyS.str 16 l [quietS x] from ⟨by simp; omega, by simp; omega⟩), s_add, wrap_succ hlt (by unfold big63; omega)]
   rfl) (fun l ⟨_, hl⟩ => by
   unfold config_Text_B1
   simp only
   obtain ⟨v1, h1, _⟩ := config_bind_some false t7
   obtain ⟨v2, h2, _⟩ := config_bind_some v1.2 N.Receivers
   obtain ⟨v3, h3, _⟩ := config_bind_some v2.2 t8
   obtain ⟨v4, h4, _⟩ := config_bind_some v3.2 l
   obtain ⟨v5, h5⟩ := hroute v4.2
   obtain ⟨v6, h6, _⟩ := config_bind_some v5.2 [v1.1, v2.1, v3.1, v4.1, v5.1]
   rw [len_nat, lssF, br_false, h1, bd_some, h2, bd_some, h3, bd_some, h4, bd_some, h5, bd_some, h6, bd_some]
   cases v6.2
   ·exact ⟨_, rfl, trivial⟩
   ·exact ⟨_, rfl, trivial⟩) [] ⟨by omega, by simp⟩
  obtain ⟨v, hv, _⟩ := this
  exact ⟨v, hv⟩
 have s2 : ∀ t7 : List ByteArray, ∃ v, Loop (config_Text_B2 std (N, 0) t7) ([], 0) = some v := fun t7 => by
  have := Loop_go (B := config_Text_B2 std (N, 0) t7) (fun i (l : List ByteArray) => (l, (i : Int))) N.Hours (fun _ x l => l ++ [x.Name, ((hours_Text std x).getD (⟨#[]⟩, 0)).1]) (fun i l => i ≤ N.Hours.length ∧ l.length ≤ 2 * i) (fun _ => True) (fun i x l hx ⟨hi, hl⟩ => by
   have hlt := lt_of_at hx
   obtain ⟨v, hv⟩ := hours_Text_some x (hH x (mem_at hx))
   refine ⟨?_, by omega, by rw [List.length_append]; simp only [List.length_cons, List.length_nil]; omega⟩
   unfold config_Text_B2
   simp only
   rw [len_nat, lssT hlt, br_true, ck_t (inbT hlt), get_nat (t := TyS.hours) hx, hv, bd_some, ck_t (show std.appOk TyS.str 16 l [x.Name, v.1] from ⟨by simp; omega, by simp; omega⟩), s_add, wrap_succ hlt (by unfold big63; omega)]
   rfl) (fun l ⟨_, hl⟩ => by
   unfold config_Text_B2
   simp only
   obtain ⟨v, hv⟩ := s1 t7 l
   rw [len_nat, lssF, br_false, hv]
   exact ⟨_, rfl, trivial⟩) [] ⟨by omega, by simp⟩
  obtain ⟨v, hv, _⟩ := this
  exact ⟨v, hv⟩
 have := Loop_go (B := config_Text_B3 std (N, 0)) (fun i (l : List ByteArray) => (l, (i : Int))) N.Rules (fun _ x l => l ++ ((rules_Words std x).getD ([], 0)).1) (fun i l => i ≤ N.Rules.length ∧ l.length ≤ 8 * i) (fun _ => True) (fun i x l hx ⟨hi, hl⟩ => by
  have hlt := lt_of_at hx
  obtain ⟨v, hv, lv⟩ := rules_Words_some x (hnf.1.2 x (mem_at hx)) (hR x (mem_at hx))
  refine ⟨?_, by omega, by rw [hv]; simp only [Option.getD_some, List.length_append]; omega⟩
  unfold config_Text_B3
  simp only
  rw [len_nat, lssT hlt, br_true, ck_t (inbT hlt), get_nat (t := TyS.rule) hx, hv, bd_some, ck_t (show std.appOk TyS.str 16 l v.1 from ⟨by omega, by omega⟩), s_add, wrap_succ hlt (by unfold big63; omega)]
  rfl) (fun l ⟨_, hl⟩ => by
  unfold config_Text_B3
  simp only
  obtain ⟨v, hv⟩ := s2 l
  rw [len_nat, lssF, br_false, hv]
  exact ⟨_, rfl, trivial⟩) [] ⟨by omega, by simp⟩
 obtain ⟨v, hv, _⟩ := this
 exact ⟨v, hv⟩
theorem config_Text_same (c d : Config) (h : config_Normal std c = config_Normal std d) : config_Text std c = config_Text std d := by
 unfold config_Text; rw [h]
end Go.PL
namespace Go.PL
set_option linter.unusedSimpArgs false
set_option linter.unusedVariables false
set_option linter.unusedSectionVars false
open Tys (Ty U)
open Enc (sz enc dflt tb ofB toB)
open Dec (dec dok)
set_option maxRecDepth 100000
theorem turn_at (b : Int) (n : Nat) (h0 : 0 < n) (h1 : n ≤ 1000) : ∃ k : Nat, k < n ∧ std.ar .rem .i64 (std.ar .add .i64 (std.ar .rem .i64 b (n : Int)) (n : Int)) (n : Int) = (k : Int) := by
 have hb : -(n : Int) < b.tmod n ∧ b.tmod n < n := by
  rcases Int.le_total 0 b with h | h
  ·rw [tmod0 h]
   have h2 := Int.emod_nonneg b (b := (n : Int)) (by omega)
   have h3 := Int.emod_lt_of_pos b (b := (n : Int)) (by omega)
   omega
  ·have e : b = -(-b) := by omega
   rw [e, Int.neg_tmod, tmod0 (by omega)]
   have h2 := Int.emod_nonneg (-b) (b := (n : Int)) (by omega)
   have h3 := Int.emod_lt_of_pos (-b) (b := (n : Int)) (by omega)
   omega
 have h2 := Int.emod_nonneg (b.tmod n + n) (b := (n : Int)) (by omega)
 have h3 := Int.emod_lt_of_pos (b.tmod n + n) (b := (n : Int)) (by omega)
 refine ⟨((b.tmod n + n) % n).toNat, by omega, ?_⟩
 rw [s_rem, s_rem, s_add, w64 (by omega), tmod0 (by omega)]
 omega
theorem turned_Rule (xs : List Rule) (b : Int) (hl : xs.length ≤ 1000) : ∃ ys, transhipmentlaw10_turned_Rule std xs b = some ys ∧ ys.Perm xs := by
 unfold transhipmentlaw10_turned_Rule
 rcases Nat.eq_zero_or_pos xs.length with h0 | h0
 ·rw [show std.cmp .eql (std.len TyS.rule xs) 0 = true by rw [s_eql, len_nat, h0]; rfl, br_true]
  exact ⟨xs, rfl, .refl _⟩
 ·rw [show std.cmp .eql (std.len TyS.rule xs) 0 = false by rw [s_eql, len_nat]; exact beq_false_of_ne (by omega), br_false, len_nat]
  obtain ⟨k, hk, he⟩ := turn_at b xs.length h0 hl
  rw [he]
  have e1 : std.lsub TyS.rule xs (k : Int) (xs.length : Int) = xs.drop k := by rw [s_lsub, Int.toNat_natCast, Int.toNat_natCast, List.take_length]
  have e2 : std.lsub TyS.rule xs 0 (k : Int) = xs.take k := by rw [s_lsub]; simp
  have l1 : (xs.drop k).length ≤ 1000 := by rw [List.length_drop]; omega
  have l2 : (xs.drop k).length + (xs.take k).length ≤ 1000 := by rw [List.length_drop, List.length_take]; omega
  rw [e1, e2, s_app, s_app, List.nil_append, ck_t (show std.nz _ by show (xs.length : Int) ≠ 0; omega), ck_t (show std.subOk (k : Int) (xs.length : Int) (xs.length : Int) from ⟨by omega, by omega, by omega⟩), ck_t (show std.appOk TyS.rule 96 [] (xs.drop k) from ⟨by simp only [List.length_nil]; omega, by simp only [List.length_nil]; omega⟩), ck_t (show std.subOk 0 (k : Int) (xs.length : Int) from ⟨by omega, by omega, by omega⟩), ck_t (show std.appOk TyS.rule 96 (xs.drop k) (xs.take k) from ⟨by omega, by omega⟩)]
  exact ⟨_, rfl, by have := List.perm_append_comm (l₁ := xs.drop k) (l₂ := xs.take k); rw [List.take_append_drop] at this; exact this⟩
theorem turned_string (xs : List ByteArray) (b : Int) (hl : xs.length ≤ 1000) : ∃ ys, transhipmentlaw10_turned_string std xs b = some ys ∧ ys.Perm xs := by
 unfold transhipmentlaw10_turned_string
 rcases Nat.eq_zero_or_pos xs.length with h0 | h0
 ·rw [show std.cmp .eql (std.len TyS.str xs) 0 = true by rw [s_eql, len_nat, h0]; rfl, br_true]
  exact ⟨xs, rfl, .refl _⟩
 ·rw [show std.cmp .eql (std.len TyS.str xs) 0 = false by rw [s_eql, len_nat]; exact beq_false_of_ne (by omega), br_false, len_nat]
  obtain ⟨k, hk, he⟩ := turn_at b xs.length h0 hl
  rw [he]
  have e1 : std.lsub TyS.str xs (k : Int) (xs.length : Int) = xs.drop k := by rw [s_lsub, Int.toNat_natCast, Int.toNat_natCast, List.take_length]
  have e2 : std.lsub TyS.str xs 0 (k : Int) = xs.take k := by rw [s_lsub]; simp
  have l1 : (xs.drop k).length ≤ 1000 := by rw [List.length_drop]; omega
  have l2 : (xs.drop k).length + (xs.take k).length ≤ 1000 := by rw [List.length_drop, List.length_take]; omega
  rw [e1, e2, s_app, s_app, List.nil_append, ck_t (show std.nz _ by show (xs.length : Int) ≠ 0; omega), ck_t (show std.subOk (k : Int) (xs.length : Int) (xs.length : Int) from ⟨by omega, by omega, by omega⟩), ck_t (show std.appOk TyS.str 16 [] (xs.drop k) from ⟨by simp only [List.length_nil]; omega, by simp only [List.length_nil]; omega⟩), ck_t (show std.subOk 0 (k : Int) (xs.length : Int) from ⟨by omega, by omega, by omega⟩), ck_t (show std.appOk TyS.str 16 (xs.drop k) (xs.take k) from ⟨by omega, by omega⟩)]
  exact ⟨_, rfl, by have := List.perm_append_comm (l₁ := xs.drop k) (l₂ := xs.take k); rw [List.take_append_drop] at this; exact this⟩
theorem turned_Inhibit (xs : List Inhibit) (b : Int) (hl : xs.length ≤ 1000) : ∃ ys, transhipmentlaw10_turned_Inhibit std xs b = some ys ∧ ys.Perm xs := by
 unfold transhipmentlaw10_turned_Inhibit
 rcases Nat.eq_zero_or_pos xs.length with h0 | h0
 ·rw [show std.cmp .eql (std.len TyS.inhibit xs) 0 = true by rw [s_eql, len_nat, h0]; rfl, br_true]
  exact ⟨xs, rfl, .refl _⟩
 ·rw [show std.cmp .eql (std.len TyS.inhibit xs) 0 = false by rw [s_eql, len_nat]; exact beq_false_of_ne (by omega), br_false, len_nat]
  obtain ⟨k, hk, he⟩ := turn_at b xs.length h0 hl
  rw [he]
  have e1 : std.lsub TyS.inhibit xs (k : Int) (xs.length : Int) = xs.drop k := by rw [s_lsub, Int.toNat_natCast, Int.toNat_natCast, List.take_length]
  have e2 : std.lsub TyS.inhibit xs 0 (k : Int) = xs.take k := by rw [s_lsub]; simp
  have l1 : (xs.drop k).length ≤ 1000 := by rw [List.length_drop]; omega
  have l2 : (xs.drop k).length + (xs.take k).length ≤ 1000 := by rw [List.length_drop, List.length_take]; omega
  rw [e1, e2, s_app, s_app, List.nil_append, ck_t (show std.nz _ by show (xs.length : Int) ≠ 0; omega), ck_t (show std.subOk (k : Int) (xs.length : Int) (xs.length : Int) from ⟨by omega, by omega, by omega⟩), ck_t (show std.appOk TyS.inhibit 72 [] (xs.drop k) from ⟨by simp only [List.length_nil]; omega, by simp only [List.length_nil]; omega⟩), ck_t (show std.subOk 0 (k : Int) (xs.length : Int) from ⟨by omega, by omega, by omega⟩), ck_t (show std.appOk TyS.inhibit 72 (xs.drop k) (xs.take k) from ⟨by omega, by omega⟩)]
  exact ⟨_, rfl, by have := List.perm_append_comm (l₁ := xs.drop k) (l₂ := xs.take k); rw [List.take_append_drop] at this; exact this⟩
theorem turned_Hours (xs : List Hours) (b : Int) (hl : xs.length ≤ 1000) : ∃ ys, transhipmentlaw10_turned_Hours std xs b = some ys ∧ ys.Perm xs := by
 unfold transhipmentlaw10_turned_Hours
 rcases Nat.eq_zero_or_pos xs.length with h0 | h0
 ·rw [show std.cmp .eql (std.len TyS.hours xs) 0 = true by rw [s_eql, len_nat, h0]; rfl, br_true]
  exact ⟨xs, rfl, .refl _⟩
 ·rw [show std.cmp .eql (std.len TyS.hours xs) 0 = false by rw [s_eql, len_nat]; exact beq_false_of_ne (by omega), br_false, len_nat]
  obtain ⟨k, hk, he⟩ := turn_at b xs.length h0 hl
  rw [he]
  have e1 : std.lsub TyS.hours xs (k : Int) (xs.length : Int) = xs.drop k := by rw [s_lsub, Int.toNat_natCast, Int.toNat_natCast, List.take_length]
  have e2 : std.lsub TyS.hours xs 0 (k : Int) = xs.take k := by rw [s_lsub]; simp
  have l1 : (xs.drop k).length ≤ 1000 := by rw [List.length_drop]; omega
  have l2 : (xs.drop k).length + (xs.take k).length ≤ 1000 := by rw [List.length_drop, List.length_take]; omega
  rw [e1, e2, s_app, s_app, List.nil_append, ck_t (show std.nz _ by show (xs.length : Int) ≠ 0; omega), ck_t (show std.subOk (k : Int) (xs.length : Int) (xs.length : Int) from ⟨by omega, by omega, by omega⟩), ck_t (show std.appOk TyS.hours 40 [] (xs.drop k) from ⟨by simp only [List.length_nil]; omega, by simp only [List.length_nil]; omega⟩), ck_t (show std.subOk 0 (k : Int) (xs.length : Int) from ⟨by omega, by omega, by omega⟩), ck_t (show std.appOk TyS.hours 40 (xs.drop k) (xs.take k) from ⟨by omega, by omega⟩)]
  exact ⟨_, rfl, by have := List.perm_append_comm (l₁ := xs.drop k) (l₂ := xs.take k); rw [List.take_append_drop] at this; exact this⟩
theorem allI_of {α : Type} {p : Nat → α → Bool} : ∀ {xs : List α} {i : Nat}, (∀ (j : Nat) (x : α), xs[j]? = some x → p (i + j) x = true) → allI p i xs = true
 | [], i, _ => rfl
 | y :: ys, i, h => by
  simp only [allI, Bool.and_eq_true]
  refine ⟨by simpa using h 0 y rfl, allI_of fun j x hx => ?_⟩
  have := h (j + 1) x (by simpa using hx)
  rwa [show i + (j + 1) = i + 1 + j by omega] at this
theorem once_of_nodup {names : List ByteArray} (h : names.Nodup) : onceS names = true := by
 unfold onceS
 refine allI_of fun j x hx => ?_
 rw [Nat.zero_add]
 unfold onceP
 cases hh : hasS (names.take j) x with
 | false => rfl
 | true =>
  exfalso
  have hm := hasS_mem.1 hh
  obtain ⟨i, hi, he⟩ := List.getElem_of_mem hm
  have hj := lt_of_at hx
  rw [List.length_take] at hi
  rw [List.getElem_take] at he
  unfold List.Nodup at h
  rw [List.pairwise_iff_getElem] at h
  have h2 := h i j (by omega) hj (by omega)
  rw [List.getElem?_eq_getElem hj] at hx
  cases hx
  exact h2 he
theorem hasS_perm {l m : List ByteArray} (h : ∀ x, x ∈ l ↔ x ∈ m) (s : ByteArray) : hasS l s = hasS m s := by
 rw [Bool.eq_iff_iff, hasS_mem, hasS_mem]; exact h s
theorem like_ok {c D : Config} (hc : configS c = true) (hr : D.Rules.Perm c.Rules) (ht : D.Route = c.Route) (hv : D.Receivers.Perm c.Receivers) (hh : D.Hours.Perm c.Hours) (hi : ∀ x, x ∈ D.Inhibits ↔ x ∈ c.Inhibits) (hil : D.Inhibits.length ≤ 8) : configS D = true ∧ normS D = normS c := by
 have ok := configS_ok hc
 have n1 : (D.Rules.map (·.Name)).Nodup := (hr.map (·.Name)).nodup_iff.2 ok.rules.2.2
 have n2 : D.Receivers.Nodup := hv.nodup_iff.2 ok.recv.2.2
 have n3 : (D.Hours.map (·.Name)).Nodup := (hh.map (·.Name)).nodup_iff.2 ok.hours.2.2
 refine ⟨?_, ?_⟩
 ·have e1 : rulesS D = true := by
   unfold rulesS ruleNames
   simp only [Bool.and_eq_true, decide_eq_true_eq, List.all_eq_true]
   exact ⟨⟨by rw [hr.length_eq]; exact ok.rules.1, fun x hx => ok.rules.2.1 x (hr.mem_iff.1 hx)⟩, once_of_nodup n1⟩
  have e2 : receiversS D = true := by
   unfold receiversS
   simp only [Bool.and_eq_true, decide_eq_true_eq, List.all_eq_true]
   exact ⟨⟨by rw [hv.length_eq]; exact ok.recv.1, fun x hx => ok.recv.2.1 x (hv.mem_iff.1 hx)⟩, once_of_nodup n2⟩
  have e3 : inhibitsS D = true := by
   unfold inhibitsS
   simp only [Bool.and_eq_true, decide_eq_true_eq, List.all_eq_true]
   exact ⟨hil, fun x hx => ok.inh.2 x ((hi x).1 hx)⟩
  have e4 : hoursS D = true := by
   unfold hoursS hourNames
   simp only [Bool.and_eq_true, decide_eq_true_eq, List.all_eq_true]
   exact ⟨⟨by rw [hh.length_eq]; exact ok.hours.1, fun x hx => ok.hours.2.1 x (hh.mem_iff.1 hx)⟩, once_of_nodup n3⟩
  have e5 : topS D = true := by
   have := ok.top
   unfold topS at this ⊢
   rw [ht]; exact this
  have e6 : namesS D = true := by
   have := ok.names
   unfold namesS at this ⊢
   rw [ht]
   have h1 : ∀ s, hasS D.Receivers s = hasS c.Receivers s := hasS_perm fun x => hv.mem_iff
   have h2 : ∀ s, hasS (hourNames D) s = hasS (hourNames c) s := hasS_perm fun x => (hh.map (·.Name)).mem_iff
   have h3 : hasS (hourNames D) = hasS (hourNames c) := funext h2
   simp only [h1, h3]
   exact this
  unfold configS
  rw [e1, e2, e3, e4, e5, e6]; rfl
 ·have a1 : sortI (byName fun r : Rule => r.Name) D.Rules = sortI (byName fun r : Rule => r.Name) c.Rules := Norm.uniq (fun r : Rule => r.Name) (nodup_inj (fun r : Rule => r.Name) ok.rules.2.2) ((sort_norm _ _ n1).same _ fun x => hr.mem_iff) (sort_norm _ _ ok.rules.2.2)
  have d2 : (D.Receivers.map fun x => x).Nodup := by rw [List.map_id']; exact n2
  have d2c : (c.Receivers.map fun x => x).Nodup := by rw [List.map_id']; exact ok.recv.2.2
  have a2 : sortI (byName fun x : ByteArray => x) D.Receivers = sortI (byName fun x : ByteArray => x) c.Receivers := Norm.uniq (fun x : ByteArray => x) (nodup_inj (fun x : ByteArray => x) d2c) ((sort_norm _ _ d2).same _ fun x => hv.mem_iff) (sort_norm _ _ d2c)
  have a3 : sortI (byName fun r : Hours => r.Name) D.Hours = sortI (byName fun r : Hours => r.Name) c.Hours := Norm.uniq (fun r : Hours => r.Name) (nodup_inj (fun r : Hours => r.Name) ok.hours.2.2) ((sort_norm _ _ n3).same _ fun x => hh.mem_iff) (sort_norm _ _ ok.hours.2.2)
  have a4 : compactK quietS (sortI (byName quietS) D.Inhibits) = compactK quietS (sortI (byName quietS) c.Inhibits) := Norm.uniq quietS (fun x hx y hy he => quietS_inj (ok.inh.2 x hx) (ok.inh.2 y hy) he) ((compact_norm _ _).same _ hi) (compact_norm _ _)
  unfold normS
  rw [a1, a2, a3, a4, ht]
theorem norm_like {c : Config} (hc : configS c = true) : configS (normS c) = true ∧ normS (normS c) = normS c := by
 have ok := configS_ok hc
 refine like_ok hc (sortI_perm _ _) rfl (sortI_perm _ _) (sortI_perm _ _) (fun x => ⟨norm_inh_mem, fun hx => ?_⟩) (Nat.le_trans (norm_inh_len c) ok.inh.1)
 obtain ⟨y, hy, he⟩ := (compact_norm quietS c.Inhibits).all x hx
 rw [← quietS_inj (ok.inh.2 y (norm_inh_mem hy)) (ok.inh.2 x hx) he]
 exact hy
theorem orders_end (c D : Config) (hc : configFit c) (hD : configFit D) (h : configS c = true) (hS : configS D = true) (hN : normS D = normS c) :
   (bd (config_Normal std c) fun w11 =>
   bd (config_Normal std D) fun w12 =>
   bd (config_Normal std w11.1) fun w13 =>
   bd (config_Text std c) fun w14 =>
   bd (config_Text std D) fun w15 =>
   bd (transhipmentlaw10_alive std) fun w16 =>
   bd (gd false (std.and (std.and (std.and w16 (std.cmp BinOp.eql w11.2 0)) (std.cmp BinOp.eql w12.2 0)) (std.cmp BinOp.eql w13.2 0)) (transhipmentref10_Like std w11.1 w12.1)) fun w17 =>
   bd (gd false (std.and (std.and (std.and (std.and w16 (std.cmp BinOp.eql w11.2 0)) (std.cmp BinOp.eql w12.2 0)) (std.cmp BinOp.eql w13.2 0)) w17) (transhipmentref10_Like std w11.1 w13.1)) fun w18 =>
   bd (gd false (std.and (std.and (std.and (std.and (std.and w16 (std.cmp BinOp.eql w11.2 0)) (std.cmp BinOp.eql w12.2 0)) (std.cmp BinOp.eql w13.2 0)) w17) w18) (config_Same std c D)) fun w19 =>
   some (std.and (std.and (std.and (std.and (std.and (std.and (std.and (std.and w16 (std.cmp BinOp.eql w11.2 0)) (std.cmp BinOp.eql w12.2 0)) (std.cmp BinOp.eql w13.2 0)) w17) w18) w19) (std.cmp BinOp.eql w14.2 w15.2)) (std.scmp BinOp.eql w14.1 w15.1))) = some true := by
 obtain ⟨h1, h2⟩ := norm_like h
 obtain ⟨v, hv⟩ := config_Text_some c hc h
 have e1 : config_Normal std c = some (normS c, 0) := by rw [config_Normal_eq c hc, h]; rfl
 have e2 : config_Normal std D = some (normS c, 0) := by rw [config_Normal_eq D hD, hS, ← hN]; rfl
 have e3 : config_Normal std (normS c) = some (normS c, 0) := by rw [config_Normal_eq _ (norm_fit hc), h1, h2]; rfl
 have e4 : config_Text std D = some v := by rw [← config_Text_same c D (by rw [e1, e2])]; exact hv
 have e5 := ref_Like_eq (normS c) (normS c) (norm_fit hc) (norm_inh_ok h) (norm_inh_ok h)
 rw [eqB_self] at e5
 have e6 := config_Same_eq c D hc hD
 rw [h, hS, normC_t h, normC_t hS, hN, eqB_self] at e6
 have hz : std.cmp BinOp.eql v.2 v.2 = true := by rw [s_eql]; simp
 have hy : std.scmp BinOp.eql v.1 v.1 = true := by rw [s_seql]; simp
 have g : std.cmp BinOp.eql 0 0 = true := rfl
 have tt : std.and true true = true := rfl
 rw [e1, bd_some, e2, bd_some]
 simp only
 rw [e3, bd_some, hv, bd_some, e4, bd_some, alive_eq, bd_some]
 simp only [g, tt, gd_t]
 rw [e5, bd_some]
 simp only [tt, gd_t]
 rw [bd_some]
 simp only [tt, gd_t]
 rw [e6, bd_some]
 simp only [hz, hy]
 rfl
theorem ConfigOrders_true (c : Config) (b : Int) (hc : configFit c) : transhipmentlaw10_ConfigOrders std c b = some true := by
 unfold transhipmentlaw10_ConfigOrders
 obtain ⟨w1, h1, s1⟩ := big_some c hc
 rw [h1, bd_some, config_Right_eq c hc]
 have halive : (bd (transhipmentlaw10_alive std) fun w4 => some w4) = some true := by rw [alive_eq, bd_some]
 cases w1 with
 | true => exact halive
 | false =>
  rw [show std.not false = true from rfl, gd_t, bd_some]
  cases hp : configS c with
  | false => exact halive
  | true =>
   have ok := configS_ok hp
   have n1 := ok.rules.1
   have n2 := ok.recv.1
   have n3 := ok.inh.1
   have n4 := ok.hours.1
   obtain ⟨rs, r1, r2⟩ := turned_Rule c.Rules b (by omega)
   obtain ⟨vs, v1, v2⟩ := turned_string c.Receivers b (by omega)
   obtain ⟨is, i1, i2⟩ := turned_Inhibit c.Inhibits b (by omega)
   obtain ⟨hs, t1, t2⟩ := turned_Hours c.Hours b (by omega)
   rw [show std.or false (std.not true) = false from rfl, br_false, r1, bd_some, v1, bd_some, i1, bd_some, t1, bd_some]
   have li := i2.length_eq
   have fit : ∀ l : List Inhibit, (∀ x, x ∈ l ↔ x ∈ c.Inhibits) → l.length ≤ 8 → configFit ⟨rs, c.Route, vs, l, hs⟩ := fun l hl hn => ⟨fitL_sub hc.1 (Nat.le_of_eq r2.length_eq) fun y hy => r2.mem_iff.1 hy, hc.2.1, fitL_sub hc.2.2.1 (Nat.le_of_eq v2.length_eq) fun y hy => v2.mem_iff.1 hy, ⟨by show l.length ≤ big63; unfold big63; omega, fun y hy => hc.2.2.2.1.2 y ((hl y).1 hy)⟩, fitL_sub hc.2.2.2.2 (Nat.le_of_eq t2.length_eq) fun y hy => t2.mem_iff.1 hy⟩
   rw [len_nat]
   rcases Bool.eq_false_or_eq_true (std.and (std.cmp .gtr (is.length : Int) 0) (std.cmp .lss (is.length : Int) 8)) with hg | hg
   ·have hg2 := hg
    simp only [s_land, s_gtr, s_lss, Bool.and_eq_true, decide_eq_true_eq] at hg2
    have hpos : 0 < is.length := by omega
    obtain ⟨x0, hx0⟩ := at_some hpos
    have hm : ∀ x, x ∈ is ++ [x0] ↔ x ∈ c.Inhibits := fun x => by
     rw [List.mem_append, List.mem_singleton, ← i2.mem_iff]
     constructor
     ·rintro (h | rfl)
      ·exact h
      ·exact mem_at hx0
     ·exact .inl
    have hl8 : (is ++ [x0]).length ≤ 8 := by rw [List.length_append, List.length_singleton]; omega
    obtain ⟨hS, hN⟩ := like_ok (c := c) (D := ⟨rs, c.Route, vs, is ++ [x0], hs⟩) hp r2 rfl v2 t2 hm hl8
    rw [hg, br_true, s_app, s_app, List.nil_append, ck_t (show std.appOk TyS.inhibit 72 [] is from ⟨by simp; omega, by simp; omega⟩), ck_t (show std.inb 0 (is.length : Int) from ⟨by omega, by omega⟩), show std.get TyS.inhibit is 0 = x0 from get_nat (t := TyS.inhibit) (i := 0) hx0, ck_t (show std.appOk TyS.inhibit 72 is [x0] from ⟨by simp; omega, by simp; omega⟩)]
    exact orders_end c _ hc (fit _ hm hl8) hp hS hN
   ·have hm : ∀ x, x ∈ is ↔ x ∈ c.Inhibits := fun x => i2.mem_iff
    obtain ⟨hS, hN⟩ := like_ok (c := c) (D := ⟨rs, c.Route, vs, is, hs⟩) hp r2 rfl v2 t2 hm (by show is.length ≤ 8; omega)
    rw [hg, br_false]
    exact orders_end c _ hc (fit _ hm (by omega)) hp hS hN
end Go.PL
