/- Texts of this claim: plain laws of what the program's functions compute. No condition of their own. -/
import Derived.Test.YtnkaolleaebhnaaGreatDoorMmWb
import Derived.Lib.ItoaLen
import Derived.Lib.SplitLaws
import Derived.Lib.Replace
namespace Go.PL
set_option linter.unusedSimpArgs false
set_option linter.unusedVariables false
set_option linter.unusedSectionVars false
open Tys (Ty U)
open Enc (sz enc dflt tb ofB toB)
open Dec (dec dok)
set_option maxRecDepth 100000
theorem Aze (l : List ByteArray) (h : Ajl l = true) : (bindS l).size ≤ 5000000 := by
 simp only [Ajl, Bool.and_eq_true, decide_eq_true_eq, List.all_eq_true] at h
 have h1 := Anq l 8192 (by omega) h.2
 have h2 := Nat.mul_le_mul_right (10 + 8192 / 128 + 8192) h.1
 rw [Akl]
 omega
theorem Arc (l : List ByteArray) : ∃ s e, Ahc std l = some (s, e) ∧ s.size ≤ 5000000 ∧ (e = 0 → s = bindS l) := by
 cases hb : Ajl l with
 | true => exact ⟨_, _, Anp l hb, Aze l hb, fun _ => rfl⟩
 | false =>
  unfold Ahc
  rw [show std.cmp .gtr (std.len TyS.str l) 512 = !decide (l.length ≤ 512) from Aug (t := TyS.str) l 512]
  by_cases hl : l.length ≤ 512
  ·rw [decide_eq_true hl, Bool.not_true, br_false]
   have := Anf (B := Aet std l) (fun i (_ : Unit) => ((i : Int), bindL (l.take i))) l (fun _ p (_ : Unit) => if decide (p.size ≤ 8192) = true then (.inl () : Unit ⊕ (ByteArray × Int)) else .inr (⟨#[]⟩, 2)) (fun _ => (bindS l, 0)) (fun i _ => i ≤ l.length ∧ ∀ q ∈ l.take i, q.size ≤ 8192) (fun i p u hx hI => by
    have hi := Ada hx
    obtain ⟨_, hI⟩ := hI
    have htl := Apd (l.take i) 8192 (by omega) hI
    have hti : (l.take i).length ≤ 512 := by rw [List.length_take]; omega
    have hmul : (l.take i).length * (10 + 2 * 8192) ≤ 512 * (10 + 2 * 8192) := Nat.mul_le_mul_right _ hti
    by_cases hp : p.size ≤ 8192
    ·have h10 := Aq2 p.size (by omega)
     refine ⟨fun s' hs => ?_, fun e he => ?_⟩
     ·refine ⟨?_, by omega, fun q hq => ?_⟩
      ·unfold Aet
       simp only
       rw [Aac, lssT hi, Aah, ck_t (inbT hi), Ab0 (t := TyS.str) hx, Amj, show std.cmp .gtr (p.size : Int) 8192 = false by rw [s_gtr]; exact decide_eq_false (by omega), br_false, Ajk p.size (by omega), bd_some]
       have hn : (numS p.size).size = (numL p.size).length := by show (numL p.size).toArray.size = _; simp
       rw [write_eq _ _ (by rw [hn]; omega), bd_some, write_eq _ _ (by rw [List.length_append, show (bytes (numS p.size)) = numL p.size from Agx _]; omega), bd_some, s_add, wrap_succ hi (by unfold big63; omega), Avy hx, show (bytes (numS p.size)) = numL p.size from Agx _, List.append_assoc]
      ·rw [take_snoc hx] at hq
       rcases List.mem_append.1 hq with hq | hq
       ·exact hI q hq
       ·rw [List.mem_singleton.1 hq]; exact hp
     ·rw [decide_eq_true hp] at he; cases he
    ·refine ⟨fun s' hs => ?_, fun e he => ?_⟩
     ·rw [decide_eq_false hp] at hs; cases hs
     ·rw [decide_eq_false hp] at he
      cases he
      unfold Aet
      simp only
      rw [Aac, lssT hi, Aah, ck_t (inbT hi), Ab0 (t := TyS.str) hx, Amj, show std.cmp .gtr (p.size : Int) 8192 = true by rw [s_gtr]; exact decide_eq_true (by omega), Aah]
      rfl) (fun _ hI => by
    exfalso
    obtain ⟨_, hI⟩ := hI
    rw [List.take_length] at hI
    have : Ajl l = true := by
     simp only [Ajl, Bool.and_eq_true, decide_eq_true_eq, List.all_eq_true]
     exact ⟨hl, hI⟩
    rw [hb] at this; cases this) () ⟨Nat.zero_le _, fun q hq => by simp at hq⟩
   rw [As3 (fun p : ByteArray => decide (p.size ≤ 8192))] at this
   have hall : (l.all fun p : ByteArray => decide (p.size ≤ 8192)) = false := by
    unfold Ajl at hb
    rw [decide_eq_true hl, Bool.true_and] at hb
    exact hb
   rw [hall] at this
   exact ⟨_, _, this, by show (0 : Nat) ≤ _; omega, fun h => absurd h (by decide)⟩
  ·rw [decide_eq_false hl, Bool.not_false, Aah]
   exact ⟨_, _, rfl, by show (0 : Nat) ≤ _; omega, fun h => absurd h (by decide)⟩
theorem Aoy (old new : List UInt8) : ∀ (k : Nat) (s : List UInt8), (Lib.replaceK old new k s).length ≤ s.length + k * new.length
 | 0, s => by simp [Lib.replaceK]
 | k + 1, s => by
  rw [Lib.replaceK]
  split
  ·exact Nat.le_add_right ..
  ·have h := Aoy old new k (s.drop ((Lib.index s old).toNat + old.length))
   simp only [List.length_append, List.length_take, List.length_drop, Nat.succ_mul] at h ⊢
   omega
theorem Aoz (s old new : ByteArray) (h0 : 1 ≤ old.size) (h2 : new.size = 2) (hs : s.size ≤ 1000) : ∃ t, strings_ReplaceAll std s old new = some t ∧ t.size ≤ 3 * s.size := by
 have hc := Lib.countB_le old h0 s.size s (Nat.le_refl _)
 unfold strings_ReplaceAll
 refine ⟨_, ck_t ⟨by omega, h0, by rw [h2]; omega⟩, ?_⟩
 rw [Ahn, Agx]
 unfold Lib.replaceAll Lib.replace
 split
 ·show (bytes s).length ≤ _
  rw [Acc]; omega
 ·have h := Aoy old.data.toList new.data.toList (Lib.replaceNum s.data.toList old.data.toList (-1)) s.data.toList
  have e : Lib.replaceNum s.data.toList old.data.toList (-1) = Lib.countB s old := by
   unfold Lib.replaceNum
   rw [if_pos (.inl (by omega))]
  have l1 : s.data.toList.length = s.size := Acc s
  have l2 : new.data.toList.length = 2 := (Acc new).trans h2
  rw [e] at h ⊢
  rw [l1, l2] at h
  omega
theorem A1d (x : label_mark) (h1 : x.Name.size ≤ 64) (h2 : x.Value.size ≤ 64) : ∃ t, Ab9 std x = some t ∧ t.size ≤ 1000 := by
 unfold Ab9
 have q2 : (ByteArray.mk (Array.mk [61, 34])).size = 2 := rfl
 have q1 : (ByteArray.mk (Array.mk [34])).size = 1 := rfl
 obtain ⟨a, ha, la⟩ := Aoz x.Value (ByteArray.mk (Array.mk [92])) (ByteArray.mk (Array.mk [92, 92])) (by decide) rfl (by omega)
 obtain ⟨b, hb, lb⟩ := Aoz a (ByteArray.mk (Array.mk [34])) (ByteArray.mk (Array.mk [92, 34])) (by decide) rfl (by omega)
 rw [ha, bd_some, hb, bd_some]
 have z1 : (x.Name ++ ByteArray.mk (Array.mk [61, 34])).size = x.Name.size + 2 := by rw [ByteArray.size_append, q2]
 have z2 : (x.Name ++ ByteArray.mk (Array.mk [61, 34]) ++ b).size = x.Name.size + 2 + b.size := by rw [ByteArray.size_append, z1]
 rw [s_cat, s_cat, s_cat, ck_t (show std.catOk _ _ by rw [Afa, q2]; omega), ck_t (show std.catOk _ _ by rw [Afa, z1]; omega), ck_t (show std.catOk _ _ by rw [Afa, z2, q1]; omega)]
 exact ⟨_, rfl, by rw [ByteArray.size_append, z2, q1]; omega⟩
theorem Aym (sep : List UInt8) : ∀ (l : List (List UInt8)) (m : Nat), (∀ x ∈ l, x.length ≤ m) → (Lib.join l sep).length ≤ l.length * (m + sep.length)
 | [], m, _ => by simp [Lib.join]
 | x :: l, m, h => by
  have key : ∀ l : List (List UInt8), (∀ x ∈ l, x.length ≤ m) → (Lib.joinTail sep l).length ≤ l.length * (m + sep.length) := by
   intro l
   induction l with
   | nil => intro _; simp [Lib.joinTail]
   | cons y l ih =>
    intro h
    have h1 := ih fun x hx => h x (List.mem_cons_of_mem _ hx)
    have h2 := h y (List.mem_cons_self ..)
    simp only [Lib.joinTail, List.map_cons, List.flatten_cons, List.length_append, List.length_cons, Nat.succ_mul] at h1 ⊢
    omega
  rw [Lib.join_cons]
  have h1 := key l fun x hx => h x (List.mem_cons_of_mem _ hx)
  have h2 := h x (List.mem_cons_self ..)
  simp only [List.length_append, List.length_cons, Nat.succ_mul]
  omega
noncomputable def A3j (l : Label) : ByteArray := (Ab9 std ⟨l.Name, l.Value⟩).getD ⟨#[]⟩
theorem Aus (xs : List Label) (hf : fitL Ama xs) (h : labelsS xs = true) : ∃ s, Ai0 std xs = some (s, 0) ∧ s.size ≤ 10000 ∧ s = ByteArray.mk (Array.mk [123]) ++ ⟨(Lib.join ((xs.map A3j).map (·.data.toList)) [44]).toArray⟩ ++ ByteArray.mk (Array.mk [125]) := by
 have hl : xs.length ≤ 8 := by
  simp only [labelsS, Bool.and_eq_true, decide_eq_true_eq] at h; exact h.2
 have hm := labelsS_mem h
 unfold Ai0
 rw [Ajy xs hf, bd_some, h, s_not, Bool.not_true, br_false]
 have e1 : Ajb std xs = some (xs.map fun l => (⟨l.Name, l.Value⟩ : label_mark)) := by
  unfold Ajb
  have := Ajh (B := Ahr std xs) (fun i (_ : Unit) => ((xs.take i).map fun l => (⟨l.Name, l.Value⟩ : label_mark), (i : Int))) xs (fun _ _ (_ : Unit) => (.inl () : Unit ⊕ List label_mark)) (fun _ => xs.map fun l => (⟨l.Name, l.Value⟩ : label_mark)) (fun i x u hx hi => by
   unfold Ahr
   simp only
   rw [Aac, lssT hi, Aah, ck_t (inbT hi), Ab0 (t := TyS.label) hx, ck_t (show std.appOk TyS.mark 32 ((xs.take i).map fun l => (⟨l.Name, l.Value⟩ : label_mark)) [⟨x.Name, x.Value⟩] from ⟨by simp; omega, by simp; omega⟩), s_add, wrap_succ hi (by unfold big63; omega), take_snoc hx, List.map_append]
   rfl) (fun _ => by
   unfold Ahr
   simp only
   rw [Aac, lssF, br_false, List.take_length]
   rfl) ()
  rw [Aur] at this
  exact this
 rw [e1, bd_some]
 -- texts of marks
 have hmk : ∀ l ∈ xs, ∃ t, Ab9 std ⟨l.Name, l.Value⟩ = some t ∧ t.size ≤ 1000 := fun l hl => by
  have := hm l hl
  simp only [Anh, Bool.and_eq_true, nameS, Asw, decide_eq_true_eq] at this
  exact A1d _ this.1.2 this.2.2
 let f : Label → ByteArray := fun l => ((Ab9 std ⟨l.Name, l.Value⟩).getD ⟨#[]⟩)
 have hf2 : ∀ l ∈ xs, Ab9 std ⟨l.Name, l.Value⟩ = some (f l) ∧ (f l).size ≤ 1000 := fun l hl => by
  obtain ⟨t, h1, h2⟩ := hmk l hl
  have : f l = t := by show ((Ab9 std ⟨l.Name, l.Value⟩).getD ⟨#[]⟩) = t; rw [h1]; rfl
  rw [this]; exact ⟨h1, h2⟩
 have hjl : (Lib.join ((xs.map f).map (·.data.toList)) [44]).length ≤ 8008 := by
  have := Aym [44] ((xs.map f).map (·.data.toList)) 1000 (fun x hx => by
   obtain ⟨y, hy, rfl⟩ := List.mem_map.1 hx
   obtain ⟨l, hl, rfl⟩ := List.mem_map.1 hy
   have := (hf2 l hl).2
   show (bytes (f l)).length ≤ 1000
   rw [Acc]; exact this)
  simp only [List.length_map, List.length_singleton] at this
  omega
 have hlen : (xs.map fun l => (⟨l.Name, l.Value⟩ : label_mark)).length = xs.length := List.length_map ..
 have hj : strings_Join std (xs.map f) (ByteArray.mk (Array.mk [44])) = some ⟨(Lib.join ((xs.map f).map (·.data.toList)) [44]).toArray⟩ := by
  unfold strings_Join
  exact ck_t ⟨by rw [List.length_map]; omega, by show (Lib.join ((xs.map f).map (·.data.toList)) [44]).length ≤ _; omega⟩
 have jz : (ByteArray.mk (Lib.join ((xs.map f).map (·.data.toList)) [44]).toArray).size ≤ 8008 := by rw [Ahn, Agx]; exact hjl
 generalize hJ : ByteArray.mk (Lib.join ((xs.map f).map (·.data.toList)) [44]).toArray = J at hj jz
 have q1 : (ByteArray.mk (Array.mk [123])).size = 1 := rfl
 have q2 : (ByteArray.mk (Array.mk [125])).size = 1 := rfl
 have := Ajh (B := Aiw std (xs.map fun l => (⟨l.Name, l.Value⟩ : label_mark))) (fun i (_ : Unit) => ((xs.take i).map f, (i : Int))) xs (fun _ _ (_ : Unit) => (.inl () : Unit ⊕ (ByteArray × Int))) (fun _ => (ByteArray.mk (Array.mk [123]) ++ J ++ ByteArray.mk (Array.mk [125]), 0)) (fun i x u hx hi => by
  unfold Aiw
  simp only
  have hx2 : (xs.map fun l => (⟨l.Name, l.Value⟩ : label_mark))[i]? = some ⟨x.Name, x.Value⟩ := by rw [List.getElem?_map, hx]; rfl
  rw [Aac, hlen, lssT hi, Aah, ck_t (inbT hi), Ab0 (t := TyS.mark) hx2, (hf2 x (Ael hx)).1, bd_some, ck_t (show std.appOk TyS.str 16 ((xs.take i).map f) [f x] from ⟨by simp; omega, by simp; omega⟩), s_add, wrap_succ hi (by unfold big63; omega), take_snoc hx, List.map_append]
  rfl) (fun _ => by
  unfold Aiw
  simp only
  rw [Aac, hlen, lssF, br_false, List.take_length, hj, bd_some, s_cat, s_cat, ck_t (show std.catOk _ _ by rw [Afa, q1]; omega), ck_t (show std.catOk _ _ by rw [Afa, ByteArray.size_append, q1, q2]; omega)]
  rfl) ()
 rw [Aur] at this
 exact ⟨_, this, by rw [ByteArray.size_append, ByteArray.size_append, q1, q2]; omega, by rw [← hJ]; rfl⟩
theorem Ard (xs : List Label) (hf : fitL Ama xs) (h : labelsS xs = true) : ∃ s, Ai0 std xs = some (s, 0) ∧ s.size ≤ 10000 := by
 obtain ⟨s, h1, h2, _⟩ := Aus xs hf h
 exact ⟨s, h1, h2⟩
end Go.PL
namespace Go.PL
set_option linter.unusedSimpArgs false
set_option linter.unusedVariables false
set_option linter.unusedSectionVars false
open Tys (Ty U)
open Enc (sz enc dflt tb ofB toB)
open Dec (dec dok)
set_option maxRecDepth 100000
theorem Loop_go {S ε α σ : Type} {B : S → Option (S ⊕ ε)} (enc : Nat → σ → S) (xs : List α) (next : Nat → α → σ → σ) (I : Nat → σ → Prop) (G : ε → Prop)
  (h1 : ∀ i x s, xs[i]? = some x → I i s → B (enc i s) = some (.inl (enc (i + 1) (next i x s))) ∧ I (i + 1) (next i x s))
  (h2 : ∀ s, I xs.length s → ∃ e, B (enc xs.length s) = some (.inr e) ∧ G e) (s0 : σ) (h0 : I 0 s0) : ∃ e, Loop B (enc 0 s0) = some e ∧ G e := by
 have key : ∀ (n i : Nat) (s : σ), i + n = xs.length → I i s → ∃ e, Loop B (enc i s) = some e ∧ G e := by
  intro n
  induction n with
  | zero =>
   intro i s hi hI
   obtain rfl : i = xs.length := by omega
   obtain ⟨e, he, hg⟩ := h2 s hI
   exact ⟨e, by rw [Acb, he], hg⟩
  | succ n ih =>
   intro i s hi hI
   have hl : i < xs.length := by omega
   obtain ⟨h3, h4⟩ := h1 i xs[i] s (List.getElem?_eq_getElem hl) hI
   obtain ⟨e, he, hg⟩ := ih (i + 1) _ (by omega) h4
   exact ⟨e, by rw [Acb, h3]; exact he, hg⟩
 exact key xs.length 0 s0 (by omega) h0
theorem Aut {α : Type} {l : List α} {n : Nat} (x : α) (h : l.length ≤ n) : (l ++ [x]).length ≤ n + 1 := by
 rw [List.length_append, List.length_singleton]; omega
theorem Ao7 (r : Rule) (hf : Aqv r) (h : ruleS r = true) : ∃ v, Ahe std r = some v ∧ v.1.length ≤ 8 := by
 have h0 := h
 simp only [ruleS, timeS, Bool.and_eq_true, decide_eq_true_eq] at h0
 obtain ⟨⟨⟨⟨⟨⟨⟨⟨⟨⟨⟨⟨_, _⟩, a1⟩, a2⟩, b1, b2⟩, c1, c2⟩, d1⟩, d2⟩, e1⟩, e2⟩, _⟩, hl⟩, _⟩ := h0
 obtain ⟨s, hs, _⟩ := Ard r.Labels hf.2.2 hl
 unfold Ahe
 rw [Amm r hf, bd_some, h, s_not, Bool.not_true, br_false, hs, bd_some]
 have hw : Al7 std = some () := rfl
 rw [hw, bd_some, ck_t (show std.inb r.How (Int.ofNat 6) from ⟨by omega, by show r.How < 6; omega⟩)]
 have hn : ∀ n ∈ [r.Limit, r.For, r.Keep, r.Tries], -9223372036854775808 ≤ n ∧ n ≤ 9223372036854775807 := by
  intro n hn
  simp only [List.mem_cons, List.mem_nil_iff, or_false] at hn
  rcases hn with rfl | rfl | rfl | rfl <;> omega
 refine Loop_go (B := Ahs std r (s, 0)) (fun i (l : List ByteArray) => (l, (i : Int))) [r.Limit, r.For, r.Keep, r.Tries] (fun _ n l => l ++ [⟨(Lib.itoa n).toArray⟩]) (fun i l => l.length ≤ 3 + i ∧ i ≤ 4) (fun v => v.1.length ≤ 8) (fun i n l hx ⟨hI, hi4⟩ => ?_) (fun l ⟨hI, _⟩ => ?_) _ ⟨by simp, by omega⟩
 ·have hi := Ada hx
  simp only [List.length_cons, List.length_nil] at hi
  refine ⟨?_, Aut _ hI, by omega⟩
  unfold Ahs
  simp only
  have hI2 : strconv_Itoa std n = some ⟨(Lib.itoa n).toArray⟩ := by unfold strconv_Itoa; exact ck_t (hn n (Ael hx))
  rw [Aac, lssT (Ada hx), Aah, ck_t (inbT (Ada hx)), Ab0 (t := TyS.int) hx, hI2, bd_some, ck_t (show std.appOk TyS.str 16 l [_] from ⟨by simp; omega, by simp; omega⟩), s_add, wrap_succ (Ada hx) (by unfold big63; simp)]
  rfl
 ·unfold Ahs
  simp only
  simp only [List.length_cons, List.length_nil] at hI
  rw [Aac, lssF, br_false, ck_t (show std.appOk TyS.str 16 l [s] from ⟨by simp; omega, by simp; omega⟩)]
  exact ⟨_, rfl, by show (l ++ [s]).length ≤ 8; rw [List.length_append, List.length_singleton]; omega⟩
theorem Amp (n : Int) (h0 : 0 ≤ n) (h1 : n ≤ 99) : ∃ t, Aka std n = some t ∧ t.size = 2 := by
 unfold Aka
 have q1 : std.ar .quo .i64 n 10 = n / 10 := by rw [s_quo, tdiv0 h0, w64 (by omega)]
 have q2 : std.ar .rem .i64 n 10 = n % 10 := by rw [s_rem, tmod0 h0]
 have a1 : std.ar .add .i64 48 (n / 10) = 48 + n / 10 := by rw [s_add, w64 (by omega)]
 have a2 : std.ar .add .i64 48 (n % 10) = 48 + n % 10 := by rw [s_add, w64 (by omega)]
 rw [q1, q2, a1, a2, A0j, A0j, w8 (by omega), w8 (by omega), ck_t (show std.u8ok _ from ⟨by omega, by omega⟩), ck_t (show std.u8ok _ from ⟨by omega, by omega⟩), A2i]
 exact ⟨_, rfl, rfl⟩
theorem Ald (n : Int) (h0 : 0 ≤ n) (h1 : n ≤ 1440) : ∃ t, Ahf std n = some t ∧ t.size = 5 := by
 unfold Ahf
 have q1 : std.ar .quo .i64 n 60 = n / 60 := by rw [s_quo, tdiv0 h0, w64 (by omega)]
 have q2 : std.ar .rem .i64 n 60 = n % 60 := by rw [s_rem, tmod0 h0]
 obtain ⟨a, ha, la⟩ := Amp (n / 60) (by omega) (by omega)
 obtain ⟨b, hb, lb⟩ := Amp (n % 60) (by omega) (by omega)
 have z : (ByteArray.mk (Array.mk [58])).size = 1 := rfl
 rw [q1, q2, ha, bd_some, ck_t (show std.catOk _ _ by rw [Afa, la, z]; omega), hb, bd_some, s_cat, s_cat, ck_t (show std.catOk _ _ by rw [Afa, ByteArray.size_append, la, lb, z]; omega)]
 exact ⟨_, rfl, by rw [ByteArray.size_append, ByteArray.size_append, la, lb, z]⟩
def dayT (i : Nat) : ByteArray := std.sel [ByteArray.mk (Array.mk [109, 111, 110]), ByteArray.mk (Array.mk [116, 117, 101]), ByteArray.mk (Array.mk [119, 101, 100]), ByteArray.mk (Array.mk [116, 104, 117]), ByteArray.mk (Array.mk [102, 114, 105]), ByteArray.mk (Array.mk [115, 97, 116]), ByteArray.mk (Array.mk [115, 117, 110])] (i : Int)
theorem dayT_size (i : Nat) (h : i < 7) : (dayT i).size = 3 := by
 have : i = 0 ∨ i = 1 ∨ i = 2 ∨ i = 3 ∨ i = 4 ∨ i = 5 ∨ i = 6 := by omega
 rcases this with rfl | rfl | rfl | rfl | rfl | rfl | rfl <;> rfl
theorem Are (h : Hours) (hs : hourS h = true) : ∃ v, Ai1 std h = some v := by
 have h0 := hs
 simp only [hourS, Bool.and_eq_true, decide_eq_true_eq] at h0
 obtain ⟨⟨⟨⟨⟨⟨_, _⟩, _⟩, f0⟩, f1⟩, f2⟩, t1⟩ := h0
 obtain ⟨a, ha, la⟩ := Ald h.From f0 (by omega)
 obtain ⟨b, hb, lb⟩ := Ald h.To (by omega) t1
 unfold Ai1
 rw [Amn h, bd_some, hs, s_not, Bool.not_true, br_false]
 have := Loop_go (B := Aix std h) (fun i (l : List ByteArray) => (l, (i : Int))) (List.range 7) (fun i _ l => if std.cmp .eql (std.ar .and .i64 (std.ar .shr .i64 h.Days (i : Int)) 1) 1 = true then l ++ [dayT i] else l) (fun i l => i ≤ 7 ∧ l.length ≤ i ∧ ∀ x ∈ l, x.size ≤ 3) (fun _ => True) (fun i n l hx ⟨hi7, hI, hz⟩ => by
  have hi : i < 7 := by have := Ada hx; simpa using this
  refine ⟨?_, by omega, ?_, ?_⟩
  ·unfold Aix
   simp only
   rw [show std.cmp .lss (i : Int) 7 = true from lssT (n := 7) hi, Aah, ck_t (show std.inb (i : Int) (Int.ofNat 7) from inbT (n := 7) hi), ck_t (show std.nn (i : Int) by show (0 : Int) ≤ _; omega), s_add, wrap_succ (n := 7) hi (by unfold big63; omega)]
   cases std.cmp .eql (std.ar .and .i64 (std.ar .shr .i64 h.Days (i : Int)) 1) 1 with
   | true =>
    rw [Aah, if_pos rfl]
    have hA : std.appOk TyS.str 16 l [dayT i] := ⟨by simp; omega, by simp; omega⟩
    exact ck_t hA
   | false => rfl
  ·split
   ·exact Aut _ hI
   ·omega
  ·split
   ·intro x hx
    rcases List.mem_append.1 hx with hx | hx
    ·exact hz x hx
    ·rw [List.mem_singleton.1 hx, dayT_size i hi]; omega
   ·exact hz) (fun l ⟨_, hI, hz⟩ => by
  simp only [List.length_range] at hI
  unfold Aix
  simp only [List.length_range]
  have hj := Aym [44] (l.map (·.data.toList)) 3 (fun x hx => by
   obtain ⟨y, hy, rfl⟩ := List.mem_map.1 hx
   show (bytes y).length ≤ 3
   rw [Acc]; exact hz y hy)
  simp only [List.length_map, List.length_singleton] at hj
  have hJ : strings_Join std l (ByteArray.mk (Array.mk [44])) = some ⟨(Lib.join (l.map (·.data.toList)) [44]).toArray⟩ := by
   unfold strings_Join
   exact ck_t ⟨by omega, by show (Lib.join (l.map (·.data.toList)) [44]).length ≤ _; omega⟩
  have jz : (ByteArray.mk (Lib.join (l.map (·.data.toList)) [44]).toArray).size ≤ 28 := by rw [Ahn, Agx]; omega
  generalize ByteArray.mk (Lib.join (l.map (·.data.toList)) [44]).toArray = J at hJ jz
  have z1 : (ByteArray.mk (Array.mk [32])).size = 1 := rfl
  have z2 : (ByteArray.mk (Array.mk [45])).size = 1 := rfl
  rw [show std.cmp .lss ((7 : Nat) : Int) 7 = false from rfl, br_false, hJ, bd_some, s_cat, ck_t (show std.catOk _ _ by rw [Afa, z1]; omega), ha, bd_some, s_cat, ck_t (show std.catOk _ _ by rw [Afa, ByteArray.size_append, z1, la]; omega), s_cat, ck_t (show std.catOk _ _ by rw [Afa, ByteArray.size_append, ByteArray.size_append, z1, z2, la]; omega), hb, bd_some, s_cat, ck_t (show std.catOk _ _ by rw [Afa, ByteArray.size_append, ByteArray.size_append, ByteArray.size_append, z1, z2, la, lb]; omega)]
  exact ⟨_, rfl, trivial⟩) [] ⟨by omega, by simp, fun x hx => by cases hx⟩
 obtain ⟨e, he, _⟩ := this
 exact ⟨e, he⟩
end Go.PL
namespace Go.PL
set_option linter.unusedSimpArgs false
set_option linter.unusedVariables false
set_option linter.unusedSectionVars false
open Tys (Ty U)
open Enc (sz enc dflt tb ofB toB)
open Dec (dec dok)
set_option maxRecDepth 100000
theorem Aoh (b : Bool) (x : Inhibit) (hf : Ahl x) (h : Aew x = true) : Aea std b x = some (Aau x, b) := by
 have h1 := config_quiet_eq b x hf h
 unfold Acr at h1
 cases hc : Aea std b x with
 | none => rw [hc] at h1; cases h1
 | some v => rw [hc] at h1; exact h1
end Go.PL
namespace Go.PL
set_option linter.unusedSimpArgs false
set_option linter.unusedVariables false
set_option linter.unusedSectionVars false
open Tys (Ty U)
open Enc (sz enc dflt tb ofB toB)
open Dec (dec dok)
set_option maxRecDepth 100000
end Go.PL
namespace Go.PL
set_option linter.unusedSimpArgs false
set_option linter.unusedVariables false
set_option linter.unusedSectionVars false
open Tys (Ty U)
open Enc (sz enc dflt tb ofB toB)
open Dec (dec dok)
set_option maxRecDepth 100000
theorem wrap0 (n : Int) : 0 ≤ IntKind.u64.wrap n := by
 unfold IntKind.wrap
 simp [IntKind.signed, IntKind.bits]
 omega
theorem wrap8 (n : Int) : 0 ≤ IntKind.u8.wrap n ∧ IntKind.u8.wrap n < 256 := by
 unfold IntKind.wrap
 simp [IntKind.signed, IntKind.bits]
 omega
theorem Loop_up {S ε : Type} {B : S → Option (S ⊕ ε)} (I : Nat → S → Prop) (P : ε → Prop) (n : Nat) (h : ∀ i s, i < n → I i s → ∃ s', B s = some (.inl s') ∧ I (i + 1) s') (he : ∀ s, I n s → ∃ e, B s = some (.inr e) ∧ P e) : ∀ (k i : Nat) (s : S), i + k = n → I i s → ∃ e, Loop B s = some e ∧ P e
 | 0, i, s, hi, hI => by
  obtain rfl : i = n := by omega
  obtain ⟨e, h1, h2⟩ := he s hI
  exact ⟨e, by rw [Acb, h1], h2⟩
 | k + 1, i, s, hi, hI => by
  obtain ⟨s', h1, h2⟩ := h i s (by omega) hI
  rw [Acb, h1]
  exact Loop_up I P n h he k (i + 1) s' (by omega) h2
theorem nnA (a b : Int) : std.nn (std.ar .and .u64 a b) := wrap0 _
theorem nnS (a b : Int) : std.nn (std.ar .sub .u64 a b) := wrap0 _
theorem Aec (x n : Int) : ∃ r, Acu std x n = some r := by
 unfold Acu Ad5
 rw [ck_t (nnA _ _), ck_t (nnS _ _)]
 exact ⟨_, rfl⟩
theorem addN {a b : Nat} (h : a + b ≤ 1000) : std.ar .add .i64 (a : Int) (b : Int) = ((a + b : Nat) : Int) := by
 rw [s_add, w64 (by omega)]; rfl
theorem mulN {a : Nat} (h : a ≤ 100) : std.ar .mul .i64 4 (a : Int) = ((4 * a : Nat) : Int) := by
 rw [s_mul, w64 (by omega)]; rfl
theorem subN {a b : Nat} (h : b ≤ a) (ha : a ≤ 1000) : std.ar .sub .i64 (a : Int) (b : Int) = ((a - b : Nat) : Int) := by
 rw [s_sub, w64 (by omega)]; omega
theorem inN {a n : Nat} (h : a < n) : std.inb (a : Int) (Int.ofNat n) := ⟨by omega, by show (a : Int) < (n : Int); omega⟩
theorem inL {a n : Nat} {xs : List Int} (hl : xs.length = n) (h : a < n) : std.inb (a : Int) (std.len TyS.u32 xs) := ⟨by omega, by show (a : Int) < (xs.length : Int); omega⟩
theorem eqL {n : Nat} {xs : List Int} (hl : xs.length = n) : std.cmp .eql (std.len TyS.u32 xs) (Int.ofNat n) = true := by
 show ((xs.length : Int) == (n : Int)) = true
 rw [hl]; simp
theorem Arf (n : Nat) : (std.rep TyS.u32 (Int.ofNat n) 0).length = n := by show (List.replicate (Int.ofNat n).toNat _).length = n; simp
theorem Aoi {xs : List Int} {i : Int} {x : Int} : (std.set TyS.u32 xs i x).length = xs.length := List.length_set
theorem Axp (s : ByteArray) (hs : s.size = 64) : ∃ r, Ajc std s = some r ∧ r.length = 64 := by
 unfold Ajc
 have h2 : ∀ row : List Int, row.length = 64 → ∃ e, Loop (Ahw std) (16, row) = some e ∧ e.length = 64 := by
  intro row hr
  refine Loop_up (fun i st => 16 ≤ i ∧ ∃ row : List Int, st = ((i : Int), row) ∧ row.length = 64) (fun e : List Int => e.length = 64) 64 (fun i st hi hI => ?_) (fun st hI => ?_) 48 16 _ rfl ⟨Nat.le_refl _, row, rfl, hr⟩
  ·obtain ⟨h16, row, rfl, hr⟩ := hI
   unfold Ahw
   simp only
   have hlt : std.cmp .lss (i : Int) 64 = true := decide_eq_true (by omega)
   obtain ⟨w8, e8⟩ := Aec (std.get TyS.u32 row (std.ar .sub .i64 (i : Int) 2)) 17
   obtain ⟨w9, e9⟩ := Aec (std.get TyS.u32 row (std.ar .sub .i64 (i : Int) 2)) 19
   obtain ⟨w12, e12⟩ := Aec (std.get TyS.u32 row (std.ar .sub .i64 (i : Int) 15)) 7
   obtain ⟨w13, e13⟩ := Aec (std.get TyS.u32 row (std.ar .sub .i64 (i : Int) 15)) 18
   have s15 : std.ar .sub .i64 (i : Int) 15 = ((i - 15 : Nat) : Int) := subN (b := 15) (by omega) (by omega)
   have s2 : std.ar .sub .i64 (i : Int) 2 = ((i - 2 : Nat) : Int) := subN (b := 2) (by omega) (by omega)
   have s7 : std.ar .sub .i64 (i : Int) 7 = ((i - 7 : Nat) : Int) := subN (b := 7) (by omega) (by omega)
   have s16 : std.ar .sub .i64 (i : Int) 16 = ((i - 16 : Nat) : Int) := subN (b := 16) (by omega) (by omega)
   have a1 : std.ar .add .i64 (i : Int) 1 = ((i + 1 : Nat) : Int) := addN (b := 1) (by omega)
   rw [s2] at e8 e9
   rw [s15] at e12 e13
   rw [hlt, Aah, s15, s2, s7, s16, a1, ck_t (inN (by omega)), ck_t (inL hr (by omega)), ck_t (inN (by omega)), ck_t (inL hr (by omega)), e8, bd_some, e9, bd_some, ck_t (inN (by omega)), ck_t (inL hr (by omega)), e12, bd_some, e13, bd_some, ck_t (inN (by omega)), ck_t (inL hr (by omega)), ck_t (inN (by omega)), ck_t (inL hr (by omega))]
   exact ⟨_, rfl, by omega, _, rfl, by rw [Aoi]; exact hr⟩
  ·obtain ⟨_, row, rfl, hr⟩ := hI
   unfold Ahw
   simp only
   rw [show std.cmp .lss ((64 : Nat) : Int) 64 = false from rfl, br_false, ck_t (eqL hr), ck_t (eqL (n := 64) (xs := std.rep TyS.u32 (Int.ofNat 64) 0) (Arf 64)), ck_t ⟨hr⟩]
   exact ⟨_, rfl, hr⟩
 have h1 : ∀ (t : Nat) (row : List Int), t < 16 → row.length = 64 → ∃ e, Loop (Ahv std s t) (0, row) = some e ∧ ∃ row' : List Int, e = .inl (((t + 1 : Nat) : Int), row') ∧ row'.length = 64 := by
  intro t row ht hr
  refine Loop_up (fun i st => ∃ row : List Int, st = ((i : Int), row) ∧ row.length = 64) (fun e : (Int × List Int) ⊕ List Int => ∃ row' : List Int, e = .inl (((t + 1 : Nat) : Int), row') ∧ row'.length = 64) 4 (fun i st hi hI => ?_) (fun st hI => ?_) 4 0 _ rfl ⟨row, rfl, hr⟩
  ·obtain ⟨row, rfl, hr⟩ := hI
   unfold Ahv
   simp only
   have hlt : std.cmp .lss (i : Int) 4 = true := decide_eq_true (by omega)
   have a1 : std.ar .add .i64 (i : Int) 1 = ((i + 1 : Nat) : Int) := addN (b := 1) (by omega)
   rw [hlt, Aah, ck_t (inN (by omega)), ck_t (inL hr (by omega)), mulN (by omega), addN (by omega), a1, ck_t (show std.inb _ (std.slen s) from ⟨by omega, by rw [Amj, hs]; omega⟩)]
   exact ⟨_, rfl, _, rfl, by rw [Aoi]; exact hr⟩
  ·obtain ⟨row, rfl, hr⟩ := hI
   unfold Ahv
   simp only
   rw [show std.cmp .lss ((4 : Nat) : Int) 4 = false from rfl, br_false, show std.ar .add .i64 (t : Int) 1 = ((t + 1 : Nat) : Int) from addN (b := 1) (by omega)]
   exact ⟨_, rfl, row, rfl, hr⟩
 refine Loop_up (fun i st => ∃ row : List Int, st = ((i : Int), row) ∧ row.length = 64) (fun e : List Int => e.length = 64) 16 (fun i st hi hI => ?_) (fun st hI => ?_) 16 0 _ rfl ⟨_, rfl, Arf 64⟩
 ·obtain ⟨row, rfl, hr⟩ := hI
  unfold Ajx
  simp only
  have hlt : std.cmp .lss (i : Int) 16 = true := decide_eq_true (by omega)
  obtain ⟨e, e1, row', rfl, e2⟩ := h1 i row hi hr
  rw [hlt, Aah, e1]
  exact ⟨_, rfl, row', rfl, e2⟩
 ·obtain ⟨row, rfl, hr⟩ := hI
  unfold Ajx
  simp only
  obtain ⟨e, e1, e2⟩ := h2 row hr
  rw [show std.cmp .lss ((16 : Nat) : Int) 16 = false from rfl, br_false, e1]
  exact ⟨e, rfl, e2⟩
theorem in8 {xs : List Int} {i : Int} (hl : xs.length = 8) (h : 0 ≤ i ∧ i < 8) : std.inb i (std.len TyS.u32 xs) := ⟨h.1, by show i < (xs.length : Int); omega⟩
theorem A23 {xs : List Int} (hl : xs.length = 8) : (std.put TyS.u32 xs 1 (std.lsub TyS.u32 xs 0 (std.pl 0 (std.mn (std.mi 7 0) (std.mi (Int.ofNat 8) 1))))).length = 8 := by
 show ((xs.take 1 ++ (xs.take 7).drop 0 ++ xs.drop (1 + ((xs.take 7).drop 0).length)).length) = 8
 simp [hl]
theorem Azf (h : List Int) (s : ByteArray) (hl : h.length = 8) (hs : s.size = 64) : ∃ r, Ake std h s = some r ∧ r.length = 8 := by
 unfold Ake
 obtain ⟨w3, e3, l3⟩ := Axp s hs
 rw [ck_t (eqL (n := 8) hl), ck_t (eqL (n := 8) (xs := std.rep TyS.u32 (Int.ofNat 8) 0) (Arf 8)), e3, bd_some]
 have h1 : ∀ row : List Int, row.length = 8 → ∃ e, Loop (Aiy std row) (0, h) = some e ∧ e.length = 8 := by
  intro row5 hr5
  refine Loop_up (fun i st => ∃ row : List Int, st = ((i : Int), row) ∧ row.length = 8) (fun e : List Int => e.length = 8) 8 (fun i st hi hI => ?_) (fun st hI => ?_) 8 0 _ rfl ⟨h, rfl, hl⟩
  ·obtain ⟨row, rfl, hr⟩ := hI
   unfold Aiy
   simp only
   have hlt : std.cmp .lss (i : Int) 8 = true := decide_eq_true (by omega)
   rw [hlt, Aah, ck_t (inN hi), ck_t (inL hr hi), ck_t (inL hr5 hi), show std.ar .add .i64 (i : Int) 1 = ((i + 1 : Nat) : Int) from addN (b := 1) (by omega)]
   exact ⟨_, rfl, _, rfl, by rw [Aoi]; exact hr⟩
  ·obtain ⟨row, rfl, hr⟩ := hI
   unfold Aiy
   simp only
   rw [show std.cmp .lss ((8 : Nat) : Int) 8 = false from rfl, br_false, ck_t (eqL (n := 8) hr), ck_t ⟨hr⟩]
   exact ⟨_, rfl, hr⟩
 refine Loop_up (fun i st => ∃ row : List Int, st = ((i : Int), row) ∧ row.length = 8) (fun e : List Int => e.length = 8) 64 (fun i st hi hI => ?_) (fun st hI => ?_) 64 0 _ rfl ⟨h, rfl, hl⟩
 ·obtain ⟨row, rfl, hr⟩ := hI
  unfold Akt
  simp only
  have hlt : std.cmp .lss (i : Int) 64 = true := decide_eq_true (by omega)
  obtain ⟨w11, e11⟩ := Aec (std.get TyS.u32 row 4) 6
  obtain ⟨w12, e12⟩ := Aec (std.get TyS.u32 row 4) 11
  obtain ⟨w13, e13⟩ := Aec (std.get TyS.u32 row 4) 25
  obtain ⟨w16, e16⟩ := Aec (std.get TyS.u32 row 0) 2
  obtain ⟨w17, e17⟩ := Aec (std.get TyS.u32 row 0) 13
  obtain ⟨w18, e18⟩ := Aec (std.get TyS.u32 row 0) 22
  have hp := A23 hr
  rw [hlt, Aah, ck_t (inN hi), ck_t (inL l3 hi), ck_t (in8 hr (by omega)), ck_t (in8 hr (by omega)), ck_t (in8 hr (by omega)), ck_t (in8 hr (by omega)), ck_t (in8 hr (by omega)), e11, bd_some, e12, bd_some, e13, bd_some, ck_t (in8 hr (by omega)), ck_t (in8 hr (by omega)), e16, bd_some, e17, bd_some, e18, bd_some,
   ck_t (eqL (n := 8) hr), ck_t (show std.subOk 1 (std.pl 1 (std.mi (Int.ofNat 8) 1)) (std.len TyS.u32 row) from ⟨by omega, by decide, by show (1 + (8 - 1) : Int) ≤ (row.length : Int); omega⟩),
   ck_t (show std.subOk 0 (std.pl 0 (std.mi 7 0)) (std.len TyS.u32 row) from ⟨by omega, by decide, by show (0 + (7 - 0) : Int) ≤ (row.length : Int); omega⟩), ck_t (in8 hr (by omega)), ck_t (in8 hp (by omega)), ck_t (in8 (by rw [Aoi]; exact hp) (by omega)),
   show std.ar .add .i64 (i : Int) 1 = ((i + 1 : Nat) : Int) from addN (b := 1) (by omega)]
  exact ⟨_, rfl, _, rfl, by rw [Aoi, Aoi]; exact hp⟩
 ·obtain ⟨row, rfl, hr⟩ := hI
  unfold Akt
  simp only
  obtain ⟨e, e1, e2⟩ := h1 row hr
  rw [show std.cmp .lss ((64 : Nat) : Int) 64 = false from rfl, br_false, e1]
  exact ⟨e, rfl, e2⟩
theorem A1e (l : List UInt8) (n : Int) (h : 0 ≤ n ∧ n < 256) (hl : l.length ≤ 1000) : Aa1 std l n = some (l ++ [std.u8 n]) := by
 unfold Aa1
 rw [Aos, bd_some, ck_t (show std.u8ok n from h), ck_t (show std.appOk TyS.byte 1 l [std.u8 n] from ⟨by simp; omega, by simp; omega⟩)]
 rfl
theorem A24 (g row : List Int) (hg : True) (hr : row.length = 8) : ∃ e, Loop (Akv std row) (0, []) = some e ∧ e.size = 32 := by
 have h1 : ∀ (t : Nat) (l : List UInt8), t < 8 → l.length = 4 * t → ∃ e, Loop (Aku std row (t : Int)) (24, l) = some e ∧ ∃ l', e = .inl (((t + 1 : Nat) : Int), l') ∧ l'.length = 4 * (t + 1) := by
  intro t l ht hl
  refine Loop_up (fun i st => ∃ l : List UInt8, st = ((24 : Int) - 8 * (i : Int), l) ∧ l.length = 4 * t + i) (fun e : (Int × List UInt8) ⊕ ByteArray => ∃ l', e = .inl (((t + 1 : Nat) : Int), l') ∧ l'.length = 4 * (t + 1)) 4 (fun i st hi hI => ?_) (fun st hI => ?_) 4 0 _ rfl ⟨l, rfl, hl⟩
  ·obtain ⟨l, rfl, hl⟩ := hI
   unfold Aku
   simp only
   rw [show std.cmp .geq ((24 : Int) - 8 * (i : Int)) 0 = true from decide_eq_true (by omega), Aah, ck_t (show std.nn _ from (by show (0 : Int) ≤ _; omega)), A1e l _ (show 0 ≤ std.conv .u8 _ ∧ std.conv .u8 _ < 256 from wrap8 _) (by omega), bd_some, s_sub, w64 (by omega)]
   refine ⟨_, rfl, _, Prod.ext (show (24 : Int) - 8 * (i : Int) - 8 = 24 - 8 * ((i + 1 : Nat) : Int) by omega) rfl, ?_⟩
   rw [List.length_append]; simp only [List.length_cons, List.length_nil]; omega
  ·obtain ⟨l, rfl, hl⟩ := hI
   unfold Aku
   simp only
   rw [show std.cmp .geq ((24 : Int) - 8 * ((4 : Nat) : Int)) 0 = false from rfl, br_false, show std.ar .add .i64 (t : Int) 1 = ((t + 1 : Nat) : Int) from addN (b := 1) (by omega)]
   exact ⟨_, rfl, l, rfl, by omega⟩
 refine Loop_up (fun i st => ∃ l : List UInt8, st = ((i : Int), l) ∧ l.length = 4 * i) (fun e : ByteArray => e.size = 32) 8 (fun i st hi hI => ?_) (fun st hI => ?_) 8 0 _ rfl ⟨[], rfl, rfl⟩
 ·obtain ⟨l, rfl, hl⟩ := hI
  unfold Akv
  simp only
  obtain ⟨e, e1, l', rfl, e2⟩ := h1 i l hi hl
  rw [show std.cmp .lss (i : Int) 8 = true from decide_eq_true (by omega), Aah, ck_t (inN hi), ck_t (inL hr hi), e1]
  exact ⟨_, rfl, l', rfl, e2⟩
 ·obtain ⟨l, rfl, hl⟩ := hI
  unfold Akv
  simp only
  rw [show std.cmp .lss ((8 : Nat) : Int) 8 = false from rfl, br_false]
  unfold strings_Builder_String
  rw [ck_t (by omega)]
  exact ⟨_, rfl, by show l.toArray.size = 32; simpa using hl⟩
theorem first_some : ∃ g : List Int, Akd std = some g ∧ g.length = 8 := by
 unfold Akd
 rw [ck_t (eqL (n := 8) (xs := std.rep TyS.u32 (Int.ofNat 8) 0) (Arf 8)), ck_t (⟨rfl⟩ : LenIs _ 8)]
 exact ⟨_, rfl, rfl⟩
theorem Auu (s : ByteArray) (a b : Nat) (h : a ≤ b) (hb : b ≤ s.size) : (std.ssub s (a : Int) (b : Int)).size = b - a := by
 show (s.extract (a : Int).toNat (b : Int).toNat).size = b - a
 rw [ByteArray.size_extract]
 simp only [Int.toNat_natCast]
 omega
theorem A2a {s : ByteArray} (h : s.size = 0) : std.scmp .neq s (ByteArray.mk (Array.mk [])) = false := by
 rw [Ave, Akh]; exact decide_eq_false (by omega)
theorem A25 {s : ByteArray} (h : 0 < s.size) : std.scmp .neq s (ByteArray.mk (Array.mk [])) = true := by
 rw [Ave, Akh]; exact decide_eq_true (by omega)
theorem Atb : ∀ (k : Nat) (s : ByteArray) (g : List Int), s.size = 64 * k → s.size ≤ 6000000 → g.length = 8 → ∃ e, Loop (Akw std) (s, g) = some e ∧ e.size = 32
 | 0, s, g, hs, _, hg => by
  rw [Acb]
  unfold Akw
  simp only
  obtain ⟨e, e1, e2⟩ := A24 g g trivial hg
  rw [A2a (by omega), br_false, ck_t (eqL (n := 8) hg), e1]
  exact ⟨e, rfl, e2⟩
 | k + 1, s, g, hs, hm, hg => by
  rw [Acb]
  unfold Akw
  simp only
  have z1 : (std.ssub s 0 64).size = 64 := Auu s 0 64 (by omega) (by omega)
  have z2 : (std.ssub s 64 (std.slen s)).size = s.size - 64 := Auu s 64 s.size (by omega) (by omega)
  obtain ⟨w, e1, hw⟩ := Azf g (std.ssub s 0 64) hg z1
  rw [A25 (by omega), Aah, ck_t (eqL (n := 8) hg), ck_t (show std.subOk 0 64 (std.slen s) from ⟨by omega, by decide, by show (64 : Int) ≤ (s.size : Int); omega⟩), e1, bd_some, ck_t (eqL (n := 8) hw), ck_t (show std.subOk 64 (std.slen s) (std.slen s) from ⟨by decide, by show (64 : Int) ≤ (s.size : Int); omega, by show (s.size : Int) ≤ (s.size : Int); omega⟩)]
  exact Atb k _ w (by omega) (by omega) hw
theorem A2b (s : ByteArray) (hs : s.size ≤ 5000000) : ∃ e, Ana std s = some e ∧ e.size = 32 := by
 unfold Ana
 have hn : std.ar .rem .i64 (std.ar .sub .i64 119 (std.ar .rem .i64 (std.slen s) 64)) 64 = (((119 - s.size % 64) % 64 : Nat) : Int) := by
  have h1 : std.ar .rem .i64 (std.slen s) 64 = ((s.size % 64 : Nat) : Int) := by
   rw [s_rem, Amj, tmod0 (by omega)]; rfl
  have h2 : std.ar .sub .i64 119 ((s.size % 64 : Nat) : Int) = ((119 - s.size % 64 : Nat) : Int) := subN (a := 119) (by omega) (by omega)
  rw [h1, h2]
  rw [s_rem, tmod0 (by omega)]; rfl
 rw [hn]
 generalize hk : (119 - s.size % 64) % 64 = k
 have hk1 : k < 64 := by omega
 have z0 : (ByteArray.mk (Array.mk [0])).size = 1 := rfl
 have z8 : (ByteArray.mk (Array.mk [128])).size = 1 := rfl
 unfold strings_Repeat
 rw [ck_t (show (0 : Int) ≤ (k : Int) ∧ (k : Int) ≤ 9223372036854775807 ∧ (ByteArray.mk (Array.mk [0])).size * ((k : Int)).toNat ≤ 140737488355328 from ⟨by omega, by omega, by rw [z0]; omega⟩), bd_some]
 generalize hr : (⟨(Lib.repeatL (ByteArray.mk (Array.mk [0])).data.toList ((k : Int)).toNat).toArray⟩ : ByteArray) = p
 have hp : p.size = k := by
  rw [← hr]
  show (Lib.repeatL [0] k).toArray.size = k
  rw [List.size_toArray]
  clear hr hn hk hk1
  induction k with
  | zero => rfl
  | succ k ih => simp [Lib.repeatL] at ih ⊢ ; try omega
 have z9 : (std.cat (ByteArray.mk (Array.mk [128])) p).size = 1 + k := by rw [s_cat, ByteArray.size_append, z8, hp]
 rw [ck_t (show std.catOk _ _ by rw [Afa, z8, hp]; omega), ck_t (show std.catOk _ _ by rw [Afa, z9]; omega)]
 generalize hq : std.cat s (std.cat (ByteArray.mk (Array.mk [128])) p) = q
 have hqs : q.size = s.size + 1 + k := by rw [← hq, s_cat, ByteArray.size_append, z9]; omega
 refine Loop_up (fun i st => ∃ q : ByteArray, st = (q, (56 : Int) - 8 * (i : Int)) ∧ q.size = s.size + 1 + k + i) (fun e : ByteArray => e.size = 32) 8 (fun i st hi hI => ?_) (fun st hI => ?_) 8 0 _ rfl ⟨q, rfl, hqs⟩
 ·obtain ⟨q, rfl, hq⟩ := hI
  unfold Amu
  simp only
  have zz : ∀ x : UInt8, (std.b2s [x]).size = 1 := fun _ => rfl
  rw [show std.cmp .geq ((56 : Int) - 8 * (i : Int)) 0 = true from decide_eq_true (by omega), Aah, ck_t (show std.nn _ from (by show (0 : Int) ≤ _; omega)), ck_t (show std.u8ok (std.conv .u8 _) from wrap8 _), ck_t (show std.catOk _ _ by rw [Afa, zz]; omega), s_sub, w64 (by omega)]
  refine ⟨_, rfl, _, Prod.ext rfl (show (56 : Int) - 8 * (i : Int) - 8 = 56 - 8 * ((i + 1 : Nat) : Int) by omega), ?_⟩
  rw [s_cat, ByteArray.size_append, zz, hq]; omega
 ·obtain ⟨q, rfl, hq⟩ := hI
  unfold Amu
  simp only
  obtain ⟨g, e1, hg⟩ := first_some
  obtain ⟨e, e2, he⟩ := Atb (q.size / 64) q g (by omega) (by omega) hg
  rw [show std.cmp .geq ((56 : Int) - 8 * ((8 : Nat) : Int)) 0 = false from rfl, br_false, e1, bd_some, ck_t (eqL (n := 8) (xs := std.rep TyS.u32 (Int.ofNat 8) 0) (Arf 8)), ck_t (eqL (n := 8) hg), e2]
  exact ⟨e, rfl, he⟩
theorem and15 (y : Nat) : 0 ≤ std.ar .and .u8 (y : Int) 15 ∧ std.ar .and .u8 (y : Int) 15 < 16 := by
 rw [s_and]
 have h1 : (BitVec.ofInt IntKind.u8.bits (y : Int) &&& BitVec.ofInt IntKind.u8.bits 15).toNat ≤ 15 := by
  rw [BitVec.toNat_and]
  exact Nat.and_le_right
 generalize (BitVec.ofInt IntKind.u8.bits (y : Int) &&& BitVec.ofInt IntKind.u8.bits 15).toNat = n at h1
 unfold IntKind.wrap
 simp [IntKind.signed, IntKind.bits]
 omega
theorem A1f (s : ByteArray) (hs : s.size ≤ 5000000) : ∃ e, Aid std s = some e ∧ e.size = 16 := by
 unfold Aid
 obtain ⟨w, e1, hw⟩ := A2b s hs
 rw [e1, bd_some, ck_t (show std.subOk 0 8 (std.slen w) from ⟨by decide, by decide, by show (8 : Int) ≤ (w.size : Int); omega⟩)]
 have z1 : (std.ssub w 0 8).size = 8 := Auu w 0 8 (by omega) (by omega)
 have z2 : std.len tb (std.s2b (std.ssub w 0 8)) = 8 := by
  rw [s_len]
  have : (std.s2b (std.ssub w 0 8)).length = 8 := by rw [Avs]; exact (Acc _).trans z1
  omega
 have zd : std.slen (ByteArray.mk (Array.mk [48, 49, 50, 51, 52, 53, 54, 55, 56, 57, 97, 98, 99, 100, 101, 102])) = 16 := rfl
 refine Loop_up (fun i st => ∃ l : List UInt8, st = ((i : Int), l) ∧ l.length = 2 * i) (fun e : ByteArray => e.size = 16) 8 (fun i st hi hI => ?_) (fun st hI => ?_) 8 0 _ rfl ⟨[], rfl, rfl⟩
 ·obtain ⟨l, rfl, hl⟩ := hI
  unfold Alt
  simp only
  rw [z2, zd]
  generalize (std.get tb (std.s2b (std.ssub w 0 8)) (i : Int)) = x
  have hx : x.1.1.1 < 256 := x.1.1.2
  generalize hy : x.1.1.1 = y at hx
  have hsh : std.inb (std.ar .shr .u8 (Int.ofNat y) 4) 16 := by
   show 0 ≤ std.ar .shr .u8 (y : Int) 4 ∧ std.ar .shr .u8 (y : Int) 4 < 16
   rw [s_shr]
   show 0 ≤ (y : Int).fdiv 16 ∧ (y : Int).fdiv 16 < 16
   rw [Int.fdiv_eq_ediv_of_nonneg _ (by omega)]; omega
  have han : std.inb (std.ar .and .u8 (Int.ofNat y) 15) 16 := by
   have h1 := and15 y
   show 0 ≤ std.ar .and .u8 (y : Int) 15 ∧ std.ar .and .u8 (y : Int) 15 < 16
   exact h1
  have hsg : ∀ s i, 0 ≤ std.sget s i ∧ std.sget s i < 256 := by
   intro s i
   show 0 ≤ (((s.data.getD i.toNat 0).toNat : Nat) : Int) ∧ (((s.data.getD i.toNat 0).toNat : Nat) : Int) < 256
   have := (s.data.getD i.toNat 0).toNat_lt
   omega
  rw [show std.cmp .lss (i : Int) 8 = true from decide_eq_true (by omega), Aah, ck_t (show std.inb (i : Int) 8 from ⟨by omega, by omega⟩), ck_t hsh, A1e l _ (hsg _ _) (by omega), bd_some, ck_t han, A1e _ _ (hsg _ _) (by rw [List.length_append]; simp; omega), bd_some, show std.ar .add .i64 (i : Int) 1 = ((i + 1 : Nat) : Int) from addN (b := 1) (by omega)]
  refine ⟨_, rfl, _, rfl, ?_⟩
  rw [List.length_append, List.length_append]; simp only [List.length_cons, List.length_nil]; omega
 ·obtain ⟨l, rfl, hl⟩ := hI
  unfold Alt
  simp only
  rw [z2, show std.cmp .lss ((8 : Nat) : Int) 8 = false from rfl, br_false]
  unfold strings_Builder_String
  rw [ck_t (by omega)]
  exact ⟨_, rfl, by show l.toArray.size = 16; simpa using hl⟩
end Go.PL
namespace Go.PL
set_option linter.unusedSimpArgs false
set_option linter.unusedVariables false
set_option linter.unusedSectionVars false
open Tys (Ty U)
open Enc (sz enc dflt tb ofB toB)
open Dec (dec dok)
set_option maxRecDepth 100000
theorem Adb (b : Bool) (l : List ByteArray) : ∃ v, Aaz std b l = some v ∧ v.1.size ≤ 5000000 ∧ (v.2 = false → b = false ∧ v.1 = bindS l) := by
 obtain ⟨s, e, h1, h2, h3⟩ := Arc l
 unfold Aaz
 rw [h1, bd_some]
 refine ⟨_, rfl, h2, fun h => ?_⟩
 have h' : (b || (e != 0)) = false := h
 rw [Bool.or_eq_false_iff] at h'
 exact ⟨h'.1, h3 (by simpa using h'.2)⟩
def onT (b : Bool) : ByteArray := if b then ByteArray.mk (Array.mk [49]) else ByteArray.mk (Array.mk [48])
def Agz : Nat → Route → ByteArray
 | 0, _ => ⟨#[]⟩
 | n + 1, r => bindS ([r.Receiver, Ajs r.Match, bindS r.By, bindS r.Mute] ++ ([r.Wait, r.Every, r.Repeat].map fun n => numS n.toNat) ++ [onT r.On, bindS (r.Routes.map (Agz n))])
theorem Atc (rf : Bool → Route → Option (ByteArray × Bool)) (T : Route → ByteArray) (r : Route) (t5 : List ByteArray) (b0 : Bool) (h5 : t5.length ≤ 10) (hr : r.Routes.length ≤ 16) (on : ByteArray)
  (hk : ∀ k ∈ r.Routes, ∀ b, ∃ v, rf b k = some v ∧ (v.2 = false → b = false ∧ v.1 = T k)) (B : List ByteArray × Int × Bool → Option ((List ByteArray × Int × Bool) ⊕ (ByteArray × Bool)))
  (hB : ∀ l i b, B (l, i, b) = br (std.cmp .lss i (std.len TyS.route r.9)) (ck (std.inb i (std.len TyS.route r.9)) <| bd (rf b (std.get TyS.route r.9 i)) fun w8 => ck (std.appOk TyS.str 16 l [w8.1]) <| some (.inl ((std.app TyS.str l [w8.1], std.ar .add .i64 i 1, w8.2)))) (rt (bd (Aaz std b l) fun w10 => ck (std.appOk TyS.str 16 t5 [on, w10.1]) <| bd (Aaz std w10.2 (std.app TyS.str t5 [on, w10.1])) fun w12 => some w12))) :
  ∃ v, Loop B ([], 0, b0) = some v ∧ (v.2 = false → b0 = false ∧ v.1 = bindS (t5 ++ [on, bindS (r.Routes.map T)])) := by
 exact Loop_go (B := B) (fun i (s : List ByteArray × Bool) => (s.1, (i : Int), s.2)) r.Routes (fun _ k s => (s.1 ++ [((rf s.2 k).getD (⟨#[]⟩, false)).1], ((rf s.2 k).getD (⟨#[]⟩, false)).2)) (fun i s => i ≤ r.Routes.length ∧ s.1.length ≤ i ∧ (s.2 = false → b0 = false ∧ s.1 = (r.Routes.take i).map T)) (fun v => v.2 = false → b0 = false ∧ v.1 = bindS (t5 ++ [on, bindS (r.Routes.map T)])) (fun i k s hx ⟨hi, hI, hf⟩ => by
  have hlt := Ada hx
  obtain ⟨v, hv, hT⟩ := hk k (Ael hx) s.2
  refine ⟨?_, by omega, Aut _ hI, ?_⟩
  ·rw [hB, Aac, lssT hlt, Aah, ck_t (inbT hlt), Ab0 (t := TyS.route) hx, hv, bd_some, ck_t (show std.appOk TyS.str 16 s.1 [v.1] from ⟨by simp; omega, by simp; omega⟩), s_add, wrap_succ hlt (by unfold big63; omega)]
   rfl
  ·rw [hv]
   intro h
   obtain ⟨h1, h2⟩ := hT h
   obtain ⟨h3, h4⟩ := hf h1
   refine ⟨h3, ?_⟩
   rw [take_snoc hx, List.map_append, ← h4]
   show s.1 ++ [v.1] = s.1 ++ [T k]
   rw [h2]) (fun s ⟨_, hI, hf⟩ => by
  obtain ⟨w10, h10, _, g10⟩ := Adb s.2 s.1
  obtain ⟨w12, h12, _, g12⟩ := Adb w10.2 (std.app TyS.str t5 [on, w10.1])
  rw [hB, Aac, lssF, br_false, h10, bd_some, ck_t (show std.appOk TyS.str 16 t5 [on, w10.1] from ⟨by simp; omega, by simp; omega⟩), h12, bd_some]
  refine ⟨_, rfl, fun h => ?_⟩
  obtain ⟨h1, h2⟩ := g12 h
  obtain ⟨h3, h4⟩ := g10 h1
  obtain ⟨h5, h6⟩ := hf h3
  refine ⟨h5, ?_⟩
  rw [h2, h4, h6, List.take_length]
  rfl) ([], b0) ⟨by omega, by simp, fun h => ⟨h, by simp⟩⟩
theorem Ako : ∀ (n : Nat) (b : Bool) (r : Route) (d : Nat), SizeOf.sizeOf r < n → RouteFit r → Afi d r = true → ∃ v, Aca std n b r = some v ∧ (v.2 = false → b = false ∧ v.1 = Agz n r)
 | 0, b, r, d, h, _, _ => absurd h (Nat.not_lt_zero _)
 | n + 1, b, r, d, h, hf, hs => by
  obtain ⟨f1, f2, f3, f4, f5, f6⟩ := Av8 hf
  obtain ⟨e, rfl⟩ := Aza hs
  obtain ⟨k1, k2⟩ := Ahm hs
  have h0 := hs
  simp only [Afi, oneS, fromS, Bool.and_eq_true, decide_eq_true_eq] at h0
  obtain ⟨⟨⟨⟨⟨⟨⟨⟨_, hm⟩, _⟩, _⟩, _⟩, w0, w1⟩, e0, e1⟩, r0, r1⟩, _⟩ := h0
  have hk : ∀ k ∈ r.Routes, ∀ b, ∃ v, Aca std n b k = some v ∧ (v.2 = false → b = false ∧ v.1 = Agz n k) := fun k hk b => Ako n b k e (by have := Anm hk; omega) (f6 k hk) (k2 k hk)
  rw [Aca, Aht, Agy b r.Match f2 hm, bd_some]
  obtain ⟨v2, h2, _, g2⟩ := Adb b r.By
  obtain ⟨v3, h3, _, g3⟩ := Adb v2.2 r.Mute
  rw [h2, bd_some, h3, bd_some]
  have num : ∀ m, 0 ≤ m → m ≤ 1099511627776 → Afo std m = some (numS m.toNat, 0) := fun m h0 h1 => by
   have : m = ((m.toNat : Nat) : Int) := by omega
   rw [this]
   exact Ajk m.toNat (by omega)
  refine Loop_go (B := Afu std (Aca std n) r v3) (fun i (l : List ByteArray) => (l, (i : Int))) [r.Wait, r.Every, r.Repeat] (fun _ m l => l ++ [numS m.toNat]) (fun i l => i ≤ 3 ∧ l = [r.1, Ajs r.Match, v2.1, v3.1] ++ ([r.Wait, r.Every, r.Repeat].take i).map fun n => numS n.toNat) (fun v => v.2 = false → b = false ∧ v.1 = Agz (n + 1) r) (fun i m l hx ⟨hi, hI⟩ => by
   have hlt := Ada hx
   have hm2 : 0 ≤ m ∧ m ≤ 1099511627776 := by
    have hmem := Ael hx
    simp only [List.mem_cons, List.mem_nil_iff, or_false] at hmem
    rcases hmem with rfl | rfl | rfl <;> omega
   have hlt' := hlt
   simp only [List.length_cons, List.length_nil] at hlt'
   have hl : l.length ≤ 4 + i := by rw [hI, List.length_append, List.length_map, List.length_take]; simp only [List.length_cons, List.length_nil]; omega
   refine ⟨?_, by omega, by rw [take_snoc hx, List.map_append, ← List.append_assoc, ← hI]; rfl⟩
   unfold Afu
   simp only
   rw [Aac, lssT hlt, Aah, ck_t (inbT hlt), Ab0 (t := TyS.int) hx, num m hm2.1 hm2.2, bd_some, ck_t (show std.appOk TyS.str 16 l [numS m.toNat] from ⟨by simp; omega, by simp; omega⟩), s_add, wrap_succ hlt (by unfold big63; simp)]
   rfl) (fun l ⟨_, hI⟩ => by
   rw [List.take_length] at hI
   have hl : l.length ≤ 10 := by rw [hI]; simp
   unfold Afu
   simp only
   rw [Aac, lssF, br_false]
   have fin : ∀ on, on = onT r.On → ∀ v : ByteArray × Bool, (v.2 = false → v3.2 = false ∧ v.1 = bindS (l ++ [on, bindS (r.Routes.map (Agz n))])) → (v.2 = false → b = false ∧ v.1 = Agz (n + 1) r) := fun on hon v hv h => by
    obtain ⟨q1, q2⟩ := hv h
    obtain ⟨q3, q4⟩ := g3 q1
    obtain ⟨q5, q6⟩ := g2 q3
    refine ⟨q5, ?_⟩
    rw [q2, hI, q4, q6, hon, Agz]
   rcases Bool.eq_false_or_eq_true r.On with ho | ho
   ·obtain ⟨v, hv, gv⟩ := Atc (Aca std n) (Agz n) r l v3.2 hl k1 (ByteArray.mk (Array.mk [49])) hk (Akb std (Aca std n) r l) (fun _ _ _ => rfl)
    rw [ho, Aah, hv]
    exact ⟨_, rfl, fin _ (by rw [ho]; rfl) v gv⟩
   ·obtain ⟨v, hv, gv⟩ := Atc (Aca std n) (Agz n) r l v3.2 hl k1 (ByteArray.mk (Array.mk [48])) hk (Akc std (Aca std n) r l) (fun _ _ _ => rfl)
    rw [ho, br_false, hv]
    exact ⟨_, rfl, fin _ (by rw [ho]; rfl) v gv⟩) [r.1, Ajs r.Match, v2.1, v3.1] ⟨by omega, by simp⟩
noncomputable def Atd (r : Rule) : List ByteArray := ((Ahe std r).getD ([], 0)).1
noncomputable def Ao0 (h : Hours) : ByteArray := ((Ai1 std h).getD (⟨#[]⟩, 0)).1
noncomputable def textT (N : Config) : ByteArray := bindS [bindS (N.Rules.map Atd).flatten, bindS N.Receivers, bindS (N.Hours.map fun h => [h.Name, Ao0 h]).flatten, bindS (N.Inhibits.map Aau), Agz (SizeOf.sizeOf N.Route + 1) N.Route]
theorem Awb {α : Type} {f : α → List ByteArray} {xs : List α} {i : Nat} {x : α} (hx : xs[i]? = some x) : ((xs.take (i + 1)).map f).flatten = ((xs.take i).map f).flatten ++ f x := by
 rw [take_snoc hx, List.map_append, List.flatten_append]; simp
theorem Asl (c : Config) (hf : Aen c) (hc : Afb c = true) : ∃ s e, Ad3 std c = some (s, e) ∧ s.size ≤ 5000000 ∧ (e = 0 → s = textT (normS c)) := by
 have ok := Aog hc
 have hnf := Ayk hf
 have hR : ∀ r ∈ (normS c).Rules, ruleS r = true := fun r hr => ok.rules.2.1 r ((Afw _ _).mem_iff.1 hr)
 have hH : ∀ r ∈ (normS c).Hours, hourS r = true := fun r hr => ok.hours.2.1 r ((Afw _ _).mem_iff.1 hr)
 have hI : ∀ r ∈ (normS c).Inhibits, Aew r = true := Axo hc
 have lR : (normS c).Rules.length ≤ 16 := by have := ok.rules.1; show (sortI _ _).length ≤ 16; rw [Ac3]; exact this
 have lH : (normS c).Hours.length ≤ 8 := by have := ok.hours.1; show (sortI _ _).length ≤ 8; rw [Ac3]; exact this
 have lI : (normS c).Inhibits.length ≤ 8 := by have := ok.inh.1; have := Aow c; omega
 have hT : Afi 4 c.Route = true := by have := ok.top; simp only [topS, Bool.and_eq_true] at this; exact this.1.1.1
 unfold Ad3
 rw [Aiq c hf, hc, cond_true, bd_some]
 simp only
 rw [show std.cmp .neq 0 0 = false from rfl, br_false]
 generalize hN : normS c = N at *
 have hroute : ∀ b, ∃ v, Als std b N.Route = some v ∧ (v.2 = false → b = false ∧ v.1 = Agz (SizeOf.sizeOf N.Route + 1) N.Route) := fun b => by
  have : N.Route = c.Route := by rw [← hN]; rfl
  rw [this]
  exact Ako _ b c.Route 4 (Nat.lt_succ_self _) hf.2.1 hT
 have s1 : ∀ t7 t8 : List ByteArray, ∃ v, Loop (Af4 std (N, 0) t7 t8) ([], 0, false) = some v ∧ v.1.size ≤ 5000000 ∧ (v.2 = 0 → v.1 = bindS [bindS t7, bindS N.Receivers, bindS t8, bindS (N.Inhibits.map Aau), Agz (SizeOf.sizeOf N.Route + 1) N.Route]) := fun t7 t8 => by
  refine Loop_go (B := Af4 std (N, 0) t7 t8) (fun i (l : List ByteArray) => (l, (i : Int), false)) N.Inhibits (fun _ x l => l ++ [Aau x]) (fun i l => i ≤ N.Inhibits.length ∧ l.length ≤ i ∧ l = (N.Inhibits.take i).map Aau) (fun v => v.1.size ≤ 5000000 ∧ (v.2 = 0 → v.1 = bindS [bindS t7, bindS N.Receivers, bindS t8, bindS (N.Inhibits.map Aau), Agz (SizeOf.sizeOf N.Route + 1) N.Route])) (fun i x l hx ⟨hi, hl, hq⟩ => by
   have hlt := Ada hx
   refine ⟨?_, by omega, Aut _ hl, by rw [take_snoc hx, List.map_append, ← hq]; rfl⟩
   unfold Af4
   simp only
   rw [Aac, lssT hlt, Aah, ck_t (inbT hlt), Ab0 (t := TyS.inhibit) hx, Aoh false x (hnf.2.2.2.1.2 x (Ael hx)) (hI x (Ael hx)), bd_some, ck_t (show std.appOk TyS.str 16 l [Aau x] from ⟨by simp; omega, by simp; omega⟩), s_add, wrap_succ hlt (by unfold big63; omega)]
   rfl) (fun l ⟨_, hl, hq⟩ => by
   rw [List.take_length] at hq
   unfold Af4
   simp only
   obtain ⟨v1, h1, _, g1⟩ := Adb false t7
   obtain ⟨v2, h2, _, g2⟩ := Adb v1.2 N.Receivers
   obtain ⟨v3, h3, _, g3⟩ := Adb v2.2 t8
   obtain ⟨v4, h4, _, g4⟩ := Adb v3.2 l
   obtain ⟨v5, h5, g5⟩ := hroute v4.2
   obtain ⟨v6, h6, z6, g6⟩ := Adb v5.2 [v1.1, v2.1, v3.1, v4.1, v5.1]
   rw [Aac, lssF, br_false, h1, bd_some, h2, bd_some, h3, bd_some, h4, bd_some, h5, bd_some, h6, bd_some]
   cases hv : v6.2
   ·refine ⟨_, rfl, z6, fun _ => ?_⟩
    obtain ⟨q5, p6⟩ := g6 hv
    obtain ⟨q4, p5⟩ := g5 q5
    obtain ⟨q3, p4⟩ := g4 q4
    obtain ⟨q2, p3⟩ := g3 q3
    obtain ⟨q1, p2⟩ := g2 q2
    obtain ⟨_, p1⟩ := g1 q1
    show v6.1 = _
    rw [p6, p5, p4, p3, p2, p1, hq]
   ·exact ⟨_, rfl, by show (0 : Nat) ≤ _; omega, fun h => absurd h (by decide)⟩) [] ⟨by omega, by simp, by simp⟩
 have s2 : ∀ t7 : List ByteArray, ∃ v, Loop (Af5 std (N, 0) t7) ([], 0) = some v ∧ v.1.size ≤ 5000000 ∧ (v.2 = 0 → v.1 = bindS [bindS t7, bindS N.Receivers, bindS (N.Hours.map fun h => [h.Name, Ao0 h]).flatten, bindS (N.Inhibits.map Aau), Agz (SizeOf.sizeOf N.Route + 1) N.Route]) := fun t7 => by
  refine Loop_go (B := Af5 std (N, 0) t7) (fun i (l : List ByteArray) => (l, (i : Int))) N.Hours (fun _ x l => l ++ [x.Name, Ao0 x]) (fun i l => i ≤ N.Hours.length ∧ l.length ≤ 2 * i ∧ l = ((N.Hours.take i).map fun h => [h.Name, Ao0 h]).flatten) (fun v => v.1.size ≤ 5000000 ∧ (v.2 = 0 → v.1 = bindS [bindS t7, bindS N.Receivers, bindS (N.Hours.map fun h => [h.Name, Ao0 h]).flatten, bindS (N.Inhibits.map Aau), Agz (SizeOf.sizeOf N.Route + 1) N.Route])) (fun i x l hx ⟨hi, hl, hq⟩ => by
   have hlt := Ada hx
   obtain ⟨v, hv⟩ := Are x (hH x (Ael hx))
   have hv' : Ao0 x = v.1 := by unfold Ao0; rw [hv]; rfl
   refine ⟨?_, by omega, by rw [List.length_append]; simp only [List.length_cons, List.length_nil]; omega, by rw [Awb hx, ← hq]⟩
   unfold Af5
   simp only
   rw [Aac, lssT hlt, Aah, ck_t (inbT hlt), Ab0 (t := TyS.hours) hx, hv, bd_some, ck_t (show std.appOk TyS.str 16 l [x.Name, v.1] from ⟨by simp; omega, by simp; omega⟩), s_add, wrap_succ hlt (by unfold big63; omega), hv']
   rfl) (fun l ⟨_, hl, hq⟩ => by
   rw [List.take_length] at hq
   unfold Af5
   simp only
   obtain ⟨v, hv, g⟩ := s1 t7 l
   rw [Aac, lssF, br_false, hv]
   rw [hq] at g
   exact ⟨_, rfl, g⟩) [] ⟨by omega, by simp, by simp⟩
 have := Loop_go (B := Ahu std (N, 0)) (fun i (l : List ByteArray) => (l, (i : Int))) N.Rules (fun _ x l => l ++ Atd x) (fun i l => i ≤ N.Rules.length ∧ l.length ≤ 8 * i ∧ l = ((N.Rules.take i).map Atd).flatten) (fun v => v.1.size ≤ 5000000 ∧ (v.2 = 0 → v.1 = textT N)) (fun i x l hx ⟨hi, hl, hq⟩ => by
  have hlt := Ada hx
  obtain ⟨v, hv, lv⟩ := Ao7 x (hnf.1.2 x (Ael hx)) (hR x (Ael hx))
  have hv' : Atd x = v.1 := by unfold Atd; rw [hv]; rfl
  refine ⟨?_, by omega, by rw [hv']; simp only [List.length_append]; omega, by rw [Awb hx, ← hq]⟩
  unfold Ahu
  simp only
  rw [Aac, lssT hlt, Aah, ck_t (inbT hlt), Ab0 (t := TyS.rule) hx, hv, bd_some, ck_t (show std.appOk TyS.str 16 l v.1 from ⟨by omega, by omega⟩), s_add, wrap_succ hlt (by unfold big63; omega), hv']
  rfl) (fun l ⟨_, hl, hq⟩ => by
  rw [List.take_length] at hq
  unfold Ahu
  simp only
  obtain ⟨v, hv, g⟩ := s2 l
  rw [Aac, lssF, br_false, hv]
  rw [hq] at g
  exact ⟨_, rfl, g⟩) [] ⟨by omega, by simp, by simp⟩
 obtain ⟨v, hv, g1, g2⟩ := this
 exact ⟨v.1, v.2, hv, g1, g2⟩
end Go.PL
namespace Go.PL
set_option linter.unusedSimpArgs false
set_option linter.unusedVariables false
set_option linter.unusedSectionVars false
open Tys (Ty U)
open Enc (sz enc dflt tb ofB toB)
open Dec (dec dok)
set_option maxRecDepth 100000
theorem Asm (c : Config) (hf : Aen c) (hc : Afb c = false) : Ad3 std c = some (ByteArray.mk (Array.mk []), 1) := by
 unfold Ad3
 rw [Aiq c hf, hc, cond_false, bd_some]
 rfl
theorem A1g (c : Config) (hf : Aen c) : ∃ s e m, Ad3 std c = some (s, e) ∧ Aid std s = some m ∧ m.size = 16 ∧ (e = 0 → Afb c = true ∧ s = textT (normS c)) ∧ Ahg std c = some (if e = 0 then m else ByteArray.mk (Array.mk []), e) := by
 have key : ∀ s e, Ad3 std c = some (s, e) → s.size ≤ 5000000 → (e = 0 → Afb c = true ∧ s = textT (normS c)) → ∃ s e m, Ad3 std c = some (s, e) ∧ Aid std s = some m ∧ m.size = 16 ∧ (e = 0 → Afb c = true ∧ s = textT (normS c)) ∧ Ahg std c = some (if e = 0 then m else ByteArray.mk (Array.mk []), e) := by
  intro s e h1 h2 h3
  obtain ⟨m, hm, hs⟩ := A1f s h2
  refine ⟨s, e, m, h1, hm, hs, h3, ?_⟩
  unfold Ahg
  rw [h1, bd_some]
  simp only
  by_cases he : e = 0
  ·rw [he, show std.cmp .neq 0 0 = false from rfl, br_false, hm, bd_some, if_pos rfl]
  ·rw [show std.cmp .neq e 0 = true from by rw [s_neq]; simpa using he, Aah, if_neg he]
 cases hc : Afb c with
 | false => exact hc ▸ key _ _ (Asm c hf hc) (by show (0 : Nat) ≤ _; omega) fun h => absurd h (by decide)
 | true =>
  obtain ⟨s, e, h1, h2, h3⟩ := Asl c hf hc
  exact hc ▸ key s e h1 h2 fun h => ⟨hc, h3 h⟩
theorem Ayn (n : Nat) : 1 ≤ (numL n).length := by
 have := A20 n
 cases h : numL n with
 | nil => exact absurd h this
 | cons x l => simp
theorem Ayo : ∀ l : List ByteArray, l.length ≤ (bindL l).length
 | [] => Nat.zero_le _
 | p :: l => by
  have := Ayo l
  have := Ayn p.size
  rw [As7]
  simp only [List.length_append, List.length_cons]
  omega
theorem A1h (N : Config) : 5 < (textT N).size := by
 unfold textT
 rw [Akl]
 have h1 : 1 ≤ (Agz (SizeOf.sizeOf N.Route + 1) N.Route).size := by
  rw [Agz, Akl]
  have := Ayo ([N.Route.Receiver, Ajs N.Route.Match, bindS N.Route.By, bindS N.Route.Mute] ++ ([N.Route.Wait, N.Route.Every, N.Route.Repeat].map fun n => numS n.toNat) ++ [onT N.Route.On, bindS (N.Route.Routes.map (Agz (SizeOf.sizeOf N.Route)))])
  simp only [List.length_append, List.length_cons, List.length_nil, List.length_map] at this
  omega
 generalize Agz (SizeOf.sizeOf N.Route + 1) N.Route = r at h1
 have h2 : ∀ p : ByteArray, 1 ≤ (numL p.size).length := fun p => Ayn _
 have h3 := h2 (bindS (N.Rules.map Atd).flatten)
 have h4 := h2 (bindS N.Receivers)
 have h5 := h2 (bindS (N.Hours.map fun h => [h.Name, Ao0 h]).flatten)
 have h6 := h2 (bindS (N.Inhibits.map Aau))
 have h7 := h2 r
 simp only [As7, List.length_append, Acc]
 omega
theorem Ao8 (c : Config) (hf : Aen c) : Acd std c = some true := by
 obtain ⟨b, hb, _⟩ := A18 c hf
 unfold Acd
 rw [hb, bd_some]
 cases b with
 | true => rw [Aah, Ayl]; rfl
 | false =>
  obtain ⟨s, e, m, h1, h2, _, h4, h5⟩ := A1g c hf
  rw [br_false, h1, bd_some, h5, bd_some, Ayl, bd_some, bd_some]
  simp only
  by_cases he : e = 0
  ·have h6 := A1h (normS c)
   rw [← (h4 he).2] at h6
   subst he
   rw [show std.cmp .neq 0 0 = false from rfl, br_false, if_pos rfl, show std.and true (std.cmp .eql 0 0) = true from rfl, gd_t, h2, bd_some, s_seql]
   simp only [s_land, s_gtr, Amj]
   rw [decide_eq_true (show s.size > (5 : Int) by omega)]
   simp
  ·rw [show std.cmp .neq e 0 = true from by rw [s_neq]; simpa using he, Aah, if_neg he]
   simp only [s_land, s_eql]
   simp
end Go.PL
