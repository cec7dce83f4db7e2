/- Texts of this claim: plain laws of what the program's functions compute. No condition of their own. -/
import Derived.Test.YtnkaolleaebhnaaGreatDoorAqWb
import Derived.Lib.ItoaLen
import Derived.Lib.SplitLaws
import Derived.Lib.Replace
import Derived.KernelRfl
import Derived.Lib.IndexBytes
namespace Go.PL
set_option linter.unusedSimpArgs false
set_option linter.unusedVariables false
set_option linter.unusedSectionVars false
open Tys (Ty U)
open Enc (sz enc dflt tb ofB toB)
open Dec (dec dok)
set_option maxRecDepth 100000
theorem A13 (l : List ByteArray) (h : Akp l = true) : (bindS l).size ≤ 5000000 := by
 simp only [Akp, Bool.and_eq_true, decide_eq_true_eq, List.all_eq_true] at h
 have h1 := Apa l 8192 (by omega) h.2
 have h2 := Nat.mul_le_mul_right (10 + 8192 / 128 + 8192) h.1
 rw [Ap4]
 omega
theorem Atc (l : List ByteArray) : ∃ s e, Aij std l = some (s, e) ∧ s.size ≤ 5000000 ∧ (e = 0 → s = bindS l) := by
 cases hb : Akp l with
 | true => exact ⟨_, _, Ao8 l hb, A13 l hb, fun _ => rfl⟩
 | false =>
  unfold Aij
  rw [show std.cmp .gtr (std.len TyS.str l) 512 = !decide (l.length ≤ 512) from Awt (t := TyS.str) l 512]
  by_cases hl : l.length ≤ 512
  ·rw [decide_eq_true hl, Bool.not_true, br_false]
   have := Ao1 (B := Afj std l) (fun i (_ : Unit) => ((i : Int), bindL (l.take i))) l (fun _ p (_ : Unit) => if decide (p.size ≤ 8192) = true then (.inl () : Unit ⊕ (ByteArray × Int)) else .inr (⟨#[]⟩, 2)) (fun _ => (bindS l, 0)) (fun i _ => i ≤ l.length ∧ ∀ q ∈ l.take i, q.size ≤ 8192) (fun i p u hx hI => by
    have hi := Adt hx
    obtain ⟨_, hI⟩ := hI
    have htl := Aq8 (l.take i) 8192 (by omega) hI
    have hti : (l.take i).length ≤ 512 := by rw [List.length_take]; omega
    have hmul : (l.take i).length * (10 + 2 * 8192) ≤ 512 * (10 + 2 * 8192) := Nat.mul_le_mul_right _ hti
    by_cases hp : p.size ≤ 8192
    ·have h10 := As3 p.size (by omega)
     refine ⟨fun s' hs => ?_, fun e he => ?_⟩
     ·refine ⟨?_, by omega, fun q hq => ?_⟩
      ·unfold Afj
       simp only
       rw [Aad, lssT hi, Aag, ck_t (inbT hi), Aax (t := TyS.str) hx, An1, show std.cmp .gtr (p.size : Int) 8192 = false by rw [s_gtr]; exact decide_eq_false (by omega), br_false, Ako p.size (by omega), bd_some]
       have hn : (numS p.size).size = (numL p.size).length := by show (numL p.size).toArray.size = _; simp
       rw [write_eq _ _ (by rw [hn]; omega), bd_some, write_eq _ _ (by rw [List.length_append, show (bytes (numS p.size)) = numL p.size from Adh _]; omega), bd_some, s_add, wrap_succ hi (by unfold big63; omega), Aye hx, show (bytes (numS p.size)) = numL p.size from Adh _, List.append_assoc]
      ·rw [take_snoc hx] at hq
       rcases List.mem_append.1 hq with hq | hq
       ·exact hI q hq
       ·rw [List.mem_singleton.1 hq]; exact hp
     ·rw [decide_eq_true hp] at he; cases he
    ·refine ⟨fun s' hs => ?_, fun e he => ?_⟩
     ·rw [decide_eq_false hp] at hs; cases hs
     ·rw [decide_eq_false hp] at he
      cases he
      unfold Afj
      simp only
      rw [Aad, lssT hi, Aag, ck_t (inbT hi), Aax (t := TyS.str) hx, An1, show std.cmp .gtr (p.size : Int) 8192 = true by rw [s_gtr]; exact decide_eq_true (by omega), Aag]
      rfl) (fun _ hI => by
    exfalso
    obtain ⟨_, hI⟩ := hI
    rw [List.take_length] at hI
    have : Akp l = true := by
     simp only [Akp, Bool.and_eq_true, decide_eq_true_eq, List.all_eq_true]
     exact ⟨hl, hI⟩
    rw [hb] at this; cases this) () ⟨Nat.zero_le _, fun q hq => by simp at hq⟩
   rw [Au9 (fun p : ByteArray => decide (p.size ≤ 8192))] at this
   have hall : (l.all fun p : ByteArray => decide (p.size ≤ 8192)) = false := by
    unfold Akp at hb
    rw [decide_eq_true hl, Bool.true_and] at hb
    exact hb
   rw [hall] at this
   exact ⟨_, _, this, by show (0 : Nat) ≤ _; omega, fun h => absurd h (by decide)⟩
  ·rw [decide_eq_false hl, Bool.not_false, Aag]
   exact ⟨_, _, rfl, by show (0 : Nat) ≤ _; omega, fun h => absurd h (by decide)⟩
theorem Aqr (old new : List UInt8) : ∀ (k : Nat) (s : List UInt8), (Lib.replaceK old new k s).length ≤ s.length + k * new.length
 | 0, s => by simp [Lib.replaceK]
 | k + 1, s => by
  rw [Lib.replaceK]
  split
  ·exact Nat.le_add_right ..
  ·have h := Aqr old new k (s.drop ((Lib.index s old).toNat + old.length))
   simp only [List.length_append, List.length_take, List.length_drop, Nat.succ_mul] at h ⊢
   omega
theorem Aqs (s old new : ByteArray) (h0 : 1 ≤ old.size) (h2 : new.size = 2) (hs : s.size ≤ 1000) : ∃ t, strings_ReplaceAll std s old new = some t ∧ t.size ≤ 3 * s.size := by
 have hc := Lib.countB_le old h0 s.size s (Nat.le_refl _)
 unfold strings_ReplaceAll
 refine ⟨_, ck_t ⟨by omega, h0, by rw [h2]; omega⟩, ?_⟩
 rw [Af0, Adh]
 unfold Lib.replaceAll Lib.replace
 split
 ·show (bytes s).length ≤ _
  rw [Aau]; omega
 ·have h := Aqr old.data.toList new.data.toList (Lib.replaceNum s.data.toList old.data.toList (-1)) s.data.toList
  have e : Lib.replaceNum s.data.toList old.data.toList (-1) = Lib.countB s old := by
   unfold Lib.replaceNum
   rw [if_pos (.inl (by omega))]
  have l1 : s.data.toList.length = s.size := Aau s
  have l2 : new.data.toList.length = 2 := (Aau new).trans h2
  rw [e] at h ⊢
  rw [l1, l2] at h
  omega
theorem Ayt (x : label_mark) (h1 : x.Name.size ≤ 64) (h2 : x.Value.size ≤ 64) : ∃ t, Acb std x = some t ∧ t.size ≤ 1000 := by
 unfold Acb
 have q2 : (ByteArray.mk (Array.mk [61, 34])).size = 2 := rfl
 have q1 : (ByteArray.mk (Array.mk [34])).size = 1 := rfl
 obtain ⟨a, ha, la⟩ := Aqs x.Value (ByteArray.mk (Array.mk [92])) (ByteArray.mk (Array.mk [92, 92])) (by decide) rfl (by omega)
 obtain ⟨b, hb, lb⟩ := Aqs a (ByteArray.mk (Array.mk [34])) (ByteArray.mk (Array.mk [92, 34])) (by decide) rfl (by omega)
 rw [ha, bd_some, hb, bd_some]
 have z1 : (x.Name ++ ByteArray.mk (Array.mk [61, 34])).size = x.Name.size + 2 := by rw [ByteArray.size_append, q2]
 have z2 : (x.Name ++ ByteArray.mk (Array.mk [61, 34]) ++ b).size = x.Name.size + 2 + b.size := by rw [ByteArray.size_append, z1]
 rw [s_cat, s_cat, s_cat, ck_t (show std.catOk _ _ by rw [Aex, q2]; omega), ck_t (show std.catOk _ _ by rw [Aex, z1]; omega), ck_t (show std.catOk _ _ by rw [Aex, z2, q1]; omega)]
 exact ⟨_, rfl, by rw [ByteArray.size_append, z2, q1]; omega⟩
theorem A08 (sep : List UInt8) : ∀ (l : List (List UInt8)) (m : Nat), (∀ x ∈ l, x.length ≤ m) → (Lib.join l sep).length ≤ l.length * (m + sep.length)
 | [], m, _ => by simp [Lib.join]
 | x :: l, m, h => by
  have key : ∀ l : List (List UInt8), (∀ x ∈ l, x.length ≤ m) → (Lib.joinTail sep l).length ≤ l.length * (m + sep.length) := by
   intro l
   induction l with
   | nil => intro _; simp [Lib.joinTail]
   | cons y l ih =>
    intro h
    have h1 := ih fun x hx => h x (List.mem_cons_of_mem _ hx)
    have h2 := h y (List.mem_cons_self ..)
    simp only [Lib.joinTail, List.map_cons, List.flatten_cons, List.length_append, List.length_cons, Nat.succ_mul] at h1 ⊢
    omega
  rw [Lib.join_cons]
  have h1 := key l fun x hx => h x (List.mem_cons_of_mem _ hx)
  have h2 := h x (List.mem_cons_self ..)
  simp only [List.length_append, List.length_cons, Nat.succ_mul]
  omega
noncomputable def Avj (l : Label) : ByteArray := (Acb std ⟨l.Name, l.Value⟩).getD ⟨#[]⟩
theorem Api (xs : List Label) (hf : fitL Aiy xs) (h : labelsS xs = true) : ∃ s, Ahq std xs = some (s, 0) ∧ s.size ≤ 10000 ∧ s = ByteArray.mk (Array.mk [123]) ++ ⟨(Lib.join ((xs.map Avj).map (·.data.toList)) [44]).toArray⟩ ++ ByteArray.mk (Array.mk [125]) := by
 have hl : xs.length ≤ 8 := by
  simp only [labelsS, Bool.and_eq_true, decide_eq_true_eq] at h; exact h.2
 have hm := labelsS_mem h
 unfold Ahq
 rw [Ak9 xs hf, bd_some, h, s_not, Bool.not_true, br_false]
 have e1 : Ake std xs = some (xs.map fun l => (⟨l.Name, l.Value⟩ : label_mark)) := by
  unfold Ake
  have := Ah3 (B := Ais std xs) (fun i (_ : Unit) => ((xs.take i).map fun l => (⟨l.Name, l.Value⟩ : label_mark), (i : Int))) xs (fun _ _ (_ : Unit) => (.inl () : Unit ⊕ List label_mark)) (fun _ => xs.map fun l => (⟨l.Name, l.Value⟩ : label_mark)) (fun i x u hx hi => by
   unfold Ais
   simp only
   rw [Aad, lssT hi, Aag, ck_t (inbT hi), Aax (t := TyS.label) hx, ck_t (show std.appOk TyS.mark 32 ((xs.take i).map fun l => (⟨l.Name, l.Value⟩ : label_mark)) [⟨x.Name, x.Value⟩] from ⟨by simp; omega, by simp; omega⟩), s_add, wrap_succ hi (by unfold big63; omega), take_snoc hx, List.map_append]
   rfl) (fun _ => by
   unfold Ais
   simp only
   rw [Aad, lssF, br_false, List.take_length]
   rfl) ()
  rw [Apf] at this
  exact this
 rw [e1, bd_some]
 -- texts of marks
 have hmk : ∀ l ∈ xs, ∃ t, Acb std ⟨l.Name, l.Value⟩ = some t ∧ t.size ≤ 1000 := fun l hl => by
  have := hm l hl
  simp only [Ajg, Bool.and_eq_true, nameS, Asv, decide_eq_true_eq] at this
  exact Ayt _ this.1.2 this.2.2
 let f : Label → ByteArray := fun l => ((Acb std ⟨l.Name, l.Value⟩).getD ⟨#[]⟩)
 have hf2 : ∀ l ∈ xs, Acb std ⟨l.Name, l.Value⟩ = some (f l) ∧ (f l).size ≤ 1000 := fun l hl => by
  obtain ⟨t, h1, h2⟩ := hmk l hl
  have : f l = t := by show ((Acb std ⟨l.Name, l.Value⟩).getD ⟨#[]⟩) = t; rw [h1]; rfl
  rw [this]; exact ⟨h1, h2⟩
 have hjl : (Lib.join ((xs.map f).map (·.data.toList)) [44]).length ≤ 8008 := by
  have := A08 [44] ((xs.map f).map (·.data.toList)) 1000 (fun x hx => by
   obtain ⟨y, hy, rfl⟩ := List.mem_map.1 hx
   obtain ⟨l, hl, rfl⟩ := List.mem_map.1 hy
   have := (hf2 l hl).2
   show (bytes (f l)).length ≤ 1000
   rw [Aau]; exact this)
  simp only [List.length_map, List.length_singleton] at this
  omega
 have hlen : (xs.map fun l => (⟨l.Name, l.Value⟩ : label_mark)).length = xs.length := List.length_map ..
 have hj : strings_Join std (xs.map f) (ByteArray.mk (Array.mk [44])) = some ⟨(Lib.join ((xs.map f).map (·.data.toList)) [44]).toArray⟩ := by
  unfold strings_Join
  exact ck_t ⟨by rw [List.length_map]; omega, by show (Lib.join ((xs.map f).map (·.data.toList)) [44]).length ≤ _; omega⟩
 have jz : (ByteArray.mk (Lib.join ((xs.map f).map (·.data.toList)) [44]).toArray).size ≤ 8008 := by rw [Af0, Adh]; exact hjl
 generalize hJ : ByteArray.mk (Lib.join ((xs.map f).map (·.data.toList)) [44]).toArray = J at hj jz
 have q1 : (ByteArray.mk (Array.mk [123])).size = 1 := rfl
 have q2 : (ByteArray.mk (Array.mk [125])).size = 1 := rfl
 have := Ah3 (B := Ajw std (xs.map fun l => (⟨l.Name, l.Value⟩ : label_mark))) (fun i (_ : Unit) => ((xs.take i).map f, (i : Int))) xs (fun _ _ (_ : Unit) => (.inl () : Unit ⊕ (ByteArray × Int))) (fun _ => (ByteArray.mk (Array.mk [123]) ++ J ++ ByteArray.mk (Array.mk [125]), 0)) (fun i x u hx hi => by
  unfold Ajw
  simp only
  have hx2 : (xs.map fun l => (⟨l.Name, l.Value⟩ : label_mark))[i]? = some ⟨x.Name, x.Value⟩ := by rw [List.getElem?_map, hx]; rfl
  rw [Aad, hlen, lssT hi, Aag, ck_t (inbT hi), Aax (t := TyS.mark) hx2, (hf2 x (Adq hx)).1, bd_some, ck_t (show std.appOk TyS.str 16 ((xs.take i).map f) [f x] from ⟨by simp; omega, by simp; omega⟩), s_add, wrap_succ hi (by unfold big63; omega), take_snoc hx, List.map_append]
  rfl) (fun _ => by
  unfold Ajw
  simp only
  rw [Aad, hlen, lssF, br_false, List.take_length, hj, bd_some, s_cat, s_cat, ck_t (show std.catOk _ _ by rw [Aex, q1]; omega), ck_t (show std.catOk _ _ by rw [Aex, ByteArray.size_append, q1, q2]; omega)]
  rfl) ()
 rw [Apf] at this
 exact ⟨_, this, by rw [ByteArray.size_append, ByteArray.size_append, q1, q2]; omega, by rw [← hJ]; rfl⟩
theorem Ann (xs : List Label) (hf : fitL Aiy xs) (h : labelsS xs = true) : ∃ s, Ahq std xs = some (s, 0) ∧ s.size ≤ 10000 := by
 obtain ⟨s, h1, h2, _⟩ := Api xs hf h
 exact ⟨s, h1, h2⟩
end Go.PL
namespace Go.PL
set_option linter.unusedSimpArgs false
set_option linter.unusedVariables false
set_option linter.unusedSectionVars false
open Tys (Ty U)
open Enc (sz enc dflt tb ofB toB)
open Dec (dec dok)
set_option maxRecDepth 100000
theorem Loop_go {S ε α σ : Type} {B : S → Option (S ⊕ ε)} (enc : Nat → σ → S) (xs : List α) (next : Nat → α → σ → σ) (I : Nat → σ → Prop) (G : ε → Prop)
  (h1 : ∀ i x s, xs[i]? = some x → I i s → B (enc i s) = some (.inl (enc (i + 1) (next i x s))) ∧ I (i + 1) (next i x s))
  (h2 : ∀ s, I xs.length s → ∃ e, B (enc xs.length s) = some (.inr e) ∧ G e) (s0 : σ) (h0 : I 0 s0) : ∃ e, Loop B (enc 0 s0) = some e ∧ G e := by
 have key : ∀ (n i : Nat) (s : σ), i + n = xs.length → I i s → ∃ e, Loop B (enc i s) = some e ∧ G e := by
  intro n
  induction n with
  | zero =>
   intro i s hi hI
   obtain rfl : i = xs.length := by omega
   obtain ⟨e, he, hg⟩ := h2 s hI
   exact ⟨e, by rw [Acn, he], hg⟩
  | succ n ih =>
   intro i s hi hI
   have hl : i < xs.length := by omega
   obtain ⟨h3, h4⟩ := h1 i xs[i] s (List.getElem?_eq_getElem hl) hI
   obtain ⟨e, he, hg⟩ := ih (i + 1) _ (by omega) h4
   exact ⟨e, by rw [Acn, h3]; exact he, hg⟩
 exact key xs.length 0 s0 (by omega) h0
theorem Atd {α : Type} {l : List α} {n : Nat} (x : α) (h : l.length ≤ n) : (l ++ [x]).length ≤ n + 1 := by
 rw [List.length_append, List.length_singleton]; omega
theorem Aq1 (r : Rule) (hf : Ak8 r) (h : ruleS r = true) : ∃ v, Agi std r = some v ∧ v.1.length ≤ 8 := by
 have h0 := h
 simp only [ruleS, timeS, Bool.and_eq_true, decide_eq_true_eq] at h0
 obtain ⟨⟨⟨⟨⟨⟨⟨⟨⟨⟨⟨⟨_, _⟩, a1⟩, a2⟩, b1, b2⟩, c1, c2⟩, d1⟩, d2⟩, e1⟩, e2⟩, _⟩, hl⟩, _⟩ := h0
 obtain ⟨s, hs, _⟩ := Ann r.Labels hf.2.2 hl
 unfold Agi
 rw [Ala r hf, bd_some, h, s_not, Bool.not_true, br_false, hs, bd_some]
 have hw : Aln std = some () := rfl
 rw [hw, bd_some, ck_t (show std.inb r.How (Int.ofNat 6) from ⟨by omega, by show r.How < 6; omega⟩)]
 have hn : ∀ n ∈ [r.Limit, r.For, r.Keep, r.Tries], -9223372036854775808 ≤ n ∧ n ≤ 9223372036854775807 := by
  intro n hn
  simp only [List.mem_cons, List.mem_nil_iff, or_false] at hn
  rcases hn with rfl | rfl | rfl | rfl <;> omega
 refine Loop_go (B := Ae2 std r (s, 0)) (fun i (l : List ByteArray) => (l, (i : Int))) [r.Limit, r.For, r.Keep, r.Tries] (fun _ n l => l ++ [⟨(Lib.itoa n).toArray⟩]) (fun i l => l.length ≤ 3 + i ∧ i ≤ 4) (fun v => v.1.length ≤ 8) (fun i n l hx ⟨hI, hi4⟩ => ?_) (fun l ⟨hI, _⟩ => ?_) _ ⟨by simp, by omega⟩
 ·have hi := Adt hx
  simp only [List.length_cons, List.length_nil] at hi
  refine ⟨?_, Atd _ hI, by omega⟩
  unfold Ae2
  simp only
  have hI2 : strconv_Itoa std n = some ⟨(Lib.itoa n).toArray⟩ := by unfold strconv_Itoa; exact ck_t (hn n (Adq hx))
  rw [Aad, lssT (Adt hx), Aag, ck_t (inbT (Adt hx)), Aax (t := TyS.int) hx, hI2, bd_some, ck_t (show std.appOk TyS.str 16 l [_] from ⟨by simp; omega, by simp; omega⟩), s_add, wrap_succ (Adt hx) (by unfold big63; simp)]
  rfl
 ·unfold Ae2
  simp only
  simp only [List.length_cons, List.length_nil] at hI
  rw [Aad, lssF, br_false, ck_t (show std.appOk TyS.str 16 l [s] from ⟨by simp; omega, by simp; omega⟩)]
  exact ⟨_, rfl, by show (l ++ [s]).length ≤ 8; rw [List.length_append, List.length_singleton]; omega⟩
theorem An7 (n : Int) (h0 : 0 ≤ n) (h1 : n ≤ 99) : ∃ t, Ajd std n = some t ∧ t.size = 2 := by
 unfold Ajd
 have q1 : std.ar .quo .i64 n 10 = n / 10 := by rw [s_quo, tdiv0 h0, w64 (by omega)]
 have q2 : std.ar .rem .i64 n 10 = n % 10 := by rw [s_rem, tmod0 h0]
 have a1 : std.ar .add .i64 48 (n / 10) = 48 + n / 10 := by rw [s_add, w64 (by omega)]
 have a2 : std.ar .add .i64 48 (n % 10) = 48 + n % 10 := by rw [s_add, w64 (by omega)]
 rw [q1, q2, a1, a2, A29, A29, w8 (by omega), w8 (by omega), ck_t (show std.u8ok _ from ⟨by omega, by omega⟩), ck_t (show std.u8ok _ from ⟨by omega, by omega⟩), A3v]
 exact ⟨_, rfl, rfl⟩
theorem Ajq (n : Int) (h0 : 0 ≤ n) (h1 : n ≤ 1440) : ∃ t, Afk std n = some t ∧ t.size = 5 := by
 unfold Afk
 have q1 : std.ar .quo .i64 n 60 = n / 60 := by rw [s_quo, tdiv0 h0, w64 (by omega)]
 have q2 : std.ar .rem .i64 n 60 = n % 60 := by rw [s_rem, tmod0 h0]
 obtain ⟨a, ha, la⟩ := An7 (n / 60) (by omega) (by omega)
 obtain ⟨b, hb, lb⟩ := An7 (n % 60) (by omega) (by omega)
 have z : (ByteArray.mk (Array.mk [58])).size = 1 := rfl
 rw [q1, q2, ha, bd_some, ck_t (show std.catOk _ _ by rw [Aex, la, z]; omega), hb, bd_some, s_cat, s_cat, ck_t (show std.catOk _ _ by rw [Aex, ByteArray.size_append, la, lb, z]; omega)]
 exact ⟨_, rfl, by rw [ByteArray.size_append, ByteArray.size_append, la, lb, z]⟩
def dayT (i : Nat) : ByteArray := std.sel [ByteArray.mk (Array.mk [109, 111, 110]), ByteArray.mk (Array.mk [116, 117, 101]), ByteArray.mk (Array.mk [119, 101, 100]), ByteArray.mk (Array.mk [116, 104, 117]), ByteArray.mk (Array.mk [102, 114, 105]), ByteArray.mk (Array.mk [115, 97, 116]), ByteArray.mk (Array.mk [115, 117, 110])] (i : Int)
theorem dayT_size (i : Nat) (h : i < 7) : (dayT i).size = 3 := by
 have : i = 0 ∨ i = 1 ∨ i = 2 ∨ i = 3 ∨ i = 4 ∨ i = 5 ∨ i = 6 := by omega
 rcases this with rfl | rfl | rfl | rfl | rfl | rfl | rfl <;> rfl
theorem Ate (h : Hours) (hs : hourS h = true) : ∃ v, Ags std h = some v := by
 have h0 := hs
 simp only [hourS, Bool.and_eq_true, decide_eq_true_eq] at h0
 obtain ⟨⟨⟨⟨⟨⟨_, _⟩, _⟩, f0⟩, f1⟩, f2⟩, t1⟩ := h0
 obtain ⟨a, ha, la⟩ := Ajq h.From f0 (by omega)
 obtain ⟨b, hb, lb⟩ := Ajq h.To (by omega) t1
 unfold Ags
 rw [Alb h, bd_some, hs, s_not, Bool.not_true, br_false]
 have := Loop_go (B := Afl std h) (fun i (l : List ByteArray) => (l, (i : Int))) (List.range 7) (fun i _ l => if std.cmp .eql (std.ar .and .i64 (std.ar .shr .i64 h.Days (i : Int)) 1) 1 = true then l ++ [dayT i] else l) (fun i l => i ≤ 7 ∧ l.length ≤ i ∧ ∀ x ∈ l, x.size ≤ 3) (fun _ => True) (fun i n l hx ⟨hi7, hI, hz⟩ => by
  have hi : i < 7 := by have := Adt hx; simpa using this
  refine ⟨?_, by omega, ?_, ?_⟩
  ·unfold Afl
   simp only
   rw [show std.cmp .lss (i : Int) 7 = true from lssT (n := 7) hi, Aag, ck_t (show std.inb (i : Int) (Int.ofNat 7) from inbT (n := 7) hi), ck_t (show std.nn (i : Int) by show (0 : Int) ≤ _; omega), s_add, wrap_succ (n := 7) hi (by unfold big63; omega)]
   cases std.cmp .eql (std.ar .and .i64 (std.ar .shr .i64 h.Days (i : Int)) 1) 1 with
   | true =>
    rw [Aag, if_pos rfl]
    have hA : std.appOk TyS.str 16 l [dayT i] := ⟨by simp; omega, by simp; omega⟩
    exact ck_t hA
   | false => rfl
  ·split
   ·exact Atd _ hI
   ·omega
  ·split
   ·intro x hx
    rcases List.mem_append.1 hx with hx | hx
    ·exact hz x hx
    ·rw [List.mem_singleton.1 hx, dayT_size i hi]; omega
   ·exact hz) (fun l ⟨_, hI, hz⟩ => by
  simp only [List.length_range] at hI
  unfold Afl
  simp only [List.length_range]
  have hj := A08 [44] (l.map (·.data.toList)) 3 (fun x hx => by
   obtain ⟨y, hy, rfl⟩ := List.mem_map.1 hx
   show (bytes y).length ≤ 3
   rw [Aau]; exact hz y hy)
  simp only [List.length_map, List.length_singleton] at hj
  have hJ : strings_Join std l (ByteArray.mk (Array.mk [44])) = some ⟨(Lib.join (l.map (·.data.toList)) [44]).toArray⟩ := by
   unfold strings_Join
   exact ck_t ⟨by omega, by show (Lib.join (l.map (·.data.toList)) [44]).length ≤ _; omega⟩
  have jz : (ByteArray.mk (Lib.join (l.map (·.data.toList)) [44]).toArray).size ≤ 28 := by rw [Af0, Adh]; omega
  generalize ByteArray.mk (Lib.join (l.map (·.data.toList)) [44]).toArray = J at hJ jz
  have z1 : (ByteArray.mk (Array.mk [32])).size = 1 := rfl
  have z2 : (ByteArray.mk (Array.mk [45])).size = 1 := rfl
  rw [show std.cmp .lss ((7 : Nat) : Int) 7 = false from rfl, br_false, hJ, bd_some, s_cat, ck_t (show std.catOk _ _ by rw [Aex, z1]; omega), ha, bd_some, s_cat, ck_t (show std.catOk _ _ by rw [Aex, ByteArray.size_append, z1, la]; omega), s_cat, ck_t (show std.catOk _ _ by rw [Aex, ByteArray.size_append, ByteArray.size_append, z1, z2, la]; omega), hb, bd_some, s_cat, ck_t (show std.catOk _ _ by rw [Aex, ByteArray.size_append, ByteArray.size_append, ByteArray.size_append, z1, z2, la, lb]; omega)]
  exact ⟨_, rfl, trivial⟩) [] ⟨by omega, by simp, fun x hx => by cases hx⟩
 obtain ⟨e, he, _⟩ := this
 exact ⟨e, he⟩
end Go.PL
namespace Go.PL
set_option linter.unusedSimpArgs false
set_option linter.unusedVariables false
set_option linter.unusedSectionVars false
open Tys (Ty U)
open Enc (sz enc dflt tb ofB toB)
open Dec (dec dok)
set_option maxRecDepth 100000
theorem Ap9 (b : Bool) (x : Inhibit) (hf : Ahr x) (h : Aek x = true) : Ae1 std b x = some (Aa0 x, b) := by
 have h1 := config_quiet_eq b x hf h
 unfold Ac6 at h1
 cases hc : Ae1 std b x with
 | none => rw [hc] at h1; cases h1
 | some v => rw [hc] at h1; exact h1
end Go.PL
namespace Go.PL
set_option linter.unusedSimpArgs false
set_option linter.unusedVariables false
set_option linter.unusedSectionVars false
open Tys (Ty U)
open Enc (sz enc dflt tb ofB toB)
open Dec (dec dok)
set_option maxRecDepth 100000
end Go.PL
namespace Go.PL
set_option linter.unusedSimpArgs false
set_option linter.unusedVariables false
set_option linter.unusedSectionVars false
open Tys (Ty U)
open Enc (sz enc dflt tb ofB toB)
open Dec (dec dok)
set_option maxRecDepth 100000
theorem wrap0 (n : Int) : 0 ≤ IntKind.u64.wrap n := by
 unfold IntKind.wrap
 simp [IntKind.signed, IntKind.bits]
 omega
theorem wrap8 (n : Int) : 0 ≤ IntKind.u8.wrap n ∧ IntKind.u8.wrap n < 256 := by
 unfold IntKind.wrap
 simp [IntKind.signed, IntKind.bits]
 omega
theorem Loop_up {S ε : Type} {B : S → Option (S ⊕ ε)} (I : Nat → S → Prop) (P : ε → Prop) (n : Nat) (h : ∀ i s, i < n → I i s → ∃ s', B s = some (.inl s') ∧ I (i + 1) s') (he : ∀ s, I n s → ∃ e, B s = some (.inr e) ∧ P e) : ∀ (k i : Nat) (s : S), i + k = n → I i s → ∃ e, Loop B s = some e ∧ P e
 | 0, i, s, hi, hI => by
  obtain rfl : i = n := by omega
  obtain ⟨e, h1, h2⟩ := he s hI
  exact ⟨e, by rw [Acn, h1], h2⟩
 | k + 1, i, s, hi, hI => by
  obtain ⟨s', h1, h2⟩ := h i s (by omega) hI
  rw [Acn, h1]
  exact Loop_up I P n h he k (i + 1) s' (by omega) h2
theorem nnA (a b : Int) : std.nn (std.ar .and .u64 a b) := wrap0 _
theorem nnS (a b : Int) : std.nn (std.ar .sub .u64 a b) := wrap0 _
theorem Ae4 (x n : Int) : ∃ r, Ac8 std x n = some r := by
 unfold Ac8 Aeu
 rw [ck_t (nnA _ _), ck_t (nnS _ _)]
 exact ⟨_, rfl⟩
theorem addN {a b : Nat} (h : a + b ≤ 1000) : std.ar .add .i64 (a : Int) (b : Int) = ((a + b : Nat) : Int) := by
 rw [s_add, w64 (by omega)]; rfl
theorem mulN {a : Nat} (h : a ≤ 100) : std.ar .mul .i64 4 (a : Int) = ((4 * a : Nat) : Int) := by
 rw [s_mul, w64 (by omega)]; rfl
theorem subN {a b : Nat} (h : b ≤ a) (ha : a ≤ 1000) : std.ar .sub .i64 (a : Int) (b : Int) = ((a - b : Nat) : Int) := by
 rw [s_sub, w64 (by omega)]; omega
theorem inN {a n : Nat} (h : a < n) : std.inb (a : Int) (Int.ofNat n) := ⟨by omega, by show (a : Int) < (n : Int); omega⟩
theorem inL {a n : Nat} {xs : List Int} (hl : xs.length = n) (h : a < n) : std.inb (a : Int) (std.len TyS.u32 xs) := ⟨by omega, by show (a : Int) < (xs.length : Int); omega⟩
theorem eqL {n : Nat} {xs : List Int} (hl : xs.length = n) : std.cmp .eql (std.len TyS.u32 xs) (Int.ofNat n) = true := by
 show ((xs.length : Int) == (n : Int)) = true
 rw [hl]; simp
theorem Atf (n : Nat) : (std.rep TyS.u32 (Int.ofNat n) 0).length = n := by show (List.replicate (Int.ofNat n).toNat _).length = n; simp
theorem Aqa {xs : List Int} {i : Int} {x : Int} : (std.set TyS.u32 xs i x).length = xs.length := List.length_set
theorem A0c (s : ByteArray) (hs : s.size = 64) : ∃ r, Akf std s = some r ∧ r.length = 64 := by
 unfold Akf
 have h2 : ∀ row : List Int, row.length = 64 → ∃ e, Loop (Aiw std) (16, row) = some e ∧ e.length = 64 := by
  intro row hr
  refine Loop_up (fun i st => 16 ≤ i ∧ ∃ row : List Int, st = ((i : Int), row) ∧ row.length = 64) (fun e : List Int => e.length = 64) 64 (fun i st hi hI => ?_) (fun st hI => ?_) 48 16 _ rfl ⟨Nat.le_refl _, row, rfl, hr⟩
  ·obtain ⟨h16, row, rfl, hr⟩ := hI
   unfold Aiw
   simp only
   have hlt : std.cmp .lss (i : Int) 64 = true := decide_eq_true (by omega)
   obtain ⟨w8, e8⟩ := Ae4 (std.get TyS.u32 row (std.ar .sub .i64 (i : Int) 2)) 17
   obtain ⟨w9, e9⟩ := Ae4 (std.get TyS.u32 row (std.ar .sub .i64 (i : Int) 2)) 19
   obtain ⟨w12, e12⟩ := Ae4 (std.get TyS.u32 row (std.ar .sub .i64 (i : Int) 15)) 7
   obtain ⟨w13, e13⟩ := Ae4 (std.get TyS.u32 row (std.ar .sub .i64 (i : Int) 15)) 18
   have s15 : std.ar .sub .i64 (i : Int) 15 = ((i - 15 : Nat) : Int) := subN (b := 15) (by omega) (by omega)
   have s2 : std.ar .sub .i64 (i : Int) 2 = ((i - 2 : Nat) : Int) := subN (b := 2) (by omega) (by omega)
   have s7 : std.ar .sub .i64 (i : Int) 7 = ((i - 7 : Nat) : Int) := subN (b := 7) (by omega) (by omega)
   have s16 : std.ar .sub .i64 (i : Int) 16 = ((i - 16 : Nat) : Int) := subN (b := 16) (by omega) (by omega)
   have a1 : std.ar .add .i64 (i : Int) 1 = ((i + 1 : Nat) : Int) := addN (b := 1) (by omega)
   rw [s2] at e8 e9
   rw [s15] at e12 e13
   rw [hlt, Aag, s15, s2, s7, s16, a1, ck_t (inN (by omega)), ck_t (inL hr (by omega)), ck_t (inN (by omega)), ck_t (inL hr (by omega)), e8, bd_some, e9, bd_some, ck_t (inN (by omega)), ck_t (inL hr (by omega)), e12, bd_some, e13, bd_some, ck_t (inN (by omega)), ck_t (inL hr (by omega)), ck_t (inN (by omega)), ck_t (inL hr (by omega))]
   exact ⟨_, rfl, by omega, _, rfl, by rw [Aqa]; exact hr⟩
  ·obtain ⟨_, row, rfl, hr⟩ := hI
   unfold Aiw
   simp only
   rw [show std.cmp .lss ((64 : Nat) : Int) 64 = false from rfl, br_false, ck_t (eqL hr), ck_t (eqL (n := 64) (xs := std.rep TyS.u32 (Int.ofNat 64) 0) (Atf 64)), ck_t ⟨hr⟩]
   exact ⟨_, rfl, hr⟩
 have h1 : ∀ (t : Nat) (row : List Int), t < 16 → row.length = 64 → ∃ e, Loop (Aiv std s t) (0, row) = some e ∧ ∃ row' : List Int, e = .inl (((t + 1 : Nat) : Int), row') ∧ row'.length = 64 := by
  intro t row ht hr
  refine Loop_up (fun i st => ∃ row : List Int, st = ((i : Int), row) ∧ row.length = 64) (fun e : (Int × List Int) ⊕ List Int => ∃ row' : List Int, e = .inl (((t + 1 : Nat) : Int), row') ∧ row'.length = 64) 4 (fun i st hi hI => ?_) (fun st hI => ?_) 4 0 _ rfl ⟨row, rfl, hr⟩
  ·obtain ⟨row, rfl, hr⟩ := hI
   unfold Aiv
   simp only
   have hlt : std.cmp .lss (i : Int) 4 = true := decide_eq_true (by omega)
   have a1 : std.ar .add .i64 (i : Int) 1 = ((i + 1 : Nat) : Int) := addN (b := 1) (by omega)
   rw [hlt, Aag, ck_t (inN (by omega)), ck_t (inL hr (by omega)), mulN (by omega), addN (by omega), a1, ck_t (show std.inb _ (std.slen s) from ⟨by omega, by rw [An1, hs]; omega⟩)]
   exact ⟨_, rfl, _, rfl, by rw [Aqa]; exact hr⟩
  ·obtain ⟨row, rfl, hr⟩ := hI
   unfold Aiv
   simp only
   rw [show std.cmp .lss ((4 : Nat) : Int) 4 = false from rfl, br_false, show std.ar .add .i64 (t : Int) 1 = ((t + 1 : Nat) : Int) from addN (b := 1) (by omega)]
   exact ⟨_, rfl, row, rfl, hr⟩
 refine Loop_up (fun i st => ∃ row : List Int, st = ((i : Int), row) ∧ row.length = 64) (fun e : List Int => e.length = 64) 16 (fun i st hi hI => ?_) (fun st hI => ?_) 16 0 _ rfl ⟨_, rfl, Atf 64⟩
 ·obtain ⟨row, rfl, hr⟩ := hI
  unfold Ak7
  simp only
  have hlt : std.cmp .lss (i : Int) 16 = true := decide_eq_true (by omega)
  obtain ⟨e, e1, row', rfl, e2⟩ := h1 i row hi hr
  rw [hlt, Aag, e1]
  exact ⟨_, rfl, row', rfl, e2⟩
 ·obtain ⟨row, rfl, hr⟩ := hI
  unfold Ak7
  simp only
  obtain ⟨e, e1, e2⟩ := h2 row hr
  rw [show std.cmp .lss ((16 : Nat) : Int) 16 = false from rfl, br_false, e1]
  exact ⟨e, rfl, e2⟩
theorem in8 {xs : List Int} {i : Int} (hl : xs.length = 8) (h : 0 ≤ i ∧ i < 8) : std.inb i (std.len TyS.u32 xs) := ⟨h.1, by show i < (xs.length : Int); omega⟩
theorem A6e {xs : List Int} (hl : xs.length = 8) : (std.put TyS.u32 xs 1 (std.lsub TyS.u32 xs 0 (std.pl 0 (std.mn (std.mi 7 0) (std.mi (Int.ofNat 8) 1))))).length = 8 := by
 show ((xs.take 1 ++ (xs.take 7).drop 0 ++ xs.drop (1 + ((xs.take 7).drop 0).length)).length) = 8
 simp [hl]
theorem A14 (h : List Int) (s : ByteArray) (hl : h.length = 8) (hs : s.size = 64) : ∃ r, Alr std h s = some r ∧ r.length = 8 := by
 unfold Alr
 obtain ⟨w3, e3, l3⟩ := A0c s hs
 rw [ck_t (eqL (n := 8) hl), ck_t (eqL (n := 8) (xs := std.rep TyS.u32 (Int.ofNat 8) 0) (Atf 8)), e3, bd_some]
 have h1 : ∀ row : List Int, row.length = 8 → ∃ e, Loop (Ajx std row) (0, h) = some e ∧ e.length = 8 := by
  intro row5 hr5
  refine Loop_up (fun i st => ∃ row : List Int, st = ((i : Int), row) ∧ row.length = 8) (fun e : List Int => e.length = 8) 8 (fun i st hi hI => ?_) (fun st hI => ?_) 8 0 _ rfl ⟨h, rfl, hl⟩
  ·obtain ⟨row, rfl, hr⟩ := hI
   unfold Ajx
   simp only
   have hlt : std.cmp .lss (i : Int) 8 = true := decide_eq_true (by omega)
   rw [hlt, Aag, ck_t (inN hi), ck_t (inL hr hi), ck_t (inL hr5 hi), show std.ar .add .i64 (i : Int) 1 = ((i + 1 : Nat) : Int) from addN (b := 1) (by omega)]
   exact ⟨_, rfl, _, rfl, by rw [Aqa]; exact hr⟩
  ·obtain ⟨row, rfl, hr⟩ := hI
   unfold Ajx
   simp only
   rw [show std.cmp .lss ((8 : Nat) : Int) 8 = false from rfl, br_false, ck_t (eqL (n := 8) hr), ck_t ⟨hr⟩]
   exact ⟨_, rfl, hr⟩
 refine Loop_up (fun i st => ∃ row : List Int, st = ((i : Int), row) ∧ row.length = 8) (fun e : List Int => e.length = 8) 64 (fun i st hi hI => ?_) (fun st hI => ?_) 64 0 _ rfl ⟨h, rfl, hl⟩
 ·obtain ⟨row, rfl, hr⟩ := hI
  unfold Al6
  simp only
  have hlt : std.cmp .lss (i : Int) 64 = true := decide_eq_true (by omega)
  obtain ⟨w11, e11⟩ := Ae4 (std.get TyS.u32 row 4) 6
  obtain ⟨w12, e12⟩ := Ae4 (std.get TyS.u32 row 4) 11
  obtain ⟨w13, e13⟩ := Ae4 (std.get TyS.u32 row 4) 25
  obtain ⟨w16, e16⟩ := Ae4 (std.get TyS.u32 row 0) 2
  obtain ⟨w17, e17⟩ := Ae4 (std.get TyS.u32 row 0) 13
  obtain ⟨w18, e18⟩ := Ae4 (std.get TyS.u32 row 0) 22
  have hp := A6e hr
  rw [hlt, Aag, ck_t (inN hi), ck_t (inL l3 hi), ck_t (in8 hr (by omega)), ck_t (in8 hr (by omega)), ck_t (in8 hr (by omega)), ck_t (in8 hr (by omega)), ck_t (in8 hr (by omega)), e11, bd_some, e12, bd_some, e13, bd_some, ck_t (in8 hr (by omega)), ck_t (in8 hr (by omega)), e16, bd_some, e17, bd_some, e18, bd_some,
   ck_t (eqL (n := 8) hr), ck_t (show std.subOk 1 (std.pl 1 (std.mi (Int.ofNat 8) 1)) (std.len TyS.u32 row) from ⟨by omega, by decide, by show (1 + (8 - 1) : Int) ≤ (row.length : Int); omega⟩),
   ck_t (show std.subOk 0 (std.pl 0 (std.mi 7 0)) (std.len TyS.u32 row) from ⟨by omega, by decide, by show (0 + (7 - 0) : Int) ≤ (row.length : Int); omega⟩), ck_t (in8 hr (by omega)), ck_t (in8 hp (by omega)), ck_t (in8 (by rw [Aqa]; exact hp) (by omega)),
   show std.ar .add .i64 (i : Int) 1 = ((i + 1 : Nat) : Int) from addN (b := 1) (by omega)]
  exact ⟨_, rfl, _, rfl, by rw [Aqa, Aqa]; exact hp⟩
 ·obtain ⟨row, rfl, hr⟩ := hI
  unfold Al6
  simp only
  obtain ⟨e, e1, e2⟩ := h1 row hr
  rw [show std.cmp .lss ((64 : Nat) : Int) 64 = false from rfl, br_false, e1]
  exact ⟨e, rfl, e2⟩
theorem A4d (l : List UInt8) (n : Int) (h : 0 ≤ n ∧ n < 256) (hl : l.length ≤ 1000) : Aa9 std l n = some (l ++ [std.u8 n]) := by
 unfold Aa9
 rw [Aqm, bd_some, ck_t (show std.u8ok n from h), ck_t (show std.appOk TyS.byte 1 l [std.u8 n] from ⟨by simp; omega, by simp; omega⟩)]
 rfl
theorem A6f (g row : List Int) (hg : True) (hr : row.length = 8) : ∃ e, Loop (Al8 std row) (0, []) = some e ∧ e.size = 32 := by
 have h1 : ∀ (t : Nat) (l : List UInt8), t < 8 → l.length = 4 * t → ∃ e, Loop (Al7 std row (t : Int)) (24, l) = some e ∧ ∃ l', e = .inl (((t + 1 : Nat) : Int), l') ∧ l'.length = 4 * (t + 1) := by
  intro t l ht hl
  refine Loop_up (fun i st => ∃ l : List UInt8, st = ((24 : Int) - 8 * (i : Int), l) ∧ l.length = 4 * t + i) (fun e : (Int × List UInt8) ⊕ ByteArray => ∃ l', e = .inl (((t + 1 : Nat) : Int), l') ∧ l'.length = 4 * (t + 1)) 4 (fun i st hi hI => ?_) (fun st hI => ?_) 4 0 _ rfl ⟨l, rfl, hl⟩
  ·obtain ⟨l, rfl, hl⟩ := hI
   unfold Al7
   simp only
   rw [show std.cmp .geq ((24 : Int) - 8 * (i : Int)) 0 = true from decide_eq_true (by omega), Aag, ck_t (show std.nn _ from (by show (0 : Int) ≤ _; omega)), A4d l _ (show 0 ≤ std.conv .u8 _ ∧ std.conv .u8 _ < 256 from wrap8 _) (by omega), bd_some, s_sub, w64 (by omega)]
   refine ⟨_, rfl, _, Prod.ext (show (24 : Int) - 8 * (i : Int) - 8 = 24 - 8 * ((i + 1 : Nat) : Int) by omega) rfl, ?_⟩
   rw [List.length_append]; simp only [List.length_cons, List.length_nil]; omega
  ·obtain ⟨l, rfl, hl⟩ := hI
   unfold Al7
   simp only
   rw [show std.cmp .geq ((24 : Int) - 8 * ((4 : Nat) : Int)) 0 = false from rfl, br_false, show std.ar .add .i64 (t : Int) 1 = ((t + 1 : Nat) : Int) from addN (b := 1) (by omega)]
   exact ⟨_, rfl, l, rfl, by omega⟩
 refine Loop_up (fun i st => ∃ l : List UInt8, st = ((i : Int), l) ∧ l.length = 4 * i) (fun e : ByteArray => e.size = 32) 8 (fun i st hi hI => ?_) (fun st hI => ?_) 8 0 _ rfl ⟨[], rfl, rfl⟩
 ·obtain ⟨l, rfl, hl⟩ := hI
  unfold Al8
  simp only
  obtain ⟨e, e1, l', rfl, e2⟩ := h1 i l hi hl
  rw [show std.cmp .lss (i : Int) 8 = true from decide_eq_true (by omega), Aag, ck_t (inN hi), ck_t (inL hr hi), e1]
  exact ⟨_, rfl, l', rfl, e2⟩
 ·obtain ⟨l, rfl, hl⟩ := hI
  unfold Al8
  simp only
  rw [show std.cmp .lss ((8 : Nat) : Int) 8 = false from rfl, br_false]
  unfold strings_Builder_String
  rw [ck_t (by omega)]
  exact ⟨_, rfl, by show l.toArray.size = 32; simpa using hl⟩
theorem first_some : ∃ g : List Int, Alq std = some g ∧ g.length = 8 := by
 unfold Alq
 rw [ck_t (eqL (n := 8) (xs := std.rep TyS.u32 (Int.ofNat 8) 0) (Atf 8)), ck_t (⟨rfl⟩ : LenIs _ 8)]
 exact ⟨_, rfl, rfl⟩
theorem Aw6 (s : ByteArray) (a b : Nat) (h : a ≤ b) (hb : b ≤ s.size) : (std.ssub s (a : Int) (b : Int)).size = b - a := by
 show (s.extract (a : Int).toNat (b : Int).toNat).size = b - a
 rw [ByteArray.size_extract]
 simp only [Int.toNat_natCast]
 omega
theorem A5e {s : ByteArray} (h : s.size = 0) : std.scmp .neq s (ByteArray.mk (Array.mk [])) = false := by
 rw [Aqk, Alu]; exact decide_eq_false (by omega)
theorem A6g {s : ByteArray} (h : 0 < s.size) : std.scmp .neq s (ByteArray.mk (Array.mk [])) = true := by
 rw [Aqk, Alu]; exact decide_eq_true (by omega)
theorem Avk : ∀ (k : Nat) (s : ByteArray) (g : List Int), s.size = 64 * k → s.size ≤ 6000000 → g.length = 8 → ∃ e, Loop (Al9 std) (s, g) = some e ∧ e.size = 32
 | 0, s, g, hs, _, hg => by
  rw [Acn]
  unfold Al9
  simp only
  obtain ⟨e, e1, e2⟩ := A6f g g trivial hg
  rw [A5e (by omega), br_false, ck_t (eqL (n := 8) hg), e1]
  exact ⟨e, rfl, e2⟩
 | k + 1, s, g, hs, hm, hg => by
  rw [Acn]
  unfold Al9
  simp only
  have z1 : (std.ssub s 0 64).size = 64 := Aw6 s 0 64 (by omega) (by omega)
  have z2 : (std.ssub s 64 (std.slen s)).size = s.size - 64 := Aw6 s 64 s.size (by omega) (by omega)
  obtain ⟨w, e1, hw⟩ := A14 g (std.ssub s 0 64) hg z1
  rw [A6g (by omega), Aag, ck_t (eqL (n := 8) hg), ck_t (show std.subOk 0 64 (std.slen s) from ⟨by omega, by decide, by show (64 : Int) ≤ (s.size : Int); omega⟩), e1, bd_some, ck_t (eqL (n := 8) hw), ck_t (show std.subOk 64 (std.slen s) (std.slen s) from ⟨by decide, by show (64 : Int) ≤ (s.size : Int); omega, by show (s.size : Int) ≤ (s.size : Int); omega⟩)]
  exact Avk k _ w (by omega) (by omega) hw
theorem A5f (s : ByteArray) (hs : s.size ≤ 5000000) : ∃ e, Aox std s = some e ∧ e.size = 32 := by
 unfold Aox
 have hn : std.ar .rem .i64 (std.ar .sub .i64 119 (std.ar .rem .i64 (std.slen s) 64)) 64 = (((119 - s.size % 64) % 64 : Nat) : Int) := by
  have h1 : std.ar .rem .i64 (std.slen s) 64 = ((s.size % 64 : Nat) : Int) := by
   rw [s_rem, An1, tmod0 (by omega)]; rfl
  have h2 : std.ar .sub .i64 119 ((s.size % 64 : Nat) : Int) = ((119 - s.size % 64 : Nat) : Int) := subN (a := 119) (by omega) (by omega)
  rw [h1, h2]
  rw [s_rem, tmod0 (by omega)]; rfl
 rw [hn]
 generalize hk : (119 - s.size % 64) % 64 = k
 have hk1 : k < 64 := by omega
 have z0 : (ByteArray.mk (Array.mk [0])).size = 1 := rfl
 have z8 : (ByteArray.mk (Array.mk [128])).size = 1 := rfl
 unfold strings_Repeat
 rw [ck_t (show (0 : Int) ≤ (k : Int) ∧ (k : Int) ≤ 9223372036854775807 ∧ (ByteArray.mk (Array.mk [0])).size * ((k : Int)).toNat ≤ 140737488355328 from ⟨by omega, by omega, by rw [z0]; omega⟩), bd_some]
 generalize hr : (⟨(Lib.repeatL (ByteArray.mk (Array.mk [0])).data.toList ((k : Int)).toNat).toArray⟩ : ByteArray) = p
 have hp : p.size = k := by
  rw [← hr]
  show (Lib.repeatL [0] k).toArray.size = k
  rw [List.size_toArray]
  clear hr hn hk hk1
  induction k with
  | zero => rfl
  | succ k ih => simp [Lib.repeatL] at ih ⊢ ; try omega
 have z9 : (std.cat (ByteArray.mk (Array.mk [128])) p).size = 1 + k := by rw [s_cat, ByteArray.size_append, z8, hp]
 rw [ck_t (show std.catOk _ _ by rw [Aex, z8, hp]; omega), ck_t (show std.catOk _ _ by rw [Aex, z9]; omega)]
 generalize hq : std.cat s (std.cat (ByteArray.mk (Array.mk [128])) p) = q
 have hqs : q.size = s.size + 1 + k := by rw [← hq, s_cat, ByteArray.size_append, z9]; omega
 refine Loop_up (fun i st => ∃ q : ByteArray, st = (q, (56 : Int) - 8 * (i : Int)) ∧ q.size = s.size + 1 + k + i) (fun e : ByteArray => e.size = 32) 8 (fun i st hi hI => ?_) (fun st hI => ?_) 8 0 _ rfl ⟨q, rfl, hqs⟩
 ·obtain ⟨q, rfl, hq⟩ := hI
  unfold Aod
  simp only
  have zz : ∀ x : UInt8, (std.b2s [x]).size = 1 := fun _ => rfl
  rw [show std.cmp .geq ((56 : Int) - 8 * (i : Int)) 0 = true from decide_eq_true (by omega), Aag, ck_t (show std.nn _ from (by show (0 : Int) ≤ _; omega)), ck_t (show std.u8ok (std.conv .u8 _) from wrap8 _), ck_t (show std.catOk _ _ by rw [Aex, zz]; omega), s_sub, w64 (by omega)]
  refine ⟨_, rfl, _, Prod.ext rfl (show (56 : Int) - 8 * (i : Int) - 8 = 56 - 8 * ((i + 1 : Nat) : Int) by omega), ?_⟩
  rw [s_cat, ByteArray.size_append, zz, hq]; omega
 ·obtain ⟨q, rfl, hq⟩ := hI
  unfold Aod
  simp only
  obtain ⟨g, e1, hg⟩ := first_some
  obtain ⟨e, e2, he⟩ := Avk (q.size / 64) q g (by omega) (by omega) hg
  rw [show std.cmp .geq ((56 : Int) - 8 * ((8 : Nat) : Int)) 0 = false from rfl, br_false, e1, bd_some, ck_t (eqL (n := 8) (xs := std.rep TyS.u32 (Int.ofNat 8) 0) (Atf 8)), ck_t (eqL (n := 8) hg), e2]
  exact ⟨e, rfl, he⟩
theorem and15 (y : Nat) : 0 ≤ std.ar .and .u8 (y : Int) 15 ∧ std.ar .and .u8 (y : Int) 15 < 16 := by
 rw [s_and]
 have h1 : (BitVec.ofInt IntKind.u8.bits (y : Int) &&& BitVec.ofInt IntKind.u8.bits 15).toNat ≤ 15 := by
  rw [BitVec.toNat_and]
  exact Nat.and_le_right
 generalize (BitVec.ofInt IntKind.u8.bits (y : Int) &&& BitVec.ofInt IntKind.u8.bits 15).toNat = n at h1
 unfold IntKind.wrap
 simp [IntKind.signed, IntKind.bits]
 omega
theorem A4e (s : ByteArray) (hs : s.size ≤ 5000000) : ∃ e, Akg std s = some e ∧ e.size = 16 := by
 unfold Akg
 obtain ⟨w, e1, hw⟩ := A5f s hs
 rw [e1, bd_some, ck_t (show std.subOk 0 8 (std.slen w) from ⟨by decide, by decide, by show (8 : Int) ≤ (w.size : Int); omega⟩)]
 have z1 : (std.ssub w 0 8).size = 8 := Aw6 w 0 8 (by omega) (by omega)
 have z2 : std.len tb (std.s2b (std.ssub w 0 8)) = 8 := by
  rw [s_len]
  have : (std.s2b (std.ssub w 0 8)).length = 8 := by rw [Ax7]; exact (Aau _).trans z1
  omega
 have zd : std.slen (ByteArray.mk (Array.mk [48, 49, 50, 51, 52, 53, 54, 55, 56, 57, 97, 98, 99, 100, 101, 102])) = 16 := rfl
 refine Loop_up (fun i st => ∃ l : List UInt8, st = ((i : Int), l) ∧ l.length = 2 * i) (fun e : ByteArray => e.size = 16) 8 (fun i st hi hI => ?_) (fun st hI => ?_) 8 0 _ rfl ⟨[], rfl, rfl⟩
 ·obtain ⟨l, rfl, hl⟩ := hI
  unfold Am8
  simp only
  rw [z2, zd]
  generalize (std.get tb (std.s2b (std.ssub w 0 8)) (i : Int)) = x
  have hx : x.1.1.1 < 256 := x.1.1.2
  generalize hy : x.1.1.1 = y at hx
  have hsh : std.inb (std.ar .shr .u8 (Int.ofNat y) 4) 16 := by
   show 0 ≤ std.ar .shr .u8 (y : Int) 4 ∧ std.ar .shr .u8 (y : Int) 4 < 16
   rw [s_shr]
   show 0 ≤ (y : Int).fdiv 16 ∧ (y : Int).fdiv 16 < 16
   rw [Int.fdiv_eq_ediv_of_nonneg _ (by omega)]; omega
  have han : std.inb (std.ar .and .u8 (Int.ofNat y) 15) 16 := by
   have h1 := and15 y
   show 0 ≤ std.ar .and .u8 (y : Int) 15 ∧ std.ar .and .u8 (y : Int) 15 < 16
   exact h1
  have hsg : ∀ s i, 0 ≤ std.sget s i ∧ std.sget s i < 256 := by
   intro s i
   show 0 ≤ (((s.data.getD i.toNat 0).toNat : Nat) : Int) ∧ (((s.data.getD i.toNat 0).toNat : Nat) : Int) < 256
   have := (s.data.getD i.toNat 0).toNat_lt
   omega
  rw [show std.cmp .lss (i : Int) 8 = true from decide_eq_true (by omega), Aag, ck_t (show std.inb (i : Int) 8 from ⟨by omega, by omega⟩), ck_t hsh, A4d l _ (hsg _ _) (by omega), bd_some, ck_t han, A4d _ _ (hsg _ _) (by rw [List.length_append]; simp; omega), bd_some, show std.ar .add .i64 (i : Int) 1 = ((i + 1 : Nat) : Int) from addN (b := 1) (by omega)]
  refine ⟨_, rfl, _, rfl, ?_⟩
  rw [List.length_append, List.length_append]; simp only [List.length_cons, List.length_nil]; omega
 ·obtain ⟨l, rfl, hl⟩ := hI
  unfold Am8
  simp only
  rw [z2, show std.cmp .lss ((8 : Nat) : Int) 8 = false from rfl, br_false]
  unfold strings_Builder_String
  rw [ck_t (by omega)]
  exact ⟨_, rfl, by show l.toArray.size = 16; simpa using hl⟩
end Go.PL
namespace Go.PL
set_option linter.unusedSimpArgs false
set_option linter.unusedVariables false
set_option linter.unusedSectionVars false
open Tys (Ty U)
open Enc (sz enc dflt tb ofB toB)
open Dec (dec dok)
set_option maxRecDepth 100000
theorem Adu (b : Bool) (l : List ByteArray) : ∃ v, Aa7 std b l = some v ∧ v.1.size ≤ 5000000 ∧ (v.2 = false → b = false ∧ v.1 = bindS l) := by
 obtain ⟨s, e, h1, h2, h3⟩ := Atc l
 unfold Aa7
 rw [h1, bd_some]
 refine ⟨_, rfl, h2, fun h => ?_⟩
 have h' : (b || (e != 0)) = false := h
 rw [Bool.or_eq_false_iff] at h'
 exact ⟨h'.1, h3 (by simpa using h'.2)⟩
def onT (b : Bool) : ByteArray := if b then ByteArray.mk (Array.mk [49]) else ByteArray.mk (Array.mk [48])
def Ag5 : Nat → Route → ByteArray
 | 0, _ => ⟨#[]⟩
 | n + 1, r => bindS ([r.Receiver, Akq r.Match, bindS r.By, bindS r.Mute] ++ ([r.Wait, r.Every, r.Repeat].map fun n => numS n.toNat) ++ [onT r.On, bindS (r.Routes.map (Ag5 n))])
theorem Avl (rf : Bool → Route → Option (ByteArray × Bool)) (T : Route → ByteArray) (r : Route) (t5 : List ByteArray) (b0 : Bool) (h5 : t5.length ≤ 10) (hr : r.Routes.length ≤ 16) (on : ByteArray)
  (hk : ∀ k ∈ r.Routes, ∀ b, ∃ v, rf b k = some v ∧ (v.2 = false → b = false ∧ v.1 = T k)) (B : List ByteArray × Int × Bool → Option ((List ByteArray × Int × Bool) ⊕ (ByteArray × Bool)))
  (hB : ∀ l i b, B (l, i, b) = br (std.cmp .lss i (std.len TyS.route r.9)) (ck (std.inb i (std.len TyS.route r.9)) <| bd (rf b (std.get TyS.route r.9 i)) fun w8 => ck (std.appOk TyS.str 16 l [w8.1]) <| some (.inl ((std.app TyS.str l [w8.1], std.ar .add .i64 i 1, w8.2)))) (rt (bd (Aa7 std b l) fun w10 => ck (std.appOk TyS.str 16 t5 [on, w10.1]) <| bd (Aa7 std w10.2 (std.app TyS.str t5 [on, w10.1])) fun w12 => some w12))) :
  ∃ v, Loop B ([], 0, b0) = some v ∧ (v.2 = false → b0 = false ∧ v.1 = bindS (t5 ++ [on, bindS (r.Routes.map T)])) := by
 exact Loop_go (B := B) (fun i (s : List ByteArray × Bool) => (s.1, (i : Int), s.2)) r.Routes (fun _ k s => (s.1 ++ [((rf s.2 k).getD (⟨#[]⟩, false)).1], ((rf s.2 k).getD (⟨#[]⟩, false)).2)) (fun i s => i ≤ r.Routes.length ∧ s.1.length ≤ i ∧ (s.2 = false → b0 = false ∧ s.1 = (r.Routes.take i).map T)) (fun v => v.2 = false → b0 = false ∧ v.1 = bindS (t5 ++ [on, bindS (r.Routes.map T)])) (fun i k s hx ⟨hi, hI, hf⟩ => by
  have hlt := Adt hx
  obtain ⟨v, hv, hT⟩ := hk k (Adq hx) s.2
  refine ⟨?_, by omega, Atd _ hI, ?_⟩
  ·rw [hB, Aad, lssT hlt, Aag, ck_t (inbT hlt), Aax (t := TyS.route) hx, hv, bd_some, ck_t (show std.appOk TyS.str 16 s.1 [v.1] from ⟨by simp; omega, by simp; omega⟩), s_add, wrap_succ hlt (by unfold big63; omega)]
   rfl
  ·rw [hv]
   intro h
   obtain ⟨h1, h2⟩ := hT h
   obtain ⟨h3, h4⟩ := hf h1
   refine ⟨h3, ?_⟩
   rw [take_snoc hx, List.map_append, ← h4]
   show s.1 ++ [v.1] = s.1 ++ [T k]
   rw [h2]) (fun s ⟨_, hI, hf⟩ => by
  obtain ⟨w10, h10, _, g10⟩ := Adu s.2 s.1
  obtain ⟨w12, h12, _, g12⟩ := Adu w10.2 (std.app TyS.str t5 [on, w10.1])
  rw [hB, Aad, lssF, br_false, h10, bd_some, ck_t (show std.appOk TyS.str 16 t5 [on, w10.1] from ⟨by simp; omega, by simp; omega⟩), h12, bd_some]
  refine ⟨_, rfl, fun h => ?_⟩
  obtain ⟨h1, h2⟩ := g12 h
  obtain ⟨h3, h4⟩ := g10 h1
  obtain ⟨h5, h6⟩ := hf h3
  refine ⟨h5, ?_⟩
  rw [h2, h4, h6, List.take_length]
  rfl) ([], b0) ⟨by omega, by simp, fun h => ⟨h, by simp⟩⟩
theorem Al1 : ∀ (n : Nat) (b : Bool) (r : Route) (d : Nat), SizeOf.sizeOf r < n → RouteFit r → Aez d r = true → ∃ v, Acm std n b r = some v ∧ (v.2 = false → b = false ∧ v.1 = Ag5 n r)
 | 0, b, r, d, h, _, _ => absurd h (Nat.not_lt_zero _)
 | n + 1, b, r, d, h, hf, hs => by
  obtain ⟨f1, f2, f3, f4, f5, f6⟩ := Atb hf
  obtain ⟨e, rfl⟩ := Ap2 hs
  obtain ⟨k1, k2⟩ := Agn hs
  have h0 := hs
  simp only [Aez, oneS, fromS, Bool.and_eq_true, decide_eq_true_eq] at h0
  obtain ⟨⟨⟨⟨⟨⟨⟨⟨_, hm⟩, _⟩, _⟩, _⟩, w0, w1⟩, e0, e1⟩, r0, r1⟩, _⟩ := h0
  have hk : ∀ k ∈ r.Routes, ∀ b, ∃ v, Acm std n b k = some v ∧ (v.2 = false → b = false ∧ v.1 = Ag5 n k) := fun k hk b => Al1 n b k e (by have := Ak0 hk; omega) (f6 k hk) (k2 k hk)
  rw [Acm, Ait, Ah6 b r.Match f2 hm, bd_some]
  obtain ⟨v2, h2, _, g2⟩ := Adu b r.By
  obtain ⟨v3, h3, _, g3⟩ := Adu v2.2 r.Mute
  rw [h2, bd_some, h3, bd_some]
  have num : ∀ m, 0 ≤ m → m ≤ 1099511627776 → Agh std m = some (numS m.toNat, 0) := fun m h0 h1 => by
   have : m = ((m.toNat : Nat) : Int) := by omega
   rw [this]
   exact Ako m.toNat (by omega)
  refine Loop_go (B := Agt std (Acm std n) r v3) (fun i (l : List ByteArray) => (l, (i : Int))) [r.Wait, r.Every, r.Repeat] (fun _ m l => l ++ [numS m.toNat]) (fun i l => i ≤ 3 ∧ l = [r.1, Akq r.Match, v2.1, v3.1] ++ ([r.Wait, r.Every, r.Repeat].take i).map fun n => numS n.toNat) (fun v => v.2 = false → b = false ∧ v.1 = Ag5 (n + 1) r) (fun i m l hx ⟨hi, hI⟩ => by
   have hlt := Adt hx
   have hm2 : 0 ≤ m ∧ m ≤ 1099511627776 := by
    have hmem := Adq hx
    simp only [List.mem_cons, List.mem_nil_iff, or_false] at hmem
    rcases hmem with rfl | rfl | rfl <;> omega
   have hlt' := hlt
   simp only [List.length_cons, List.length_nil] at hlt'
   have hl : l.length ≤ 4 + i := by rw [hI, List.length_append, List.length_map, List.length_take]; simp only [List.length_cons, List.length_nil]; omega
   refine ⟨?_, by omega, by rw [take_snoc hx, List.map_append, ← List.append_assoc, ← hI]; rfl⟩
   unfold Agt
   simp only
   rw [Aad, lssT hlt, Aag, ck_t (inbT hlt), Aax (t := TyS.int) hx, num m hm2.1 hm2.2, bd_some, ck_t (show std.appOk TyS.str 16 l [numS m.toNat] from ⟨by simp; omega, by simp; omega⟩), s_add, wrap_succ hlt (by unfold big63; simp)]
   rfl) (fun l ⟨_, hI⟩ => by
   rw [List.take_length] at hI
   have hl : l.length ≤ 10 := by rw [hI]; simp
   unfold Agt
   simp only
   rw [Aad, lssF, br_false]
   have fin : ∀ on, on = onT r.On → ∀ v : ByteArray × Bool, (v.2 = false → v3.2 = false ∧ v.1 = bindS (l ++ [on, bindS (r.Routes.map (Ag5 n))])) → (v.2 = false → b = false ∧ v.1 = Ag5 (n + 1) r) := fun on hon v hv h => by
    obtain ⟨q1, q2⟩ := hv h
    obtain ⟨q3, q4⟩ := g3 q1
    obtain ⟨q5, q6⟩ := g2 q3
    refine ⟨q5, ?_⟩
    rw [q2, hI, q4, q6, hon, Ag5]
   rcases Bool.eq_false_or_eq_true r.On with ho | ho
   ·obtain ⟨v, hv, gv⟩ := Avl (Acm std n) (Ag5 n) r l v3.2 hl k1 (ByteArray.mk (Array.mk [49])) hk (Alo std (Acm std n) r l) (fun _ _ _ => rfl)
    rw [ho, Aag, hv]
    exact ⟨_, rfl, fin _ (by rw [ho]; rfl) v gv⟩
   ·obtain ⟨v, hv, gv⟩ := Avl (Acm std n) (Ag5 n) r l v3.2 hl k1 (ByteArray.mk (Array.mk [48])) hk (Alp std (Acm std n) r l) (fun _ _ _ => rfl)
    rw [ho, br_false, hv]
    exact ⟨_, rfl, fin _ (by rw [ho]; rfl) v gv⟩) [r.1, Akq r.Match, v2.1, v3.1] ⟨by omega, by simp⟩
noncomputable def Apj (r : Rule) : List ByteArray := ((Agi std r).getD ([], 0)).1
noncomputable def Atg (h : Hours) : ByteArray := ((Ags std h).getD (⟨#[]⟩, 0)).1
noncomputable def textT (N : Config) : ByteArray := bindS [bindS (N.Rules.map Apj).flatten, bindS N.Receivers, bindS (N.Hours.map fun h => [h.Name, Atg h]).flatten, bindS (N.Inhibits.map Aa0), Ag5 (SizeOf.sizeOf N.Route + 1) N.Route]
theorem Ayu {α : Type} {f : α → List ByteArray} {xs : List α} {i : Nat} {x : α} (hx : xs[i]? = some x) : ((xs.take (i + 1)).map f).flatten = ((xs.take i).map f).flatten ++ f x := by
 rw [take_snoc hx, List.map_append, List.flatten_append]; simp
theorem Auq (c : Config) (hf : Acj c) (hc : Adb c = true) : ∃ s e, Aec std c = some (s, e) ∧ s.size ≤ 5000000 ∧ (e = 0 → s = textT (normS c)) := by
 have ok := Alz hc
 have hnf := Apg hf
 have hR : ∀ r ∈ (normS c).Rules, ruleS r = true := fun r hr => ok.rules.2.1 r ((Aeo _ _).mem_iff.1 hr)
 have hH : ∀ r ∈ (normS c).Hours, hourS r = true := fun r hr => ok.hours.2.1 r ((Aeo _ _).mem_iff.1 hr)
 have hI : ∀ r ∈ (normS c).Inhibits, Aek r = true := Aon hc
 have lR : (normS c).Rules.length ≤ 16 := by have := ok.rules.1; show (sortI _ _).length ≤ 16; rw [Adk]; exact this
 have lH : (normS c).Hours.length ≤ 8 := by have := ok.hours.1; show (sortI _ _).length ≤ 8; rw [Adk]; exact this
 have lI : (normS c).Inhibits.length ≤ 8 := by have := ok.inh.1; have := Aqp c; omega
 have hT : Aez 4 c.Route = true := by have := ok.top; simp only [topS, Bool.and_eq_true] at this; exact this.1.1.1
 unfold Aec
 rw [Ag9 c hf, hc, cond_true, bd_some]
 simp only
 rw [show std.cmp .neq 0 0 = false from rfl, br_false]
 generalize hN : normS c = N at *
 have hroute : ∀ b, ∃ v, Am7 std b N.Route = some v ∧ (v.2 = false → b = false ∧ v.1 = Ag5 (SizeOf.sizeOf N.Route + 1) N.Route) := fun b => by
  have : N.Route = c.Route := by rw [← hN]; rfl
  rw [this]
  exact Al1 _ b c.Route 4 (Nat.lt_succ_self _) hf.2.1 hT
 have s1 : ∀ t7 t8 : List ByteArray, ∃ v, Loop (Ag3 std (N, 0) t7 t8) ([], 0, false) = some v ∧ v.1.size ≤ 5000000 ∧ (v.2 = 0 → v.1 = bindS [bindS t7, bindS N.Receivers, bindS t8, bindS (N.Inhibits.map Aa0), Ag5 (SizeOf.sizeOf N.Route + 1) N.Route]) := fun t7 t8 => by
  refine Loop_go (B := Ag3 std (N, 0) t7 t8) (fun i (l : List ByteArray) => (l, (i : Int), false)) N.Inhibits (fun _ x l => l ++ [Aa0 x]) (fun i l => i ≤ N.Inhibits.length ∧ l.length ≤ i ∧ l = (N.Inhibits.take i).map Aa0) (fun v => v.1.size ≤ 5000000 ∧ (v.2 = 0 → v.1 = bindS [bindS t7, bindS N.Receivers, bindS t8, bindS (N.Inhibits.map Aa0), Ag5 (SizeOf.sizeOf N.Route + 1) N.Route])) (fun i x l hx ⟨hi, hl, hq⟩ => by
   have hlt := Adt hx
   refine ⟨?_, by omega, Atd _ hl, by rw [take_snoc hx, List.map_append, ← hq]; rfl⟩
   unfold Ag3
   simp only
   rw [Aad, lssT hlt, Aag, ck_t (inbT hlt), Aax (t := TyS.inhibit) hx, Ap9 false x (hnf.2.2.2.1.2 x (Adq hx)) (hI x (Adq hx)), bd_some, ck_t (show std.appOk TyS.str 16 l [Aa0 x] from ⟨by simp; omega, by simp; omega⟩), s_add, wrap_succ hlt (by unfold big63; omega)]
   rfl) (fun l ⟨_, hl, hq⟩ => by
   rw [List.take_length] at hq
   unfold Ag3
   simp only
   obtain ⟨v1, h1, _, g1⟩ := Adu false t7
   obtain ⟨v2, h2, _, g2⟩ := Adu v1.2 N.Receivers
   obtain ⟨v3, h3, _, g3⟩ := Adu v2.2 t8
   obtain ⟨v4, h4, _, g4⟩ := Adu v3.2 l
   obtain ⟨v5, h5, g5⟩ := hroute v4.2
   obtain ⟨v6, h6, z6, g6⟩ := Adu v5.2 [v1.1, v2.1, v3.1, v4.1, v5.1]
   rw [Aad, lssF, br_false, h1, bd_some, h2, bd_some, h3, bd_some, h4, bd_some, h5, bd_some, h6, bd_some]
   cases hv : v6.2
   ·refine ⟨_, rfl, z6, fun _ => ?_⟩
    obtain ⟨q5, p6⟩ := g6 hv
    obtain ⟨q4, p5⟩ := g5 q5
    obtain ⟨q3, p4⟩ := g4 q4
    obtain ⟨q2, p3⟩ := g3 q3
    obtain ⟨q1, p2⟩ := g2 q2
    obtain ⟨_, p1⟩ := g1 q1
    show v6.1 = _
    rw [p6, p5, p4, p3, p2, p1, hq]
   ·exact ⟨_, rfl, by show (0 : Nat) ≤ _; omega, fun h => absurd h (by decide)⟩) [] ⟨by omega, by simp, by simp⟩
 have s2 : ∀ t7 : List ByteArray, ∃ v, Loop (Ag4 std (N, 0) t7) ([], 0) = some v ∧ v.1.size ≤ 5000000 ∧ (v.2 = 0 → v.1 = bindS [bindS t7, bindS N.Receivers, bindS (N.Hours.map fun h => [h.Name, Atg h]).flatten, bindS (N.Inhibits.map Aa0), Ag5 (SizeOf.sizeOf N.Route + 1) N.Route]) := fun t7 => by
  refine Loop_go (B := Ag4 std (N, 0) t7) (fun i (l : List ByteArray) => (l, (i : Int))) N.Hours (fun _ x l => l ++ [x.Name, Atg x]) (fun i l => i ≤ N.Hours.length ∧ l.length ≤ 2 * i ∧ l = ((N.Hours.take i).map fun h => [h.Name, Atg h]).flatten) (fun v => v.1.size ≤ 5000000 ∧ (v.2 = 0 → v.1 = bindS [bindS t7, bindS N.Receivers, bindS (N.Hours.map fun h => [h.Name, Atg h]).flatten, bindS (N.Inhibits.map Aa0), Ag5 (SizeOf.sizeOf N.Route + 1) N.Route])) (fun i x l hx ⟨hi, hl, hq⟩ => by
   have hlt := Adt hx
   obtain ⟨v, hv⟩ := Ate x (hH x (Adq hx))
   have hv' : Atg x = v.1 := by unfold Atg; rw [hv]; rfl
   refine ⟨?_, by omega, by rw [List.length_append]; simp only [List.length_cons, List.length_nil]; omega, by rw [Ayu hx, ← hq]⟩
   unfold Ag4
   simp only
   rw [Aad, lssT hlt, Aag, ck_t (inbT hlt), Aax (t := TyS.hours) hx, hv, bd_some, ck_t (show std.appOk TyS.str 16 l [x.Name, v.1] from ⟨by simp; omega, by simp; omega⟩), s_add, wrap_succ hlt (by unfold big63; omega), hv']
   rfl) (fun l ⟨_, hl, hq⟩ => by
   rw [List.take_length] at hq
   unfold Ag4
   simp only
   obtain ⟨v, hv, g⟩ := s1 t7 l
   rw [Aad, lssF, br_false, hv]
   rw [hq] at g
   exact ⟨_, rfl, g⟩) [] ⟨by omega, by simp, by simp⟩
 have := Loop_go (B := Aiu std (N, 0)) (fun i (l : List ByteArray) => (l, (i : Int))) N.Rules (fun _ x l => l ++ Apj x) (fun i l => i ≤ N.Rules.length ∧ l.length ≤ 8 * i ∧ l = ((N.Rules.take i).map Apj).flatten) (fun v => v.1.size ≤ 5000000 ∧ (v.2 = 0 → v.1 = textT N)) (fun i x l hx ⟨hi, hl, hq⟩ => by
  have hlt := Adt hx
  obtain ⟨v, hv, lv⟩ := Aq1 x (hnf.1.2 x (Adq hx)) (hR x (Adq hx))
  have hv' : Apj x = v.1 := by unfold Apj; rw [hv]; rfl
  refine ⟨?_, by omega, by rw [hv']; simp only [List.length_append]; omega, by rw [Ayu hx, ← hq]⟩
  unfold Aiu
  simp only
  rw [Aad, lssT hlt, Aag, ck_t (inbT hlt), Aax (t := TyS.rule) hx, hv, bd_some, ck_t (show std.appOk TyS.str 16 l v.1 from ⟨by omega, by omega⟩), s_add, wrap_succ hlt (by unfold big63; omega), hv']
  rfl) (fun l ⟨_, hl, hq⟩ => by
  rw [List.take_length] at hq
  unfold Aiu
  simp only
  obtain ⟨v, hv, g⟩ := s2 l
  rw [Aad, lssF, br_false, hv]
  rw [hq] at g
  exact ⟨_, rfl, g⟩) [] ⟨by omega, by simp, by simp⟩
 obtain ⟨v, hv, g1, g2⟩ := this
 exact ⟨v.1, v.2, hv, g1, g2⟩
end Go.PL
namespace Go.PL
set_option linter.unusedSimpArgs false
set_option linter.unusedVariables false
set_option linter.unusedSectionVars false
open Tys (Ty U)
open Enc (sz enc dflt tb ofB toB)
open Dec (dec dok)
set_option maxRecDepth 100000
theorem Aur (c : Config) (hf : Acj c) (hc : Adb c = false) : Aec std c = some (ByteArray.mk (Array.mk []), 1) := by
 unfold Aec
 rw [Ag9 c hf, hc, cond_false, bd_some]
 rfl
theorem Ayv (c : Config) (hf : Acj c) : ∃ s e m, Aec std c = some (s, e) ∧ Akg std s = some m ∧ m.size = 16 ∧ (e = 0 → Adb c = true ∧ s = textT (normS c)) ∧ Ahg std c = some (if e = 0 then m else ByteArray.mk (Array.mk []), e) := by
 have key : ∀ s e, Aec std c = some (s, e) → s.size ≤ 5000000 → (e = 0 → Adb c = true ∧ s = textT (normS c)) → ∃ s e m, Aec std c = some (s, e) ∧ Akg std s = some m ∧ m.size = 16 ∧ (e = 0 → Adb c = true ∧ s = textT (normS c)) ∧ Ahg std c = some (if e = 0 then m else ByteArray.mk (Array.mk []), e) := by
  intro s e h1 h2 h3
  obtain ⟨m, hm, hs⟩ := A4e s h2
  refine ⟨s, e, m, h1, hm, hs, h3, ?_⟩
  unfold Ahg
  rw [h1, bd_some]
  simp only
  by_cases he : e = 0
  ·rw [he, show std.cmp .neq 0 0 = false from rfl, br_false, hm, bd_some, if_pos rfl]
  ·rw [show std.cmp .neq e 0 = true from by rw [s_neq]; simpa using he, Aag, if_neg he]
 cases hc : Adb c with
 | false => exact hc ▸ key _ _ (Aur c hf hc) (by show (0 : Nat) ≤ _; omega) fun h => absurd h (by decide)
 | true =>
  obtain ⟨s, e, h1, h2, h3⟩ := Auq c hf hc
  exact hc ▸ key s e h1 h2 fun h => ⟨hc, h3 h⟩
end Go.PL
namespace Go.PL
set_option linter.unusedSimpArgs false
set_option linter.unusedVariables false
set_option linter.unusedSectionVars false
open Tys (Ty U)
open Enc (sz enc dflt tb ofB toB)
open Dec (dec dok)
set_option maxRecDepth 100000
noncomputable def A09 (h : Hours) : ByteArray := ((Ags std h).getD (⟨#[]⟩, 0)).1
def itoaS (n : Int) : ByteArray := ⟨(Lib.itoa n).toArray⟩
def putL (c : UInt8) (new : List UInt8) (s : List UInt8) : List UInt8 := (s.map fun b => if b = c then new else [b]).flatten
theorem Ano (c : UInt8) (new : List UInt8) : ∀ (s : List UInt8) (k : Nat), s.count c ≤ k → Lib.replaceK [c] new k s = putL c new s
 | [], 0, _ => rfl
 | [], k + 1, _ => rfl
 | b :: s, k, h => by
  have hp : putL c new (b :: s) = (if b = c then new else [b]) ++ putL c new s := by simp [putL]
  rw [hp]
  by_cases hb : b = c
  ·subst hb
   rw [if_pos rfl]
   rw [List.count_cons_self] at h
   obtain ⟨k, rfl⟩ : ∃ j, k = j + 1 := ⟨k - 1, by omega⟩
   rw [Lib.replaceK_hit [b] new k (b :: s) 0 (by rw [Lib.index_one]; simp [Lib.indexByte])]
   show [] ++ new ++ Lib.replaceK [b] new k s = _
   rw [Ano b new s k (by omega)]
   rfl
  ·rw [if_neg hb]
   rw [List.count_cons_of_ne (by simpa using hb)] at h
   have ih := Ano c new s k h
   cases k with
   | zero =>
    have ih' : s = putL c new s := ih
    show b :: s = [b] ++ putL c new s
    rw [← ih']; rfl
   | succ k =>
    have hge := Lib.indexByte_ge s c
    have hib : Lib.indexByte (b :: s) c = if Lib.indexByte s c == -1 then -1 else Lib.indexByte s c + 1 := by
     simp only [Lib.indexByte]
     rw [if_neg (by simpa using hb)]
    by_cases hi : Lib.indexByte s c = -1
    ·have e1 : Lib.replaceK [c] new (k + 1) s = s := by
      rw [Lib.replaceK, Lib.index_one, hi]; rfl
     have e2 : Lib.replaceK [c] new (k + 1) (b :: s) = b :: s := by
      rw [Lib.replaceK, Lib.index_one, hib, hi]; rfl
     rw [e2, ← ih, e1]; rfl
    ·obtain ⟨i, hi2⟩ : ∃ i : Nat, Lib.indexByte s c = (i : Int) := ⟨(Lib.indexByte s c).toNat, by omega⟩
     have e1 := Lib.replaceK_hit [c] new k s i (by rw [Lib.index_one, hi2])
     have e2 := Lib.replaceK_hit [c] new k (b :: s) (i + 1) (by
      rw [Lib.index_one, hib, hi2, if_neg (by simp)]; rfl)
     rw [e2, ← ih, e1]
     simp only [List.take_succ_cons, List.length_singleton, List.cons_append, List.nil_append, List.append_assoc]
     rfl
theorem Aus (c : UInt8) (new s : List UInt8) (h : ([c] == new) = false) : Lib.replaceAll s [c] new = putL c new s := by
 unfold Lib.replaceAll Lib.replace Lib.replaceNum
 rw [h, if_neg (by simp), if_pos (.inl (by omega))]
 exact Ano c new s _ (by rw [Lib.count_one]; exact Nat.le_refl _)
def escL (s : List UInt8) : List UInt8 := (s.map fun b => if b = 34 ∨ b = 92 then [92, b] else [b]).flatten
theorem A6h (s : List UInt8) : putL 34 [92, 34] (putL 92 [92, 92] s) = escL s := by
 induction s with
 | nil => rfl
 | cons b s ih =>
  have app : ∀ x y : List UInt8, putL 34 [92, 34] (x ++ y) = putL 34 [92, 34] x ++ putL 34 [92, 34] y := fun x y => by simp [putL]
  have e1 : putL 92 [92, 92] (b :: s) = (if b = 92 then [92, 92] else [b]) ++ putL 92 [92, 92] s := by simp [putL]
  have e2 : escL (b :: s) = (if b = 34 ∨ b = 92 then [92, b] else [b]) ++ escL s := by simp [escL]
  rw [e1, app, ih, e2]
  congr 1
  by_cases h1 : b = 92
  ·subst h1; rfl
  ·rw [if_neg h1]
   by_cases h2 : b = 34
   ·subst h2; rfl
   ·rw [if_neg (by rintro (h | h); exact h2 h; exact h1 h)]
    simp [putL, h2]
def bitB (d : Int) (j : Nat) : Bool := std.cmp .eql (std.ar .and .i64 (std.ar .shr .i64 d (j : Int)) 1) 1
def daysL (d : Int) : Nat → List ByteArray
 | 0 => []
 | i + 1 => daysL d i ++ (if bitB d i = true then [dayT i] else [])
theorem Aqb (d : Int) : ∀ i, i ≤ 7 → (daysL d i).length ≤ i ∧ ∀ x ∈ daysL d i, x.size = 3
 | 0, _ => ⟨Nat.le_refl _, fun x hx => by cases hx⟩
 | i + 1, h => by
  obtain ⟨h1, h2⟩ := Aqb d i (by omega)
  rw [daysL]
  split
  ·refine ⟨Atd _ h1, fun x hx => ?_⟩
   rcases List.mem_append.1 hx with hx | hx
   ·exact h2 x hx
   ·rw [List.mem_singleton.1 hx]; exact dayT_size i (by omega)
  ·rw [List.append_nil]; exact ⟨by omega, h2⟩
def comL : List ByteArray → List UInt8
 | [] => []
 | w :: r => bytes w ++ (r.map fun x => 44 :: bytes x).flatten
theorem A1a (ws : List ByteArray) : Lib.join (ws.map (·.data.toList)) [44] = comL ws := by
 cases ws with
 | nil => rfl
 | cons w r =>
  rw [List.map_cons, Lib.join_cons]
  simp only [comL, Lib.joinTail, List.map_map]
  rfl
theorem A61 (l : List ByteArray) (h : ∀ x ∈ l, x.size = 3) : (comL l).length ≤ 4 * l.length := by
 cases l with
 | nil => simp [comL]
 | cons w r =>
  have h1 := h w (List.mem_cons_self ..)
  have h2 := Az6 (fun x : ByteArray => 44 :: bytes x) 4 r fun x hx => by
   have := h x (List.mem_cons_of_mem _ hx)
   rw [List.length_cons, Aau]; omega
  simp only [comL, List.length_append, Aau, List.length_cons]
  omega
noncomputable def clk (n : Int) : ByteArray := (Afk std n).getD ⟨#[]⟩
theorem Ayw (n : Int) (h0 : 0 ≤ n) (h1 : n ≤ 1440) : Afk std n = some (clk n) ∧ (clk n).size = 5 := by
 obtain ⟨t, h2, h3⟩ := Ajq n h0 h1
 have : clk n = t := by unfold clk; rw [h2]; rfl
 rw [this]; exact ⟨h2, h3⟩
noncomputable def A1b (h : Hours) : ByteArray := (⟨(comL (daysL h.Days 7)).toArray⟩ : ByteArray) ++ ByteArray.mk (Array.mk [32]) ++ clk h.From ++ ByteArray.mk (Array.mk [45]) ++ clk h.To
theorem Aw7 (h : Hours) (hs : hourS h = true) : Ags std h = some (A1b h, 0) := by
 have h0 := hs
 simp only [hourS, Bool.and_eq_true, decide_eq_true_eq] at h0
 obtain ⟨⟨⟨⟨⟨⟨_, _⟩, _⟩, f0⟩, f1⟩, f2⟩, t1⟩ := h0
 obtain ⟨ha, la⟩ := Ayw h.From f0 (by omega)
 obtain ⟨hb, lb⟩ := Ayw h.To (by omega) t1
 unfold Ags
 rw [Alb h, bd_some, hs, s_not, Bool.not_true, br_false]
 have := Ah3 (B := Afl std h) (fun i (_ : Unit) => (daysL h.Days i, (i : Int))) (List.range 7) (fun _ _ (_ : Unit) => (.inl () : Unit ⊕ (ByteArray × Int))) (fun _ => (A1b h, 0)) (fun i n u hx hi => by
  rw [List.length_range] at hi
  obtain ⟨hI, hz⟩ := Aqb h.Days i (by omega)
  unfold Afl
  simp only
  rw [show std.cmp .lss (i : Int) 7 = true from lssT (n := 7) hi, Aag, ck_t (show std.inb (i : Int) (Int.ofNat 7) from inbT (n := 7) hi), ck_t (show std.nn (i : Int) by show (0 : Int) ≤ _; omega), s_add, wrap_succ (n := 7) hi (by unfold big63; omega), daysL]
  unfold bitB
  cases std.cmp .eql (std.ar .and .i64 (std.ar .shr .i64 h.Days (i : Int)) 1) 1 with
  | true =>
   rw [Aag, if_pos rfl]
   have hA : std.appOk TyS.str 16 (daysL h.Days i) [dayT i] := ⟨by simp; omega, by simp; omega⟩
   exact ck_t hA
  | false => rw [br_false, if_neg (by simp), List.append_nil]) (fun _ => by
  obtain ⟨hI, hz⟩ := Aqb h.Days 7 (by omega)
  rw [List.length_range]
  unfold Afl
  simp only
  have hj := A61 (daysL h.Days 7) hz
  have hJ : strings_Join std (daysL h.Days 7) (ByteArray.mk (Array.mk [44])) = some ⟨(comL (daysL h.Days 7)).toArray⟩ := by
   unfold strings_Join
   have e : Lib.join ((daysL h.Days 7).map (·.data.toList)) (ByteArray.mk (Array.mk [44])).data.toList = comL (daysL h.Days 7) := A1a _
   rw [e]
   exact ck_t ⟨by omega, by omega⟩
  have jz : (ByteArray.mk (comL (daysL h.Days 7)).toArray).size ≤ 28 := by rw [Af0, Adh]; omega
  have z1 : (ByteArray.mk (Array.mk [32])).size = 1 := rfl
  have z2 : (ByteArray.mk (Array.mk [45])).size = 1 := rfl
  rw [show std.cmp .lss ((7 : Nat) : Int) 7 = false from rfl, br_false, hJ, bd_some, s_cat, ck_t (show std.catOk _ _ by rw [Aex, z1]; omega), ha, bd_some, s_cat, ck_t (show std.catOk _ _ by rw [Aex, ByteArray.size_append, z1, la]; omega), s_cat, ck_t (show std.catOk _ _ by rw [Aex, ByteArray.size_append, ByteArray.size_append, z1, z2, la]; omega), hb, bd_some, s_cat, ck_t (show std.catOk _ _ by rw [Aex, ByteArray.size_append, ByteArray.size_append, ByteArray.size_append, z1, z2, la, lb]; omega)]
  rfl) ()
 rw [Apf] at this
 exact this
theorem Avm (h : Hours) (hs : hourS h = true) : A09 h = A1b h := by
 unfold A09
 rw [Aw7 h hs]
 rfl
theorem A5g : ((List.range 128).all fun d => (List.range 7).all fun i => bitB (d : Int) i == decide (d / 2 ^ i % 2 = 1)) = true := by kernel_rfl
theorem bit_eq (d i : Nat) (hd : d ≤ 127) (hi : i < 7) : bitB (d : Int) i = decide (d / 2 ^ i % 2 = 1) := by
 have := A5g
 rw [List.all_eq_true] at this
 have h1 := this d (List.mem_range.2 (by omega))
 rw [List.all_eq_true] at h1
 simpa using h1 i (List.mem_range.2 hi)
def signW (n : Int) : ByteArray := std.sel [ByteArray.mk (Array.mk []), ByteArray.mk (Array.mk [62]), ByteArray.mk (Array.mk [62, 61]), ByteArray.mk (Array.mk [60]), ByteArray.mk (Array.mk [60, 61]), ByteArray.mk (Array.mk [61, 61])] n
noncomputable def An8 (l : List Label) : ByteArray := ((Ahq std l).getD (⟨#[]⟩, 0)).1
theorem A4f (l : List Label) (hf : fitL Aiy l) (h : labelsS l = true) : Ahq std l = some (An8 l, 0) := by
 obtain ⟨s, hs, _⟩ := Ann l hf h
 unfold An8
 rw [hs]; rfl
noncomputable def A1c (r : Rule) : List ByteArray := [r.Name, r.Metric, signW r.How, itoaS r.Limit, itoaS r.For, itoaS r.Keep, itoaS r.Tries, An8 r.Labels]
theorem A5h (n : Int) (h : -9223372036854775808 ≤ n ∧ n ≤ 9223372036854775807) : strconv_Itoa std n = some (itoaS n) := by
 unfold strconv_Itoa
 exact ck_t h
theorem Aut (r : Rule) (hf : Ak8 r) (h : ruleS r = true) : Agi std r = some (A1c r, 0) := by
 have h0 := h
 simp only [ruleS, timeS, Bool.and_eq_true, decide_eq_true_eq] at h0
 obtain ⟨⟨⟨⟨⟨⟨⟨⟨⟨⟨⟨⟨_, _⟩, a1⟩, a2⟩, b1, b2⟩, c1, c2⟩, d1⟩, d2⟩, e1⟩, e2⟩, _⟩, hl⟩, _⟩ := h0
 unfold Agi
 rw [Ala r hf, bd_some, h, s_not, Bool.not_true, br_false, A4f r.Labels hf.2.2 hl, bd_some]
 have hw : Aln std = some () := rfl
 rw [hw, bd_some, ck_t (show std.inb r.How (Int.ofNat 6) from ⟨by omega, by show r.How < 6; omega⟩)]
 have hn : ∀ n ∈ [r.Limit, r.For, r.Keep, r.Tries], -9223372036854775808 ≤ n ∧ n ≤ 9223372036854775807 := by
  intro n hn
  simp only [List.mem_cons, List.mem_nil_iff, or_false] at hn
  rcases hn with rfl | rfl | rfl | rfl <;> omega
 have := Ah3 (B := Ae2 std r (An8 r.Labels, 0)) (fun i (_ : Unit) => ([r.Name, r.Metric, signW r.How] ++ ([r.Limit, r.For, r.Keep, r.Tries].take i).map itoaS, (i : Int))) [r.Limit, r.For, r.Keep, r.Tries] (fun _ _ (_ : Unit) => (.inl () : Unit ⊕ (List ByteArray × Int))) (fun _ => (A1c r, 0)) (fun i n u hx hi => by
  unfold Ae2
  simp only
  have hi4 : i < 4 := hi
  rw [Aad, lssT hi, Aag, ck_t (inbT hi), Aax (t := TyS.int) hx, A5h n (hn n (Adq hx)), bd_some, ck_t (show std.appOk TyS.str 16 _ [itoaS n] from ⟨by simp; omega, by simp; omega⟩), s_add, wrap_succ hi (by simp; unfold big63; omega), take_snoc hx, List.map_append, ← List.append_assoc]
  rfl) (fun _ => by
  unfold Ae2
  simp only
  rw [Aad, lssF, br_false, List.take_length, ck_t (show std.appOk TyS.str 16 _ [An8 r.Labels] from ⟨by simp, by simp⟩)]
  rfl) ()
 rw [Apf] at this
 exact this
theorem A6i : ∀ u : Nat, ∀ c ∈ Lib.decDigits u, 48 ≤ c.toNat ∧ c.toNat ≤ 57 := by
 intro u
 induction u using Nat.strongRecOn with
 | ind u ih =>
  have hd : ∀ k : Nat, k < 10 → 48 ≤ (UInt8.ofNat (48 + k)).toNat ∧ (UInt8.ofNat (48 + k)).toNat ≤ 57 := by decide
  rw [Lib.decDigits]
  split
  ·rename_i h
   intro c hc
   rw [List.mem_singleton.1 hc]; exact hd u h
  ·rename_i h
   intro c hc
   rcases List.mem_append.1 hc with hc | hc
   ·exact ih (u / 10) (by omega) c hc
   ·rw [List.mem_singleton.1 hc]; exact hd (u % 10) (by omega)
def dvL (l : List UInt8) : Nat := l.foldl (fun n c => 10 * n + (c.toNat - 48)) 0
theorem A5u : ∀ u : Nat, dvL (Lib.decDigits u) = u := by
 intro u
 induction u using Nat.strongRecOn with
 | ind u ih =>
  have hd : ∀ k : Nat, k < 10 → (UInt8.ofNat (48 + k)).toNat - 48 = k := by decide
  rw [Lib.decDigits]
  split
  ·rename_i h
   show 10 * 0 + ((UInt8.ofNat (48 + u)).toNat - 48) = u
   rw [hd u h]; omega
  ·rename_i h
   have := ih (u / 10) (by omega)
   unfold dvL at this ⊢
   rw [List.foldl_append, this]
   show 10 * (u / 10) + ((UInt8.ofNat (48 + u % 10)).toNat - 48) = u
   rw [hd (u % 10) (by omega)]; omega
theorem A4g {a b : Nat} (h : Lib.decDigits a = Lib.decDigits b) : a = b := by
 rw [← A5u a, ← A5u b, h]
theorem A5i {a b : Int} (h : Lib.itoa a = Lib.itoa b) : a = b := by
 have no : ∀ (u : Nat) (l : List UInt8), (45 : UInt8) :: l = Lib.decDigits u → False := fun u l e => by
  have := A6i u 45 (by rw [← e]; exact List.mem_cons_self ..)
  have h45 : (45 : UInt8).toNat = 45 := rfl
  omega
 unfold Lib.itoa at h
 split at h
 ·split at h
  ·have := A4g (List.cons.inj h).2
   omega
  ·exact (no _ _ h).elim
 ·split at h
  ·exact (no _ _ h.symm).elim
  ·have := A4g h
   omega
theorem Apk {a b : Int} (h : itoaS a = itoaS b) : a = b := by
 apply A5i
 have := congrArg bytes h
 unfold itoaS at this
 rwa [Adh, Adh] at this
theorem Ayx (f : ByteArray → List UInt8) (k : Nat) (hf : ∀ a b, f a = f b → a = b) : ∀ l m : List ByteArray, (∀ x ∈ l, (f x).length = k + 1) → (∀ x ∈ m, (f x).length = k + 1) → (l.map f).flatten = (m.map f).flatten → l = m
 | [], [], _, _, _ => rfl
 | [], b :: m, _, hm, h => by
  have := congrArg List.length h
  have h1 := hm b (List.mem_cons_self ..)
  simp only [List.map_cons, List.flatten_cons, List.length_append, List.map_nil, List.flatten_nil, List.length_nil] at this; omega
 | a :: l, [], hl, _, h => by
  have := congrArg List.length h
  have h1 := hl a (List.mem_cons_self ..)
  simp only [List.map_cons, List.flatten_cons, List.length_append, List.map_nil, List.flatten_nil, List.length_nil] at this; omega
 | a :: l, b :: m, hl, hm, h => by
  simp only [List.map_cons, List.flatten_cons] at h
  have h1 := hl a (List.mem_cons_self ..)
  have h2 := hm b (List.mem_cons_self ..)
  obtain ⟨h3, h4⟩ := List.append_inj h (by omega)
  rw [hf a b h3, Ayx f k hf l m (fun x hx => hl x (List.mem_cons_of_mem _ hx)) (fun x hx => hm x (List.mem_cons_of_mem _ hx)) h4]
theorem A6j : ∀ l m : List ByteArray, (∀ x ∈ l, x.size = 3) → (∀ x ∈ m, x.size = 3) → comL l = comL m → l = m
 | [], [], _, _, _ => rfl
 | [], b :: m, _, hm, h => by
  have := congrArg List.length h
  have h1 := hm b (List.mem_cons_self ..)
  simp only [comL, List.length_nil, List.length_append, Aau] at this; omega
 | a :: l, [], hl, _, h => by
  have := congrArg List.length h
  have h1 := hl a (List.mem_cons_self ..)
  simp only [comL, List.length_nil, List.length_append, Aau] at this; omega
 | a :: l, b :: m, hl, hm, h => by
  have h1 := hl a (List.mem_cons_self ..)
  have h2 := hm b (List.mem_cons_self ..)
  obtain ⟨h3, h4⟩ := List.append_inj h (by rw [Aau, Aau]; omega)
  rw [ba_ext h3, Ayx (fun x : ByteArray => 44 :: bytes x) 3 (fun x y e => ba_ext (List.cons.inj e).2) l m (fun x hx => by
   rw [List.length_cons, Aau, hl x (List.mem_cons_of_mem _ hx)]) (fun x hx => by
   rw [List.length_cons, Aau, hm x (List.mem_cons_of_mem _ hx)]) h4]
theorem A6k {i j : Nat} (hi : i < 7) (hj : j < 7) (h : dayT i = dayT j) : i = j := by
 have key : ((List.range 7).all fun i => (List.range 7).all fun j => decide (i = j) || !(bytes (dayT i) == bytes (dayT j))) = true := by kernel_rfl
 rw [List.all_eq_true] at key
 have h1 := key i (List.mem_range.2 hi)
 rw [List.all_eq_true] at h1
 have h2 := h1 j (List.mem_range.2 hj)
 rw [h] at h2
 simpa using h2
theorem Aw8 (d : Int) (i : Nat) (hi : i < 7) : ∀ k, k ≤ 7 → (dayT i ∈ daysL d k ↔ i < k ∧ bitB d i = true)
 | 0, _ => by simp [daysL]
 | k + 1, hk => by
  have ih := Aw8 d i hi k (by omega)
  rw [daysL, List.mem_append, ih]
  constructor
  ·rintro (⟨h1, h2⟩ | h)
   ·exact ⟨by omega, h2⟩
   ·split at h
    ·rename_i hb
     have := A6k hi (by omega) (List.mem_singleton.1 h)
     subst this
     exact ⟨by omega, hb⟩
    ·cases h
  ·rintro ⟨h1, h2⟩
   by_cases he : i = k
   ·subst he; right; rw [if_pos h2]; exact List.mem_singleton.2 rfl
   ·left; exact ⟨by omega, h2⟩
theorem A5j (d e : Nat) (hd : d ≤ 127) (he : e ≤ 127) (h : daysL (d : Int) 7 = daysL (e : Int) 7) : d = e := by
 have hb : ∀ i, i < 7 → d / 2 ^ i % 2 = e / 2 ^ i % 2 := fun i hi => by
  have h1 := Aw8 (d : Int) i hi 7 (by omega)
  have h2 := Aw8 (e : Int) i hi 7 (by omega)
  rw [h, h2] at h1
  have h3 : bitB (d : Int) i = bitB (e : Int) i := by
   rw [Bool.eq_iff_iff]
   constructor
   ·intro hx; exact (h1.2 ⟨hi, hx⟩).2
   ·intro hx; exact (h1.1 ⟨hi, hx⟩).2
  rw [bit_eq d i hd hi, bit_eq e i he hi] at h3
  have h4 : (d / 2 ^ i % 2 = 1) ↔ (e / 2 ^ i % 2 = 1) := by simpa using h3
  omega
 have b0 := hb 0 (by omega)
 have b1 := hb 1 (by omega)
 have b2 := hb 2 (by omega)
 have b3 := hb 3 (by omega)
 have b4 := hb 4 (by omega)
 have b5 := hb 5 (by omega)
 have b6 := hb 6 (by omega)
 simp only [Nat.reducePow] at b0 b1 b2 b3 b4 b5 b6
 omega
theorem A4h (n : Nat) (h : n ≤ 99) : ∃ t, Ajd std (n : Int) = some t ∧ bytes t = [UInt8.ofNat (48 + n / 10), UInt8.ofNat (48 + n % 10)] := by
 have q : std.ar .add .i64 48 (std.ar .quo .i64 (n : Int) 10) = ((48 + n / 10 : Nat) : Int) := by
  rw [s_quo, tdiv0 (by omega), w64 (by omega), s_add, w64 (by omega)]; omega
 have r : std.ar .add .i64 48 (std.ar .rem .i64 (n : Int) 10) = ((48 + n % 10 : Nat) : Int) := by
  rw [s_rem, tmod0 (by omega), s_add, w64 (by omega)]; omega
 obtain ⟨a1, a2⟩ := u8_at (n := 48 + n / 10) (by omega)
 obtain ⟨b1, b2⟩ := u8_at (n := 48 + n % 10) (by omega)
 unfold Ajd
 rw [q, r, ck_t a1, ck_t b1, a2, b2, A3v]
 exact ⟨_, rfl, Adh _⟩
theorem A4i {a b : Int} (a0 : 0 ≤ a) (a1 : a ≤ 1440) (b0 : 0 ≤ b) (b1 : b ≤ 1440) (h : bytes (clk a) = bytes (clk b)) : a = b := by
 have val : ∀ n : Int, 0 ≤ n → n ≤ 1440 → bytes (clk n) = [UInt8.ofNat (48 + (n / 60).toNat / 10), UInt8.ofNat (48 + (n / 60).toNat % 10), 58, UInt8.ofNat (48 + (n % 60).toNat / 10), UInt8.ofNat (48 + (n % 60).toNat % 10)] := fun n h0 h1 => by
  have e := (Ayw n h0 h1).1
  unfold Afk at e
  have q1 : std.ar .quo .i64 n 60 = ((n / 60).toNat : Int) := by rw [s_quo, tdiv0 h0, w64 (by omega)]; omega
  have q2 : std.ar .rem .i64 n 60 = ((n % 60).toNat : Int) := by rw [s_rem, tmod0 h0]; omega
  obtain ⟨x, hx, px⟩ := A4h (n / 60).toNat (by omega)
  obtain ⟨y, hy, py⟩ := A4h (n % 60).toNat (by omega)
  rw [q1, q2, hx, bd_some, hy, bd_some] at e
  obtain ⟨_, e⟩ := ck_e e
  obtain ⟨_, e⟩ := ck_e e
  rw [← Option.some.inj e, s_cat, s_cat, Ah5, Ah5, px, py]
  rfl
 rw [val a a0 a1, val b b0 b1] at h
 have hn : ∀ j k : Nat, j < 30 → k < 30 → UInt8.ofNat (48 + j) = UInt8.ofNat (48 + k) → j = k := fun j k hj hk e => by
  have := congrArg UInt8.toNat e
  rw [UInt8.toNat_ofNat', UInt8.toNat_ofNat'] at this
  omega
 simp only [List.cons.injEq, and_true, true_and] at h
 obtain ⟨g1, g2, g3, g4⟩ := h
 have k1 := hn _ _ (by omega) (by omega) g1
 have k2 := hn _ _ (by omega) (by omega) g2
 have k3 := hn _ _ (by omega) (by omega) g3
 have k4 := hn _ _ (by omega) (by omega) g4
 omega
theorem A4j {x y : Hours} (hx : hourS x = true) (hy : hourS y = true) (hn : x.Name = y.Name) (h : A09 x = A09 y) : x = y := by
 rw [Avm x hx, Avm y hy] at h
 simp only [hourS, Bool.and_eq_true, decide_eq_true_eq] at hx hy
 obtain ⟨⟨⟨⟨⟨⟨_, d1⟩, d2⟩, f0⟩, f1⟩, f2⟩, t1⟩ := hx
 obtain ⟨⟨⟨⟨⟨⟨_, d1'⟩, d2'⟩, f0'⟩, f1'⟩, f2'⟩, t1'⟩ := hy
 have hb := congrArg bytes h
 unfold A1b at hb
 simp only [Ah5, Adh, List.append_assoc] at hb
 have no32 : ∀ d : Int, ∀ c ∈ comL (daysL d 7), (fun c : UInt8 => decide (c ≠ 32)) c = true := fun d c hc => by
  obtain ⟨_, hz⟩ := Aqb d 7 (by omega)
  have hday : ∀ i, i ≤ 7 → ∀ x ∈ daysL d i, ∀ c ∈ bytes x, c ≠ 32 := by
   intro i
   induction i with
   | zero => intro _ x hx; cases hx
   | succ i ih =>
    intro hi x hx
    rw [daysL] at hx
    rcases List.mem_append.1 hx with hx | hx
    ·exact ih (by omega) x hx
    ·split at hx
     ·rw [List.mem_singleton.1 hx]
      have : ((List.range 7).all fun j => (bytes (dayT j)).all fun c => !(c == 32)) = true := by kernel_rfl
      rw [List.all_eq_true] at this
      have := this i (List.mem_range.2 (by omega))
      rw [List.all_eq_true] at this
      intro c hc
      simpa using this c hc
     ·cases hx
  have hb := hday 7 (by omega)
  revert hc
  generalize daysL d 7 = ws at hb
  intro hc
  cases ws with
  | nil => cases hc
  | cons w r =>
   rw [decide_eq_true_eq]
   rcases List.mem_append.1 hc with hc | hc
   ·exact hb w (List.mem_cons_self ..) c hc
   ·rw [List.mem_flatten] at hc
    obtain ⟨l, hl, hc⟩ := hc
    obtain ⟨z, hz, rfl⟩ := List.mem_map.1 hl
    rcases List.mem_cons.1 hc with rfl | hc
    ·decide
    ·exact hb z (List.mem_cons_of_mem _ hz) c hc
 obtain ⟨h1, h2⟩ := Apc (p := fun c : UInt8 => decide (c ≠ 32)) _ _ _ _ (no32 x.Days) (no32 y.Days) (fun c hc => by
  have : c = 32 := by simpa using hc.symm
  rw [this]; rfl) (fun c hc => by
  have : c = 32 := by simpa using hc.symm
  rw [this]; rfl) hb
 have h3 := (List.append_inj h2 rfl).2
 have la := (Ayw x.From f0 (by omega)).2
 have lb := (Ayw y.From f0' (by omega)).2
 obtain ⟨h4, h5⟩ := List.append_inj h3 (by rw [Aau, Aau, la, lb])
 have h6 := (List.append_inj h5 rfl).2
 have e1 := A4i f0 (by omega) f0' (by omega) h4
 have e2 := A4i (by omega) t1 (by omega) t1' h6
 have e3 := A6j _ _ (Aqb x.Days 7 (by omega)).2 (Aqb y.Days 7 (by omega)).2 h1
 obtain ⟨d, hd⟩ : ∃ d : Nat, x.Days = (d : Int) := ⟨x.Days.toNat, by omega⟩
 obtain ⟨e, he⟩ : ∃ e : Nat, y.Days = (e : Int) := ⟨y.Days.toNat, by omega⟩
 rw [hd, he] at e3
 have := A5j d e (by omega) (by omega) e3
 cases x; cases y
 simp only at hn hd he e1 e2
 subst hn; subst hd; subst he; subst e1; subst e2; subst this
 rfl
theorem head_ne (n : UInt8) (l : List UInt8) : ∀ c, (n :: l).head? = some c → (fun c : UInt8 => decide (c ≠ n)) c = false := fun c hc => by
 have : c = n := by simpa using hc.symm
 subst this; simp
theorem A5k {a b : Int} (a1 : 1 ≤ a) (a5 : a ≤ 5) (b1 : 1 ≤ b) (b5 : b ≤ 5) (h : signW a = signW b) : a = b := by
 have ha : a = 1 ∨ a = 2 ∨ a = 3 ∨ a = 4 ∨ a = 5 := by omega
 have hb : b = 1 ∨ b = 2 ∨ b = 3 ∨ b = 4 ∨ b = 5 := by omega
 have h' := congrArg bytes h
 rcases ha with rfl | rfl | rfl | rfl | rfl <;> rcases hb with rfl | rfl | rfl | rfl | rfl <;> first | rfl | (exfalso; revert h'; decide)
theorem Arc (b : UInt8) (s : List UInt8) : escL (b :: s) = (if b = 34 ∨ b = 92 then [92, b] else [b]) ++ escL s := by simp [escL]
end Go.PL
namespace Go.PL
set_option linter.unusedSimpArgs false
set_option linter.unusedVariables false
set_option linter.unusedSectionVars false
open Tys (Ty U)
open Enc (sz enc dflt tb ofB toB)
open Dec (dec dok)
set_option maxRecDepth 100000
def markL (l : Label) : List UInt8 := bytes l.Name ++ 61 :: 34 :: (escL (bytes l.Value) ++ [34])
theorem Avn (s : ByteArray) (c : UInt8) (new : List UInt8) (h : ([c] == new) = false) (h2 : new.length = 2) (hs : s.size ≤ 1000) : strings_ReplaceAll std s (ByteArray.mk (Array.mk [c])) ⟨new.toArray⟩ = some ⟨(putL c new (bytes s)).toArray⟩ := by
 have hc := Lib.countB_le (ByteArray.mk (Array.mk [c])) (Nat.le_refl _) s.size s (Nat.le_refl _)
 unfold strings_ReplaceAll
 rw [ck_t ⟨by omega, Nat.le_refl _, by rw [Af0 (⟨new.toArray⟩ : ByteArray), Adh, h2]; omega⟩]
 show some (⟨(Lib.replaceAll (bytes s) [c] new).toArray⟩ : ByteArray) = _
 rw [Aus c new (bytes s) h]
theorem A4k (l : Label) (h1 : l.Name.size ≤ 64) (h2 : l.Value.size ≤ 64) : bytes (Avj l) = markL l := by
 obtain ⟨t, ht, _⟩ := Ayt ⟨l.Name, l.Value⟩ h1 h2
 have e : Avj l = t := by unfold Avj; rw [ht]; rfl
 rw [e]
 unfold Acb at ht
 have r1 := Avn l.Value 92 [92, 92] rfl rfl (by omega)
 have z1 : (⟨(putL 92 [92, 92] (bytes l.Value)).toArray⟩ : ByteArray).size ≤ 1000 := by
  rw [Af0, Adh]
  have : ∀ s : List UInt8, (putL 92 [92, 92] s).length ≤ 2 * s.length := fun s => by
   unfold putL
   induction s with
   | nil => simp
   | cons b s ih =>
    simp only [List.map_cons, List.flatten_cons, List.length_append, List.length_cons]
    have hb : (if b = 92 then [92, 92] else [b] : List UInt8).length ≤ 2 := by split <;> simp
    omega
  have := this (bytes l.Value)
  rw [Aau] at this
  omega
 have r2 := Avn ⟨(putL 92 [92, 92] (bytes l.Value)).toArray⟩ 34 [92, 34] rfl rfl z1
 rw [Adh, A6h] at r2
 by_cases k1 : std.catOk l.Name (ByteArray.mk (Array.mk [61, 34]))
 ·rw [ck_t k1] at ht
  simp only at ht
  rw [show strings_ReplaceAll std l.Value (ByteArray.mk (Array.mk [92])) (ByteArray.mk (Array.mk [92, 92])) = _ from r1, bd_some, show strings_ReplaceAll std ⟨(putL 92 [92, 92] (bytes l.Value)).toArray⟩ (ByteArray.mk (Array.mk [34])) (ByteArray.mk (Array.mk [92, 34])) = _ from r2, bd_some] at ht
  by_cases k2 : std.catOk (std.cat l.Name (ByteArray.mk (Array.mk [61, 34]))) ⟨(escL (bytes l.Value)).toArray⟩
  ·rw [ck_t k2] at ht
   by_cases k3 : std.catOk (std.cat (std.cat l.Name (ByteArray.mk (Array.mk [61, 34]))) ⟨(escL (bytes l.Value)).toArray⟩) (ByteArray.mk (Array.mk [34]))
   ·rw [ck_t k3] at ht
    cases ht
    simp only [s_cat, Ah5, Adh]
    unfold markL
    simp
   ·rw [ck_f k3] at ht; cases ht
  ·rw [ck_f k2] at ht; cases ht
 ·rw [ck_f k1] at ht; cases ht
theorem Aqc : ∀ s t X Y : List UInt8, escL s ++ 34 :: X = escL t ++ 34 :: Y → s = t ∧ X = Y
 | [], [], X, Y, h => ⟨rfl, (List.cons.inj h).2⟩
 | [], c :: t, X, Y, h => by
  exfalso
  rw [Arc] at h
  by_cases hc : c = 34 ∨ c = 92
  ·rw [if_pos hc] at h
   exact absurd (List.cons.inj h).1 (by decide)
  ·rw [if_neg hc] at h
   exact hc (.inl (List.cons.inj h).1.symm)
 | b :: s, [], X, Y, h => by
  exfalso
  rw [Arc] at h
  by_cases hb : b = 34 ∨ b = 92
  ·rw [if_pos hb] at h
   exact absurd (List.cons.inj h).1 (by decide)
  ·rw [if_neg hb] at h
   exact hb (.inl (List.cons.inj h).1)
 | b :: s, c :: t, X, Y, h => by
  rw [Arc, Arc] at h
  by_cases hb : b = 34 ∨ b = 92
  ·rw [if_pos hb] at h
   by_cases hc : c = 34 ∨ c = 92
   ·rw [if_pos hc] at h
    have h1 := (List.cons.inj h).2
    have h2 := Aqc s t X Y (List.cons.inj h1).2
    exact ⟨by rw [(List.cons.inj h1).1, h2.1], h2.2⟩
   ·rw [if_neg hc] at h
    exact absurd (.inr (List.cons.inj h).1.symm) hc
  ·rw [if_neg hb] at h
   by_cases hc : c = 34 ∨ c = 92
   ·rw [if_pos hc] at h
    exact absurd (.inr (List.cons.inj h).1) hb
   ·rw [if_neg hc] at h
    have h2 := Aqc s t X Y (List.cons.inj h).2
    exact ⟨by rw [(List.cons.inj h).1, h2.1], h2.2⟩
theorem Ath {x y : Label} (hx : Ajg x = true) (hy : Ajg y = true) {X Y : List UInt8} (h : markL x ++ X = markL y ++ Y) : x = y ∧ X = Y := by
 simp only [Ajg, nameS, Bool.and_eq_true] at hx hy
 have no : ∀ (s : ByteArray), allI nameP 0 (bytes s) = true → ∀ c ∈ bytes s, (fun c : UInt8 => decide (c ≠ 61)) c = true := fun s hs c hc => by
  obtain ⟨j, hj⟩ := Aq7 hs c hc
  rw [decide_eq_true_eq]
  rintro rfl
  simp [nameP, letC, lowC, upC, digC, barC, inC] at hj
 unfold markL at h
 simp only [List.append_assoc, List.cons_append, List.nil_append] at h
 obtain ⟨h1, h2⟩ := Apc (p := fun c : UInt8 => decide (c ≠ 61)) _ _ _ _ (no _ hx.1.1.1) (no _ hy.1.1.1) (head_ne 61 _) (head_ne 61 _) h
 have h3 := (List.cons.inj (List.cons.inj h2).2).2
 obtain ⟨h4, h5⟩ := Aqc _ _ _ _ h3
 refine ⟨?_, h5⟩
 cases x; cases y
 simp only at h1 h4
 rw [ba_ext h1, ba_ext h4]
theorem Avo : ∀ l m : List Label, (∀ x ∈ l, Ajg x = true) → (∀ x ∈ m, Ajg x = true) → (l.map fun x => 44 :: markL x).flatten ++ [125] = (m.map fun x => 44 :: markL x).flatten ++ [125] → l = m
 | [], [], _, _, _ => rfl
 | [], y :: m, _, _, h => absurd (List.cons.inj h).1 (by decide)
 | x :: l, [], _, _, h => absurd (List.cons.inj h).1 (by decide)
 | x :: l, y :: m, hl, hm, h => by
  simp only [List.map_cons, List.flatten_cons, List.cons_append, List.append_assoc] at h
  obtain ⟨h1, h2⟩ := Ath (hl x (List.mem_cons_self ..)) (hm y (List.mem_cons_self ..)) (List.cons.inj h).2
  rw [h1, Avo l m (fun z hz => hl z (List.mem_cons_of_mem _ hz)) (fun z hz => hm z (List.mem_cons_of_mem _ hz)) h2]
def Ayy (l : List Label) : List UInt8 := match l with
 | [] => []
 | x :: l => markL x ++ (l.map fun x => 44 :: markL x).flatten
theorem Ayz (l : List Label) (hf : fitL Aiy l) (h : labelsS l = true) : bytes (An8 l) = 123 :: (Ayy l ++ [125]) := by
 obtain ⟨s, h1, _, h2⟩ := Api l hf h
 have e : An8 l = s := by unfold An8; rw [h1]; rfl
 have hm := labelsS_mem h
 have hz : ∀ x ∈ l, bytes (Avj x) = markL x := fun x hx => by
  have := hm x hx
  simp only [Ajg, Bool.and_eq_true, nameS, Asv, decide_eq_true_eq] at this
  exact A4k x this.1.2 this.2.2
 rw [e, h2, A1a]
 simp only [Ah5, Adh, List.cons_append, List.nil_append]
 congr 2
 cases l with
 | nil => rfl
 | cons x l =>
  simp only [List.map_cons, comL, Ayy, List.map_map]
  rw [hz x (List.mem_cons_self ..)]
  congr 2
  refine List.map_congr_left fun y hy => ?_
  show 44 :: bytes (Avj y) = _
  rw [hz y (List.mem_cons_of_mem _ hy)]
theorem A1d (x : Label) (hx : Ajg x = true) (X Y : List UInt8) : markL x ++ X ≠ 125 :: Y := fun h => by
 simp only [Ajg, nameS, Bool.and_eq_true, decide_eq_true_eq] at hx
 unfold markL at h
 cases hb : bytes x.Name with
 | nil =>
  have := Aau x.Name
  rw [hb] at h
  exact absurd (List.cons.inj h).1 (by decide)
 | cons c n =>
  rw [hb] at h
  obtain ⟨j, hj⟩ := Aq7 hx.1.1.1 c (by rw [hb]; exact List.mem_cons_self ..)
  have : c = 125 := (List.cons.inj h).1
  subst this
  simp [nameP, letC, lowC, upC, digC, barC, inC] at hj
theorem A15 {l m : List Label} (fl : fitL Aiy l) (fm : fitL Aiy m) (hl : labelsS l = true) (hm : labelsS m = true) (h : An8 l = An8 m) : l = m := by
 have h := congrArg bytes h
 rw [Ayz l fl hl, Ayz m fm hm] at h
 have h := (List.cons.inj h).2
 have ml := labelsS_mem hl
 have mm := labelsS_mem hm
 cases l with
 | nil =>
  cases m with
  | nil => rfl
  | cons y m =>
   simp only [Ayy, List.nil_append, List.append_assoc] at h
   exact absurd h.symm (A1d y (mm y (List.mem_cons_self ..)) _ _)
 | cons x l =>
  cases m with
  | nil =>
   simp only [Ayy, List.nil_append, List.append_assoc] at h
   exact absurd h (A1d x (ml x (List.mem_cons_self ..)) _ _)
  | cons y m =>
   simp only [Ayy, List.append_assoc] at h
   obtain ⟨h1, h2⟩ := Ath (ml x (List.mem_cons_self ..)) (mm y (List.mem_cons_self ..)) h
   rw [h1, Avo l m (fun z hz => ml z (List.mem_cons_of_mem _ hz)) (fun z hz => mm z (List.mem_cons_of_mem _ hz)) h2]
theorem Ati (r : Rule) (hf : Ak8 r) (h : ruleS r = true) : Apj r = A1c r := by
 unfold Apj
 rw [Aut r hf h]; rfl
theorem A5l {r q : Rule} (fr : Ak8 r) (fq : Ak8 q) (hr : ruleS r = true) (hq : ruleS q = true) (h : Apj r = Apj q) : r = q := by
 rw [Ati r fr hr, Ati q fq hq] at h
 have l1 := hr
 have l2 := hq
 simp only [ruleS, Bool.and_eq_true, decide_eq_true_eq] at l1 l2
 obtain ⟨⟨⟨⟨⟨⟨⟨⟨⟨⟨⟨⟨_, _⟩, a1⟩, a2⟩, _⟩, _⟩, _⟩, _⟩, _⟩, _⟩, _⟩, l1⟩, _⟩ := l1
 obtain ⟨⟨⟨⟨⟨⟨⟨⟨⟨⟨⟨⟨_, _⟩, b1⟩, b2⟩, _⟩, _⟩, _⟩, _⟩, _⟩, _⟩, _⟩, l2⟩, _⟩ := l2
 unfold A1c at h
 simp only [List.cons.injEq, and_true] at h
 obtain ⟨e1, e2, e3, e4, e5, e6, e7, e8⟩ := h
 replace e3 := A5k a1 a2 b1 b2 e3
 replace e4 := Apk e4
 replace e5 := Apk e5
 replace e6 := Apk e6
 replace e7 := Apk e7
 replace e8 := A15 fr.2.2 fq.2.2 l1 l2 e8
 clear l1 l2 a1 a2 b1 b2 hr hq fr fq
 cases r; cases q
 simp only at e1 e2 e3 e4 e5 e6 e7 e8
 subst e1; subst e2; subst e3; subst e4; subst e5; subst e6; subst e7; subst e8
 rfl
theorem Aqd {α β : Type} {f : α → List β} {P : α → Prop} (n : Nat) (hn : ∀ x, P x → (f x).length = n + 1) (hf : ∀ x y, P x → P y → f x = f y → x = y) : ∀ l m : List α, (∀ x ∈ l, P x) → (∀ x ∈ m, P x) → (l.map f).flatten = (m.map f).flatten → l = m
 | [], [], _, _, _ => rfl
 | [], y :: m, _, hm, h => by
  have := hn y (hm y (List.mem_cons_self ..))
  have h := congrArg List.length h
  simp only [List.map_cons, List.flatten_cons, List.length_append, List.map_nil, List.flatten_nil, List.length_nil] at h
  omega
 | x :: l, [], hl, _, h => by
  have := hn x (hl x (List.mem_cons_self ..))
  have h := congrArg List.length h
  simp only [List.map_cons, List.flatten_cons, List.length_append, List.map_nil, List.flatten_nil, List.length_nil] at h
  omega
 | x :: l, y :: m, hl, hm, h => by
  have px := hl x (List.mem_cons_self ..)
  have py := hm y (List.mem_cons_self ..)
  simp only [List.map_cons, List.flatten_cons] at h
  obtain ⟨h1, h2⟩ := List.append_inj h ((hn x px).trans (hn y py).symm)
  rw [hf x y px py h1, Aqd n hn hf l m (fun z hz => hl z (List.mem_cons_of_mem _ hz)) (fun z hz => hm z (List.mem_cons_of_mem _ hz)) h2]
theorem Aw9 {a b : Int} (ha : 0 ≤ a) (hb : 0 ≤ b) (h : numS a.toNat = numS b.toNat) : a = b := by
 have h := congrArg bytes h
 have h' : numL a.toNat = numL b.toNat := by
  have e : ∀ n, bytes (numS n) = numL n := fun n => Adh _
  rw [e, e] at h; exact h
 have := (Aol a.toNat b.toNat [] [] (by rw [h'])).1
 omega
theorem A6l {a b : Bool} (h : onT a = onT b) : a = b := by
 have h := congrArg bytes h
 cases a <;> cases b <;> first | rfl | (exfalso; revert h; decide)
theorem Avp : ∀ (d : Nat) (n m : Nat) (r q : Route) (e : Nat), SizeOf.sizeOf r < n → SizeOf.sizeOf q < m → Aez d r = true → Aez e q = true → Ag5 n r = Ag5 m q → r = q
 | d, 0, m, r, q, e, h, _, _, _, _ => absurd h (Nat.not_lt_zero _)
 | d, n + 1, 0, r, q, e, _, h, _, _, _ => absurd h (Nat.not_lt_zero _)
 | 0, n + 1, m + 1, r, q, e, hn, hm, hr, hq, h => by obtain ⟨_, hh⟩ := Ap2 hr; cases hh
 | d + 1, n + 1, m + 1, r, q, e, hn, hm, hr, hq, h => by
  obtain ⟨e, rfl⟩ := Ap2 hq
  have hr0 := hr
  have hq0 := hq
  obtain ⟨_, k2⟩ := Agn hr0
  obtain ⟨_, k3⟩ := Agn hq0
  rw [Ag5, Ag5] at h
  replace h := Aft h
  simp only [List.map_cons, List.map_nil, List.cons_append, List.nil_append, List.cons.injEq, and_true] at h
  obtain ⟨e1, e2, e3, e4, e5, e6, e7, e8, e9⟩ := h
  simp only [Aez, oneS, fromS, Bool.and_eq_true, decide_eq_true_eq] at hr hq
  obtain ⟨⟨⟨⟨⟨⟨⟨⟨_, hm1⟩, _⟩, _⟩, _⟩, w0, _⟩, x0, _⟩, r0, _⟩, _⟩ := hr
  obtain ⟨⟨⟨⟨⟨⟨⟨⟨_, hm2⟩, _⟩, _⟩, _⟩, w1, _⟩, x1, _⟩, r1, _⟩, _⟩ := hq
  replace e2 := Ap8 hm1 hm2 e2
  replace e3 := Aft e3
  replace e4 := Aft e4
  replace e5 := Aw9 (by omega) (by omega) e5
  replace e6 := Aw9 (by omega) (by omega) e6
  replace e7 := Aw9 (by omega) (by omega) e7
  replace e8 := A6l e8
  replace e9 := Aft e9
  have kids : ∀ l l' : List Route, (∀ k ∈ l, k ∈ r.Routes) → (∀ k ∈ l', k ∈ q.Routes) → l.map (Ag5 n) = l'.map (Ag5 m) → l = l' := by
   intro l
   induction l with
   | nil => intro l' _ _ h; cases l' with
    | nil => rfl
    | cons y l' => cases h
   | cons x l ih => intro l' hl hl' h; cases l' with
    | nil => cases h
    | cons y l' =>
     simp only [List.map_cons, List.cons.injEq] at h
     have hx := hl x (List.mem_cons_self ..)
     have hy := hl' y (List.mem_cons_self ..)
     rw [Avp d n m x y e (by have := Ak0 hx; omega) (by have := Ak0 hy; omega) (k2 x hx) (k3 y hy) h.1, ih l' (fun z hz => hl z (List.mem_cons_of_mem _ hz)) (fun z hz => hl' z (List.mem_cons_of_mem _ hz)) h.2]
  replace e9 := kids r.Routes q.Routes (fun _ h => h) (fun _ h => h) e9
  clear kids k2 k3 hr0 hq0 hm1 hm2 hn hm w0 w1 x0 x1 r0 r1
  cases r; cases q
  simp only at e1 e2 e3 e4 e5 e6 e7 e8 e9
  subst e1; subst e2; subst e3; subst e4; subst e5; subst e6; subst e7; subst e8; subst e9
  rfl
theorem A4l {a b : Config} (fa : Acj a) (fb : Acj b) (ha : Adb a = true) (hb : Adb b = true) (h : textT (normS a) = textT (normS b)) : normS a = normS b := by
 have oa := Alz ha
 have ob := Alz hb
 have na := Apg fa
 have nb := Apg fb
 have ra : ∀ r ∈ (normS a).Rules, ruleS r = true := fun r hr => oa.rules.2.1 r ((Aeo _ _).mem_iff.1 hr)
 have rb : ∀ r ∈ (normS b).Rules, ruleS r = true := fun r hr => ob.rules.2.1 r ((Aeo _ _).mem_iff.1 hr)
 have ha' : ∀ r ∈ (normS a).Hours, hourS r = true := fun r hr => oa.hours.2.1 r ((Aeo _ _).mem_iff.1 hr)
 have hb' : ∀ r ∈ (normS b).Hours, hourS r = true := fun r hr => ob.hours.2.1 r ((Aeo _ _).mem_iff.1 hr)
 have ia := Aon ha
 have ib := Aon hb
 have ta : Aez 4 (normS a).Route = true := by have := oa.top; simp only [topS, Bool.and_eq_true] at this; exact this.1.1.1
 have tb : Aez 4 (normS b).Route = true := by have := ob.top; simp only [topS, Bool.and_eq_true] at this; exact this.1.1.1
 generalize normS a = x at *
 generalize normS b = y at *
 unfold textT at h
 replace h := Aft h
 simp only [List.cons.injEq, and_true] at h
 obtain ⟨e1, e2, e3, e4, e5⟩ := h
 replace e1 := Aqd (P := fun r : Rule => Ak8 r ∧ ruleS r = true) 7 (fun r hr => by rw [Ati r hr.1 hr.2]; rfl) (fun r q hr hq => A5l hr.1 hq.1 hr.2 hq.2) _ _ (fun r hr => ⟨na.1.2 r hr, ra r hr⟩) (fun r hr => ⟨nb.1.2 r hr, rb r hr⟩) (Aft e1)
 replace e2 := Aft e2
 replace e3 := Aqd (P := fun r : Hours => hourS r = true) 1 (fun _ _ => rfl) (fun r q hr hq h => by
  simp only [List.cons.injEq, and_true] at h
  exact A4j hr hq h.1 h.2) _ _ ha' hb' (Aft e3)
 replace e4 := Ap7 (P := fun i : Inhibit => Aek i = true) (fun i j hi hj h => A12 hi hj h) _ _ ia ib (Aft e4)
 replace e5 := Avp 4 _ _ _ _ 4 (Nat.lt_succ_self _) (Nat.lt_succ_self _) ta tb e5
 clear na nb ra rb ha' hb' ia ib ta tb
 cases x; cases y
 simp only at e1 e2 e3 e4 e5
 subst e1; subst e2; subst e3; subst e4; subst e5
 rfl
theorem Aq2 (a b : Config) (fa : Acj a) (fb : Acj b) : Aco std a b = some true := by
 obtain ⟨w1, h1, _⟩ := A07 a fa
 obtain ⟨w2, h2, _⟩ := A07 b fb
 obtain ⟨s, e, m, g1, g2, g3, g4, g5⟩ := Ayv a fa
 obtain ⟨t, f, n, k1, k2, k3, k4, k5⟩ := Ayv b fb
 unfold Aco
 rw [h1, bd_some]
 cases w1 with
 | true =>
  rw [show std.not true = false from rfl, gd_f, bd_some, show std.or true false = true from rfl, Aag, Aw5]; rfl
 | false =>
  rw [show std.not false = true from rfl, gd_t, h2, bd_some]
  cases w2 with
  | true => rw [show std.or false true = true from rfl, Aag, Aw5]; rfl
  | false =>
   rw [show std.or false false = false from rfl, br_false, g1, bd_some, k1, bd_some, Aw5, bd_some]
   by_cases he : e = 0
   ·by_cases hf : f = 0
    ·subst he; subst hf
     obtain ⟨ca, rfl⟩ := g4 rfl
     obtain ⟨cb, rfl⟩ := k4 rfl
     rw [if_pos rfl] at g5 k5
     rw [show std.or (std.cmp .neq 0 0) (std.cmp .neq 0 0) = false from rfl, br_false, g5, bd_some, k5, bd_some, bd_some, gd_t, Aup a b fa fb, bd_some, ca, cb, A4c ca, A4c cb]
     have hq : decide (textT (normS a) = textT (normS b)) = eqB (normS a) (normS b) := by
      refine An6 ?_
      rw [decide_eq_true_eq]
      exact ⟨fun h => A4l fa fb ca cb h, fun h => by rw [h]⟩
     simp only
     rw [← hq]
     have h16 : std.cmp .eql (std.slen m) 16 = true := by rw [An1, g3]; rfl
     have hz : std.cmp .eql 0 0 = true := rfl
     have ht : std.and true true = true := rfl
     by_cases hx : textT (normS a) = textT (normS b)
     ·have hm : m = n := by rw [hx, k2] at g2; exact (Option.some.inj g2).symm
      subst hm
      have q1 : std.scmp .eql (textT (normS a)) (textT (normS b)) = true := by rw [s_seql]; exact decide_eq_true hx
      have q2 : std.scmp .neq (textT (normS a)) (textT (normS b)) = false := by rw [Aqk]; exact decide_eq_false (fun h => h hx)
      have q3 : std.scmp .eql m m = true := by rw [s_seql]; exact decide_eq_true rfl
      rw [q1, q2, q3, h16, hz, decide_eq_true hx]
      exact (ck_t (show true = true from rfl)).trans rfl
     ·have q1 : std.scmp .eql (textT (normS a)) (textT (normS b)) = false := by rw [s_seql]; exact decide_eq_false hx
      have q2 : std.scmp .neq (textT (normS a)) (textT (normS b)) = true := by rw [Aqk]; exact decide_eq_true hx
      rw [q1, q2, h16, hz, decide_eq_false hx]
      exact (ck_t (show True from trivial)).trans rfl
    ·rw [show std.or (std.cmp .neq e 0) (std.cmp .neq f 0) = true from by rw [s_lor, s_neq, s_neq]; simp [hf], Aag]
   ·rw [show std.or (std.cmp .neq e 0) (std.cmp .neq f 0) = true from by rw [s_lor, s_neq, s_neq]; simp [he], Aag]
end Go.PL
