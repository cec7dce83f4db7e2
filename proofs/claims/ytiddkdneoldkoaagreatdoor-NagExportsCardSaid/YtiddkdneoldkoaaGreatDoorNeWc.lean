/- Texts of this claim: plain laws of what the program's functions compute. No condition of their own. -/
import Derived.Test.YtiddkdneoldkoaaGreatDoorNeWb
import Derived.Lib.ItoaLen
import Derived.Lib.SplitLaws
import Derived.Lib.Replace
import Derived.Lib.Repeat
import Derived.KernelRfl
import Derived.Lib.IndexBytes
set_option linter.unusedSectionVars false
set_option linter.unusedVariables false
set_option linter.unusedSimpArgs false
set_option maxRecDepth 100000
open Go.PL.Tys (Ty U)
open Go.PL.Enc (sz enc dflt tb ofB toB)
open Go.PL.Dec (dec dok)
namespace Go.PL
theorem Avj (old new : List UInt8) : ∀ (k : Nat) (s : List UInt8), (Lib.replaceK old new k s).length ≤ s.length + k * new.length
 | 0, s => by simp [Lib.replaceK]
 | k + 1, s => by
  rw [Lib.replaceK]
  split
  ·exact Nat.le_add_right ..
  ·have h := Avj old new k (s.drop ((Lib.index s old).toNat + old.length))
   simp only [List.length_append, List.length_take, List.length_drop, Nat.succ_mul] at h ⊢
   omega
theorem Avk (s old new : ByteArray) (h0 : 1 ≤ old.size) (h2 : new.size = 2) (hs : s.size ≤ 1000) : ∃ t, strings_ReplaceAll std s old new = some t ∧ t.size ≤ 3 * s.size := by
 have hc := Lib.countB_le old h0 s.size s (Nat.le_refl _)
 unfold strings_ReplaceAll
 refine ⟨_, ck_t ⟨by omega, h0, by rw [h2]; omega⟩, ?_⟩
 rw [Acb, Aay]
 unfold Lib.replaceAll Lib.replace
 split
 ·show (bytes s).length ≤ _
  rw [Aag]; omega
 ·have h := Avj old.data.toList new.data.toList (Lib.replaceNum s.data.toList old.data.toList (-1)) s.data.toList
  have e : Lib.replaceNum s.data.toList old.data.toList (-1) = Lib.countB s old := by
   unfold Lib.replaceNum
   rw [if_pos (.inl (by omega))]
  have l1 : s.data.toList.length = s.size := Aag s
  have l2 : new.data.toList.length = 2 := (Aag new).trans h2
  rw [e] at h ⊢
  rw [l1, l2] at h
  omega
theorem A9j (x : label_mark) (h1 : x.Name.size ≤ 64) (h2 : x.Value.size ≤ 64) : ∃ t, Aeb std x = some t ∧ t.size ≤ 1000 := by
 unfold Aeb
 have q2 : (ByteArray.mk (Array.mk [61, 34])).size = 2 := rfl
 have q1 : (ByteArray.mk (Array.mk [34])).size = 1 := rfl
 obtain ⟨a, ha, la⟩ := Avk x.Value (ByteArray.mk (Array.mk [92])) (ByteArray.mk (Array.mk [92, 92])) (by decide) rfl (by omega)
 obtain ⟨b, hb, lb⟩ := Avk a (ByteArray.mk (Array.mk [34])) (ByteArray.mk (Array.mk [92, 34])) (by decide) rfl (by omega)
 rw [ha, bd_some, hb, bd_some]
 have z1 : (x.Name ++ ByteArray.mk (Array.mk [61, 34])).size = x.Name.size + 2 := by rw [ByteArray.size_append, q2]
 have z2 : (x.Name ++ ByteArray.mk (Array.mk [61, 34]) ++ b).size = x.Name.size + 2 + b.size := by rw [ByteArray.size_append, z1]
 rw [s_cat, s_cat, s_cat, ck_t (show std.catOk _ _ by rw [Aaw, q2]; omega), ck_t (show std.catOk _ _ by rw [Aaw, z1]; omega), ck_t (show std.catOk _ _ by rw [Aaw, z2, q1]; omega)]
 exact ⟨_, rfl, by rw [ByteArray.size_append, z2, q1]; omega⟩
theorem A6k (sep : List UInt8) : ∀ (l : List (List UInt8)) (m : Nat), (∀ x ∈ l, x.length ≤ m) → (Lib.join l sep).length ≤ l.length * (m + sep.length)
 | [], m, _ => by simp [Lib.join]
 | x :: l, m, h => by
  have key : ∀ l : List (List UInt8), (∀ x ∈ l, x.length ≤ m) → (Lib.joinTail sep l).length ≤ l.length * (m + sep.length) := by
   intro l
   induction l with
   | nil => intro _; simp [Lib.joinTail]
   | cons y l ih =>
    intro h
    have h1 := ih fun x hx => h x (List.mem_cons_of_mem _ hx)
    have h2 := h y (List.mem_cons_self ..)
    simp only [Lib.joinTail, List.map_cons, List.flatten_cons, List.length_append, List.length_cons, Nat.succ_mul] at h1 ⊢
    omega
  rw [Lib.join_cons]
  have h1 := key l fun x hx => h x (List.mem_cons_of_mem _ hx)
  have h2 := h x (List.mem_cons_self ..)
  simp only [List.length_append, List.length_cons, Nat.succ_mul]
  omega
theorem Axm (xs : List Label) (hf : fitL Aqs xs) (h : labelsS xs = true) : ∃ s, Aly std xs = some (s, 0) ∧ s.size ≤ 10000 := by
 have hl : xs.length ≤ 8 := by
  simp only [labelsS, Bool.and_eq_true, decide_eq_true_eq] at h; exact h.2
 have hm := labelsS_mem h
 unfold Aly
 rw [Api xs hf, bd_some, h, s_not, Bool.not_true, br_false]
 have e1 : Aoa std xs = some (xs.map fun l => (⟨l.Name, l.Value⟩ : label_mark)) := by
  unfold Aoa
  have := Aap (B := Amc std xs) (fun i (_ : Unit) => ((xs.take i).map fun l => (⟨l.Name, l.Value⟩ : label_mark), (i : Int))) xs (fun _ _ (_ : Unit) => (.inl () : Unit ⊕ List label_mark)) (fun _ => xs.map fun l => (⟨l.Name, l.Value⟩ : label_mark)) (fun i x u hx hi => by
   unfold Amc
   simp only
   rw [Aaa, lssT hi, br_true, ck_t (inbT hi), Aab (t := TyS.label) hx, ck_t (show std.appOk TyS.mark 32 ((xs.take i).map fun l => (⟨l.Name, l.Value⟩ : label_mark)) [⟨x.Name, x.Value⟩] from ⟨by simp; omega, by simp; omega⟩), s_add, wrap_succ hi (by unfold big63; omega), take_snoc hx, List.map_append]
   rfl) (fun _ => by
   unfold Amc
   simp only
   rw [Aaa, lssF, br_false, List.take_length]
   rfl) ()
  rw [Ad1] at this
  exact this
 rw [e1, bd_some]
 -- texts of marks
 have hmk : ∀ l ∈ xs, ∃ t, Aeb std ⟨l.Name, l.Value⟩ = some t ∧ t.size ≤ 1000 := fun l hl => by
  have := hm l hl
  simp only [Alf, Bool.and_eq_true, nameS, Ap5, decide_eq_true_eq] at this
  exact A9j _ this.1.2 this.2.2
 let f : Label → ByteArray := fun l => ((Aeb std ⟨l.Name, l.Value⟩).getD ⟨#[]⟩)
 have hf2 : ∀ l ∈ xs, Aeb std ⟨l.Name, l.Value⟩ = some (f l) ∧ (f l).size ≤ 1000 := fun l hl => by
  obtain ⟨t, h1, h2⟩ := hmk l hl
  have : f l = t := by show ((Aeb std ⟨l.Name, l.Value⟩).getD ⟨#[]⟩) = t; rw [h1]; rfl
  rw [this]; exact ⟨h1, h2⟩
 have hjl : (Lib.join ((xs.map f).map (·.data.toList)) [44]).length ≤ 8008 := by
  have := A6k [44] ((xs.map f).map (·.data.toList)) 1000 (fun x hx => by
   obtain ⟨y, hy, rfl⟩ := List.mem_map.1 hx
   obtain ⟨l, hl, rfl⟩ := List.mem_map.1 hy
   have := (hf2 l hl).2
   show (bytes (f l)).length ≤ 1000
   rw [Aag]; exact this)
  simp only [List.length_map, List.length_singleton] at this
  omega
 have hlen : (xs.map fun l => (⟨l.Name, l.Value⟩ : label_mark)).length = xs.length := List.length_map ..
 have hj : strings_Join std (xs.map f) (ByteArray.mk (Array.mk [44])) = some ⟨(Lib.join ((xs.map f).map (·.data.toList)) [44]).toArray⟩ := by
  unfold strings_Join
  exact ck_t ⟨by rw [List.length_map]; omega, by show (Lib.join ((xs.map f).map (·.data.toList)) [44]).length ≤ _; omega⟩
 have jz : (ByteArray.mk (Lib.join ((xs.map f).map (·.data.toList)) [44]).toArray).size ≤ 8008 := by rw [Acb, Aay]; exact hjl
 generalize ByteArray.mk (Lib.join ((xs.map f).map (·.data.toList)) [44]).toArray = J at hj jz
 have q1 : (ByteArray.mk (Array.mk [123])).size = 1 := rfl
 have q2 : (ByteArray.mk (Array.mk [125])).size = 1 := rfl
 have := Aap (B := Anl std (xs.map fun l => (⟨l.Name, l.Value⟩ : label_mark))) (fun i (_ : Unit) => ((xs.take i).map f, (i : Int))) xs (fun _ _ (_ : Unit) => (.inl () : Unit ⊕ (ByteArray × Int))) (fun _ => (ByteArray.mk (Array.mk [123]) ++ J ++ ByteArray.mk (Array.mk [125]), 0)) (fun i x u hx hi => by
  unfold Anl
  simp only
  have hx2 : (xs.map fun l => (⟨l.Name, l.Value⟩ : label_mark))[i]? = some ⟨x.Name, x.Value⟩ := by rw [List.getElem?_map, hx]; rfl
  rw [Aaa, hlen, lssT hi, br_true, ck_t (inbT hi), Aab (t := TyS.mark) hx2, (hf2 x (Abl hx)).1, bd_some, ck_t (show std.appOk TyS.str 16 ((xs.take i).map f) [f x] from ⟨by simp; omega, by simp; omega⟩), s_add, wrap_succ hi (by unfold big63; omega), take_snoc hx, List.map_append]
  rfl) (fun _ => by
  unfold Anl
  simp only
  rw [Aaa, hlen, lssF, br_false, List.take_length, hj, bd_some, s_cat, s_cat, ck_t (show std.catOk _ _ by rw [Aaw, q1]; omega), ck_t (show std.catOk _ _ by rw [Aaw, ByteArray.size_append, q1, q2]; omega)]
  rfl) ()
 rw [Ad1] at this
 exact ⟨_, this, by rw [ByteArray.size_append, ByteArray.size_append, q1, q2]; omega⟩
theorem Bbm {S ε α σ : Type} {B : S → Option (S ⊕ ε)} (enc : Nat → σ → S) (xs : List α) (next : Nat → α → σ → σ) (I : Nat → σ → Prop) (G : ε → Prop)
  (h1 : ∀ i x s, xs[i]? = some x → I i s → B (enc i s) = some (.inl (enc (i + 1) (next i x s))) ∧ I (i + 1) (next i x s))
  (h2 : ∀ s, I xs.length s → ∃ e, B (enc xs.length s) = some (.inr e) ∧ G e) (s0 : σ) (h0 : I 0 s0) : ∃ e, Loop B (enc 0 s0) = some e ∧ G e := by
 have key : ∀ (n i : Nat) (s : σ), i + n = xs.length → I i s → ∃ e, Loop B (enc i s) = some e ∧ G e := by
  intro n
  induction n with
  | zero =>
   intro i s hi hI
   obtain rfl : i = xs.length := by omega
   obtain ⟨e, he, hg⟩ := h2 s hI
   exact ⟨e, by rw [Acg, he], hg⟩
  | succ n ih =>
   intro i s hi hI
   have hl : i < xs.length := by omega
   obtain ⟨h3, h4⟩ := h1 i xs[i] s (List.getElem?_eq_getElem hl) hI
   obtain ⟨e, he, hg⟩ := ih (i + 1) _ (by omega) h4
   exact ⟨e, by rw [Acg, h3]; exact he, hg⟩
 exact key xs.length 0 s0 (by omega) h0
theorem A9k {α : Type} {l : List α} {n : Nat} (x : α) (h : l.length ≤ n) : (l ++ [x]).length ≤ n + 1 := by
 rw [List.length_append, List.length_singleton]; omega
theorem Asr (n : Int) (h0 : 0 ≤ n) (h1 : n ≤ 99) : ∃ t, Ajp std n = some t ∧ t.size = 2 := by
 unfold Ajp
 have q1 : std.ar .quo .i64 n 10 = n / 10 := by rw [s_quo, tdiv0 h0, w64 (by omega)]
 have q2 : std.ar .rem .i64 n 10 = n % 10 := by rw [s_rem, tmod0 h0]
 have a1 : std.ar .add .i64 48 (n / 10) = 48 + n / 10 := by rw [s_add, w64 (by omega)]
 have a2 : std.ar .add .i64 48 (n % 10) = 48 + n % 10 := by rw [s_add, w64 (by omega)]
 rw [q1, q2, a1, a2, A8p, A8p, w8 (by omega), w8 (by omega), ck_t (show std.u8ok _ from ⟨by omega, by omega⟩), ck_t (show std.u8ok _ from ⟨by omega, by omega⟩), A3d]
 exact ⟨_, rfl, rfl⟩
theorem Am7 (n : Int) (h0 : 0 ≤ n) (h1 : n ≤ 1440) : ∃ t, Agm std n = some t ∧ t.size = 5 := by
 unfold Agm
 have q1 : std.ar .quo .i64 n 60 = n / 60 := by rw [s_quo, tdiv0 h0, w64 (by omega)]
 have q2 : std.ar .rem .i64 n 60 = n % 60 := by rw [s_rem, tmod0 h0]
 obtain ⟨a, ha, la⟩ := Asr (n / 60) (by omega) (by omega)
 obtain ⟨b, hb, lb⟩ := Asr (n % 60) (by omega) (by omega)
 have z : (ByteArray.mk (Array.mk [58])).size = 1 := rfl
 rw [q1, q2, ha, bd_some, ck_t (show std.catOk _ _ by rw [Aaw, la, z]; omega), hb, bd_some, s_cat, s_cat, ck_t (show std.catOk _ _ by rw [Aaw, ByteArray.size_append, la, lb, z]; omega)]
 exact ⟨_, rfl, by rw [ByteArray.size_append, ByteArray.size_append, la, lb, z]⟩
def dayT (i : Nat) : ByteArray := std.sel [ByteArray.mk (Array.mk [109, 111, 110]), ByteArray.mk (Array.mk [116, 117, 101]), ByteArray.mk (Array.mk [119, 101, 100]), ByteArray.mk (Array.mk [116, 104, 117]), ByteArray.mk (Array.mk [102, 114, 105]), ByteArray.mk (Array.mk [115, 97, 116]), ByteArray.mk (Array.mk [115, 117, 110])] (i : Int)
theorem dayT_size (i : Nat) (h : i < 7) : (dayT i).size = 3 := by
 have : i = 0 ∨ i = 1 ∨ i = 2 ∨ i = 3 ∨ i = 4 ∨ i = 5 ∨ i = 6 := by omega
 rcases this with rfl | rfl | rfl | rfl | rfl | rfl | rfl <;> rfl
theorem Axn (h : Hours) (hs : hourS h = true) : ∃ v, Aiy std h = some v := by
 have h0 := hs
 simp only [hourS, Bool.and_eq_true, decide_eq_true_eq] at h0
 obtain ⟨⟨⟨⟨⟨⟨_, _⟩, _⟩, f0⟩, f1⟩, f2⟩, t1⟩ := h0
 obtain ⟨a, ha, la⟩ := Am7 h.From f0 (by omega)
 obtain ⟨b, hb, lb⟩ := Am7 h.To (by omega) t1
 unfold Aiy
 rw [Apj h, bd_some, hs, s_not, Bool.not_true, br_false]
 have := Bbm (B := Ahp std h) (fun i (l : List ByteArray) => (l, (i : Int))) (List.range 7) (fun i _ l => if std.cmp .eql (std.ar .and .i64 (std.ar .shr .i64 h.Days (i : Int)) 1) 1 = true then l ++ [dayT i] else l) (fun i l => i ≤ 7 ∧ l.length ≤ i ∧ ∀ x ∈ l, x.size ≤ 3) (fun _ => True) (fun i n l hx ⟨hi7, hI, hz⟩ => by
  have hi : i < 7 := by have := Agh hx; simpa using this
  refine ⟨?_, by omega, ?_, ?_⟩
  ·unfold Ahp
   simp only
   rw [show std.cmp .lss (i : Int) 7 = true from lssT (n := 7) hi, br_true, ck_t (show std.inb (i : Int) (Int.ofNat 7) from inbT (n := 7) hi), ck_t (show std.nn (i : Int) by show (0 : Int) ≤ _; omega), s_add, wrap_succ (n := 7) hi (by unfold big63; omega)]
   cases std.cmp .eql (std.ar .and .i64 (std.ar .shr .i64 h.Days (i : Int)) 1) 1 with
   | true =>
    rw [br_true, if_pos rfl]
    have hA : std.appOk TyS.str 16 l [dayT i] := ⟨by simp; omega, by simp; omega⟩
    exact ck_t hA
   | false => rfl
  ·split
   ·exact A9k _ hI
   ·omega
  ·split
   ·intro x hx
    rcases List.mem_append.1 hx with hx | hx
    ·exact hz x hx
    ·rw [List.mem_singleton.1 hx, dayT_size i hi]; omega
   ·exact hz) (fun l ⟨_, hI, hz⟩ => by
  simp only [List.length_range] at hI
  unfold Ahp
  simp only [List.length_range]
  have hj := A6k [44] (l.map (·.data.toList)) 3 (fun x hx => by
   obtain ⟨y, hy, rfl⟩ := List.mem_map.1 hx
   show (bytes y).length ≤ 3
   rw [Aag]; exact hz y hy)
  simp only [List.length_map, List.length_singleton] at hj
  have hJ : strings_Join std l (ByteArray.mk (Array.mk [44])) = some ⟨(Lib.join (l.map (·.data.toList)) [44]).toArray⟩ := by
   unfold strings_Join
   exact ck_t ⟨by omega, by show (Lib.join (l.map (·.data.toList)) [44]).length ≤ _; omega⟩
  have jz : (ByteArray.mk (Lib.join (l.map (·.data.toList)) [44]).toArray).size ≤ 28 := by rw [Acb, Aay]; omega
  generalize ByteArray.mk (Lib.join (l.map (·.data.toList)) [44]).toArray = J at hJ jz
  have z1 : (ByteArray.mk (Array.mk [32])).size = 1 := rfl
  have z2 : (ByteArray.mk (Array.mk [45])).size = 1 := rfl
  rw [show std.cmp .lss ((7 : Nat) : Int) 7 = false from rfl, br_false, hJ, bd_some, s_cat, ck_t (show std.catOk _ _ by rw [Aaw, z1]; omega), ha, bd_some, s_cat, ck_t (show std.catOk _ _ by rw [Aaw, ByteArray.size_append, z1, la]; omega), s_cat, ck_t (show std.catOk _ _ by rw [Aaw, ByteArray.size_append, ByteArray.size_append, z1, z2, la]; omega), hb, bd_some, s_cat, ck_t (show std.catOk _ _ by rw [Aaw, ByteArray.size_append, ByteArray.size_append, ByteArray.size_append, z1, z2, la, lb]; omega)]
  exact ⟨_, rfl, trivial⟩) [] ⟨by omega, by simp, fun x hx => by cases hx⟩
 obtain ⟨e, he, _⟩ := this
 exact ⟨e, he⟩
def Bb2 (m : Matcher) : Bool := decide ((textS m).size ≤ 200)
def shortS (l : List Matcher) : Bool := l.all Bb2
def flatS : Nat → Route → Bool
 | 0, _ => false
 | d + 1, r => shortS r.Match && r.Routes.all (flatS d)
def bareC (c : Config) : Config := ⟨[], c.Route, c.Receivers, c.Inhibits, c.Hours⟩
def Bb3 (x : Inhibit) : Bool := shortS x.Source && shortS x.Target
def holdsA (c : Config) : Bool := Aft (bareC c) && (flatS 3 c.Route && c.Inhibits.all Bb3)
def wordN (s : ByteArray) : Node := ⟨1, s, [], []⟩
def rowN (l : List Node) : Node := ⟨2, ⟨#[]⟩, [], l⟩
def mapN (names : List ByteArray) (l : List Node) : Node := ⟨3, ⟨#[]⟩, names, l⟩
def Ba2 (m : Matcher) : Node := wordN (textS m)
def numN (n : Int) : Node := wordN ⟨(Lib.itoa n).toArray⟩
def Bcn (x : Inhibit) : Node := mapN [ByteArray.mk (Array.mk [115, 111, 117, 114, 99, 101]), ByteArray.mk (Array.mk [116, 97, 114, 103, 101, 116]), ByteArray.mk (Array.mk [101, 113, 117, 97, 108])] [rowN (x.Source.map Ba2), rowN (x.Target.map Ba2), rowN (x.Equal.map wordN)]
noncomputable def Ass (h : Hours) : ByteArray := ((Aiy std h).getD (⟨#[]⟩, 0)).1
theorem A9l (h : Hours) (hs : hourS h = true) : ∃ e, Aiy std h = some (Ass h, e) := by
 obtain ⟨v, hv⟩ := Axn h hs
 unfold Ass
 rw [hv]
 exact ⟨v.2, rfl⟩
noncomputable def spanN (h : Hours) : Node := mapN [ByteArray.mk (Array.mk [110, 97, 109, 101]), ByteArray.mk (Array.mk [115, 112, 97, 110])] [wordN h.Name, wordN (Ass h)]
def onW (b : Bool) : ByteArray := cond b (ByteArray.mk (Array.mk [116, 114, 117, 101])) (ByteArray.mk (Array.mk [102, 97, 108, 115, 101]))
def A6l (s : ByteArray) : Bool := (bytes s).all Ahk && decide (s.size ≤ 200)
def keyP (l : List ByteArray) (i : Nat) (s : ByteArray) : Bool := wordS s && onceP l i s
def Ba3 (l : List ByteArray) (k : Nat) : Bool := allI (keyP l) 0 l && decide (l.length = k)
theorem A1z (l : List ByteArray) (i : Nat) (s : ByteArray) (h : l.length ≤ big63) : Aao std (std.lsub TyS.str l 0 (i : Int)) s = some (hasS (l.take i) s) := by
 rw [Atq, Int.toNat_natCast, show Int.toNat 0 = 0 from rfl, List.drop_zero, Aut _ _ (by rw [List.length_take]; omega), A3c]
def mayN : Nat → Node → Bool
 | 0, _ => false
 | d + 1, n => if n.Kind = 1 then A6l n.Word && decide (n.Names.length = 0) && decide (n.Items.length = 0)
  else if n.Kind = 2 then decide (n.Word.size = 0) && decide (n.Items.length ≤ 64) && Ba3 n.Names 0 && n.Items.all (mayN d)
  else if n.Kind = 3 then decide (n.Word.size = 0) && decide (n.Items.length ≤ 64) && Ba3 n.Names n.Items.length && n.Items.all (mayN d)
  else false
inductive NodeFit : Node → Prop where
 | mk (n : Node) (h1 : n.Names.length ≤ big63) (h2 : n.Items.length ≤ big63) (h3 : ∀ k ∈ n.Items, NodeFit k) : NodeFit n
def Ba4 (f : Nat → Node → List UInt8) : Nat → List Node → List UInt8
 | _, [] => []
 | i, x :: xs => f i x ++ Ba4 f (i + 1) xs
def headL (n : Node) (i : Nat) : List UInt8 := if n.Kind = 3 then bytes (n.Names.getD i ⟨#[]⟩) ++ [58] else [45]
def wN : Nat → Node → Nat
 | 0, _ => 0
 | d + 1, n => (n.Items.map fun x => 1 + wN d x).sum
theorem Ayz (c : Config) : (normS c).Hours.length = c.Hours.length := Aen _ _
theorem A10 (c : Config) : (normS c).Receivers.length = c.Receivers.length := Aen _ _
theorem Ay0 {c : Config} {x : Hours} (h : x ∈ (normS c).Hours) : x ∈ c.Hours := (Ags _ _).mem_iff.1 h
def oplC (c : UInt8) : Bool := wordC c || upC c || inC 45 47 c || inC 58 58 c
def oplW (s : ByteArray) : Bool := (bytes s).all oplC && decide (1 ≤ s.size) && decide (s.size ≤ 200) && !decide ((bytes s).head? = some 45)
def Bb4 (n : Node) : ByteArray := if n.Kind = 1 then ByteArray.mk (Array.mk [32]) ++ n.Word else if 0 < n.Items.length then ByteArray.mk (Array.mk []) else if n.Kind = 2 then ByteArray.mk (Array.mk [32, 91, 93]) else ByteArray.mk (Array.mk [32, 123, 125])
def Bb5 : Nat → Nat → Node → List UInt8
 | 0, _, _ => []
 | d + 1, k, n => Ba4 (fun i x => Lib.repeatL [32] (2 * k) ++ headL n i ++ bytes (Bb4 x) ++ [10] ++ Bb5 d (k + 1) x) 0 n.Items
def Bb6 : Nat → Node → Bool
 | 0, _ => true
 | d + 1, n => n.Items.all fun x => (if x.Kind = 1 then oplW x.Word else true) && Bb6 d x
def Ah4 : Config := ⟨[], ⟨opsT, [], [], 0, 1, 1, [], false, []⟩, [opsT], [], []⟩
theorem Azx : Ae6 Ah4 := ⟨Aqy, .mk _ (size_le 3 rfl (by omega)) Aqy Aqy Aqy (by simp [Ah4]) (fun k hk => by cases hk), ⟨by show 1 ≤ big63; unfold big63; omega, fun x hx => by
 rw [List.mem_singleton.1 hx]; exact size_le 3 rfl (by omega)⟩, Aqy, Aqy⟩
def semiC (c : UInt8) : Bool := Ahk c && !inC 59 59 c
def Ajj (s : ByteArray) : Bool := decide (1 ≤ s.size) && decide (s.size ≤ 200) && decide ((⟨(Lib.trimB (bytes s) 32).toArray⟩ : ByteArray) = s) && (bytes s).all semiC
theorem Ay1 (s : ByteArray) : An5 std s = some (Ajj s) := by
 unfold An5
 have h0 : std.and (std.scmp .neq s (ByteArray.mk (Array.mk []))) (std.cmp .leq (std.slen s) 200) = (decide (1 ≤ s.size) && decide (s.size ≤ 200)) := by
  rw [s_land, Azg, Ap6, s_leq, s_slen]; congr 1; exact leN (b := 200)
 rw [h0]
 unfold Ajj
 by_cases h : (decide (1 ≤ s.size) && decide (s.size ≤ 200)) = true
 ·have h200 : s.size ≤ 200 := by simp only [Bool.and_eq_true, decide_eq_true_eq] at h; exact h.2
  have ht : Ao2 std s (ByteArray.mk (Array.mk [32])) = some ⟨(Lib.trimB (bytes s) 32).toArray⟩ := by
   show ck ((32 : UInt8).toNat < 128 ∧ s.size ≤ 9223372036854775807) _ = _
   exact ck_t ⟨by decide, by omega⟩
  have hc : Aac std (std.s2b s) (fun y0 => Ak6 std y0) = some ((bytes s).any fun c => !semiC c) := by
   rw [A24]
   exact Anm _ (fun c => !semiC c) _ (fun c _ => by
    unfold Ak6
    simp only [s_lor, s_lss, s_gtr, s_eql]
    congr 1
    rw [Bool.eq_iff_iff]
    simp [semiC, Ahk, inC]
    omega) (by rw [Aag]; unfold big63; omega)
  rw [h, gd_t, ht, bd_some, gd_b (fun _ => hc), bd_some, Aoj]
  simp only [s_land, s_not, s_seql, Bool.true_and]
  cases decide ((⟨(Lib.trimB (bytes s) 32).toArray⟩ : ByteArray) = s) <;> simp
 ·simp only [Bool.not_eq_true] at h
  rw [h, gd_f, bd_some]
  simp only [s_land, Bool.false_and, gd_f, bd_some]
def mayD (d : Def) : Bool := allI (keyP d.Keys) 0 d.Keys && (wordS d.Typ && decide (d.Keys.length ≤ 64) && decide (d.Keys.length = d.Values.length) && d.Values.all Ajj)
def A3u (d : Def) : Prop := d.Keys.length ≤ big63 ∧ d.Values.length ≤ big63
theorem A3v (d : Def) (hf : A3u d) : Apv std d = some (mayD d) := by
 unfold Apv mayD
 have hcv : Aai std d.3 (fun y0 => Alq std y0) = some (d.Values.any fun v => !Ajj v) := Aoh d.3 (fun v => !Ajj v) _ (fun v _ => by
  unfold Alq
  rw [Ay1, bd_some, s_not]) hf.2
 have hend : (bd (Aiu std d.1) fun w5 => bd (gd false (std.and (std.and w5 (std.cmp .leq (std.len TyS.str d.2) 64)) (std.cmp .eql (std.len TyS.str d.2) (std.len TyS.str d.3))) (Aai std d.3 fun y0 => Alq std y0)) fun w6 => some (std.and (std.and (std.and w5 (std.cmp .leq (std.len TyS.str d.2) 64)) (std.cmp .eql (std.len TyS.str d.2) (std.len TyS.str d.3))) (std.not w6))) = some (wordS d.Typ && decide (d.Keys.length ≤ 64) && decide (d.Keys.length = d.Values.length) && d.Values.all Ajj) := by
  have e1 : std.cmp .leq (std.len TyS.str d.2) 64 = decide (d.Keys.length ≤ 64) := Aji (t := TyS.str) d.2 64
  have e2 : std.cmp .eql (std.len TyS.str d.2) (std.len TyS.str d.3) = decide (d.Keys.length = d.Values.length) := by
   rw [Aaa, Aaa, s_eql, Bool.eq_iff_iff]; simp; omega
  rw [Ann, bd_some, e1, e2, gd_b (fun _ => hcv), bd_some, Aoj]
  simp only [s_land, s_not]
  cases (wordS d.Typ && decide (d.Keys.length ≤ 64) && decide (d.Keys.length = d.Values.length)) <;> simp
 refine Acs (t := TyS.str) (B := Aoz std d) (fun i => i) d.2 hf.1 (keyP d.Keys) _ _ _ (fun i => rfl) (fun i s hs hi => ?_) (fun _ => hend) (fun _ => ⟨_, hend⟩)
 rw [Aab (t := TyS.str) hs, Ann, bd_some, ck_t (vc_of fun _ => by show (0 : Int) ≤ 0 ∧ (0 : Int) ≤ i ∧ (i : Int) ≤ (d.2.length : Int); omega), A1z d.2 i s hf.1]
 unfold keyP onceP
 cases wordS s <;> cases hasS (d.2.take i) s <;> rfl
def Arx (l : List Def) : Bool := decide (l.length ≤ 64) && l.all mayD
theorem Ay2 (l : List Def) (hl : l.length ≤ big63) (hf : ∀ d ∈ l, A3u d) : Ag4 std l = some (Arx l) := by
 unfold Ag4 Arx
 rw [show std.cmp .leq (std.len TyS.dfn l) 64 = decide (l.length ≤ 64) from Aji (t := TyS.dfn) l 64]
 rw [gd_b (fun _ => Au6 l (fun d => !mayD d) _ (fun d hd => by
  unfold Ak7
  rw [A3v d (hf d hd), bd_some, s_not]) hl), bd_some, Aoj]
 simp only [s_land, s_not]
 cases decide (l.length ≤ 64) <;> simp
def keyL (k v : ByteArray) : List UInt8 := [9] ++ bytes k ++ [9] ++ bytes v ++ [10]
def keysL : List ByteArray → List ByteArray → List UInt8
 | k :: ks, v :: vs => keyL k v ++ keysL ks vs
 | _, _ => []
def defL (d : Def) : List UInt8 := [100, 101, 102, 105, 110, 101, 32] ++ bytes d.Typ ++ [32, 123] ++ [10] ++ keysL d.Keys d.Values ++ [125, 10]
def defsL (l : List Def) : List UInt8 := (l.map defL).flatten
theorem Aux : ∀ (ks vs : List ByteArray) (i : Nat) (k v : ByteArray), ks[i]? = some k → vs[i]? = some v → keysL (ks.take (i + 1)) (vs.take (i + 1)) = keysL (ks.take i) (vs.take i) ++ keyL k v
 | [], vs, i, k, v, hk, _ => by cases hk
 | a :: ks, [], i, k, v, _, hv => by cases hv
 | a :: ks, b :: vs, 0, k, v, hk, hv => by cases hk; cases hv; simp [keysL]
 | a :: ks, b :: vs, i + 1, k, v, hk, hv => by
  have := Aux ks vs i k v (by simpa using hk) (by simpa using hv)
  simp only [List.take_succ_cons, keysL] at this ⊢
  rw [this, List.append_assoc]
theorem Av8 : ∀ (ks vs : List ByteArray), (∀ k ∈ ks, k.size ≤ 64) → (∀ v ∈ vs, v.size ≤ 200) → (keysL ks vs).length ≤ ks.length * 300
 | [], vs, _, _ => by simp [keysL]
 | k :: ks, [], _, _ => by simp [keysL]
 | k :: ks, v :: vs, h1, h2 => by
  have h3 := Av8 ks vs (fun x hx => h1 x (List.mem_cons_of_mem _ hx)) (fun x hx => h2 x (List.mem_cons_of_mem _ hx))
  have h4 := h1 k (List.mem_cons_self ..)
  have h5 := h2 v (List.mem_cons_self ..)
  simp only [keysL, keyL, List.length_append, Aag, List.length_cons, List.length_nil, Nat.succ_mul]
  omega
structure DefOK (d : Def) : Prop where
 typ : d.Typ.size ≤ 64
 few : d.Keys.length ≤ 64
 len : d.Values.length = d.Keys.length
 keys : ∀ k ∈ d.Keys, k.size ≤ 64
 vals : ∀ v ∈ d.Values, v.size ≤ 200
theorem A9m {d : Def} (h : mayD d = true) : DefOK d := by
 simp only [mayD, wordS, Bool.and_eq_true, decide_eq_true_eq, List.all_eq_true] at h
 obtain ⟨h1, ⟨⟨⟨_, h2⟩, h3⟩, h4⟩, h5⟩ := h
 refine ⟨h2, h3, h4.symm, fun k hk => ?_, fun v hv => ?_⟩
 ·obtain ⟨j, hj⟩ := Av2 h1 k hk
  simp only [keyP, wordS, Bool.and_eq_true, decide_eq_true_eq] at hj
  exact hj.1.2
 ·have := h5 v hv
  simp only [Ajj, Bool.and_eq_true, decide_eq_true_eq] at this
  exact this.1.1.2
theorem A9n {d : Def} (ok : DefOK d) : (defL d).length ≤ 20000 := by
 have h1 := Av8 d.Keys d.Values ok.keys ok.vals
 have h2 := ok.typ
 have h3 : d.Keys.length * 300 ≤ 64 * 300 := Nat.mul_le_mul_right _ ok.few
 simp only [defL, List.length_append, Aag, List.length_cons, List.length_nil]
 omega
theorem cat5 (a b c d e : ByteArray) (h : a.size + b.size + c.size + d.size + e.size ≤ 100000) : std.catOk a b ∧ std.catOk (a ++ b) c ∧ std.catOk (a ++ b ++ c) d ∧ std.catOk (a ++ b ++ c ++ d) e := by
 refine ⟨?_, ?_, ?_, ?_⟩ <;> rw [Aaw] <;> (try simp only [ByteArray.size_append]) <;> omega
noncomputable def A3w (l : List Def) : ByteArray × Int := cond (Arx l) (cond (decide ((defsL l).length ≤ 8192)) (⟨(defsL l).toArray⟩, 0) (ByteArray.mk (Array.mk []), 2)) (ByteArray.mk (Array.mk []), 1)
theorem A11 (l : List Def) (i : Nat) (d : Def) (hd : l[i]? = some d) (ok : DefOK d) (acc : List UInt8) (ha : acc.length ≤ 10000000) (hi : i < 1000) : Loop (Ajq std l (i : Int)) (0, acc) = some (.inl (((i + 1 : Nat) : Int), acc ++ keysL d.Keys d.Values ++ [125, 10])) := by
 have hl : ∀ j, (keysL (d.Keys.take j) (d.Values.take j)).length ≤ 64 * 300 := fun j => by
  have h1 := Av8 (d.Keys.take j) (d.Values.take j) (fun k hk => ok.keys k (List.mem_of_mem_take hk)) (fun k hk => ok.vals k (List.mem_of_mem_take hk))
  have h2 : (d.Keys.take j).length ≤ 64 := by rw [List.length_take]; have := ok.few; omega
  have h3 : (d.Keys.take j).length * 300 ≤ 64 * 300 := Nat.mul_le_mul_right _ h2
  omega
 have := Aap (B := Ajq std l (i : Int)) (fun j (_ : Unit) => ((j : Int), acc ++ keysL (d.Keys.take j) (d.Values.take j))) d.Keys (fun _ _ (_ : Unit) => (.inl () : Unit ⊕ ((Int × List UInt8) ⊕ (ByteArray × Int)))) (fun _ => .inl (((i + 1 : Nat) : Int), acc ++ keysL d.Keys d.Values ++ [125, 10])) (fun j k u hk hj => by
  obtain ⟨v, hv⟩ := Ale (xs := d.Values) (i := j) (by have := ok.len; omega)
  have hlj := hl j
  have sk := ok.keys k (Abl hk)
  have sv := ok.vals v (Abl hv)
  have q9 : (ByteArray.mk (Array.mk [9])).size = 1 := rfl
  have q10 : (ByteArray.mk (Array.mk [10])).size = 1 := rfl
  obtain ⟨c1, c2, c3, c4⟩ := cat5 (ByteArray.mk (Array.mk [9])) k (ByteArray.mk (Array.mk [9])) v (ByteArray.mk (Array.mk [10])) (by omega)
  unfold Ajq
  simp only
  have hg : std.get TyS.dfn l (i : Int) = d := Aab (t := TyS.dfn) hd
  simp only [hg, Aab (t := TyS.str) hk, Aab (t := TyS.str) hv, s_cat]
  rw [Aaa, Aaa, lssT hj, br_true, ck_t (inbT hj), ck_t c1, ck_t c2, ck_t (show std.inb (j : Int) (d.Values.length : Int) from inbT (by have := ok.len; omega)), ck_t c3, ck_t c4]
  have hb : bytes (ByteArray.mk (Array.mk [9]) ++ k ++ ByteArray.mk (Array.mk [9]) ++ v ++ ByteArray.mk (Array.mk [10])) = keyL k v := by
   rw [Aah, Aah, Aah, Aah]; rfl
  have hz : (ByteArray.mk (Array.mk [9]) ++ k ++ ByteArray.mk (Array.mk [9]) ++ v ++ ByteArray.mk (Array.mk [10])).size ≤ 1000 := by
   simp only [ByteArray.size_append]; omega
  rw [write_eq _ _ (by simp only [List.length_append]; omega), bd_some, hb, s_add, wrap_succ hj (by have := ok.few; unfold big63; omega), Aux _ _ _ _ _ hk hv, List.append_assoc]) (fun _ => by
  have hlj := hl d.Keys.length
  have hg : std.get TyS.dfn l (i : Int) = d := Aab (t := TyS.dfn) hd
  unfold Ajq
  simp only [hg]
  have e2 : d.Values.take d.Keys.length = d.Values := by rw [← ok.len, List.take_length]
  rw [Aaa, lssF, br_false, write_eq _ _ (by simp only [List.length_append]; show acc.length + _ + 2 ≤ _; omega), bd_some, show std.ar .add .i64 (i : Int) 1 = ((i + 1 : Nat) : Int) from wrap_succ (n := 1000) hi (by unfold big63; omega), List.take_length, e2]
  rfl) ()
 rw [Ad1] at this
 have e0 : acc ++ keysL (d.Keys.take 0) (d.Values.take 0) = acc := by simp [keysL]
 simp only [e0] at this
 exact this
theorem Ast (l : List Def) (hl : l.length ≤ big63) (hf : ∀ d ∈ l, A3u d) : Aoc std l = some (A3w l) := by
 unfold Aoc A3w
 rw [Ay2 l hl hf, bd_some]
 cases hr : Arx l with
 | false => rfl
 | true =>
  simp only [Arx, Bool.and_eq_true, decide_eq_true_eq, List.all_eq_true] at hr
  have hok := fun d hd => A9m (hr.2 d hd)
  have hlen : ∀ j, (defsL (l.take j)).length ≤ 64 * 20000 := fun j => by
   have h1 := Ar4 20000 ((l.take j).map defL) fun x hx => by
    obtain ⟨d, hd, rfl⟩ := List.mem_map.1 hx
    exact A9n (hok d (List.mem_of_mem_take hd))
   rw [List.length_map, List.length_take] at h1
   have h2 : min j l.length * 20000 ≤ 64 * 20000 := Nat.mul_le_mul_right _ (by omega)
   exact Nat.le_trans h1 h2
  rw [s_not, Bool.not_true, br_false]
  have := Aap (B := Ame std l) (fun i (_ : Unit) => ((i : Int), defsL (l.take i))) l (fun _ _ (_ : Unit) => (.inl () : Unit ⊕ (ByteArray × Int))) (fun _ => cond (decide ((defsL l).length ≤ 8192)) (⟨(defsL l).toArray⟩, 0) (ByteArray.mk (Array.mk []), 2)) (fun i d u hd hi => by
   have ok := hok d (Abl hd)
   have hli := hlen i
   have st := ok.typ
   have q7 : (ByteArray.mk (Array.mk [100, 101, 102, 105, 110, 101, 32])).size = 7 := rfl
   have q2 : (ByteArray.mk (Array.mk [32, 123])).size = 2 := rfl
   have q1 : (ByteArray.mk (Array.mk [10])).size = 1 := rfl
   have c1 : std.catOk (ByteArray.mk (Array.mk [100, 101, 102, 105, 110, 101, 32])) d.Typ := by rw [Aaw, q7]; omega
   have c2 : std.catOk (ByteArray.mk (Array.mk [100, 101, 102, 105, 110, 101, 32]) ++ d.Typ) (ByteArray.mk (Array.mk [32, 123])) := by rw [Aaw, ByteArray.size_append, q7, q2]; omega
   have c3 : std.catOk (ByteArray.mk (Array.mk [100, 101, 102, 105, 110, 101, 32]) ++ d.Typ ++ ByteArray.mk (Array.mk [32, 123])) (ByteArray.mk (Array.mk [10])) := by rw [Aaw, ByteArray.size_append, ByteArray.size_append, q7, q2, q1]; omega
   unfold Ame
   simp only [Aab (t := TyS.dfn) hd, s_cat]
   rw [Aaa, lssT hi, br_true, ck_t (inbT hi), ck_t c1, ck_t c2, ck_t c3]
   have hb : bytes (ByteArray.mk (Array.mk [100, 101, 102, 105, 110, 101, 32]) ++ d.Typ ++ ByteArray.mk (Array.mk [32, 123]) ++ ByteArray.mk (Array.mk [10])) = [100, 101, 102, 105, 110, 101, 32] ++ bytes d.Typ ++ [32, 123] ++ [10] := by
    rw [Aah, Aah, Aah]
   have hz : (ByteArray.mk (Array.mk [100, 101, 102, 105, 110, 101, 32]) ++ d.Typ ++ ByteArray.mk (Array.mk [32, 123]) ++ ByteArray.mk (Array.mk [10])).size ≤ 1000 := by
    simp only [ByteArray.size_append]; omega
   rw [write_eq _ _ (by omega), bd_some, hb, A11 l i d hd ok _ (by simp only [List.length_append, Aag, List.length_cons, List.length_nil]; omega) (by omega)]
   unfold defsL
   rw [Aj3 defL hd]
   simp only [defL, List.append_assoc]) (fun _ => by
   have hli := hlen l.length
   rw [List.take_length] at hli
   unfold Ame Ahr
   simp only
   rw [Aaa, lssF, br_false, bd_some, List.take_length, show std.cmp .gtr (std.len TyS.byte (defsL l)) 8192 = !decide ((defsL l).length ≤ 8192) from Aus (t := TyS.byte) (defsL l) 8192]
   by_cases h8 : (defsL l).length ≤ 8192
   ·rw [decide_eq_true h8, Bool.not_true, br_false]
    unfold strings_Builder_String
    rw [ck_t (by omega), bd_some]
    rfl
   ·rw [decide_eq_false h8, Bool.not_false, br_true]
    rfl) ()
  rw [Ad1] at this
  exact this
def oddS (x : Label) : Bool := Lib.contains (bytes x.Value) [59] || Lib.hasSuffix (bytes x.Value) [32]
theorem Ay3 (x : Label) (h : x.Value.size ≤ 64) : Akc std x = some (oddS x) := by
 unfold Akc oddS strings_Contains strings_HasSuffix
 rw [ck_t (by omega), bd_some, ck_t (by omega), gd_b (fun _ => rfl), bd_some]
 simp only [s_lor, s_not]
 show some (Lib.contains (bytes x.Value) [59] || (!Lib.contains (bytes x.Value) [59] && Lib.hasSuffix (bytes x.Value) [32])) = _
 cases Lib.contains (bytes x.Value) [59] <;> rfl
def oddR (r : Rule) : Bool := r.Labels.any oddS
def six (c : Config) (a b d : Bool) : List WhyW := [WhyW.mk (ByteArray.mk (Array.mk [114, 111, 117, 116, 101, 115])) (std.cmp .gtr (std.len TyS.route c.2.9) 0), WhyW.mk (ByteArray.mk (Array.mk [103, 114, 111, 117, 112])) (std.cmp .gtr (std.len TyS.str c.2.3) 0), WhyW.mk (ByteArray.mk (Array.mk [105, 110, 104, 105, 98, 105, 116])) (std.cmp .gtr (std.len TyS.inhibit c.4) 0), WhyW.mk (ByteArray.mk (Array.mk [102, 111, 114])) a, WhyW.mk (ByteArray.mk (Array.mk [107, 101, 101, 112])) b, WhyW.mk (ByteArray.mk (Array.mk [108, 97, 98, 101, 108])) d]
def saidW (l : List WhyW) : List ByteArray := (l.filter (·.is)).map (·.word)
def whyS (c : Config) : List ByteArray := saidW (six c (c.Rules.any fun r => r.For != 0) (c.Rules.any fun r => r.Keep != 0) (c.Rules.any oddR))
theorem A9o (l : List WhyW) : (saidW l).length ≤ l.length := by
 unfold saidW
 rw [List.length_map]; exact List.length_filter_le ..
theorem Bam (B : List ByteArray × Int → Option ((List ByteArray × Int) ⊕ List ByteArray)) (xs : List WhyW) (hl : xs.length ≤ 100)
  (hB : ∀ out i, B (out, i) = br (std.cmp .lss i (std.len TyS.whyw xs)) (ck (std.inb i (std.len TyS.whyw xs)) <| br (std.get TyS.whyw xs i).2 (ck (std.appOk TyS.str 16 out [(std.get TyS.whyw xs i).1]) <| some (.inl (std.app TyS.str out [(std.get TyS.whyw xs i).1], std.ar .add .i64 i 1))) (some (.inl (out, std.ar .add .i64 i 1)))) (rt (some out))) : Loop B ([], 0) = some (saidW xs) := by
 have := Aap (B := B) (fun i (_ : Unit) => (saidW (xs.take i), (i : Int))) xs (fun _ _ (_ : Unit) => (.inl () : Unit ⊕ List ByteArray)) (fun _ => saidW xs) (fun i x u hx hi => by
  rw [hB, Aaa, lssT hi, br_true, ck_t (inbT hi), Aab (t := TyS.whyw) hx, s_add, wrap_succ hi (by unfold big63; omega), take_snoc hx]
  have h1 := A9o (xs.take i)
  rw [List.length_take] at h1
  unfold saidW at h1 ⊢
  rw [List.filter_append, List.map_append]
  cases hx2 : x.2 with
  | true =>
   rw [br_true, ck_t (show std.appOk TyS.str 16 _ [x.1] from ⟨by simp only [List.length_singleton]; omega, by simp only [List.length_singleton]; omega⟩)]
   simp [hx2]
  | false => simp [br_false, hx2]) (fun _ => by
  rw [hB, Aaa, lssF, br_false, List.take_length]
  rfl) ()
 rw [Ad1] at this
 exact this
theorem Avl {c : Config} (h : Aft c = true) : ∀ r ∈ c.Rules, labelsS r.Labels = true ∧ r.Labels.length ≤ 4 := fun r hr => by
 have := (Aqd h).rules.2.1 r hr
 simp only [ruleS, Bool.and_eq_true, decide_eq_true_eq] at this
 exact ⟨this.1.2, this.1.1.2⟩
theorem Asu (c : Config) (hf : Ae6 c) : Alx std c = some (cond (Aft c) (whyS c) []) := by
 unfold Alx
 rw [Aok c hf, bd_some]
 cases hp : Aft c with
 | false => rfl
 | true =>
  have hl := Avl hp
  have e1 : ∀ (p : Rule → Bool) (q : Rule → Option Bool), (∀ r ∈ c.Rules, q r = some (p r)) → Aho std q c = some (c.Rules.any p) := fun p q hq => by
   unfold Aho
   rw [Ats c.1 p q hq hf.1.1, bd_some]
  rw [s_not, Bool.not_true, br_false, e1 (fun r => r.For != 0) (fun y0 => Anj std y0) (fun r _ => rfl), bd_some, e1 (fun r => r.Keep != 0) (fun y0 => Ank std y0) (fun r _ => rfl), bd_some, e1 oddR (fun y0 => Ala std y0) (fun r hr => by
   unfold Ala
   obtain ⟨h1, h2⟩ := hl r hr
   have hm := labelsS_mem h1
   have : Abz std r.8 (fun y0 => Akc std y0) = some (r.Labels.any oddS) := by
    have h3 : Abm std r.8 (fun y0 => Akc std y0) = some (fnd r.Labels oddS) := Aw2 r.Labels oddS _ (fun x hx => Ay3 x (by
     have := hm x hx
     simp only [Alf, Ap5, Bool.and_eq_true, decide_eq_true_eq] at this
     exact this.2.2)) (by unfold big63; omega)
    unfold Abz
    rw [h3, bd_some, s_geq, Ald]
   rw [this, bd_some]
   rfl), bd_some]
  exact Bam (Asj std c _ _ _) (six c _ _ _) (by show 6 ≤ 100; omega) (fun out i => rfl)
def holdsN (c : Config) : Bool := Aft c && decide ((whyS c).length = 0)
theorem Am8 (c : Config) (hf : Ae6 c) : Aix std c = some (holdsN c) := by
 unfold Aix holdsN
 rw [Aok c hf, bd_some, Asu c hf]
 cases hp : Aft c with
 | false => rfl
 | true =>
  rw [gd_t, bd_some, cond_true]
  have : std.cmp .eql (std.len TyS.str (whyS c)) 0 = decide ((whyS c).length = 0) := by rw [Aaa, s_eql, Bool.eq_iff_iff]; simp
  rw [this]; rfl
def Afm (s : ByteArray) : Def := ⟨ByteArray.mk (Array.mk [99, 111, 110, 116, 97, 99, 116]), [ByteArray.mk (Array.mk [110, 97, 109, 101])], [s]⟩
def itoaS (n : Int) : ByteArray := ⟨(Lib.itoa n).toArray⟩
def At8 : Def := ⟨ByteArray.mk (Array.mk [110, 111, 116, 105, 102, 121]), [ByteArray.mk (Array.mk [99, 111, 110, 116, 97, 99, 116]), ByteArray.mk (Array.mk [119, 97, 105, 116]), ByteArray.mk (Array.mk [101, 118, 101, 114, 121]), ByteArray.mk (Array.mk [114, 101, 112, 101, 97, 116])], [opsT, itoaS 0, itoaS 1, itoaS 1]⟩
theorem A9p : Aft Ah4 = true := by kernel_rfl
theorem A3x : normS Ah4 = Ah4 := by kernel_rfl
theorem A7g : holdsN Ah4 = true := by kernel_rfl
theorem A3y (n : Int) (h : -1000 ≤ n ∧ n ≤ 1000) : strconv_Itoa std n = some (itoaS n) := by
 unfold strconv_Itoa
 exact ck_t ⟨by omega, by omega⟩
theorem A12 : Af9 std Ah4.Route = some At8 := by
 unfold Af9
 rw [show Ah4.Route.4 = 0 from rfl, show Ah4.Route.5 = 1 from rfl, show Ah4.Route.6 = 1 from rfl, A3y 0 (by omega), bd_some, A3y 1 (by omega), bd_some, bd_some]
 have : ∀ d s, Afe std d s [] = some d := fun d s => by
  unfold Afe
  rw [Acg]; rfl
 show (bd (Afe std _ _ []) fun w4 => some w4) = _
 rw [this, bd_some]
 rfl
theorem A13 : Ag5 std Ah4 = some [Afm opsT, At8] := by
 unfold Ag5
 have e1 : Abg std Ah4 ([], 0) = some (.inl ([Afm opsT], 1)) := by
  unfold Abg
  simp only
  rw [show std.cmp .lss 0 (std.len TyS.str Ah4.3) = true from rfl, br_true, ck_t (show std.inb 0 (std.len TyS.str Ah4.3) from ⟨by omega, by show (0 : Int) < 1; omega⟩)]
  unfold Ah1
  rw [bd_some, ck_t (show std.appOk TyS.dfn 64 [] [_] from ⟨by simp, by simp⟩)]
  rfl
 have e2 : Abg std Ah4 ([Afm opsT], 1) = some (.inr [Afm opsT, At8]) := by
  unfold Abg
  simp only
  rw [show std.cmp .lss 1 (std.len TyS.str Ah4.3) = false from rfl, br_false, show Ah4.2 = Ah4.Route from rfl, A12, bd_some, ck_t (show std.appOk TyS.dfn 64 [Afm opsT] [At8] from ⟨by simp, by simp⟩), Acg]
  rfl
 have e3 : Loop (Abg std Ah4) ([], 0) = some [Afm opsT, At8] := by
  rw [Acg, e1]
  show Loop (Abg std Ah4) ([Afm opsT], 1) = _
  rw [Acg, e2]
 rw [Acg, show Ahf std Ah4 ([], 0) = rt (Loop (Abg std Ah4) ([], 0)) from rfl, e3]
 rfl
theorem A3z : Arx [Afm opsT, At8] = true := by kernel_rfl
theorem Axo : defsL [Afm opsT, At8] = [100, 101, 102, 105, 110, 101, 32, 99, 111, 110, 116, 97, 99, 116, 32, 123, 10, 9, 110, 97, 109, 101, 9, 111, 112, 115, 10, 125, 10, 100, 101, 102, 105, 110, 101, 32, 110, 111, 116, 105, 102, 121, 32, 123, 10, 9, 99, 111, 110, 116, 97, 99, 116, 9, 111, 112, 115, 10, 9, 119, 97, 105, 116, 9, 48, 10, 9, 101, 118, 101, 114, 121, 9, 49, 10, 9, 114, 101, 112, 101, 97, 116, 9, 49, 10, 125, 10] := by kernel_rfl
theorem A7h : Ac4 std = some true := by
 unfold Ac4
 have h1 : Aff std (Config.mk [] (Route.mk (ByteArray.mk (Array.mk [111, 112, 115])) [] [] 0 1 1 [] false []) [ByteArray.mk (Array.mk [111, 112, 115])] [] []) = some (⟨(defsL [Afm opsT, At8]).toArray⟩, 0) := by
  show Aff std Ah4 = _
  unfold Aff
  rw [Aq6 Ah4 Azx, A9p, cond_true, A3x, bd_some]
  simp only
  rw [show std.cmp .neq 0 0 = false from rfl, br_false, Am8 Ah4 Azx, A7g, bd_some, s_not, Bool.not_true, br_false, A13, bd_some, Ast _ (by show 2 ≤ big63; unfold big63; omega) (fun d hd => by
   simp only [List.mem_cons, List.mem_nil_iff, or_false] at hd
   rcases hd with rfl | rfl
   ·exact ⟨by show 1 ≤ big63; unfold big63; omega, by show 1 ≤ big63; unfold big63; omega⟩
   ·exact ⟨by show 4 ≤ big63; unfold big63; omega, by show 4 ≤ big63; unfold big63; omega⟩), bd_some]
  unfold A3w
  rw [A3z, cond_true, decide_eq_true (show (defsL [Afm opsT, At8]).length ≤ 8192 by rw [Axo]; decide), cond_true]
 rw [h1, bd_some, Axo]
 simp only
 rw [s_seql, decide_eq_true rfl]
 rfl
theorem Axp : ∀ (n : Nat) (r : Route) (m : Int), SizeOf.sizeOf r < n → RouteFit r → ∃ v, Abv std n r m = some v
 | 0, r, m, h, _ => absurd h (Nat.not_lt_zero _)
 | n + 1, r, m, h, hf => by
  obtain ⟨_, _, _, _, h5, h6⟩ := A9i hf
  rw [Abv, Afy]
  refine ⟨_, Aap (B := Ad4 std (Abv std n) r m) (fun i (s : Int) => (s, (i : Int))) r.Routes (fun _ k s => if decide (m < s) = true then (.inr s : Int ⊕ Int) else .inl (std.ar .add .i64 s ((Abv std n k (std.ar .sub .i64 m s)).getD 0))) (fun s => s) (fun i k s hk hi => ?_) (fun s => ?_) 1⟩
  ·unfold Ad4
   simp only
   obtain ⟨v, hv⟩ := Axp n k (std.ar .sub .i64 m s) (by have := Ar3 (Abl hk); omega) (h6 k (Abl hk))
   rw [Aaa, lssT hi, br_true, ck_t (inbT hi), Aab (t := TyS.route) hk, s_gtr, hv, bd_some, s_add (a := (i : Int)), wrap_succ hi h5]
   cases decide (m < s) <;> rfl
  ·unfold Ad4
   simp only
   rw [Aaa, lssF, br_false]
   rfl
theorem A7i (c : Config) (h : Ae6 c) : ∃ b, Afn std c = some b ∧ (b = false → Small c) := by
 unfold Afn
 obtain ⟨v, hv⟩ := Axp (SizeOf.sizeOf c.Route + 1) c.Route 40 (Nat.lt_succ_self _) h.2.1
 unfold Aia
 rw [hv, bd_some]
 refine ⟨_, rfl, fun hb => ?_⟩
 simp only [s_lor, s_gtr, Bool.or_eq_false_iff, decide_eq_false_iff_not, s_len] at hb
 exact ⟨by omega, by omega, by omega, by omega⟩
def Bb7 (r : Rule) : Rule := ⟨r.1, r.2, r.3, r.4, 0, 0, r.7, []⟩
def Bb8 (r : Route) : Route := ⟨r.1, r.2, [], r.4, r.5, r.6, r.7, r.8, []⟩
def Bco (c : Config) : Config := ⟨c.Rules.map Bb7, Bb8 c.Route, c.Receivers, [], c.Hours⟩
def putL (c : UInt8) (new : List UInt8) (s : List UInt8) : List UInt8 := (s.map fun b => if b = c then new else [b]).flatten
def escL (s : List UInt8) : List UInt8 := (s.map fun b => if b = 34 ∨ b = 92 then [92, b] else [b]).flatten
def Bb9 (s : ByteArray) : Bool := (bytes s).all oplC && decide (1 ≤ s.size) && !decide ((bytes s).head? = some 45)
def Bcp (s : ByteArray) : List UInt8 := if Bb9 s = true then bytes s else [34] ++ escL (bytes s) ++ [34]
def bitB (d : Int) (j : Nat) : Bool := std.cmp .eql (std.ar .and .i64 (std.ar .shr .i64 d (j : Int)) 1) 1
def daysL (d : Int) : Nat → List ByteArray
 | 0 => []
 | i + 1 => daysL d i ++ (if bitB d i = true then [dayT i] else [])
theorem Ate (d : Int) : ∀ i, i ≤ 7 → (daysL d i).length ≤ i ∧ ∀ x ∈ daysL d i, x.size = 3
 | 0, _ => ⟨Nat.le_refl _, fun x hx => by cases hx⟩
 | i + 1, h => by
  obtain ⟨h1, h2⟩ := Ate d i (by omega)
  rw [daysL]
  split
  ·refine ⟨A9k _ h1, fun x hx => ?_⟩
   rcases List.mem_append.1 hx with hx | hx
   ·exact h2 x hx
   ·rw [List.mem_singleton.1 hx]; exact dayT_size i (by omega)
  ·rw [List.append_nil]; exact ⟨by omega, h2⟩
def comL : List ByteArray → List UInt8
 | [] => []
 | w :: r => bytes w ++ (r.map fun x => 44 :: bytes x).flatten
theorem Ban (ws : List ByteArray) : Lib.join (ws.map (·.data.toList)) [44] = comL ws := by
 cases ws with
 | nil => rfl
 | cons w r =>
  rw [List.map_cons, Lib.join_cons]
  simp only [comL, Lib.joinTail, List.map_map]
  rfl
theorem Bao (l : List ByteArray) (x : ByteArray) : comL (l ++ [x]) = if l = [] then bytes x else comL l ++ 44 :: bytes x := by
 cases l with
 | nil => simp [comL]
 | cons w r =>
  rw [if_neg (by simp)]
  simp [comL]
theorem A6m (l : List ByteArray) (h : ∀ x ∈ l, x.size = 3) : (comL l).length ≤ 4 * l.length := by
 cases l with
 | nil => simp [comL]
 | cons w r =>
  have h1 := h w (List.mem_cons_self ..)
  have h2 := A5c (fun x : ByteArray => 44 :: bytes x) 4 r fun x hx => by
   have := h x (List.mem_cons_of_mem _ hx)
   rw [List.length_cons, Aag]; omega
  simp only [comL, List.length_append, Aag, List.length_cons]
  omega
theorem A9q (l : List ByteArray) (h : ∀ x ∈ l, x.size = 3) (hl : l ≠ []) : 1 ≤ (comL l).length := by
 cases l with
 | nil => exact absurd rfl hl
 | cons w r =>
  have h1 := h w (List.mem_cons_self ..)
  simp only [comL, List.length_append, Aag]
  omega
noncomputable def clk (n : Int) : ByteArray := (Agm std n).getD ⟨#[]⟩
theorem At9 (n : Int) (h0 : 0 ≤ n) (h1 : n ≤ 1440) : Agm std n = some (clk n) ∧ (clk n).size = 5 := by
 obtain ⟨t, h2, h3⟩ := Am7 n h0 h1
 have : clk n = t := by unfold clk; rw [h2]; rfl
 rw [this]; exact ⟨h2, h3⟩
noncomputable def Axq (h : Hours) : ByteArray := (⟨(comL (daysL h.Days 7)).toArray⟩ : ByteArray) ++ ByteArray.mk (Array.mk [32]) ++ clk h.From ++ ByteArray.mk (Array.mk [45]) ++ clk h.To
theorem A14 (h : Hours) (hs : hourS h = true) : Aiy std h = some (Axq h, 0) := by
 have h0 := hs
 simp only [hourS, Bool.and_eq_true, decide_eq_true_eq] at h0
 obtain ⟨⟨⟨⟨⟨⟨_, _⟩, _⟩, f0⟩, f1⟩, f2⟩, t1⟩ := h0
 obtain ⟨ha, la⟩ := At9 h.From f0 (by omega)
 obtain ⟨hb, lb⟩ := At9 h.To (by omega) t1
 unfold Aiy
 rw [Apj h, bd_some, hs, s_not, Bool.not_true, br_false]
 have := Aap (B := Ahp std h) (fun i (_ : Unit) => (daysL h.Days i, (i : Int))) (List.range 7) (fun _ _ (_ : Unit) => (.inl () : Unit ⊕ (ByteArray × Int))) (fun _ => (Axq h, 0)) (fun i n u hx hi => by
  rw [List.length_range] at hi
  obtain ⟨hI, hz⟩ := Ate h.Days i (by omega)
  unfold Ahp
  simp only
  rw [show std.cmp .lss (i : Int) 7 = true from lssT (n := 7) hi, br_true, ck_t (show std.inb (i : Int) (Int.ofNat 7) from inbT (n := 7) hi), ck_t (show std.nn (i : Int) by show (0 : Int) ≤ _; omega), s_add, wrap_succ (n := 7) hi (by unfold big63; omega), daysL]
  unfold bitB
  cases std.cmp .eql (std.ar .and .i64 (std.ar .shr .i64 h.Days (i : Int)) 1) 1 with
  | true =>
   rw [br_true, if_pos rfl]
   have hA : std.appOk TyS.str 16 (daysL h.Days i) [dayT i] := ⟨by simp; omega, by simp; omega⟩
   exact ck_t hA
  | false => rw [br_false, if_neg (by simp), List.append_nil]) (fun _ => by
  obtain ⟨hI, hz⟩ := Ate h.Days 7 (by omega)
  rw [List.length_range]
  unfold Ahp
  simp only
  have hj := A6m (daysL h.Days 7) hz
  have hJ : strings_Join std (daysL h.Days 7) (ByteArray.mk (Array.mk [44])) = some ⟨(comL (daysL h.Days 7)).toArray⟩ := by
   unfold strings_Join
   have e : Lib.join ((daysL h.Days 7).map (·.data.toList)) (ByteArray.mk (Array.mk [44])).data.toList = comL (daysL h.Days 7) := Ban _
   rw [e]
   exact ck_t ⟨by omega, by omega⟩
  have jz : (ByteArray.mk (comL (daysL h.Days 7)).toArray).size ≤ 28 := by rw [Acb, Aay]; omega
  have z1 : (ByteArray.mk (Array.mk [32])).size = 1 := rfl
  have z2 : (ByteArray.mk (Array.mk [45])).size = 1 := rfl
  rw [show std.cmp .lss ((7 : Nat) : Int) 7 = false from rfl, br_false, hJ, bd_some, s_cat, ck_t (show std.catOk _ _ by rw [Aaw, z1]; omega), ha, bd_some, s_cat, ck_t (show std.catOk _ _ by rw [Aaw, ByteArray.size_append, z1, la]; omega), s_cat, ck_t (show std.catOk _ _ by rw [Aaw, ByteArray.size_append, ByteArray.size_append, z1, z2, la]; omega), hb, bd_some, s_cat, ck_t (show std.catOk _ _ by rw [Aaw, ByteArray.size_append, ByteArray.size_append, ByteArray.size_append, z1, z2, la, lb]; omega)]
  rfl) ()
 rw [Ad1] at this
 exact this
theorem Auy (h : Hours) (hs : hourS h = true) : Ass h = Axq h := by
 unfold Ass
 rw [A14 h hs]
 rfl
theorem Bap : ((List.range 128).all fun d => (List.range 7).all fun i => bitB (d : Int) i == decide (d / 2 ^ i % 2 = 1)) = true := by kernel_rfl
theorem Bca (d i : Nat) (hd : d ≤ 127) (hi : i < 7) : bitB (d : Int) i = decide (d / 2 ^ i % 2 = 1) := by
 have := Bap
 rw [List.all_eq_true] at this
 have h1 := this d (List.mem_range.2 (by omega))
 rw [List.all_eq_true] at h1
 simpa using h1 i (List.mem_range.2 hi)
theorem A7j (d i : Nat) (hd : d ≤ 127) (hi : i < 7) : Abk std (d : Int) (i : Int) = some (bitB (d : Int) i) := by
 unfold Abk
 have eq2 : ∀ q : Nat, q ≤ 127 → std.ar .quo .i64 (q : Int) 2 = ((q / 2 : Nat) : Int) := fun q hq => by
  rw [s_quo, tdiv0 (by omega), w64 (by omega)]; omega
 have er2 : ∀ q : Nat, std.cmp .eql (std.ar .rem .i64 (q : Int) 2) 1 = decide (q % 2 = 1) := fun q => by
  rw [s_rem, tmod0 (by omega), s_eql, Bool.eq_iff_iff]
  simp only [beq_iff_eq, decide_eq_true_eq]
  omega
 have := Aap (B := Af5 std (i : Int)) (fun j (_ : Unit) => (((d / 2 ^ j : Nat) : Int), (j : Int))) (List.range i) (fun _ _ (_ : Unit) => (.inl () : Unit ⊕ Bool)) (fun _ => bitB (d : Int) i) (fun j n u hx hj => by
  rw [List.length_range] at hj
  unfold Af5
  simp only
  have hle : d / 2 ^ j ≤ d := Nat.div_le_self ..
  have e : std.ar .quo .i64 ((d / 2 ^ j : Nat) : Int) 2 = ((d / 2 ^ (j + 1) : Nat) : Int) := by
   rw [eq2 _ (by omega), Nat.pow_succ, ← Nat.div_div_eq_div_mul]
  rw [lssT hj, br_true, s_add, wrap_succ hj (by unfold big63; omega), e]) (fun _ => by
  rw [List.length_range]
  unfold Af5
  simp only
  rw [lssF, br_false, Bca d i hd hi, er2]
  rfl) ()
 rw [Ad1] at this
 have e0 : ((d / 2 ^ 0 : Nat) : Int) = (d : Int) := by simp
 simp only [e0] at this
 exact this
theorem A30 (n : Int) : Aek std n = Agm std n := rfl
theorem A31 (h : Hours) (hs : hourS h = true) : Ae3 std h = some (Ass h) := by
 have h0 := hs
 simp only [hourS, Bool.and_eq_true, decide_eq_true_eq] at h0
 obtain ⟨⟨⟨⟨⟨⟨_, d1⟩, d2⟩, f0⟩, f1⟩, f2⟩, t1⟩ := h0
 obtain ⟨ha, la⟩ := At9 h.From f0 (by omega)
 obtain ⟨hb, lb⟩ := At9 h.To (by omega) t1
 obtain ⟨d, hd⟩ : ∃ d : Nat, h.Days = (d : Int) := ⟨h.Days.toNat, by omega⟩
 rw [Auy h hs]
 unfold Ae3
 have := Aap (B := Afj std h) (fun i (_ : Unit) => ((⟨(comL (daysL h.Days i)).toArray⟩ : ByteArray), (i : Int))) (List.range 7) (fun _ _ (_ : Unit) => (.inl () : Unit ⊕ ByteArray)) (fun _ => Axq h) (fun i n u hx hi => by
  rw [List.length_range] at hi
  obtain ⟨hI, hz⟩ := Ate h.Days i (by omega)
  have hl := A6m (daysL h.Days i) hz
  have hsz : (ByteArray.mk (comL (daysL h.Days i)).toArray).size = (comL (daysL h.Days i)).length := by rw [Acb, Aay]
  have hday := dayT_size i hi
  have hset : Abk std h.2 (i : Int) = some (bitB h.Days i) := by
   show Abk std h.Days (i : Int) = _
   rw [hd]; exact A7j d i (by omega) hi
  have hget : std.get TyS.str [ByteArray.mk (Array.mk [109, 111, 110]), ByteArray.mk (Array.mk [116, 117, 101]), ByteArray.mk (Array.mk [119, 101, 100]), ByteArray.mk (Array.mk [116, 104, 117]), ByteArray.mk (Array.mk [102, 114, 105]), ByteArray.mk (Array.mk [115, 97, 116]), ByteArray.mk (Array.mk [115, 117, 110])] (i : Int) = dayT i := by
   have : i = 0 ∨ i = 1 ∨ i = 2 ∨ i = 3 ∨ i = 4 ∨ i = 5 ∨ i = 6 := by omega
   rcases this with rfl | rfl | rfl | rfl | rfl | rfl | rfl <;> rfl
  have hinb : std.inb (i : Int) (std.len TyS.str [ByteArray.mk (Array.mk [109, 111, 110]), ByteArray.mk (Array.mk [116, 117, 101]), ByteArray.mk (Array.mk [119, 101, 100]), ByteArray.mk (Array.mk [116, 104, 117]), ByteArray.mk (Array.mk [102, 114, 105]), ByteArray.mk (Array.mk [115, 97, 116]), ByteArray.mk (Array.mk [115, 117, 110])]) := inbT (n := 7) hi
  have q1 : (ByteArray.mk (Array.mk [44])).size = 1 := rfl
  unfold Afj
  simp only [hset, hget, bd_some]
  rw [show std.cmp .lss (i : Int) 7 = true from lssT (n := 7) hi, br_true, s_add, wrap_succ (n := 7) hi (by unfold big63; omega), daysL]
  have hne : std.scmp .neq (ByteArray.mk (comL (daysL h.Days i)).toArray) (ByteArray.mk (Array.mk [])) = !decide (daysL h.Days i = []) := by
   rw [Azg, Ap6, hsz]
   by_cases hn : daysL h.Days i = []
   ·rw [hn]; rfl
   ·have := A9q _ hz hn
    rw [decide_eq_true this, decide_eq_false hn]; rfl
  rw [hne, s_land]
  cases bitB h.Days i with
  | false =>
   rw [Bool.false_and, br_false, br_false, if_neg (by simp), List.append_nil]
  | true =>
   rw [Bool.true_and, if_pos rfl, Bao, br_true]
   by_cases hn : daysL h.Days i = []
   ·rw [decide_eq_true hn, Bool.not_true, br_false, if_pos hn, br_true, ck_t hinb, ck_t (show std.catOk _ (dayT i) by rw [Aaw, hsz]; omega), hn]
    refine congrArg (fun b : ByteArray => (some (.inl (b, ((i + 1 : Nat) : Int))) : Option ((ByteArray × Int) ⊕ ByteArray))) (ba_ext ?_)
    rw [s_cat, Aah, Aay, Aay]; rfl
   ·rw [decide_eq_false hn, Bool.not_false, br_true, if_neg hn, ck_t (show std.catOk _ (ByteArray.mk (Array.mk [44])) by rw [Aaw, hsz, q1]; omega), ck_t hinb, ck_t (show std.catOk _ (dayT i) by rw [Aaw, s_cat, ByteArray.size_append, hsz, q1]; omega)]
    refine congrArg (fun b : ByteArray => (some (.inl (b, ((i + 1 : Nat) : Int))) : Option ((ByteArray × Int) ⊕ ByteArray))) (ba_ext ?_)
    rw [s_cat, s_cat, Aah, Aah, Aay, Aay, List.append_assoc]; rfl) (fun _ => by
  obtain ⟨hI, hz⟩ := Ate h.Days 7 (by omega)
  have hl := A6m (daysL h.Days 7) hz
  have hsz : (ByteArray.mk (comL (daysL h.Days 7)).toArray).size = (comL (daysL h.Days 7)).length := by rw [Acb, Aay]
  have z1 : (ByteArray.mk (Array.mk [32])).size = 1 := rfl
  have z2 : (ByteArray.mk (Array.mk [45])).size = 1 := rfl
  rw [List.length_range]
  unfold Afj
  simp only [A30]
  rw [show std.cmp .lss ((7 : Nat) : Int) 7 = false from rfl, br_false, s_cat, ck_t (show std.catOk _ _ by rw [Aaw, z1, hsz]; omega), ha, bd_some, s_cat, ck_t (show std.catOk _ _ by rw [Aaw, ByteArray.size_append, z1, la, hsz]; omega), s_cat, ck_t (show std.catOk _ _ by rw [Aaw, ByteArray.size_append, ByteArray.size_append, z1, z2, la, hsz]; omega), hb, bd_some, s_cat, ck_t (show std.catOk _ _ by rw [Aaw, ByteArray.size_append, ByteArray.size_append, ByteArray.size_append, z1, z2, la, lb, hsz]; omega)]
  rfl) ()
 rw [Ad1] at this
 exact this
theorem Ahu {a b : List UInt8} (ha : a.all Ahk = true) (hb : b.all Ahk = true) : (a ++ b).all Ahk = true := by rw [List.all_append, ha, hb]; rfl
theorem A32 (n : Nat) (h : n ≤ 99) : ∃ t, Ajp std (n : Int) = some t ∧ (bytes t).all Ahk = true := by
 have q : std.ar .add .i64 48 (std.ar .quo .i64 (n : Int) 10) = ((48 + n / 10 : Nat) : Int) := by
  rw [s_quo, tdiv0 (by omega), w64 (by omega), s_add, w64 (by omega)]; omega
 have r : std.ar .add .i64 48 (std.ar .rem .i64 (n : Int) 10) = ((48 + n % 10 : Nat) : Int) := by
  rw [s_rem, tmod0 (by omega), s_add, w64 (by omega)]; omega
 obtain ⟨a1, a2⟩ := u8_at (n := 48 + n / 10) (by omega)
 obtain ⟨b1, b2⟩ := u8_at (n := 48 + n % 10) (by omega)
 unfold Ajp
 rw [q, r, ck_t a1, ck_t b1, a2, b2, A3d]
 refine ⟨_, rfl, ?_⟩
 rw [Aay]
 have hd : ∀ k : Nat, k < 10 → Ahk (UInt8.ofNat (48 + k)) = true := by decide
 show (Ahk (UInt8.ofNat (48 + n / 10)) && (Ahk (UInt8.ofNat (48 + n % 10)) && true)) = true
 rw [hd (n / 10) (by omega), hd (n % 10) (by omega)]; rfl
theorem A33 (n : Int) (h0 : 0 ≤ n) (h1 : n ≤ 1440) : (bytes (clk n)).all Ahk = true := by
 have e := (At9 n h0 h1).1
 unfold Agm at e
 have q1 : std.ar .quo .i64 n 60 = ((n / 60).toNat : Int) := by rw [s_quo, tdiv0 h0, w64 (by omega)]; omega
 have q2 : std.ar .rem .i64 n 60 = ((n % 60).toNat : Int) := by rw [s_rem, tmod0 h0]; omega
 obtain ⟨a, ha, pa⟩ := A32 (n / 60).toNat (by omega)
 obtain ⟨b, hb, pb⟩ := A32 (n % 60).toNat (by omega)
 rw [q1, q2, ha, bd_some, hb, bd_some] at e
 obtain ⟨_, e⟩ := ck_e e
 obtain ⟨_, e⟩ := ck_e e
 rw [← Option.some.inj e, s_cat, s_cat, Aah, Aah]
 exact Ahu (Ahu pa (by decide)) pb
theorem day_plain (i : Nat) (h : i < 7) : (bytes (dayT i)).all Ahk = true := by
 have : i = 0 ∨ i = 1 ∨ i = 2 ∨ i = 3 ∨ i = 4 ∨ i = 5 ∨ i = 6 := by omega
 rcases this with rfl | rfl | rfl | rfl | rfl | rfl | rfl <;> rfl
theorem A5k (h : Hours) (hs : hourS h = true) : A6l (Ass h) = true := by
 rw [Auy h hs]
 simp only [hourS, Bool.and_eq_true, decide_eq_true_eq] at hs
 obtain ⟨⟨⟨⟨⟨⟨_, _⟩, _⟩, f0⟩, f1⟩, f2⟩, t1⟩ := hs
 obtain ⟨hI, hz⟩ := Ate h.Days 7 (by omega)
 have hl := A6m (daysL h.Days 7) hz
 have sa := (At9 h.From f0 (by omega)).2
 have sb := (At9 h.To (by omega) t1).2
 have pd : ∀ i, i ≤ 7 → ∀ x ∈ daysL h.Days i, (bytes x).all Ahk = true := by
  intro i
  induction i with
  | zero => intro _ x hx; cases hx
  | succ i ih =>
   intro hi x hx
   rw [daysL] at hx
   rcases List.mem_append.1 hx with hx | hx
   ·exact ih (by omega) x hx
   ·split at hx
    ·rw [List.mem_singleton.1 hx]
     exact day_plain i (by omega)
    ·cases hx
 have pc : (comL (daysL h.Days 7)).all Ahk = true := by
  have hb := pd 7 (by omega)
  generalize daysL h.Days 7 = ws at hb
  cases ws with
  | nil => rfl
  | cons w r =>
   refine Ahu (hb w (List.mem_cons_self ..)) ?_
   rw [List.all_eq_true]
   intro c hc
   rw [List.mem_flatten] at hc
   obtain ⟨l, hl, hc⟩ := hc
   obtain ⟨x, hx, rfl⟩ := List.mem_map.1 hl
   rcases List.mem_cons.1 hc with rfl | hc
   ·decide
   ·exact List.all_eq_true.1 (hb x (List.mem_cons_of_mem _ hx)) c hc
 simp only [A6l, Bool.and_eq_true, decide_eq_true_eq]
 unfold Axq
 refine ⟨?_, ?_⟩
 ·rw [Aah, Aah, Aah, Aah, Aay]
  exact Ahu (Ahu (Ahu (Ahu pc (by decide)) (A33 _ f0 (by omega))) (by decide)) (A33 _ (by omega) t1)
 ·have z1 : (ByteArray.mk (Array.mk [32])).size = 1 := rfl
  have z2 : (ByteArray.mk (Array.mk [45])).size = 1 := rfl
  have z3 : (ByteArray.mk (comL (daysL h.Days 7)).toArray).size = (comL (daysL h.Days 7)).length := by rw [Acb, Aay]
  simp only [ByteArray.size_append, z1, z2, z3, sa, sb]
  omega
def signW (n : Int) : ByteArray := std.sel [ByteArray.mk (Array.mk []), ByteArray.mk (Array.mk [62]), ByteArray.mk (Array.mk [62, 61]), ByteArray.mk (Array.mk [60]), ByteArray.mk (Array.mk [60, 61]), ByteArray.mk (Array.mk [61, 61])] n
noncomputable def A34 (l : List Label) : ByteArray := ((Aly std l).getD (⟨#[]⟩, 0)).1
theorem A9r (l : List Label) (hf : fitL Aqs l) (h : labelsS l = true) : Aly std l = some (A34 l, 0) := by
 obtain ⟨s, hs, _⟩ := Axm l hf h
 unfold A34
 rw [hs]; rfl
noncomputable def A35 (r : Rule) : List ByteArray := [r.Name, r.Metric, signW r.How, itoaS r.Limit, itoaS r.For, itoaS r.Keep, itoaS r.Tries, A34 r.Labels]
theorem Alg (n : Int) (h : -9223372036854775808 ≤ n ∧ n ≤ 9223372036854775807) : strconv_Itoa std n = some (itoaS n) := by
 unfold strconv_Itoa
 exact ck_t h
theorem Ay4 (r : Rule) (hf : Aqt r) (h : ruleS r = true) : Aob std r = some (A35 r, 0) := by
 have h0 := h
 simp only [ruleS, timeS, Bool.and_eq_true, decide_eq_true_eq] at h0
 obtain ⟨⟨⟨⟨⟨⟨⟨⟨⟨⟨⟨⟨_, _⟩, a1⟩, a2⟩, b1, b2⟩, c1, c2⟩, d1⟩, d2⟩, e1⟩, e2⟩, _⟩, hl⟩, _⟩ := h0
 unfold Aob
 rw [Asn r hf, bd_some, h, s_not, Bool.not_true, br_false, A9r r.Labels hf.2.2 hl, bd_some]
 have hw : Ar1 std = some () := rfl
 rw [hw, bd_some, ck_t (show std.inb r.How (Int.ofNat 6) from ⟨by omega, by show r.How < 6; omega⟩)]
 have hn : ∀ n ∈ [r.Limit, r.For, r.Keep, r.Tries], -9223372036854775808 ≤ n ∧ n ≤ 9223372036854775807 := by
  intro n hn
  simp only [List.mem_cons, List.mem_nil_iff, or_false] at hn
  rcases hn with rfl | rfl | rfl | rfl <;> omega
 have := Aap (B := Amd std r (A34 r.Labels, 0)) (fun i (_ : Unit) => ([r.Name, r.Metric, signW r.How] ++ ([r.Limit, r.For, r.Keep, r.Tries].take i).map itoaS, (i : Int))) [r.Limit, r.For, r.Keep, r.Tries] (fun _ _ (_ : Unit) => (.inl () : Unit ⊕ (List ByteArray × Int))) (fun _ => (A35 r, 0)) (fun i n u hx hi => by
  unfold Amd
  simp only
  have hi4 : i < 4 := hi
  rw [Aaa, lssT hi, br_true, ck_t (inbT hi), Aab (t := TyS.int) hx, Alg n (hn n (Abl hx)), bd_some, ck_t (show std.appOk TyS.str 16 _ [itoaS n] from ⟨by simp; omega, by simp; omega⟩), s_add, wrap_succ hi (by simp; unfold big63; omega), take_snoc hx, List.map_append, ← List.append_assoc]
  rfl) (fun _ => by
  unfold Amd
  simp only
  rw [Aaa, lssF, br_false, List.take_length, ck_t (show std.appOk TyS.str 16 _ [A34 r.Labels] from ⟨by simp, by simp⟩)]
  rfl) ()
 rw [Ad1] at this
 exact this
def keysN (name : ByteArray) (n : Nat) : List ByteArray := (List.range n).map fun (i : Nat) => name ++ itoaS ((i : Nat) : Int)
def Auz (d : Def) (name : ByteArray) (l : List ByteArray) : Def := ⟨d.Typ, d.Keys ++ keysN name l.length, d.Values ++ l⟩
theorem Azy (name : ByteArray) (n : Nat) : keysN name (n + 1) = keysN name n ++ [name ++ itoaS (n : Int)] := by
 unfold keysN
 rw [List.range_succ, List.map_append]; rfl
theorem Ary (name : ByteArray) (n : Nat) : (keysN name n).length = n := by
 unfold keysN
 rw [List.length_map, List.length_range]
theorem A15 (n : Int) (h : -9223372036854775808 ≤ n ∧ n ≤ 9223372036854775807) : (itoaS n).size ≤ 21 := by
 unfold itoaS
 rw [Acb, Aay]
 exact Lib.itoa_length_le n h.1 h.2
theorem Al6 (d : Def) (name : ByteArray) (l : List ByteArray) (hn : name.size ≤ 1000) (hl : l.length ≤ 1000) (hk : d.Keys.length ≤ 1000) (hv : d.Values.length ≤ 1000) : Afe std d name l = some (Auz d name l) := by
 unfold Afe
 have := Aap (B := Aiz std d name l) (fun i (_ : Unit) => ((i : Int), d.Keys ++ keysN name i, d.Values ++ l.take i)) l (fun _ _ (_ : Unit) => (.inl () : Unit ⊕ Def)) (fun _ => Auz d name l) (fun i s u hs hi => by
  unfold Aiz
  simp only
  have hki := Ary name i
  have hit := A15 (i : Int) (by omega)
  rw [Aaa, lssT hi, br_true, ck_t (inbT hi), Alg (i : Int) (by omega), bd_some, ck_t (show std.catOk name (itoaS (i : Int)) by rw [Aaw]; omega), ck_t (show std.appOk TyS.str 16 (d.Keys ++ keysN name i) [_] from ⟨by rw [List.length_append, hki, List.length_singleton]; omega, by rw [List.length_append, hki, List.length_singleton]; omega⟩), Aab (t := TyS.str) hs, ck_t (show std.appOk TyS.str 16 (d.Values ++ l.take i) [s] from ⟨by simp; omega, by simp; omega⟩), s_add, wrap_succ hi (by unfold big63; omega), Azy, take_snoc hs, ← List.append_assoc, ← List.append_assoc]
  rfl) (fun _ => by
  unfold Aiz
  simp only
  rw [Aaa, lssF, br_false, List.take_length]
  rfl) ()
 rw [Ad1] at this
 have e0 : d.Keys ++ keysN name 0 = d.Keys := List.append_nil d.Keys
 have e1 : d.Values ++ l.take 0 = d.Values := by simp
 simp only [e0, e1] at this
 exact this
noncomputable def Alh (h : Hours) : Def := ⟨ByteArray.mk (Array.mk [116, 105, 109, 101, 112, 101, 114, 105, 111, 100]), [ByteArray.mk (Array.mk [110, 97, 109, 101]), ByteArray.mk (Array.mk [115, 112, 97, 110])], [h.Name, Ass h]⟩
def Apl (r : Route) : Def := Auz ⟨ByteArray.mk (Array.mk [110, 111, 116, 105, 102, 121]), [ByteArray.mk (Array.mk [99, 111, 110, 116, 97, 99, 116]), ByteArray.mk (Array.mk [119, 97, 105, 116]), ByteArray.mk (Array.mk [101, 118, 101, 114, 121]), ByteArray.mk (Array.mk [114, 101, 112, 101, 97, 116])], [r.Receiver, itoaS r.Wait, itoaS r.Every, itoaS r.Repeat]⟩ (ByteArray.mk (Array.mk [112, 101, 114, 105, 111, 100, 95])) r.Mute
def Alk (m : Label) : ByteArray := m.Name ++ ByteArray.mk (Array.mk [61]) ++ m.Value
def Anq (r : Rule) : Def := Auz ⟨ByteArray.mk (Array.mk [115, 101, 114, 118, 105, 99, 101]), [ByteArray.mk (Array.mk [110, 97, 109, 101]), ByteArray.mk (Array.mk [109, 101, 116, 114, 105, 99]), ByteArray.mk (Array.mk [99, 104, 101, 99, 107]), ByteArray.mk (Array.mk [108, 105, 109, 105, 116]), ByteArray.mk (Array.mk [97, 116, 116, 101, 109, 112, 116, 115])], [r.Name, r.Metric, signW r.How, itoaS r.Limit, itoaS r.Tries]⟩ (ByteArray.mk (Array.mk [108, 97, 98, 101, 108, 95])) (r.Labels.map Alk)
theorem Atf (r : Route) (h : oneS r = true) : Af9 std r = some (Apl r) := by
 simp only [oneS, Ap7, fromS, Bool.and_eq_true, decide_eq_true_eq] at h
 obtain ⟨⟨⟨⟨⟨⟨⟨_, m1⟩, m2⟩, _, m3⟩, _, m4⟩, w1, w2⟩, e1, e2⟩, p1, p2⟩ := h
 unfold Af9
 rw [Alg r.4 (by omega), bd_some, Alg r.5 (by omega), bd_some, Alg r.6 (by omega), bd_some, Al6 _ _ _ (by show (7 : Nat) ≤ 1000; omega) (by omega) (by show (4 : Nat) ≤ 1000; omega) (by show (4 : Nat) ≤ 1000; omega), bd_some]
 rfl
theorem Atg (r : Rule) (hf : Aqt r) (h : ruleS r = true) : Ah2 std r = some (Anq r) := by
 have h0 := h
 simp only [ruleS, Bool.and_eq_true, decide_eq_true_eq] at h0
 obtain ⟨⟨⟨_, hl4⟩, hls⟩, _⟩ := h0
 have hm := labelsS_mem hls
 unfold Ah2
 rw [Ay4 r hf h, bd_some]
 simp only
 rw [show std.cmp .lss (std.len TyS.str (A35 r)) 7 = false from rfl, br_false]
 have hin : ∀ k : Nat, k < 8 → std.inb (k : Int) (std.len TyS.str (A35 r)) := fun k hk => inbT (n := 8) hk
 rw [ck_t (show std.inb 0 _ from hin 0 (by omega)), ck_t (show std.inb 1 _ from hin 1 (by omega)), ck_t (show std.inb 2 _ from hin 2 (by omega)), ck_t (show std.inb 3 _ from hin 3 (by omega)), ck_t (show std.inb 6 _ from hin 6 (by omega))]
 have := Aap (B := Ahq std r (A35 r, 0)) (fun i (_ : Unit) => ((r.Labels.take i).map Alk, (i : Int))) r.Labels (fun _ _ (_ : Unit) => (.inl () : Unit ⊕ Def)) (fun _ => Anq r) (fun i m u hx hi => by
  have hlm := hm m (Abl hx)
  simp only [Alf, nameS, Ap5, Bool.and_eq_true, decide_eq_true_eq] at hlm
  have q1 : (ByteArray.mk (Array.mk [61])).size = 1 := rfl
  unfold Ahq
  simp only [Aab (t := TyS.label) hx]
  rw [Aaa, lssT hi, br_true, ck_t (inbT hi), ck_t (show std.catOk m.1 _ by rw [Aaw, q1]; omega), ck_t (show std.catOk _ m.2 by rw [Aaw, s_cat, ByteArray.size_append, q1]; omega), ck_t (show std.appOk TyS.str 16 ((r.Labels.take i).map Alk) [_] from ⟨by simp; omega, by simp; omega⟩), s_add, wrap_succ hi (by unfold big63; omega), take_snoc hx, List.map_append]
  rfl) (fun _ => by
  unfold Ahq
  simp only
  rw [Aaa, lssF, br_false, List.take_length, Al6 _ _ _ (by show (6 : Nat) ≤ 1000; omega) (by rw [List.length_map]; omega) (by show (5 : Nat) ≤ 1000; omega) (by show (5 : Nat) ≤ 1000; omega), bd_some]
  rfl) ()
 rw [Ad1] at this
 exact this
noncomputable def blocksS (c : Config) : List Def := c.Hours.map Alh ++ c.Receivers.map Afm ++ [Apl c.Route] ++ c.Rules.map Anq
theorem Au0 (c : Config) (hf : fitL Aqt c.Rules) (ho : oneS c.Route = true) (hr : c.Receivers.length ≤ 16) (hh : c.Hours.length ≤ 8 ∧ ∀ x ∈ c.Hours, hourS x = true) (hu : c.Rules.length ≤ 16 ∧ ∀ r ∈ c.Rules, ruleS r = true) : Ag5 std c = some (blocksS c) := by
 obtain ⟨h1, h2⟩ := hh
 obtain ⟨u1, u2⟩ := hu
 have ap : ∀ (l : List Def) (d : Def), l.length ≤ 1000 → std.appOk TyS.dfn 64 l [d] := fun l d h => ⟨by simp; omega, by simp; omega⟩
 have e1 : Loop (Agk std c) (c.Hours.map Alh ++ c.Receivers.map Afm ++ [Apl c.Route], 0) = some (blocksS c) := by
  have := Aap (B := Agk std c) (fun i (_ : Unit) => (c.Hours.map Alh ++ c.Receivers.map Afm ++ [Apl c.Route] ++ (c.Rules.take i).map Anq, (i : Int))) c.Rules (fun _ _ (_ : Unit) => (.inl () : Unit ⊕ List Def)) (fun _ => blocksS c) (fun i r u hx hi => by
   unfold Agk
   simp only
   rw [Aaa, lssT hi, br_true, ck_t (inbT hi), Aab (t := TyS.rule) hx, Atg r (hf.2 r (Abl hx)) (u2 r (Abl hx)), bd_some, ck_t (ap _ _ (by simp; omega)), s_add, wrap_succ hi (by unfold big63; omega), take_snoc hx, List.map_append, ← List.append_assoc]
   rfl) (fun _ => by
   unfold Agk
   simp only
   rw [Aaa, lssF, br_false, List.take_length]
   rfl) ()
  rw [Ad1] at this
  simp only [List.take_zero, List.map_nil, List.append_nil] at this
  exact this
 have e2 : Loop (Abg std c) (c.Hours.map Alh, 0) = some (blocksS c) := by
  have := Aap (B := Abg std c) (fun i (_ : Unit) => (c.Hours.map Alh ++ (c.Receivers.take i).map Afm, (i : Int))) c.Receivers (fun _ _ (_ : Unit) => (.inl () : Unit ⊕ List Def)) (fun _ => blocksS c) (fun i s u hx hi => by
   unfold Abg Ah1
   simp only
   rw [Aaa, lssT hi, br_true, ck_t (inbT hi), Aab (t := TyS.str) hx, bd_some, ck_t (ap _ _ (by simp; omega)), s_add, wrap_succ hi (by unfold big63; omega), take_snoc hx, List.map_append, ← List.append_assoc]
   rfl) (fun _ => by
   unfold Abg
   simp only
   rw [Aaa, lssF, br_false, List.take_length, Atf c.2 ho, bd_some, ck_t (ap _ _ (by simp; omega))]
   show rt (Loop (Agk std c) (c.Hours.map Alh ++ c.Receivers.map Afm ++ [Apl c.Route], 0)) = _
   rw [e1]
   rfl) ()
  rw [Ad1] at this
  simp only [List.take_zero, List.map_nil, List.append_nil] at this
  exact this
 unfold Ag5
 have := Aap (B := Ahf std c) (fun i (_ : Unit) => ((c.Hours.take i).map Alh, (i : Int))) c.Hours (fun _ _ (_ : Unit) => (.inl () : Unit ⊕ List Def)) (fun _ => blocksS c) (fun i h u hx hi => by
  obtain ⟨e, he⟩ := A9l h (h2 h (Abl hx))
  unfold Ahf Aih
  simp only
  rw [Aaa, lssT hi, br_true, ck_t (inbT hi), Aab (t := TyS.hours) hx, he, bd_some, bd_some, ck_t (ap _ _ (by simp; omega)), s_add, wrap_succ hi (by unfold big63; omega), take_snoc hx, List.map_append]
  rfl) (fun _ => by
  unfold Ahf
  simp only
  rw [Aaa, lssF, br_false, List.take_length, e2]
  rfl) ()
 rw [Ad1] at this
 exact this
theorem Avm (p : UInt8 → Bool) (l : List UInt8) (h : ∀ c, l.head? = some c → p c = false) : l.dropWhile p = l := by
 cases l with
 | nil => rfl
 | cons a l => simp [List.dropWhile, h a rfl]
theorem Bbn (l : List UInt8) (h1 : l.head? ≠ some 32) (h2 : l.getLast? ≠ some 32) : Lib.trimB l 32 = l := by
 have e1 : Lib.trimRightB l 32 = l := by
  unfold Lib.trimRightB
  rw [Avm _ _ fun c hc => by
   rw [List.head?_reverse] at hc
   have : c ≠ 32 := fun e => h2 (e ▸ hc)
   simpa using this, List.reverse_reverse]
 unfold Lib.trimB Lib.trimLeftB
 rw [e1, Avm _ _ fun c hc => by
  have : c ≠ 32 := fun e => h1 (e ▸ hc)
  simpa using this]
theorem dval (s : ByteArray) (h0 : 1 ≤ s.size) (h : s.size ≤ 200) (h1 : (bytes s).head? ≠ some 32) (h2 : (bytes s).getLast? ≠ some 32) (hs : (bytes s).all semiC = true) : Ajj s = true := by
 unfold Ajj
 rw [decide_eq_true h0, decide_eq_true h, Bbn _ h1 h2, hs, mkb, decide_eq_true rfl]
 rfl
theorem A9s (s : ByteArray) (h0 : 1 ≤ s.size) (h : s.size ≤ 200) (hs : ∀ c ∈ bytes s, semiC c = true ∧ c ≠ 32) : Ajj s = true :=
 dval s h0 h (fun e => (hs 32 (List.mem_of_mem_head? e)).2 rfl) (fun e => (hs 32 (List.mem_of_mem_getLast? e)).2 rfl) (List.all_eq_true.2 fun c hc => (hs c hc).1)
theorem Aqe {s : ByteArray} (h : wordS s = true) : Ajj s = true := by
 simp only [wordS, Bool.and_eq_true, decide_eq_true_eq, List.all_eq_true] at h
 refine A9s s h.1.2 (by omega) fun c hc => ?_
 have := h.1.1 c hc
 constructor
 ·simp [wordC, lowC, digC, barC, inC, semiC, Ahk] at this ⊢; omega
 ·rintro rfl; revert this; decide
theorem A9t : ∀ u : Nat, ∀ c ∈ Lib.decDigits u, 48 ≤ c.toNat ∧ c.toNat ≤ 57 := by
 intro u
 induction u using Nat.strongRecOn with
 | ind u ih =>
  have hd : ∀ k : Nat, k < 10 → 48 ≤ (UInt8.ofNat (48 + k)).toNat ∧ (UInt8.ofNat (48 + k)).toNat ≤ 57 := by decide
  rw [Lib.decDigits]
  split
  ·rename_i h
   intro c hc
   rw [List.mem_singleton.1 hc]; exact hd u h
  ·rename_i h
   intro c hc
   rcases List.mem_append.1 hc with hc | hc
   ·exact ih (u / 10) (by omega) c hc
   ·rw [List.mem_singleton.1 hc]; exact hd (u % 10) (by omega)
theorem Bcb (u : Nat) : 1 ≤ (Lib.decDigits u).length := by
 rw [Lib.decDigits]
 split <;> simp
theorem Arz (n : Int) (h : -9223372036854775808 ≤ n ∧ n ≤ 9223372036854775807) : Ajj (itoaS n) = true := by
 have hl := A15 n h
 have hb : bytes (itoaS n) = Lib.itoa n := Aay _
 refine A9s _ ?_ (by omega) fun c hc => ?_
 ·rw [Acb, hb]
  unfold Lib.itoa
  split
  ·simp
  ·exact Bcb _
 ·rw [hb] at hc
  have hd : c.toNat = 45 ∨ (48 ≤ c.toNat ∧ c.toNat ≤ 57) := by
   unfold Lib.itoa at hc
   split at hc
   ·rcases List.mem_cons.1 hc with rfl | hc
    ·exact .inl rfl
    ·exact .inr (A9t _ c hc)
   ·exact .inr (A9t _ c hc)
  constructor
  ·simp [semiC, Ahk, inC]; omega
  ·rintro rfl
   have : (32 : UInt8).toNat = 32 := rfl
   omega
theorem A9u (n : Int) (h1 : 1 ≤ n) (h5 : n ≤ 5) : Ajj (signW n) = true := by
 have : n = 1 ∨ n = 2 ∨ n = 3 ∨ n = 4 ∨ n = 5 := by omega
 rcases this with rfl | rfl | rfl | rfl | rfl <;> rfl
theorem A6n (n : Int) (h0 : 0 ≤ n) (h1 : n ≤ 1440) : ∀ c ∈ bytes (clk n), 48 ≤ c.toNat ∧ c.toNat ≤ 58 := by
 have e := (At9 n h0 h1).1
 unfold Agm at e
 have q1 : std.ar .quo .i64 n 60 = ((n / 60).toNat : Int) := by rw [s_quo, tdiv0 h0, w64 (by omega)]; omega
 have q2 : std.ar .rem .i64 n 60 = ((n % 60).toNat : Int) := by rw [s_rem, tmod0 h0]; omega
 have two : ∀ k : Nat, k ≤ 99 → ∃ t, Ajp std (k : Int) = some t ∧ ∀ c ∈ bytes t, 48 ≤ c.toNat ∧ c.toNat ≤ 58 := fun k hk => by
  have q : std.ar .add .i64 48 (std.ar .quo .i64 (k : Int) 10) = ((48 + k / 10 : Nat) : Int) := by
   rw [s_quo, tdiv0 (by omega), w64 (by omega), s_add, w64 (by omega)]; omega
  have r : std.ar .add .i64 48 (std.ar .rem .i64 (k : Int) 10) = ((48 + k % 10 : Nat) : Int) := by
   rw [s_rem, tmod0 (by omega), s_add, w64 (by omega)]; omega
  obtain ⟨a1, a2⟩ := u8_at (n := 48 + k / 10) (by omega)
  obtain ⟨b1, b2⟩ := u8_at (n := 48 + k % 10) (by omega)
  unfold Ajp
  rw [q, r, ck_t a1, ck_t b1, a2, b2, A3d]
  refine ⟨_, rfl, fun c hc => ?_⟩
  rw [Aay] at hc
  have hd : ∀ j : Nat, j < 10 → 48 ≤ (UInt8.ofNat (48 + j)).toNat ∧ (UInt8.ofNat (48 + j)).toNat ≤ 58 := by decide
  rcases List.mem_cons.1 hc with rfl | hc
  ·exact hd _ (by omega)
  ·rw [List.mem_singleton.1 hc]; exact hd _ (by omega)
 obtain ⟨a, ha, pa⟩ := two (n / 60).toNat (by omega)
 obtain ⟨b, hb, pb⟩ := two (n % 60).toNat (by omega)
 rw [q1, q2, ha, bd_some, hb, bd_some] at e
 obtain ⟨_, e⟩ := ck_e e
 obtain ⟨_, e⟩ := ck_e e
 rw [← Option.some.inj e, s_cat, s_cat, Aah, Aah]
 intro c hc
 rcases List.mem_append.1 hc with hc | hc
 ·rcases List.mem_append.1 hc with hc | hc
  ·exact pa c hc
  ·rw [List.mem_singleton.1 hc]; decide
 ·exact pb c hc
theorem days_pos (h : Hours) (d1 : 1 ≤ h.Days) (d2 : h.Days ≤ 127) : daysL h.Days 7 ≠ [] := by
 obtain ⟨d, hd⟩ : ∃ d : Nat, h.Days = (d : Int) := ⟨h.Days.toNat, by omega⟩
 rw [hd]
 have key : ((List.range 128).all fun d => decide (d = 0) || !(daysL (d : Int) 7).isEmpty) = true := by kernel_rfl
 rw [List.all_eq_true] at key
 have := key d (List.mem_range.2 (by omega))
 intro e
 rw [e] at this
 simp at this
 omega
theorem dval_hours (h : Hours) (hs : hourS h = true) : Ajj (Ass h) = true := by
 have hp := A5k h hs
 simp only [A6l, Bool.and_eq_true, decide_eq_true_eq] at hp
 rw [Auy h hs] at hp ⊢
 have h0 := hs
 simp only [hourS, Bool.and_eq_true, decide_eq_true_eq] at h0
 obtain ⟨⟨⟨⟨⟨⟨_, d1⟩, d2⟩, f0⟩, f1⟩, f2⟩, t1⟩ := h0
 have sb := (At9 h.To (by omega) t1).2
 have cb := A6n h.To (by omega) t1
 have ca := A6n h.From f0 (by omega)
 have hne := days_pos h d1 d2
 obtain ⟨hI, hz⟩ := Ate h.Days 7 (by omega)
 have hb : bytes (Axq h) = comL (daysL h.Days 7) ++ [32] ++ bytes (clk h.From) ++ [45] ++ bytes (clk h.To) := by
  unfold Axq
  rw [Aah, Aah, Aah, Aah, Aay]
 have hday : ∀ i, i ≤ 7 → ∀ x ∈ daysL h.Days i, ∀ c ∈ bytes x, 97 ≤ c.toNat ∧ c.toNat ≤ 122 := by
  intro i
  induction i with
  | zero => intro _ x hx; cases hx
  | succ i ih =>
   intro hi x hx
   rw [daysL] at hx
   rcases List.mem_append.1 hx with hx | hx
   ·exact ih (by omega) x hx
   ·split at hx
    ·rw [List.mem_singleton.1 hx]
     have : ((List.range 7).all fun j => (bytes (dayT j)).all fun c => decide (97 ≤ c.toNat) && decide (c.toNat ≤ 122)) = true := by kernel_rfl
     rw [List.all_eq_true] at this
     have := this i (List.mem_range.2 (by omega))
     rw [List.all_eq_true] at this
     intro c hc
     simpa using this c hc
    ·cases hx
 have hcom : ∀ c ∈ comL (daysL h.Days 7), c.toNat = 44 ∨ (97 ≤ c.toNat ∧ c.toNat ≤ 122) := by
  have hb := hday 7 (by omega)
  generalize daysL h.Days 7 = ws at hb
  cases ws with
  | nil => intro c hc; cases hc
  | cons w r =>
   intro c hc
   rcases List.mem_append.1 hc with hc | hc
   ·exact .inr (hb w (List.mem_cons_self ..) c hc)
   ·rw [List.mem_flatten] at hc
    obtain ⟨l, hl, hc⟩ := hc
    obtain ⟨x, hx, rfl⟩ := List.mem_map.1 hl
    rcases List.mem_cons.1 hc with rfl | hc
    ·exact .inl rfl
    ·exact .inr (hb x (List.mem_cons_of_mem _ hx) c hc)
 have h32 : (32 : UInt8).toNat = 32 := rfl
 refine dval _ ?_ hp.2 ?_ ?_ ?_
 ·rw [Acb, hb]; simp; omega
 ·have hpos := A9q _ hz hne
  intro e
  rw [hb] at e
  cases hc : comL (daysL h.Days 7) with
  | nil => rw [hc] at hpos; simp at hpos
  | cons a l =>
   rw [hc] at e
   have : a = 32 := by simpa using e
   have := hcom a (by rw [hc]; exact List.mem_cons_self ..)
   rw [‹a = 32›, h32] at this
   omega
 ·intro e
  rw [hb, List.getLast?_append] at e
  have hlen : (bytes (clk h.To)).length = 5 := by rw [Aag]; exact sb
  cases hl : (bytes (clk h.To)).getLast? with
  | none =>
   rw [List.getLast?_eq_none_iff] at hl
   rw [hl] at hlen; cases hlen
  | some c =>
   rw [hl] at e
   have : c = 32 := by simpa using e
   have := cb c (List.mem_of_mem_getLast? hl)
   rw [‹c = 32›, h32] at this
   omega
 ·rw [hb, List.all_eq_true]
  intro c hc
  have hcase : c.toNat = 32 ∨ c.toNat = 45 ∨ c.toNat = 44 ∨ (97 ≤ c.toNat ∧ c.toNat ≤ 122) ∨ (48 ≤ c.toNat ∧ c.toNat ≤ 58) := by
   rcases List.mem_append.1 hc with hc | hc
   ·rcases List.mem_append.1 hc with hc | hc
    ·rcases List.mem_append.1 hc with hc | hc
     ·rcases List.mem_append.1 hc with hc | hc
      ·rcases hcom c hc with h | h
       ·exact .inr (.inr (.inl h))
       ·exact .inr (.inr (.inr (.inl h)))
      ·rw [List.mem_singleton.1 hc]; exact .inl rfl
     ·exact .inr (.inr (.inr (.inr (ca c hc))))
    ·rw [List.mem_singleton.1 hc]; exact .inr (.inl rfl)
   ·exact .inr (.inr (.inr (.inr (cb c hc))))
  simp [semiC, Ahk, inC]
  omega
theorem Bcc {x : Label} (h : oddS x = false) : (∀ c ∈ bytes x.Value, c ≠ 59) ∧ (bytes x.Value).getLast? ≠ some 32 := by
 unfold oddS at h
 rw [Bool.or_eq_false_iff] at h
 refine ⟨fun c hc e => ?_, fun e => ?_⟩
 ·subst e
  have h1 := h.1
  unfold Lib.contains at h1
  rw [Lib.index_one, index_ge] at h1
  have : (bytes x.Value).contains 59 = true := by simpa using hc
  rw [h1] at this; cases this
 ·have h2 := h.2
  unfold Lib.hasSuffix at h2
  have : [32].isSuffixOf (bytes x.Value) = true := by
   rw [List.isSuffixOf_iff_suffix]
   obtain ⟨l, hl⟩ := List.getLast?_eq_some_iff.1 e
   exact ⟨l, hl.symm⟩
  rw [h2] at this; cases this
theorem A7k {x : Label} (hl : Alf x = true) (ho : oddS x = false) : Ajj (Alk x) = true := by
 simp only [Alf, Ap5, nameS, Bool.and_eq_true, decide_eq_true_eq, List.all_eq_true] at hl
 obtain ⟨⟨⟨n1, n2⟩, n3⟩, ⟨v1, v2⟩, v3⟩ := hl
 obtain ⟨o1, o2⟩ := Bcc ho
 have hb : bytes (Alk x) = bytes x.Name ++ [61] ++ bytes x.Value := by
  unfold Alk
  rw [Aah, Aah]
 have hz : (Alk x).size = x.Name.size + 1 + x.Value.size := by
  have q : (ByteArray.mk (Array.mk [61])).size = 1 := rfl
  unfold Alk
  rw [ByteArray.size_append, ByteArray.size_append, q]
 have hn : ∀ c ∈ bytes x.Name, semiC c = true ∧ c ≠ 32 := fun c hc => by
  obtain ⟨j, hj⟩ := Av2 n1 c hc
  constructor
  ·simp [nameP, letC, lowC, upC, digC, barC, inC, semiC, Ahk] at hj ⊢; omega
  ·rintro rfl
   simp [nameP, letC, lowC, upC, digC, barC, inC] at hj
 have hnl := Aag x.Name
 have hvl := Aag x.Value
 refine dval _ (by omega) (by omega) ?_ ?_ ?_
 ·intro e
  rw [hb] at e
  cases hc : bytes x.Name with
  | nil => rw [hc] at hnl; simp at hnl; omega
  | cons a l =>
   rw [hc] at e
   have h1 : a = 32 := by simpa using e
   exact (hn a (by rw [hc]; exact List.mem_cons_self ..)).2 h1
 ·intro e
  rw [hb, List.getLast?_append] at e
  cases hc : (bytes x.Value).getLast? with
  | none =>
   rw [List.getLast?_eq_none_iff] at hc
   rw [hc] at hvl; simp at hvl; omega
  | some c =>
   rw [hc] at e
   have h1 : c = 32 := by simpa using e
   exact o2 (h1 ▸ hc)
 ·rw [hb, List.all_eq_true]
  intro c hc
  rcases List.mem_append.1 hc with hc | hc
  ·rcases List.mem_append.1 hc with hc | hc
   ·exact (hn c hc).1
   ·rw [List.mem_singleton.1 hc]; decide
  ·have h1 := v1 c hc
   have h2 := o1 c hc
   have h3 : c.toNat ≠ 59 := fun e => h2 (UInt8.toNat_inj.1 e)
   simp [Ahk, inC, semiC] at h1 ⊢
   omega
theorem A16 {d : Def} (hk : allI (keyP d.Keys) 0 d.Keys = true) (ht : wordS d.Typ = true) (hl : d.Keys.length ≤ 64) (he : d.Keys.length = d.Values.length) (hv : ∀ v ∈ d.Values, Ajj v = true) : mayD d = true := by
 unfold mayD
 rw [hk, ht, decide_eq_true hl, decide_eq_true he, List.all_eq_true.2 hv]
 rfl
theorem A5l : ((List.range 9).all fun n => allI (keyP ([ByteArray.mk (Array.mk [99, 111, 110, 116, 97, 99, 116]), ByteArray.mk (Array.mk [119, 97, 105, 116]), ByteArray.mk (Array.mk [101, 118, 101, 114, 121]), ByteArray.mk (Array.mk [114, 101, 112, 101, 97, 116])] ++ keysN (ByteArray.mk (Array.mk [112, 101, 114, 105, 111, 100, 95])) n)) 0 ([ByteArray.mk (Array.mk [99, 111, 110, 116, 97, 99, 116]), ByteArray.mk (Array.mk [119, 97, 105, 116]), ByteArray.mk (Array.mk [101, 118, 101, 114, 121]), ByteArray.mk (Array.mk [114, 101, 112, 101, 97, 116])] ++ keysN (ByteArray.mk (Array.mk [112, 101, 114, 105, 111, 100, 95])) n)) = true := by kernel_rfl
theorem A36 : ((List.range 9).all fun n => allI (keyP ([ByteArray.mk (Array.mk [110, 97, 109, 101]), ByteArray.mk (Array.mk [109, 101, 116, 114, 105, 99]), ByteArray.mk (Array.mk [99, 104, 101, 99, 107]), ByteArray.mk (Array.mk [108, 105, 109, 105, 116]), ByteArray.mk (Array.mk [97, 116, 116, 101, 109, 112, 116, 115])] ++ keysN (ByteArray.mk (Array.mk [108, 97, 98, 101, 108, 95])) n)) 0 ([ByteArray.mk (Array.mk [110, 97, 109, 101]), ByteArray.mk (Array.mk [109, 101, 116, 114, 105, 99]), ByteArray.mk (Array.mk [99, 104, 101, 99, 107]), ByteArray.mk (Array.mk [108, 105, 109, 105, 116]), ByteArray.mk (Array.mk [97, 116, 116, 101, 109, 112, 116, 115])] ++ keysN (ByteArray.mk (Array.mk [108, 97, 98, 101, 108, 95])) n)) = true := by kernel_rfl
theorem A7l (r : Route) (h : oneS r = true) : mayD (Apl r) = true := by
 simp only [oneS, Ap7, fromS, Bool.and_eq_true, decide_eq_true_eq] at h
 obtain ⟨⟨⟨⟨⟨⟨⟨m0, m1⟩, m2⟩, _, m3⟩, m4, m4'⟩, w1, w2⟩, e1, e2⟩, p1, p2⟩ := h
 have hk := A5l
 rw [List.all_eq_true] at hk
 have hkl := Ary (ByteArray.mk (Array.mk [112, 101, 114, 105, 111, 100, 95])) r.Mute.length
 refine A16 (hk r.Mute.length (List.mem_range.2 (by omega))) (by show wordS (ByteArray.mk (Array.mk [110, 111, 116, 105, 102, 121])) = true; rfl) ?_ ?_ fun v hv => ?_
 ·show (_ ++ keysN _ r.Mute.length).length ≤ 64
  rw [List.length_append, hkl]; show 4 + r.Mute.length ≤ 64; omega
 ·show (_ ++ keysN _ r.Mute.length).length = (_ ++ r.Mute).length
  rw [List.length_append, List.length_append, hkl]; rfl
 ·have hv' : v ∈ [r.Receiver, itoaS r.Wait, itoaS r.Every, itoaS r.Repeat] ++ r.Mute := hv
  rcases List.mem_append.1 hv' with hv | hv
  ·simp only [List.mem_cons, List.mem_nil_iff, or_false] at hv
   rcases hv with rfl | rfl | rfl | rfl
   ·exact Aqe m0
   iterate 3 (exact Arz _ (by omega))
  ·exact Aqe (Ars m4 v hv)
theorem A5m (r : Rule) (h : ruleS r = true) (ho : oddR r = false) : mayD (Anq r) = true := by
 simp only [ruleS, Bool.and_eq_true, decide_eq_true_eq] at h
 obtain ⟨⟨⟨⟨⟨⟨⟨⟨⟨⟨⟨⟨n1, n2⟩, a1⟩, a2⟩, _⟩, _⟩, d1⟩, d2⟩, e1⟩, e2⟩, l4⟩, hls⟩, _⟩ := h
 have hm := labelsS_mem hls
 unfold oddR at ho
 rw [List.any_eq_false] at ho
 have hk := A36
 rw [List.all_eq_true] at hk
 have hkl := Ary (ByteArray.mk (Array.mk [108, 97, 98, 101, 108, 95])) (r.Labels.map Alk).length
 have hml : (r.Labels.map Alk).length = r.Labels.length := List.length_map ..
 refine A16 (hk (r.Labels.map Alk).length (List.mem_range.2 (by omega))) (by show wordS (ByteArray.mk (Array.mk [115, 101, 114, 118, 105, 99, 101])) = true; rfl) ?_ ?_ fun v hv => ?_
 ·show (_ ++ keysN _ (r.Labels.map Alk).length).length ≤ 64
  rw [List.length_append, hkl]; show 5 + (r.Labels.map Alk).length ≤ 64; omega
 ·show (_ ++ keysN _ (r.Labels.map Alk).length).length = (_ ++ r.Labels.map Alk).length
  rw [List.length_append, List.length_append, hkl]; rfl
 ·have hv' : v ∈ [r.Name, r.Metric, signW r.How, itoaS r.Limit, itoaS r.Tries] ++ r.Labels.map Alk := hv
  rcases List.mem_append.1 hv' with hv | hv
  ·simp only [List.mem_cons, List.mem_nil_iff, or_false] at hv
   rcases hv with rfl | rfl | rfl | rfl | rfl
   ·exact Aqe n1
   ·exact Aqe n2
   ·exact A9u _ a1 a2
   iterate 2 (exact Arz _ (by omega))
  ·obtain ⟨x, hx, rfl⟩ := List.mem_map.1 hv
   exact A7k (hm x hx) (by simpa using ho x hx)
theorem A7m (h : Hours) (hs : hourS h = true) : mayD (Alh h) = true := by
 have h2 := hs
 simp only [hourS, Bool.and_eq_true] at h2
 refine A16 (by kernel_rfl) (by show wordS (ByteArray.mk (Array.mk [116, 105, 109, 101, 112, 101, 114, 105, 111, 100])) = true; rfl) (by show 2 ≤ 64; omega) rfl fun v hv => ?_
 have hv' : v ∈ [h.Name, Ass h] := hv
 simp only [List.mem_cons, List.mem_nil_iff, or_false] at hv'
 rcases hv' with rfl | rfl
 ·exact Aqe h2.1.1.1.1.1.1
 ·exact dval_hours h hs
theorem A5n (s : ByteArray) (hs : wordS s = true) : mayD (Afm s) = true := by
 refine A16 (by kernel_rfl) (by show wordS (ByteArray.mk (Array.mk [99, 111, 110, 116, 97, 99, 116])) = true; rfl) (by show 1 ≤ 64; omega) rfl fun v hv => ?_
 have hv' : v ∈ [s] := hv
 rw [List.mem_singleton.1 hv']
 exact Aqe hs
theorem A37 (c : Config) (hr : c.Receivers.length ≤ 16 ∧ ∀ s ∈ c.Receivers, wordS s = true) (ho : oneS c.Route = true) (hh : c.Hours.length ≤ 8 ∧ ∀ x ∈ c.Hours, hourS x = true) (hu : c.Rules.length ≤ 16 ∧ ∀ r ∈ c.Rules, ruleS r = true ∧ oddR r = false) : Arx (blocksS c) = true := by
 unfold Arx
 rw [Bool.and_eq_true, decide_eq_true_eq, List.all_eq_true]
 constructor
 ·unfold blocksS
  simp only [List.length_append, List.length_map, List.length_singleton]
  omega
 ·intro d hd
  unfold blocksS at hd
  rcases List.mem_append.1 hd with hd | hd
  ·rcases List.mem_append.1 hd with hd | hd
   ·rcases List.mem_append.1 hd with hd | hd
    ·obtain ⟨x, hx, rfl⟩ := List.mem_map.1 hd
     exact A7m x (hh.2 x hx)
    ·obtain ⟨x, hx, rfl⟩ := List.mem_map.1 hd
     exact A5n x (hr.2 x hx)
   ·rw [List.mem_singleton.1 hd]; exact A7l _ ho
  ·obtain ⟨x, hx, rfl⟩ := List.mem_map.1 hd
   exact A5m x (hu.2 x hx).1 (hu.2 x hx).2
theorem Baq {α : Type} (p : α → Bool) (f : Bool) (xs : List α) : ∀ i, runL (fun _ x (_ : Unit) => if p x then (.inr true : Unit ⊕ Bool) else .inl ()) (fun _ => f) i xs () = (xs.any p || f) := by
 induction xs with
 | nil => intro i; rfl
 | cons x xs ih =>
  intro i
  simp only [runL, List.any_cons]
  cases p x with
  | true => rfl
  | false => simpa using ih (i + 1)
theorem A5o (l : List UInt8) (c : UInt8) : Lib.hasSuffix l [c] = decide (l.getLast? = some c) := by
 unfold Lib.hasSuffix
 rw [Bool.eq_iff_iff, List.isSuffixOf_iff_suffix, decide_eq_true_eq, List.getLast?_eq_some_iff]
 constructor
 iterate 2 (rintro ⟨t, ht⟩; exact ⟨t, ht.symm⟩)
theorem A7n (x : Label) (hs : x.Value.size ≤ 64) : Aaj std x.2 = some (oddS x) := by
 unfold Aaj
 have hl := Aag x.Value
 have := Aap (B := Af4 std x.2) (fun i (_ : Unit) => (i : Int)) (bytes x.Value) (fun _ c (_ : Unit) => if (c == 59) then (.inr true : Unit ⊕ Bool) else .inl ()) (fun _ => decide ((bytes x.Value).getLast? = some 32)) (fun i c u hc hi => by
  unfold Af4
  simp only
  rw [Arn, lssT hi, br_true, ck_t (inbT hi), Aqq hc, s_add, wrap_succ hi (by rw [hl]; unfold big63; omega)]
  have : std.cmp .eql (c.toNat : Int) 59 = (c == 59) := by
   rw [s_eql, Bool.eq_iff_iff]; simp [← UInt8.toNat_inj]; omega
  rw [this]
  cases (c == 59) <;> rfl) (fun _ => by
  unfold Af4
  simp only
  rw [Arn, lssF, br_false]
  by_cases h0 : (bytes x.Value).length = 0
  ·have e0 : std.cmp .gtr ((bytes x.Value).length : Int) 0 = false := by rw [h0]; rfl
   rw [e0, ck_t (vc_of fun h => by cases h), s_land, Bool.false_and]
   have : bytes x.Value = [] := List.eq_nil_of_length_eq_zero h0
   rw [this]; rfl
  ·have e0 : std.cmp .gtr ((bytes x.Value).length : Int) 0 = true := by rw [s_gtr]; exact decide_eq_true (by omega)
   have e1 : std.ar .sub .i64 ((bytes x.Value).length : Int) 1 = (((bytes x.Value).length - 1 : Nat) : Int) := by rw [s_sub, w64 (by omega)]; omega
   obtain ⟨c, hc⟩ := Ale (xs := bytes x.Value) (i := (bytes x.Value).length - 1) (by omega)
   have hlast : (bytes x.Value).getLast? = some c := by rw [List.getLast?_eq_getElem?]; exact hc
   rw [e0, e1, ck_t (vc_of fun _ => inbT (by omega)), Aqq hc, hlast, s_land, Bool.true_and]
   have : std.cmp .eql (c.toNat : Int) 32 = decide (some c = some (32 : UInt8)) := by
    rw [s_eql, Bool.eq_iff_iff]; simp [← UInt8.toNat_inj]; omega
   rw [this]; rfl) ()
 rw [Baq] at this
 have e : oddS x = ((bytes x.Value).any (· == 59) || decide ((bytes x.Value).getLast? = some 32)) := by
  unfold oddS Lib.contains
  rw [Lib.index_one, index_ge, A5o, List.contains_eq_any_beq]
  congr 2
  funext c
  exact Bool.beq_comm
 rw [e]
 exact this
theorem Av9 {α : Type} (p : α → Bool) {xs : List α} {i : Nat} {x : α} (h : xs[i]? = some x) : (xs.take (i + 1)).any p = ((xs.take i).any p || p x) := by
 rw [take_snoc h, List.any_append]; simp
theorem Bcd (r : Rule) (hm : ∀ x ∈ r.Labels, x.Value.size ≤ 64) (hl : r.Labels.length ≤ 1000) (E : Bool → (Bool × Bool × Bool × Int) ⊕ List ByteArray) (B : Bool × Int → Option ((Bool × Int) ⊕ ((Bool × Bool × Bool × Int) ⊕ List ByteArray)))
  (hB : ∀ t i, B (t, i) = br (std.cmp .lss i (std.len TyS.label r.8)) (ck (std.inb i (std.len TyS.label r.8)) <| bd (gd false (std.not t) (Aaj std (std.get TyS.label r.8 i).2)) fun w => some (.inl ((std.or t w, std.ar .add .i64 i 1)))) (rt (some (E t)))) (t : Bool) : Loop B (t, 0) = some (E (t || oddR r)) := by
 have := Aap (B := B) (fun i (_ : Unit) => ((t || (r.Labels.take i).any oddS), (i : Int))) r.Labels (fun _ _ (_ : Unit) => (.inl () : Unit ⊕ ((Bool × Bool × Bool × Int) ⊕ List ByteArray))) (fun _ => E (t || oddR r)) (fun i x u hx hi => by
  rw [hB, Aaa, lssT hi, br_true, ck_t (inbT hi), Aab (t := TyS.label) hx, gd_b (fun _ => A7n x (hm x (Abl hx))), bd_some, s_add, wrap_succ hi (by unfold big63; omega), Av9 oddS hx, s_lor, s_not]
  cases t <;> cases (r.Labels.take i).any oddS <;> cases oddS x <;> rfl) (fun _ => by
  rw [hB, Aaa, lssF, br_false, List.take_length]
  rfl) ()
 rw [Ad1] at this
 simp only [List.take_zero, List.any_nil, Bool.or_false] at this
 exact this
theorem Ar0 (c : Config) (hu : ∀ r ∈ c.Rules, r.Labels.length ≤ 1000 ∧ ∀ x ∈ r.Labels, x.Value.size ≤ 64) (hn : c.Rules.length ≤ 1000) (B1 : Bool → Bool → Int → Bool × Int → Option ((Bool × Int) ⊕ ((Bool × Bool × Bool × Int) ⊕ List ByteArray))) (B2 : Bool × Bool × Bool × Int → Option ((Bool × Bool × Bool × Int) ⊕ List ByteArray)) (OUT : Bool → Bool → Bool → Option (List ByteArray)) (G : Bool → Bool → Bool → List ByteArray) (hG : ∀ a b d, OUT a b d = some (G a b d))
  (hB2 : ∀ t4 t5 t6 i, B2 (t4, t5, t6, i) = br (std.cmp .lss i (std.len TyS.rule c.1)) (ck (std.inb i (std.len TyS.rule c.1)) <| Loop (B1 t4 t5 i) (t6, 0)) (rt (OUT t4 t5 t6)))
  (hB1 : ∀ t4 t5 j t i, B1 t4 t5 j (t, i) = br (std.cmp .lss i (std.len TyS.label (std.get TyS.rule c.1 j).8)) (ck (std.inb i (std.len TyS.label (std.get TyS.rule c.1 j).8)) <| bd (gd false (std.not t) (Aaj std (std.get TyS.label (std.get TyS.rule c.1 j).8 i).2)) fun w => some (.inl ((std.or t w, std.ar .add .i64 i 1)))) (rt (some (.inl ((std.or t4 (std.cmp .gtr (std.get TyS.rule c.1 j).5 0), std.or t5 (std.cmp .gtr (std.get TyS.rule c.1 j).6 0), t, std.ar .add .i64 j 1)))))) :
  Loop B2 (false, false, false, 0) = some (G (c.Rules.any fun r => decide (0 < r.For)) (c.Rules.any fun r => decide (0 < r.Keep)) (c.Rules.any oddR)) := by
 have := Aap (B := B2) (fun i (_ : Unit) => ((c.Rules.take i).any (fun r => decide (0 < r.For)), (c.Rules.take i).any (fun r => decide (0 < r.Keep)), (c.Rules.take i).any oddR, (i : Int))) c.Rules (fun _ _ (_ : Unit) => (.inl () : Unit ⊕ List ByteArray)) (fun _ => G (c.Rules.any fun r => decide (0 < r.For)) (c.Rules.any fun r => decide (0 < r.Keep)) (c.Rules.any oddR)) (fun i r u hr hi => by
  obtain ⟨u1, u2⟩ := hu r (Abl hr)
  have hg : std.get TyS.rule c.1 (i : Int) = r := Aab (t := TyS.rule) hr
  rw [hB2, Aaa, lssT hi, br_true, ck_t (inbT hi)]
  have hin := Bcd r u2 u1 (fun t => .inl ((std.or ((c.Rules.take i).any fun r => decide (0 < r.For)) (std.cmp .gtr r.5 0), std.or ((c.Rules.take i).any fun r => decide (0 < r.Keep)) (std.cmp .gtr r.6 0), t, std.ar .add .i64 (i : Int) 1))) (B1 ((c.Rules.take i).any fun r => decide (0 < r.For)) ((c.Rules.take i).any fun r => decide (0 < r.Keep)) (i : Int)) (fun t k => by rw [hB1, hg]) ((c.Rules.take i).any oddR)
  rw [hin, Av9 _ hr, Av9 _ hr, Av9 _ hr, s_add, wrap_succ hi (by unfold big63; omega)]
  rfl) (fun _ => by
  rw [hB2, Aaa, lssF, br_false, List.take_length, hG]
  rfl) ()
 rw [Ad1] at this
 exact this
theorem Axr {α : Type} {p q : α → Bool} : ∀ {l : List α}, (∀ x ∈ l, p x = q x) → l.any p = l.any q
 | [], _ => rfl
 | x :: l, h => by
  simp only [List.any_cons]
  rw [h x (List.mem_cons_self ..), Axr fun y hy => h y (List.mem_cons_of_mem _ hy)]
theorem Azz (c : Config) (h : Aft c = true) : Adq std c = some (whyS c) := by
 have ok := Aqd h
 have hn : c.Rules.length ≤ 1000 := by have := ok.rules.1; omega
 have hu : ∀ r ∈ c.Rules, r.Labels.length ≤ 1000 ∧ ∀ x ∈ r.Labels, x.Value.size ≤ 64 := fun r hr => by
  obtain ⟨a, b⟩ := Avl h r hr
  refine ⟨by omega, fun x hx => ?_⟩
  have := labelsS_mem a x hx
  simp only [Alf, Ap5, Bool.and_eq_true, decide_eq_true_eq] at this
  exact this.2.2
 have ht : ∀ r ∈ c.Rules, 0 ≤ r.For ∧ 0 ≤ r.Keep := fun r hr => by
  have := ok.rules.2.1 r hr
  simp only [ruleS, timeS, Bool.and_eq_true, decide_eq_true_eq] at this
  exact ⟨this.1.1.1.1.1.1.1.1.2.1, this.1.1.1.1.1.1.1.2.1⟩
 have ea : (c.Rules.any fun r => decide (0 < r.For)) = c.Rules.any fun r => r.For != 0 := Axr fun r hr => by
  have := (ht r hr).1
  rw [Bool.eq_iff_iff]; simp; omega
 have eb : (c.Rules.any fun r => decide (0 < r.Keep)) = c.Rules.any fun r => r.Keep != 0 := Axr fun r hr => by
  have := (ht r hr).2
  rw [Bool.eq_iff_iff]; simp; omega
 unfold whyS
 rw [← ea, ← eb]
 unfold Adq
 cases h1 : std.cmp .gtr (std.len TyS.route c.2.9) 0 <;> cases h2 : std.cmp .gtr (std.len TyS.str c.2.3) 0 <;> cases h3 : std.cmp .gtr (std.len TyS.inhibit c.4) 0
 all_goals simp only [br_true, br_false]
 ·exact Ar0 c hu hn (Ajx std c) (Ajy std c) _ (fun a b d => saidW (six c a b d)) (fun a b d => by unfold six; rw [h1, h2, h3]; cases a <;> cases b <;> cases d <;> rfl) (fun _ _ _ _ => rfl) (fun _ _ _ _ _ => rfl)
 ·exact Ar0 c hu hn (Ajv std c) (Ajw std c) _ (fun a b d => saidW (six c a b d)) (fun a b d => by unfold six; rw [h1, h2, h3]; cases a <;> cases b <;> cases d <;> rfl) (fun _ _ _ _ => rfl) (fun _ _ _ _ _ => rfl)
 ·exact Ar0 c hu hn (Ajt std c) (Aju std c) _ (fun a b d => saidW (six c a b d)) (fun a b d => by unfold six; rw [h1, h2, h3]; cases a <;> cases b <;> cases d <;> rfl) (fun _ _ _ _ => rfl) (fun _ _ _ _ _ => rfl)
 ·exact Ar0 c hu hn (Akw std c) (Ajs std c) _ (fun a b d => saidW (six c a b d)) (fun a b d => by unfold six; rw [h1, h2, h3]; cases a <;> cases b <;> cases d <;> rfl) (fun _ _ _ _ => rfl) (fun _ _ _ _ _ => rfl)
 ·exact Ar0 c hu hn (Aku std c) (Akv std c) _ (fun a b d => saidW (six c a b d)) (fun a b d => by unfold six; rw [h1, h2, h3]; cases a <;> cases b <;> cases d <;> rfl) (fun _ _ _ _ => rfl) (fun _ _ _ _ _ => rfl)
 ·exact Ar0 c hu hn (Aks std c) (Akt std c) _ (fun a b d => saidW (six c a b d)) (fun a b d => by unfold six; rw [h1, h2, h3]; cases a <;> cases b <;> cases d <;> rfl) (fun _ _ _ _ => rfl) (fun _ _ _ _ _ => rfl)
 ·exact Ar0 c hu hn (Akq std c) (Akr std c) _ (fun a b d => saidW (six c a b d)) (fun a b d => by unfold six; rw [h1, h2, h3]; cases a <;> cases b <;> cases d <;> rfl) (fun _ _ _ _ => rfl) (fun _ _ _ _ _ => rfl)
 ·exact Ar0 c hu hn (Ako std c) (Akp std c) _ (fun a b d => saidW (six c a b d)) (fun a b d => by unfold six; rw [h1, h2, h3]; cases a <;> cases b <;> cases d <;> rfl) (fun _ _ _ _ => rfl) (fun _ _ _ _ _ => rfl)
theorem A17 (c : Config) (hf : Ae6 c) (h1 : c.Rules.length ≤ 1000) (h2 : c.Hours.length ≤ 1000) : Ada std c = some (holdsN c) := by
 unfold Ada holdsN
 rw [At1 c hf h1 h2, bd_some]
 cases hp : Aft c with
 | false => rfl
 | true =>
  rw [gd_t, Azz c hp, bd_some]
  have : std.cmp .eql (std.len TyS.str (whyS c)) 0 = decide ((whyS c).length = 0) := by rw [Aaa, s_eql, Bool.eq_iff_iff]; simp
  rw [this]; rfl
theorem A18 (r : Route) (h : oneS r = true) : Adt std r = some (Apl r) := by
 simp only [oneS, Ap7, fromS, Bool.and_eq_true, decide_eq_true_eq] at h
 obtain ⟨⟨⟨⟨⟨⟨⟨_, m1⟩, m2⟩, _, m3⟩, _, m4⟩, w1, w2⟩, e1, e2⟩, p1, p2⟩ := h
 unfold Adt
 rw [Alg r.4 (by omega), bd_some, Alg r.5 (by omega), bd_some, Alg r.6 (by omega), bd_some]
 exact Al6 ⟨ByteArray.mk (Array.mk [110, 111, 116, 105, 102, 121]), _, _⟩ (ByteArray.mk (Array.mk [112, 101, 114, 105, 111, 100, 95])) r.Mute (by show (7 : Nat) ≤ 1000; omega) (by omega) (by show (4 : Nat) ≤ 1000; omega) (by show (4 : Nat) ≤ 1000; omega)
theorem A38 (n : Int) (h1 : 1 ≤ n) (h5 : n ≤ 5) : Ae4 std n = some (signW n) := by
 have : n = 1 ∨ n = 2 ∨ n = 3 ∨ n = 4 ∨ n = 5 := by omega
 unfold Ae4
 rcases this with rfl | rfl | rfl | rfl | rfl
 ·exact ck_t (inbT (i := 1) (n := 6) (by omega))
 ·exact ck_t (inbT (i := 2) (n := 6) (by omega))
 ·exact ck_t (inbT (i := 3) (n := 6) (by omega))
 ·exact ck_t (inbT (i := 4) (n := 6) (by omega))
 ·exact ck_t (inbT (i := 5) (n := 6) (by omega))
theorem Ay5 (r : Rule) (h : ruleS r = true) : Adm std r = some (Anq r) := by
 have h0 := h
 simp only [ruleS, Bool.and_eq_true, decide_eq_true_eq] at h0
 obtain ⟨⟨⟨⟨⟨⟨⟨⟨⟨⟨⟨⟨_, _⟩, a1⟩, a2⟩, _⟩, _⟩, d1⟩, d2⟩, e1⟩, e2⟩, hl4⟩, hls⟩, _⟩ := h0
 have hm := labelsS_mem hls
 unfold Adm
 rw [A38 r.3 a1 a2, bd_some, Alg r.4 (by omega), bd_some, Alg r.7 (by omega), bd_some]
 have := Aap (B := Ady std r) (fun i (_ : Unit) => ((i : Int), [ByteArray.mk (Array.mk [110, 97, 109, 101]), ByteArray.mk (Array.mk [109, 101, 116, 114, 105, 99]), ByteArray.mk (Array.mk [99, 104, 101, 99, 107]), ByteArray.mk (Array.mk [108, 105, 109, 105, 116]), ByteArray.mk (Array.mk [97, 116, 116, 101, 109, 112, 116, 115])] ++ keysN (ByteArray.mk (Array.mk [108, 97, 98, 101, 108, 95])) i, [r.Name, r.Metric, signW r.How, itoaS r.Limit, itoaS r.Tries] ++ (r.Labels.take i).map Alk)) r.Labels (fun _ _ (_ : Unit) => (.inl () : Unit ⊕ Def)) (fun _ => Anq r) (fun i m u hx hi => by
  have hlm := hm m (Abl hx)
  simp only [Alf, nameS, Ap5, Bool.and_eq_true, decide_eq_true_eq] at hlm
  have q1 : (ByteArray.mk (Array.mk [61])).size = 1 := rfl
  have hki := Ary (ByteArray.mk (Array.mk [108, 97, 98, 101, 108, 95])) i
  have hit := A15 (i : Int) (by omega)
  unfold Ady
  simp only [Aab (t := TyS.label) hx]
  rw [Aaa, lssT hi, br_true, ck_t (inbT hi), Alg (i : Int) (by omega), bd_some, ck_t (show std.catOk (ByteArray.mk (Array.mk [108, 97, 98, 101, 108, 95])) (itoaS (i : Int)) by rw [Aaw]; show 6 + _ ≤ _; omega), ck_t (show std.appOk TyS.str 16 (_ ++ keysN _ i) [_] from ⟨by rw [List.length_append, hki, List.length_singleton]; show (5 + i + 1) * 16 ≤ _; omega, by rw [List.length_append, hki, List.length_singleton]; show 5 + i + 1 ≤ _; omega⟩), ck_t (show std.catOk m.1 _ by rw [Aaw, q1]; omega), ck_t (show std.catOk _ m.2 by rw [Aaw, s_cat, ByteArray.size_append, q1]; omega), ck_t (show std.appOk TyS.str 16 (_ ++ (r.Labels.take i).map Alk) [_] from ⟨by simp; omega, by simp; omega⟩), s_add, wrap_succ hi (by unfold big63; omega), Azy, take_snoc hx, List.map_append, ← List.append_assoc, ← List.append_assoc]
  rfl) (fun _ => by
  unfold Ady
  simp only
  rw [Aaa, lssF, br_false, List.take_length]
  unfold Anq Auz
  rw [List.length_map]
  rfl) ()
 rw [Ad1] at this
 exact this
theorem A19 (c : Config) (ho : oneS c.Route = true) (hr : c.Receivers.length ≤ 16) (hh : c.Hours.length ≤ 8 ∧ ∀ x ∈ c.Hours, hourS x = true) (hu : c.Rules.length ≤ 16 ∧ ∀ r ∈ c.Rules, ruleS r = true) : Adu std c = some (blocksS c) := by
 obtain ⟨h1, h2⟩ := hh
 obtain ⟨u1, u2⟩ := hu
 have ap : ∀ (l : List Def) (d : Def), l.length ≤ 1000 → std.appOk TyS.dfn 64 l [d] := fun l d h => ⟨by simp; omega, by simp; omega⟩
 have e1 : Loop (Ab2 std c) (c.Hours.map Alh ++ c.Receivers.map Afm ++ [Apl c.Route], 0) = some (blocksS c) := by
  have := Aap (B := Ab2 std c) (fun i (_ : Unit) => (c.Hours.map Alh ++ c.Receivers.map Afm ++ [Apl c.Route] ++ (c.Rules.take i).map Anq, (i : Int))) c.Rules (fun _ _ (_ : Unit) => (.inl () : Unit ⊕ List Def)) (fun _ => blocksS c) (fun i r u hx hi => by
   unfold Ab2
   simp only
   rw [Aaa, lssT hi, br_true, ck_t (inbT hi), Aab (t := TyS.rule) hx, Ay5 r (u2 r (Abl hx)), bd_some, ck_t (ap _ _ (by simp; omega)), s_add, wrap_succ hi (by unfold big63; omega), take_snoc hx, List.map_append, ← List.append_assoc]
   rfl) (fun _ => by
   unfold Ab2
   simp only
   rw [Aaa, lssF, br_false, List.take_length]
   rfl) ()
  rw [Ad1] at this
  simp only [List.take_zero, List.map_nil, List.append_nil] at this
  exact this
 have e2 : Loop (Ac1 std c) (c.Hours.map Alh, 0) = some (blocksS c) := by
  have := Aap (B := Ac1 std c) (fun i (_ : Unit) => (c.Hours.map Alh ++ (c.Receivers.take i).map Afm, (i : Int))) c.Receivers (fun _ _ (_ : Unit) => (.inl () : Unit ⊕ List Def)) (fun _ => blocksS c) (fun i s u hx hi => by
   unfold Ac1 Afk
   simp only
   rw [Aaa, lssT hi, br_true, ck_t (inbT hi), Aab (t := TyS.str) hx, bd_some, ck_t (ap _ _ (by simp; omega)), s_add, wrap_succ hi (by unfold big63; omega), take_snoc hx, List.map_append, ← List.append_assoc]
   rfl) (fun _ => by
   unfold Ac1
   simp only
   rw [Aaa, lssF, br_false, List.take_length, A18 c.2 ho, bd_some, ck_t (ap _ _ (by simp; omega))]
   show rt (Loop (Ab2 std c) (c.Hours.map Alh ++ c.Receivers.map Afm ++ [Apl c.Route], 0)) = _
   rw [e1]
   rfl) ()
  rw [Ad1] at this
  simp only [List.take_zero, List.map_nil, List.append_nil] at this
  exact this
 unfold Adu
 have := Aap (B := Ael std c) (fun i (_ : Unit) => ((c.Hours.take i).map Alh, (i : Int))) c.Hours (fun _ _ (_ : Unit) => (.inl () : Unit ⊕ List Def)) (fun _ => blocksS c) (fun i h u hx hi => by
  unfold Ael Age
  simp only
  rw [Aaa, lssT hi, br_true, ck_t (inbT hi), Aab (t := TyS.hours) hx, A31 h (h2 h (Abl hx)), bd_some, bd_some, ck_t (ap _ _ (by simp; omega)), s_add, wrap_succ hi (by unfold big63; omega), take_snoc hx, List.map_append]
  rfl) (fun _ => by
  unfold Ael
  simp only
  rw [Aaa, lssF, br_false, List.take_length, e2]
  rfl) ()
 rw [Ad1] at this
 exact this
theorem A5p (l : List Def) (i : Nat) (d : Def) (hd : l[i]? = some d) (ok : DefOK d) (acc : List UInt8) (ha : acc.length ≤ 10000000) (hi : i < 1000) : Loop (Adn std l (i : Int)) (⟨acc.toArray⟩, 0) = some (.inl (⟨(acc ++ keysL d.Keys d.Values ++ [125, 10]).toArray⟩, ((i + 1 : Nat) : Int))) := by
 have hl : ∀ j, (keysL (d.Keys.take j) (d.Values.take j)).length ≤ 64 * 300 := fun j => by
  have h1 := Av8 (d.Keys.take j) (d.Values.take j) (fun k hk => ok.keys k (List.mem_of_mem_take hk)) (fun k hk => ok.vals k (List.mem_of_mem_take hk))
  have h2 : (d.Keys.take j).length ≤ 64 := by rw [List.length_take]; have := ok.few; omega
  have h3 : (d.Keys.take j).length * 300 ≤ 64 * 300 := Nat.mul_le_mul_right _ h2
  omega
 have hg : std.get TyS.dfn l (i : Int) = d := Aab (t := TyS.dfn) hd
 have := Aap (B := Adn std l (i : Int)) (fun j (_ : Unit) => ((⟨(acc ++ keysL (d.Keys.take j) (d.Values.take j)).toArray⟩ : ByteArray), (j : Int))) d.Keys (fun _ _ (_ : Unit) => (.inl () : Unit ⊕ ((ByteArray × Int) ⊕ ByteArray))) (fun _ => .inl (⟨(acc ++ keysL d.Keys d.Values ++ [125, 10]).toArray⟩, ((i + 1 : Nat) : Int))) (fun j k u hk hj => by
  obtain ⟨v, hv⟩ := Ale (xs := d.Values) (i := j) (by have := ok.len; omega)
  have hlj := hl j
  have sk := ok.keys k (Abl hk)
  have sv := ok.vals v (Abl hv)
  have q9 : (ByteArray.mk (Array.mk [9])).size = 1 := rfl
  have q10 : (ByteArray.mk (Array.mk [10])).size = 1 := rfl
  have zs : (ByteArray.mk (acc ++ keysL (d.Keys.take j) (d.Values.take j)).toArray).size ≤ 10100000 := by rw [Acb, Aay, List.length_append]; omega
  unfold Adn
  simp only [hg, Aab (t := TyS.str) hk, Aab (t := TyS.str) hv, s_cat]
  rw [Aaa, Aaa, lssT hj, br_true, ck_t (inbT hj), ck_t (show std.catOk _ (ByteArray.mk (Array.mk [9])) by rw [Aaw, q9]; omega), ck_t (show std.catOk _ k by rw [Aaw]; simp only [ByteArray.size_append, q9]; omega), ck_t (show std.catOk _ (ByteArray.mk (Array.mk [9])) by rw [Aaw]; simp only [ByteArray.size_append, q9]; omega), ck_t (show std.inb (j : Int) (d.Values.length : Int) from inbT (by have := ok.len; omega)), ck_t (show std.catOk _ v by rw [Aaw]; simp only [ByteArray.size_append, q9]; omega), ck_t (show std.catOk _ (ByteArray.mk (Array.mk [10])) by rw [Aaw]; simp only [ByteArray.size_append, q9, q10]; omega), s_add, wrap_succ hj (by have := ok.few; unfold big63; omega)]
  refine congrArg (fun b : ByteArray => (some (.inl (b, ((j + 1 : Nat) : Int))) : Option ((ByteArray × Int) ⊕ ((ByteArray × Int) ⊕ ByteArray)))) (ba_ext ?_)
  rw [Aah, Aah, Aah, Aah, Aah, Aay, Aay, Aux _ _ _ _ _ hk hv]
  simp only [keyL, List.append_assoc]) (fun _ => by
  have hlj := hl d.Keys.length
  have q2 : (ByteArray.mk (Array.mk [125, 10])).size = 2 := rfl
  have e2 : d.Values.take d.Keys.length = d.Values := by rw [← ok.len, List.take_length]
  unfold Adn
  simp only [hg]
  rw [Aaa, lssF, br_false, ck_t (show std.catOk _ (ByteArray.mk (Array.mk [125, 10])) by rw [Aaw, q2, Acb, Aay, List.length_append]; omega), show std.ar .add .i64 (i : Int) 1 = ((i + 1 : Nat) : Int) from wrap_succ (n := 1000) hi (by unfold big63; omega), List.take_length, e2]
  refine congrArg (fun b : ByteArray => (some (.inr (.inl (b, ((i + 1 : Nat) : Int)))) : Option ((ByteArray × Int) ⊕ ((ByteArray × Int) ⊕ ByteArray)))) (ba_ext ?_)
  rw [s_cat, Aah, Aay, Aay]) ()
 rw [Ad1] at this
 have e0 : acc ++ keysL (d.Keys.take 0) (d.Values.take 0) = acc := by simp [keysL]
 simp only [e0] at this
 exact this
theorem A39 (l : List Def) (hr : Arx l = true) : Ae5 std l = some ⟨(defsL l).toArray⟩ := by
 simp only [Arx, Bool.and_eq_true, decide_eq_true_eq, List.all_eq_true] at hr
 have hok := fun d hd => A9m (hr.2 d hd)
 have hlen : ∀ j, (defsL (l.take j)).length ≤ 64 * 20000 := fun j => by
  have h1 := Ar4 20000 ((l.take j).map defL) fun x hx => by
   obtain ⟨d, hd, rfl⟩ := List.mem_map.1 hx
   exact A9n (hok d (List.mem_of_mem_take hd))
  rw [List.length_map, List.length_take] at h1
  have h2 : min j l.length * 20000 ≤ 64 * 20000 := Nat.mul_le_mul_right _ (by omega)
  exact Nat.le_trans h1 h2
 unfold Ae5
 have := Aap (B := Afl std l) (fun i (_ : Unit) => ((⟨(defsL (l.take i)).toArray⟩ : ByteArray), (i : Int))) l (fun _ _ (_ : Unit) => (.inl () : Unit ⊕ ByteArray)) (fun _ => ⟨(defsL l).toArray⟩) (fun i d u hd hi => by
  have ok := hok d (Abl hd)
  have hli := hlen i
  have st := ok.typ
  have q7 : (ByteArray.mk (Array.mk [100, 101, 102, 105, 110, 101, 32])).size = 7 := rfl
  have q3 : (ByteArray.mk (Array.mk [32, 123, 10])).size = 3 := rfl
  have zs : (ByteArray.mk (defsL (l.take i)).toArray).size ≤ 1300000 := by rw [Acb, Aay]; omega
  unfold Afl
  simp only [Aab (t := TyS.dfn) hd]
  rw [Aaa, lssT hi, br_true, ck_t (inbT hi), ck_t (show std.catOk _ (ByteArray.mk (Array.mk [100, 101, 102, 105, 110, 101, 32])) by rw [Aaw, q7]; omega), s_cat, ck_t (show std.catOk _ d.1 by rw [Aaw, ByteArray.size_append, q7]; omega), s_cat, ck_t (show std.catOk _ (ByteArray.mk (Array.mk [32, 123, 10])) by rw [Aaw, ByteArray.size_append, ByteArray.size_append, q7, q3]; omega), s_cat]
  have e : (ByteArray.mk (defsL (l.take i)).toArray ++ ByteArray.mk (Array.mk [100, 101, 102, 105, 110, 101, 32]) ++ d.Typ ++ ByteArray.mk (Array.mk [32, 123, 10])) = ⟨(defsL (l.take i) ++ ([100, 101, 102, 105, 110, 101, 32] ++ bytes d.Typ ++ [32, 123, 10])).toArray⟩ := by
   apply ba_ext
   rw [Aah, Aah, Aah, Aay, Aay]
   simp only [List.append_assoc]
  rw [e, A5p l i d hd ok _ (by simp only [List.length_append, Aag, List.length_cons, List.length_nil]; omega) (by omega)]
  refine congrArg (fun x : List UInt8 => (some (.inl ((⟨x.toArray⟩ : ByteArray), ((i + 1 : Nat) : Int))) : Option ((ByteArray × Int) ⊕ ByteArray))) ?_
  unfold defsL
  rw [Aj3 defL hd]
  simp only [defL, List.append_assoc]
  rfl) (fun _ => by
  unfold Afl
  simp only
  rw [Aaa, lssF, br_false, List.take_length]
  rfl) ()
 rw [Ad1] at this
 exact this
theorem A9v {c : Config} (h : holdsN c = true) : ∀ r ∈ c.Rules, oddR r = false := by
 intro r hr
 simp only [holdsN, Bool.and_eq_true, decide_eq_true_eq] at h
 have h0 := List.eq_nil_of_length_eq_zero h.2
 cases ho : oddR r with
 | false => rfl
 | true =>
  exfalso
  have hany : c.Rules.any oddR = true := List.any_eq_true.2 ⟨r, hr, ho⟩
  have hm : ByteArray.mk (Array.mk [108, 97, 98, 101, 108]) ∈ whyS c := by
   unfold whyS saidW
   refine List.mem_map.2 ⟨⟨ByteArray.mk (Array.mk [108, 97, 98, 101, 108]), c.Rules.any oddR⟩, List.mem_filter.2 ⟨by simp [six], hany⟩, rfl⟩
  rw [h0] at hm
  cases hm
theorem Asv {c : Config} {x : Rule} (h : x ∈ (normS c).Rules) : x ∈ c.Rules := (Ags _ _).mem_iff.1 h
theorem Ay6 (c : Config) : (normS c).Rules.length = c.Rules.length := Aen _ _
noncomputable def A5q (c : Config) : ByteArray × Int := cond (Aft c) (cond (holdsN c) (A3w (blocksS (normS c))) (ByteArray.mk (Array.mk []), 11)) (ByteArray.mk (Array.mk []), 1)
structure NormOK (c : Config) : Prop where
 rules : c.Rules.length ≤ 16 ∧ ∀ r ∈ c.Rules, ruleS r = true
 recv : c.Receivers.length ≤ 16 ∧ ∀ s ∈ c.Receivers, wordS s = true
 hours : c.Hours.length ≤ 8 ∧ ∀ x ∈ c.Hours, hourS x = true
 route : oneS c.Route = true
theorem A9w {c : Config} (h : Aft c = true) : NormOK (normS c) := by
 have ok := Aqd h
 have ht := ok.top
 simp only [topS, Agj, Bool.and_eq_true, decide_eq_true_eq] at ht
 refine ⟨⟨by rw [Ay6]; exact ok.rules.1, fun r hr => ok.rules.2.1 r (Asv hr)⟩, ⟨by rw [A10]; exact ok.recv.1, fun s hs => ok.recv.2.1 s ((Ags _ _).mem_iff.1 hs)⟩, ⟨by rw [Ayz]; exact ok.hours.1, fun x hx => ok.hours.2.1 x (Ay0 hx)⟩, ht.1.1.1.1⟩
theorem Bar (c : Config) (ok : NormOK c) : (blocksS c).length ≤ big63 ∧ ∀ d ∈ blocksS c, A3u d := by
 refine ⟨?_, fun d hd => ?_⟩
 ·unfold blocksS
  simp only [List.length_append, List.length_map, List.length_singleton]
  have := ok.rules.1
  have := ok.recv.1
  have := ok.hours.1
  unfold big63; omega
 ·have lk : ∀ (d : Def) (name : ByteArray) (l : List ByteArray), d.Keys.length ≤ 10 → d.Values.length ≤ 10 → l.length ≤ 100 → A3u (Auz d name l) := fun d name l h1 h2 h3 => by
   have := Ary name l.length
   refine ⟨?_, ?_⟩
   ·show (d.Keys ++ keysN name l.length).length ≤ big63
    rw [List.length_append, this]; unfold big63; omega
   ·show (d.Values ++ l).length ≤ big63
    rw [List.length_append]; unfold big63; omega
  have ho := ok.route
  simp only [oneS, Ap7, Bool.and_eq_true, decide_eq_true_eq] at ho
  unfold blocksS at hd
  rcases List.mem_append.1 hd with hd | hd
  ·rcases List.mem_append.1 hd with hd | hd
   ·rcases List.mem_append.1 hd with hd | hd
    ·obtain ⟨x, hx, rfl⟩ := List.mem_map.1 hd
     exact ⟨by show 2 ≤ big63; unfold big63; omega, by show 2 ≤ big63; unfold big63; omega⟩
    ·obtain ⟨x, hx, rfl⟩ := List.mem_map.1 hd
     exact ⟨by show 1 ≤ big63; unfold big63; omega, by show 1 ≤ big63; unfold big63; omega⟩
   ·rw [List.mem_singleton.1 hd]
    exact lk _ _ _ (by show (4 : Nat) ≤ 10; omega) (by show (4 : Nat) ≤ 10; omega) (by have := ho.1.1.1.2.2; omega)
  ·obtain ⟨x, hx, rfl⟩ := List.mem_map.1 hd
   have := ok.rules.2 x hx
   simp only [ruleS, Bool.and_eq_true, decide_eq_true_eq] at this
   exact lk _ _ _ (by show (5 : Nat) ≤ 10; omega) (by show (5 : Nat) ≤ 10; omega) (by rw [List.length_map]; have := this.1.1.2; omega)
theorem Au1 (c : Config) (h : Ae6 c) : Aff std c = some (A5q c) := by
 unfold Aff A5q
 rw [Aq6 c h]
 cases hp : Aft c with
 | false => rfl
 | true =>
  simp only [cond_true, bd_some]
  rw [show std.cmp .neq 0 0 = false from rfl, br_false, Am8 c h, bd_some]
  cases hh : holdsN c with
  | false => rfl
  | true =>
   have ok := A9w hp
   obtain ⟨f1, f2⟩ := Bar _ ok
   rw [s_not, Bool.not_true, br_false, Au0 _ (Bal h).1 ok.route ok.recv.1 ok.hours ok.rules, bd_some, Ast _ f1 f2, bd_some]
   rfl
theorem Axs (c : Config) (hc : Ae6 c) : Adz std c = some true := by
 unfold Adz
 obtain ⟨w1, h1, s1⟩ := A7i c hc
 rw [h1, bd_some, A7h]
 cases w1 with
 | true => rfl
 | false =>
  have sm := s1 rfl
  have l1 : c.Rules.length ≤ 1000 := by have := sm.rules; omega
  have l2 : c.Hours.length ≤ 1000 := by have := sm.hours; omega
  have tt : ∀ x : Bool, std.eqb x x = true := fun x => by cases x <;> rfl
  have e0 : std.scmp .eql (ByteArray.mk (Array.mk [])) (ByteArray.mk (Array.mk [])) = true := by rw [s_seql]; exact decide_eq_true rfl
  rw [br_false, Au1 c hc, bd_some, Asu c hc, bd_some, Am8 c hc, bd_some, A17 c hc l1 l2, bd_some, tt, show std.not (std.not true) = true from rfl, gd_t, bd_some, show std.or (std.not true) (std.not true) = false from rfl, br_false, At1 c hc l1 l2, bd_some]
  unfold A5q
  cases hp : Aft c with
  | false =>
   show some (std.and (std.and (std.cmp .eql 1 1) (std.scmp .eql (ByteArray.mk (Array.mk [])) (ByteArray.mk (Array.mk [])))) (std.cmp .eql (std.len TyS.str []) 0)) = _
   rw [e0]; rfl
  | true =>
   have hsame : Adi std (whyS c) (whyS c) = some true := by
    rw [Apk (whyS c) (whyS c) (by have := A9o (six c (c.Rules.any fun r => r.For != 0) (c.Rules.any fun r => r.Keep != 0) (c.Rules.any oddR)); have e6 : (six c (c.Rules.any fun r => r.For != 0) (c.Rules.any fun r => r.Keep != 0) (c.Rules.any oddR)).length = 6 := rfl; unfold whyS big63; omega), Bai]
   simp only [cond_true]
   rw [s_not, Bool.not_true, br_false, Azz c hp, bd_some, hsame, bd_some, show std.not true = false from rfl, br_false, bd_some]
   cases hh : holdsN c with
   | false =>
    show some (std.and (std.cmp .eql 11 11) (std.scmp .eql (ByteArray.mk (Array.mk [])) (ByteArray.mk (Array.mk [])))) = _
    rw [e0]; rfl
   | true =>
    have ok := A9w hp
    have hright : Arx (blocksS (normS c)) = true := A37 _ ok.recv ok.route ok.hours ⟨ok.rules.1, fun r hr => ⟨ok.rules.2 r hr, A9v hh r (Asv hr)⟩⟩
    rw [s_not, Bool.not_true, br_false, A1y c hc hp, bd_some, A19 _ ok.route ok.recv.1 ok.hours ok.rules, bd_some, A39 _ hright, bd_some]
    simp only [cond_true]
    unfold A3w
    rw [hright, cond_true]
    have hs : (ByteArray.mk (defsL (blocksS (normS c))).toArray).size = (defsL (blocksS (normS c))).length := by rw [Acb, Aay]
    generalize defsL (blocksS (normS c)) = L at hs
    rw [s_slen, hs, s_gtr, Aj2]
    show br (!decide ((L.length : Int) ≤ ((8192 : Nat) : Int))) _ _ = _
    rw [leN]
    have eself : std.scmp .eql (ByteArray.mk L.toArray) (ByteArray.mk L.toArray) = true := by rw [s_seql]; exact decide_eq_true rfl
    cases decide (L.length ≤ 8192) with
    | true =>
     show some (std.and (std.cmp .eql 0 0) (std.scmp .eql (ByteArray.mk L.toArray) (ByteArray.mk L.toArray))) = _
     rw [eself]; rfl
    | false =>
     show some (std.and (std.cmp .eql 2 2) (std.scmp .eql (ByteArray.mk (Array.mk [])) (ByteArray.mk (Array.mk [])))) = _
     rw [e0]; rfl
end Go.PL
