/- Texts of this claim: plain laws of what the program's functions compute. No condition of their own. -/
import Derived.Test.YtiddkdneoldkoaaGreatDoorAeWb
import Derived.Lib.ItoaLen
import Derived.Lib.SplitLaws
import Derived.Lib.Replace
import Derived.Lib.Repeat
import Derived.KernelRfl
import Derived.Lib.IndexBytes
namespace Go.PL
set_option linter.unusedSimpArgs false
set_option linter.unusedVariables false
set_option linter.unusedSectionVars false
open Tys (Ty U)
open Enc (sz enc dflt tb ofB toB)
open Dec (dec dok)
set_option maxRecDepth 100000
theorem Axg (old new : List UInt8) : ∀ (k : Nat) (s : List UInt8), (Lib.replaceK old new k s).length ≤ s.length + k * new.length
 | 0, s => by simp [Lib.replaceK]
 | k + 1, s => by
  rw [Lib.replaceK]
  split
  ·exact Nat.le_add_right ..
  ·have h := Axg old new k (s.drop ((Lib.index s old).toNat + old.length))
   simp only [List.length_append, List.length_take, List.length_drop, Nat.succ_mul] at h ⊢
   omega
theorem Anv (s old new : ByteArray) (h0 : 1 ≤ old.size) (h2 : new.size = 2) (hs : s.size ≤ 1000) : ∃ t, strings_ReplaceAll std s old new = some t ∧ t.size ≤ 3 * s.size := by
 have hc := Lib.countB_le old h0 s.size s (Nat.le_refl _)
 unfold strings_ReplaceAll
 refine ⟨_, ck_t ⟨by omega, h0, by rw [h2]; omega⟩, ?_⟩
 rw [Acb, Aaq]
 unfold Lib.replaceAll Lib.replace
 split
 ·show (bytes s).length ≤ _
  rw [Aae]; omega
 ·have h := Axg old.data.toList new.data.toList (Lib.replaceNum s.data.toList old.data.toList (-1)) s.data.toList
  have e : Lib.replaceNum s.data.toList old.data.toList (-1) = Lib.countB s old := by
   unfold Lib.replaceNum
   rw [if_pos (.inl (by omega))]
  have l1 : s.data.toList.length = s.size := Aae s
  have l2 : new.data.toList.length = 2 := (Aae new).trans h2
  rw [e] at h ⊢
  rw [l1, l2] at h
  omega
theorem Bcx (sep : List UInt8) : ∀ (l : List (List UInt8)) (m : Nat), (∀ x ∈ l, x.length ≤ m) → (Lib.join l sep).length ≤ l.length * (m + sep.length)
 | [], m, _ => by simp [Lib.join]
 | x :: l, m, h => by
  have key : ∀ l : List (List UInt8), (∀ x ∈ l, x.length ≤ m) → (Lib.joinTail sep l).length ≤ l.length * (m + sep.length) := by
   intro l
   induction l with
   | nil => intro _; simp [Lib.joinTail]
   | cons y l ih =>
    intro h
    have h1 := ih fun x hx => h x (List.mem_cons_of_mem _ hx)
    have h2 := h y (List.mem_cons_self ..)
    simp only [Lib.joinTail, List.map_cons, List.flatten_cons, List.length_append, List.length_cons, Nat.succ_mul] at h1 ⊢
    omega
  rw [Lib.join_cons]
  have h1 := key l fun x hx => h x (List.mem_cons_of_mem _ hx)
  have h2 := h x (List.mem_cons_self ..)
  simp only [List.length_append, List.length_cons, Nat.succ_mul]
  omega
end Go.PL
namespace Go.PL
set_option linter.unusedSimpArgs false
set_option linter.unusedVariables false
set_option linter.unusedSectionVars false
open Tys (Ty U)
open Enc (sz enc dflt tb ofB toB)
open Dec (dec dok)
set_option maxRecDepth 100000
theorem Bdt {S ε α σ : Type} {B : S → Option (S ⊕ ε)} (enc : Nat → σ → S) (xs : List α) (next : Nat → α → σ → σ) (I : Nat → σ → Prop) (G : ε → Prop)
  (h1 : ∀ i x s, xs[i]? = some x → I i s → B (enc i s) = some (.inl (enc (i + 1) (next i x s))) ∧ I (i + 1) (next i x s))
  (h2 : ∀ s, I xs.length s → ∃ e, B (enc xs.length s) = some (.inr e) ∧ G e) (s0 : σ) (h0 : I 0 s0) : ∃ e, Loop B (enc 0 s0) = some e ∧ G e := by
 have key : ∀ (n i : Nat) (s : σ), i + n = xs.length → I i s → ∃ e, Loop B (enc i s) = some e ∧ G e := by
  intro n
  induction n with
  | zero =>
   intro i s hi hI
   obtain rfl : i = xs.length := by omega
   obtain ⟨e, he, hg⟩ := h2 s hI
   exact ⟨e, by rw [Adq, he], hg⟩
  | succ n ih =>
   intro i s hi hI
   have hl : i < xs.length := by omega
   obtain ⟨h3, h4⟩ := h1 i xs[i] s (List.getElem?_eq_getElem hl) hI
   obtain ⟨e, he, hg⟩ := ih (i + 1) _ (by omega) h4
   exact ⟨e, by rw [Adq, h3]; exact he, hg⟩
 exact key xs.length 0 s0 (by omega) h0
theorem Bby {α : Type} {l : List α} {n : Nat} (x : α) (h : l.length ≤ n) : (l ++ [x]).length ≤ n + 1 := by
 rw [List.length_append, List.length_singleton]; omega
theorem Auf (n : Int) (h0 : 0 ≤ n) (h1 : n ≤ 99) : ∃ t, Ano std n = some t ∧ t.size = 2 := by
 unfold Ano
 have q1 : std.ar .quo .i64 n 10 = n / 10 := by rw [s_quo, tdiv0 h0, w64 (by omega)]
 have q2 : std.ar .rem .i64 n 10 = n % 10 := by rw [s_rem, tmod0 h0]
 have a1 : std.ar .add .i64 48 (n / 10) = 48 + n / 10 := by rw [s_add, w64 (by omega)]
 have a2 : std.ar .add .i64 48 (n % 10) = 48 + n % 10 := by rw [s_add, w64 (by omega)]
 rw [q1, q2, a1, a2, Ba5, Ba5, w8 (by omega), w8 (by omega), ck_t (show std.u8ok _ from ⟨by omega, by omega⟩), ck_t (show std.u8ok _ from ⟨by omega, by omega⟩), A5n]
 exact ⟨_, rfl, rfl⟩
theorem An9 (n : Int) (h0 : 0 ≤ n) (h1 : n ≤ 1440) : ∃ t, Ahu std n = some t ∧ t.size = 5 := by
 unfold Ahu
 have q1 : std.ar .quo .i64 n 60 = n / 60 := by rw [s_quo, tdiv0 h0, w64 (by omega)]
 have q2 : std.ar .rem .i64 n 60 = n % 60 := by rw [s_rem, tmod0 h0]
 obtain ⟨a, ha, la⟩ := Auf (n / 60) (by omega) (by omega)
 obtain ⟨b, hb, lb⟩ := Auf (n % 60) (by omega) (by omega)
 have z : (ByteArray.mk (Array.mk [58])).size = 1 := rfl
 rw [q1, q2, ha, bd_some, ck_t (show std.catOk _ _ by rw [Aa5, la, z]; omega), hb, bd_some, s_cat, s_cat, ck_t (show std.catOk _ _ by rw [Aa5, ByteArray.size_append, la, lb, z]; omega)]
 exact ⟨_, rfl, by rw [ByteArray.size_append, ByteArray.size_append, la, lb, z]⟩
def dayT (i : Nat) : ByteArray := std.sel [ByteArray.mk (Array.mk [109, 111, 110]), ByteArray.mk (Array.mk [116, 117, 101]), ByteArray.mk (Array.mk [119, 101, 100]), ByteArray.mk (Array.mk [116, 104, 117]), ByteArray.mk (Array.mk [102, 114, 105]), ByteArray.mk (Array.mk [115, 97, 116]), ByteArray.mk (Array.mk [115, 117, 110])] (i : Int)
theorem dayT_size (i : Nat) (h : i < 7) : (dayT i).size = 3 := by
 have : i = 0 ∨ i = 1 ∨ i = 2 ∨ i = 3 ∨ i = 4 ∨ i = 5 ∨ i = 6 := by omega
 rcases this with rfl | rfl | rfl | rfl | rfl | rfl | rfl <;> rfl
theorem Azr (h : Hours) (hs : hourS h = true) : ∃ v, Aj0 std h = some v := by
 have h0 := hs
 simp only [hourS, Bool.and_eq_true, decide_eq_true_eq] at h0
 obtain ⟨⟨⟨⟨⟨⟨_, _⟩, _⟩, f0⟩, f1⟩, f2⟩, t1⟩ := h0
 obtain ⟨a, ha, la⟩ := An9 h.From f0 (by omega)
 obtain ⟨b, hb, lb⟩ := An9 h.To (by omega) t1
 unfold Aj0
 rw [Aqt h, bd_some, hs, s_not, Bool.not_true, br_false]
 have := Bdt (B := Aib std h) (fun i (l : List ByteArray) => (l, (i : Int))) (List.range 7) (fun i _ l => if std.cmp .eql (std.ar .and .i64 (std.ar .shr .i64 h.Days (i : Int)) 1) 1 = true then l ++ [dayT i] else l) (fun i l => i ≤ 7 ∧ l.length ≤ i ∧ ∀ x ∈ l, x.size ≤ 3) (fun _ => True) (fun i n l hx ⟨hi7, hI, hz⟩ => by
  have hi : i < 7 := by have := Ae2 hx; simpa using this
  refine ⟨?_, by omega, ?_, ?_⟩
  ·unfold Aib
   simp only
   rw [show std.cmp .lss (i : Int) 7 = true from lssT (n := 7) hi, br_true, ck_t (show std.inb (i : Int) (Int.ofNat 7) from inbT (n := 7) hi), ck_t (show std.nn (i : Int) by show (0 : Int) ≤ _; omega), s_add, wrap_succ (n := 7) hi (by unfold big63; omega)]
   cases std.cmp .eql (std.ar .and .i64 (std.ar .shr .i64 h.Days (i : Int)) 1) 1 with
   | true =>
    rw [br_true, if_pos rfl]
    have hA : std.appOk TyS.str 16 l [dayT i] := ⟨by simp; omega, by simp; omega⟩
    exact ck_t hA
   | false => rfl
  ·split
   ·exact Bby _ hI
   ·omega
  ·split
   ·intro x hx
    rcases List.mem_append.1 hx with hx | hx
    ·exact hz x hx
    ·rw [List.mem_singleton.1 hx, dayT_size i hi]; omega
   ·exact hz) (fun l ⟨_, hI, hz⟩ => by
  simp only [List.length_range] at hI
  unfold Aib
  simp only [List.length_range]
  have hj := Bcx [44] (l.map (·.data.toList)) 3 (fun x hx => by
   obtain ⟨y, hy, rfl⟩ := List.mem_map.1 hx
   show (bytes y).length ≤ 3
   rw [Aae]; exact hz y hy)
  simp only [List.length_map, List.length_singleton] at hj
  have hJ : strings_Join std l (ByteArray.mk (Array.mk [44])) = some ⟨(Lib.join (l.map (·.data.toList)) [44]).toArray⟩ := by
   unfold strings_Join
   exact ck_t ⟨by omega, by show (Lib.join (l.map (·.data.toList)) [44]).length ≤ _; omega⟩
  have jz : (ByteArray.mk (Lib.join (l.map (·.data.toList)) [44]).toArray).size ≤ 28 := by rw [Acb, Aaq]; omega
  generalize ByteArray.mk (Lib.join (l.map (·.data.toList)) [44]).toArray = J at hJ jz
  have z1 : (ByteArray.mk (Array.mk [32])).size = 1 := rfl
  have z2 : (ByteArray.mk (Array.mk [45])).size = 1 := rfl
  rw [show std.cmp .lss ((7 : Nat) : Int) 7 = false from rfl, br_false, hJ, bd_some, s_cat, ck_t (show std.catOk _ _ by rw [Aa5, z1]; omega), ha, bd_some, s_cat, ck_t (show std.catOk _ _ by rw [Aa5, ByteArray.size_append, z1, la]; omega), s_cat, ck_t (show std.catOk _ _ by rw [Aa5, ByteArray.size_append, ByteArray.size_append, z1, z2, la]; omega), hb, bd_some, s_cat, ck_t (show std.catOk _ _ by rw [Aa5, ByteArray.size_append, ByteArray.size_append, ByteArray.size_append, z1, z2, la, lb]; omega)]
  exact ⟨_, rfl, trivial⟩) [] ⟨by omega, by simp, fun x hx => by cases hx⟩
 obtain ⟨e, he, _⟩ := this
 exact ⟨e, he⟩
end Go.PL
namespace Go.PL
set_option linter.unusedSimpArgs false
set_option linter.unusedVariables false
set_option linter.unusedSectionVars false
open Tys (Ty U)
open Enc (sz enc dflt tb ofB toB)
open Dec (dec dok)
set_option maxRecDepth 100000
end Go.PL
namespace Go.PL
set_option linter.unusedSimpArgs false
set_option linter.unusedVariables false
set_option linter.unusedSectionVars false
open Tys (Ty U)
open Enc (sz enc dflt tb ofB toB)
open Dec (dec dok)
set_option maxRecDepth 100000
def A1m (m : Matcher) : Bool := decide ((textS m).size ≤ 200)
def shortS (l : List Matcher) : Bool := l.all A1m
theorem Apn (l : List Matcher) (hf : fitL Afs l) (h : Aav l = true) : Ajk std l = some (shortS l) := by
 unfold Ajk
 simp only [Aav, Bool.and_eq_true, List.all_eq_true] at h
 rw [An7 l (fun m => !A1m m) _ (fun m hm => by
  unfold Amx
  rw [Apm m (hf.2 m hm) (h.1 m hm), bd_some]
  simp only
  rw [s_gtr, s_slen, Ais]
  show some (!decide (((textS m).size : Int) ≤ ((200 : Nat) : Int))) = _
  rw [leN]; rfl) hf.1, bd_some, s_not, Aij, Bool.not_not]
 rfl
def flatS : Nat → Route → Bool
 | 0, _ => false
 | d + 1, r => shortS r.Match && r.Routes.all (flatS d)
theorem Asn : ∀ (n : Nat) (r : Route) (d e : Nat), SizeOf.sizeOf r < n → RouteFit r → Ab1 e r = true → d ≤ 100 → Ajx std n r (d : Int) = some (flatS d r)
 | 0, r, d, e, h, _, _, _ => by omega
 | n + 1, r, d, e, h, hf, hs, hd => by
  obtain ⟨e, rfl⟩ := Atw hs
  have hk := Aft hs
  have h1 : oneS r = true := by simp only [Ab1, Bool.and_eq_true] at hs; exact hs.1
  have hm : Aav r.Match = true := by
   simp only [oneS, Bool.and_eq_true] at h1
   exact h1.1.1.1.1.1.1.2
  obtain ⟨_, f2, _, _, f5, f6⟩ := Azq hf
  rw [Ajx, Aon]
  cases d with
  | zero => rfl
  | succ d =>
   rw [show std.cmp .gtr ((d + 1 : Nat) : Int) 0 = true by rw [s_gtr]; exact decide_eq_true (by omega), gd_t, Apn r.Match f2 hm, bd_some, s_land, Bool.true_and]
   have e1 : Aax std r.9 (fun y0 => Al1 std (Ajx std n) y0 ((d + 1 : Nat) : Int)) = some (r.Routes.any fun k => !flatS d k) := At9 r.Routes (fun k => !flatS d k) _ (fun k hk' => by
    unfold Al1
    rw [show std.ar .sub .i64 ((d + 1 : Nat) : Int) 1 = (d : Int) by rw [s_sub, w64 (by omega)]; omega, Asn n k d e (by have := Am4 hk'; omega) (f6 k hk') (hk.2 k hk') (by omega), bd_some, s_not]) f5
   rw [gd_b (fun _ => e1), bd_some, s_land, s_not, Aij]
   simp only [flatS]
   cases shortS r.Match <;> simp
theorem A0t (r : Route) (d e : Nat) (hf : RouteFit r) (hs : Ab1 e r = true) (hd : d ≤ 100) : Aur std r (d : Int) = some (flatS d r) := Asn _ r d e (Nat.lt_succ_self _) hf hs hd
def bareC (c : Config) : Config := ⟨[], c.Route, c.Receivers, c.Inhibits, c.Hours⟩
theorem Aya {c : Config} (h : Ad3 c) : Ad3 (bareC c) := ⟨Aqc, h.2.1, h.2.2.1, h.2.2.2.1, h.2.2.2.2⟩
def Azs (x : Inhibit) : Bool := shortS x.Source && shortS x.Target
def holdsA (c : Config) : Bool := Ai1 (bareC c) && (flatS 3 c.Route && c.Inhibits.all Azs)
theorem Atp (c : Config) (h : Ad3 c) : Aln std c = some (holdsA c) := by
 unfold Aln Amh
 rw [bd_some]
 show (bd (Ajm std (bareC c)) fun w2 => _) = _
 rw [Atk _ (Aya h), bd_some]
 unfold holdsA
 cases hb : Ai1 (bareC c) with
 | false => rfl
 | true =>
  have ok := Amv hb
  have ht : Ab1 4 c.Route = true := by
   have := ok.top
   simp only [topS, Bool.and_eq_true] at this
   exact this.1.1.1
  have hi : ∀ x ∈ c.Inhibits, Aa4 x = true := ok.inh.2
  rw [gd_t, show (3 : Int) = ((3 : Nat) : Int) from rfl, A0t c.Route 3 4 h.2.1 ht (by omega), bd_some, s_land, Bool.true_and, Bool.true_and]
  have e1 : Aap std c.4 (fun y0 => Akv std y0) = some (c.Inhibits.any fun x => !Azs x) := Asj c.Inhibits (fun x => !Azs x) _ (fun x hx => by
   have hx1 := hi x hx
   simp only [Aa4, Bool.and_eq_true] at hx1
   have hxf := h.2.2.2.1.2 x hx
   unfold Akv Azs
   rw [Apn x.1 hxf.1 hx1.2.1.2, bd_some, gd_b (fun _ => Apn x.2 hxf.2.1 hx1.2.2), bd_some]
   simp only [s_lor, s_not]
   cases shortS x.1 <;> cases shortS x.2 <;> rfl) h.2.2.2.1.1
  rw [gd_b (fun _ => e1), bd_some, s_land, s_not, Aij]
  cases flatS 3 c.Route <;> simp
end Go.PL
namespace Go.PL
set_option linter.unusedSimpArgs false
set_option linter.unusedVariables false
set_option linter.unusedSectionVars false
open Tys (Ty U)
open Enc (sz enc dflt tb ofB toB)
open Dec (dec dok)
set_option maxRecDepth 100000
theorem Aot (n : Node) : Node.mk n.1 n.2 n.3 n.4 = n := by cases n; rfl
def wordN (s : ByteArray) : Node := ⟨1, s, [], []⟩
def rowN (l : List Node) : Node := ⟨2, ⟨#[]⟩, [], l⟩
def mapN (names : List ByteArray) (l : List Node) : Node := ⟨3, ⟨#[]⟩, names, l⟩
theorem A1n {t : TyS} (B : Int × List Node → Option ((Int × List Node) ⊕ Node)) (xs : List (US t)) (q : US t → Option Node) (f : US t → Node)
  (hB : ∀ i b, B (i, b) = br (std.cmp .lss i (std.len t xs)) (ck (std.inb i (std.len t xs)) <| bd (q (std.get t xs i)) fun w2 => ck (std.appOk TyS.node 72 b [Node.mk w2.1 w2.2 w2.3 w2.4]) <| some (.inl ((std.ar .add .i64 i 1, std.app TyS.node b [Node.mk w2.1 w2.2 w2.3 w2.4])))) (rt (some (Node.mk 2 (ByteArray.mk (Array.mk [])) [] b))))
  (hq : ∀ x ∈ xs, q x = some (f x)) (hl : xs.length ≤ 1000) : Loop B (0, []) = some (rowN (xs.map f)) := by
 have := Ach (B := B) (fun i (_ : Unit) => ((i : Int), (xs.take i).map f)) xs (fun _ _ (_ : Unit) => (.inl () : Unit ⊕ Node)) (fun _ => rowN (xs.map f)) (fun i x u hx hi => by
  rw [hB, Aab, lssT hi, br_true, ck_t (inbT hi), Aai (t := t) hx, hq x (Abv hx), bd_some, Aot, ck_t (show std.appOk TyS.node 72 ((xs.take i).map f) [f x] from ⟨by simp; omega, by simp; omega⟩), s_add, wrap_succ hi (by unfold big63; omega), take_snoc hx, List.map_append]
  rfl) (fun _ => by
  rw [hB, Aab, lssF, br_false, List.take_length]
  rfl) ()
 rw [Aj4] at this
 exact this
def Ark (m : Matcher) : Node := wordN (textS m)
theorem Azt (m : Matcher) (hf : Afs m) (h : Adr m = true) : Ag1 std m = some (Ark m) := by
 unfold Ag1 Abq
 rw [Apm m hf h, bd_some, bd_some]
 rfl
def numN (n : Int) : Node := wordN ⟨(Lib.itoa n).toArray⟩
theorem Aoa (n : Int) (h0 : 0 ≤ n) (h1 : n ≤ 1099511627776) : Afw std n = some (numN n) := by
 unfold Afw Abq strconv_Itoa
 rw [ck_t ⟨by omega, by omega⟩, bd_some, bd_some]
 rfl
theorem Atq (l : List Matcher) (hf : fitL Afs l) (h : Aav l = true) : Aep std l (fun y0 => Ag1 std y0) = some (rowN (l.map Ark)) := by
 simp only [Aav, Bool.and_eq_true, List.all_eq_true, decide_eq_true_eq] at h
 exact A1n (t := .matcher) (Anm std l fun y0 => Ag1 std y0) l _ Ark (fun i b => rfl) (fun m hm => Azt m (hf.2 m hm) (h.1 m hm)) (by omega)
theorem Av0 (l : List ByteArray) (h : l.length ≤ 1000) : Adi std l (fun y0 => Abq std y0) = some (rowN (l.map wordN)) :=
 A1n (t := .str) (Aod std l fun y0 => Abq std y0) l _ wordN (fun i b => rfl) (fun m hm => rfl) h
def Aso (x : Inhibit) : Node := mapN [ByteArray.mk (Array.mk [115, 111, 117, 114, 99, 101]), ByteArray.mk (Array.mk [116, 97, 114, 103, 101, 116]), ByteArray.mk (Array.mk [101, 113, 117, 97, 108])] [rowN (x.Source.map Ark), rowN (x.Target.map Ark), rowN (x.Equal.map wordN)]
theorem Azu (x : Inhibit) (hf : Alr x) (h : Aa4 x = true) : Ajn std x = some (Aso x) := by
 simp only [Aa4, Bool.and_eq_true, decide_eq_true_eq] at h
 obtain ⟨_, ⟨⟨⟨_, _⟩, h1⟩, h2⟩, h3⟩ := h
 unfold Ajn Agb
 rw [Atq x.1 hf.1 h2, bd_some, Atq x.2 hf.2.1 h3, bd_some, Av0 x.3 (by omega), bd_some, bd_some]
 rfl
noncomputable def Azv (h : Hours) : ByteArray := ((Aj0 std h).getD (⟨#[]⟩, 0)).1
theorem Bbz (h : Hours) (hs : hourS h = true) : ∃ e, Aj0 std h = some (Azv h, e) := by
 obtain ⟨v, hv⟩ := Azr h hs
 unfold Azv
 rw [hv]
 exact ⟨v.2, rfl⟩
noncomputable def spanN (h : Hours) : Node := mapN [ByteArray.mk (Array.mk [110, 97, 109, 101]), ByteArray.mk (Array.mk [115, 112, 97, 110])] [wordN h.Name, wordN (Azv h)]
theorem A0u (h : Hours) (hs : hourS h = true) : Ald std h = some (spanN h) := by
 obtain ⟨e, he⟩ := Bbz h hs
 unfold Ald Abq Agb
 rw [he, bd_some, bd_some, bd_some, bd_some]
 rfl
def Bb0 : List ByteArray := (Ajz std).getD []
def topsW : List ByteArray := (Apc std).getD []
def onW (b : Bool) : ByteArray := cond b (ByteArray.mk (Array.mk [116, 114, 117, 101])) (ByteArray.mk (Array.mk [102, 97, 108, 115, 101]))
def Ag9 : Nat → Route → Node
 | 0, _ => rowN []
 | d + 1, r => mapN Bb0 [wordN r.Receiver, rowN (r.Match.map Ark), rowN (r.By.map wordN), numN r.Wait, numN r.Every, numN r.Repeat, rowN (r.Mute.map wordN), wordN (onW r.On), rowN (r.Routes.map (Ag9 d))]
theorem Arl : ∀ (n : Nat) (r : Route) (d : Nat), SizeOf.sizeOf r < n → RouteFit r → Ab1 d r = true → Aht std n r = some (Ag9 d r)
 | 0, r, d, h, _, _ => by omega
 | n + 1, r, d, h, hf, hs => by
  obtain ⟨d, rfl⟩ := Atw hs
  have hk := Aft hs
  have h1 : oneS r = true := by simp only [Ab1, Bool.and_eq_true] at hs; exact hs.1
  simp only [oneS, Ap9, fromS, Bool.and_eq_true, decide_eq_true_eq] at h1
  obtain ⟨⟨⟨⟨⟨⟨⟨_, m1⟩, m2⟩, _, m3⟩, _, m4⟩, w1, w2⟩, e1, e2⟩, p1, p2⟩ := h1
  obtain ⟨_, f2, _, _, f5, f6⟩ := Azq hf
  rw [Aht, Am1]
  have hr : Aiq std r.9 (Aht std n) = some (rowN (r.Routes.map (Ag9 d))) :=
   A1n (t := .route) (Apd std r.Routes (Aht std n)) r.Routes _ (Ag9 d) (fun i b => rfl) (fun k hk' => Arl n k d (by have := Am4 hk'; omega) (f6 k hk') (hk.2 k hk')) (by omega)
  rw [hr, Atq r.2 f2 m1, Av0 r.3 (by omega), Av0 r.7 (by omega), Aoa r.4 w1 w2, Aoa r.5 (by omega) e2, Aoa r.6 (by omega) p2]
  unfold Ajz Abq Agb
  simp only [bd_some, Aot]
  simp only [Ag9]
  cases r.8 <;> rfl
theorem Azw (r : Route) (d : Nat) (hf : RouteFit r) (hs : Ab1 d r = true) : As9 std r = some (Ag9 d r) := Arl _ r d (Nat.lt_succ_self _) hf hs
noncomputable def nodeS (c : Config) : Node := mapN topsW [Ag9 4 c.Route, rowN (c.Receivers.map wordN), rowN (c.Inhibits.map Aso), rowN (c.Hours.map spanN)]
theorem A0v (c : Config) (hf : Ad3 c) (h : Ab1 4 c.Route = true) (hr : c.Receivers.length ≤ 16) (hi : c.Inhibits.length ≤ 8 ∧ ∀ x ∈ c.Inhibits, Aa4 x = true) (hh : c.Hours.length ≤ 8 ∧ ∀ x ∈ c.Hours, hourS x = true) : Apf std c = some (nodeS c) := by
 unfold Apf Apc Agb
 have e1 : Ai9 std c.4 (fun y0 => Ajn std y0) = some (rowN (c.Inhibits.map Aso)) :=
  A1n (t := .inhibit) (Ann std c.Inhibits fun y0 => Ajn std y0) c.Inhibits _ Aso (fun i b => rfl) (fun x hx => Azu x (hf.2.2.2.1.2 x hx) (hi.2 x hx)) (by omega)
 have e2 : Ak3 std c.5 (fun y0 => Ald std y0) = some (rowN (c.Hours.map spanN)) :=
  A1n (t := .hours) (Ape std c.Hours fun y0 => Ald std y0) c.Hours _ spanN (fun i b => rfl) (fun x hx => A0u x (hh.2 x hx)) (by omega)
 rw [Azw c.2 4 hf.2.1 h, Av0 c.3 (by omega), e1, e2]
 simp only [bd_some, Aot]
 rfl
end Go.PL
namespace Go.PL
set_option linter.unusedSimpArgs false
set_option linter.unusedVariables false
set_option linter.unusedSectionVars false
open Tys (Ty U)
open Enc (sz enc dflt tb ofB toB)
open Dec (dec dok)
set_option maxRecDepth 100000
def Ako (s : ByteArray) : Bool := (bytes s).all plainC && decide (s.size ≤ 200)
theorem Azx (s : ByteArray) : Anp std s = some (Ako s) := by
 unfold Anp
 rw [show std.cmp .leq (std.slen s) 200 = decide (s.size ≤ 200) from leN (b := 200)]
 unfold Ako
 by_cases h : s.size ≤ 200
 ·rw [decide_eq_true h, gd_t, Avj, Ahl _ (fun c => !plainC c) _ (fun c _ => by
   unfold Am2
   simp only [s_lor, s_lss, s_gtr]
   congr 1
   rw [Bool.eq_iff_iff]
   simp [plainC, inC]
   omega) (by rw [Aae]; unfold big63; omega), bd_some, s_land, s_not, Bool.true_and, Bool.and_true, List.all_eq_not_any_not]
 ·rw [decide_eq_false h, gd_f, bd_some, s_land, Bool.false_and, Bool.and_false]
theorem Ak6 (c : UInt8) : Aj1 std (c.toNat : Int) = some (wordC c) := by
 unfold Aj1
 simp only [s_land, s_lor, s_leq, s_geq, s_eql]
 congr 1
 rw [Bool.eq_iff_iff]
 simp [wordC, lowC, digC, barC, inC]
 omega
theorem Azy (s : ByteArray) : Anq std s = some (wordS s) := by
 unfold Anq
 have h0 : std.and (std.scmp .neq s (ByteArray.mk (Array.mk []))) (std.cmp .leq (std.slen s) 64) = (decide (1 ≤ s.size) && decide (s.size ≤ 64)) := by
  rw [s_land, Avh, Aix, s_leq, s_slen]; congr 1; exact leN (b := 64)
 rw [h0]
 unfold wordS
 by_cases h : (decide (1 ≤ s.size) && decide (s.size ≤ 64)) = true
 ·rw [h, gd_t, Avj, Ahl _ (fun c => !wordC c) _ (fun c _ => by
   unfold Am3
   rw [Ak6, bd_some, s_not]) (by simp at h; rw [Aae]; unfold big63; omega), bd_some, s_land, s_not, Bool.true_and]
  rw [Bool.and_assoc, h, Bool.and_true, List.all_eq_not_any_not]
 ·simp only [Bool.not_eq_true] at h
  rw [h, gd_f, bd_some, s_land, Bool.false_and, Bool.and_assoc, h, Bool.and_false]
def keyP (l : List ByteArray) (i : Nat) (s : ByteArray) : Bool := wordS s && onceP l i s
def Apo (l : List ByteArray) (k : Nat) : Bool := allI (keyP l) 0 l && decide (l.length = k)
theorem A3u (l : List ByteArray) (i : Nat) (s : ByteArray) (h : l.length ≤ big63) : Aam std (std.lsub TyS.str l 0 (i : Int)) s = some (hasS (l.take i) s) := by
 rw [Avi, Int.toNat_natCast, show Int.toNat 0 = 0 from rfl, List.drop_zero, Awr _ _ (by rw [List.length_take]; omega), A5m]
theorem Asp (l : List ByteArray) (k : Nat) (h : l.length ≤ big63) : Afx std l (k : Int) = some (Apo l k) := by
 unfold Afx
 refine Ack (t := TyS.str) (B := Asi std l (k : Int)) (fun i => i) l h (keyP l) (decide (l.length = k)) _ _ (fun i => rfl) (fun i s hs hi => ?_) (fun _ => ?_) (fun _ => ⟨_, rfl⟩)
 ·rw [Aai (t := TyS.str) hs, Azy, bd_some, ck_t (vc_of fun _ => by show (0 : Int) ≤ 0 ∧ (0 : Int) ≤ i ∧ (i : Int) ≤ (l.length : Int); omega), A3u l i s h]
  unfold keyP onceP
  cases wordS s <;> cases hasS (l.take i) s <;> rfl
 ·rw [Aab]
  congr 1
  rw [s_eql, Bool.eq_iff_iff]
  simp
  omega
def mayN : Nat → Node → Bool
 | 0, _ => false
 | d + 1, n => if n.Kind = 1 then Ako n.Word && decide (n.Names.length = 0) && decide (n.Items.length = 0)
  else if n.Kind = 2 then decide (n.Word.size = 0) && decide (n.Items.length ≤ 64) && Apo n.Names 0 && n.Items.all (mayN d)
  else if n.Kind = 3 then decide (n.Word.size = 0) && decide (n.Items.length ≤ 64) && Apo n.Names n.Items.length && n.Items.all (mayN d)
  else false
inductive NodeFit : Node → Prop where
 | mk (n : Node) (h1 : n.Names.length ≤ big63) (h2 : n.Items.length ≤ big63) (h3 : ∀ k ∈ n.Items, NodeFit k) : NodeFit n
theorem A7y {r k : Node} (h : k ∈ r.Items) : SizeOf.sizeOf k < SizeOf.sizeOf r := by
 have := List.sizeOf_lt_of_mem h
 cases r
 simp only [Node.mk.sizeOf_spec] at this ⊢
 omega
theorem Bb1 (s : ByteArray) : std.scmp .eql s (ByteArray.mk (Array.mk [])) = decide (s.size = 0) := by
 have := Aix s
 rw [s_seql, Bool.eq_iff_iff]
 have h2 : (decide (s ≠ ByteArray.mk (Array.mk [])) = true ↔ decide (1 ≤ s.size) = true) := by rw [this]
 simp only [decide_eq_true_eq] at h2 ⊢
 constructor
 ·intro h
  rcases Nat.eq_zero_or_pos s.size with h0 | h0
  ·exact h0
  ·exact absurd h (h2.2 h0)
 ·intro h
  by_cases he : s = ByteArray.mk (Array.mk [])
  ·exact he
  ·have := h2.1 he; omega
theorem A3v (xs : List Node) (p : Node → Bool) (q : Node → Option Bool) (hq : ∀ x ∈ xs, q x = some (p x)) (hl : xs.length ≤ big63) : Aan std xs q = some (xs.any p) := by
 have h1 : Afa std xs q = some (fnd xs p) := Ak5 (t := TyS.node) xs p q hq hl
 unfold Aan
 rw [h1, bd_some, s_geq, Al7]
theorem Aug : ∀ (n : Nat) (x : Node) (d : Nat), SizeOf.sizeOf x < n → NodeFit x → d ≤ 100 → Aj2 std n x (d : Int) = some (mayN d x)
 | 0, x, d, h, _, _ => by omega
 | n + 1, x, d, h, hf, hd => by
  obtain ⟨_, h1, h2, h3⟩ := hf
  rw [Aj2, Aoq]
  cases d with
  | zero => rfl
  | succ d =>
   rw [show std.cmp .eql ((d + 1 : Nat) : Int) 0 = false by rw [s_eql]; simp; omega, br_false]
   have hc : Aan std x.4 (fun y0 => Ahf std (Aj2 std n) y0 ((d + 1 : Nat) : Int)) = some (x.Items.any fun k => !mayN d k) := A3v x.Items (fun k => !mayN d k) _ (fun k hk => by
    unfold Ahf
    rw [show std.ar .sub .i64 ((d + 1 : Nat) : Int) 1 = (d : Int) by rw [s_sub, w64 (by omega)]; omega, Aug n k d (by have := A7y hk; omega) (h3 k hk) (by omega), bd_some, s_not]) h2
   have hl : std.cmp .leq (std.len TyS.node x.4) 64 = decide (x.Items.length ≤ 64) := Ale (t := TyS.node) x.4 64
   have hz1 : std.cmp .eql (std.len TyS.str x.3) 0 = decide (x.Names.length = 0) := by rw [Aab, s_eql, Bool.eq_iff_iff]; simp
   have hz2 : std.cmp .eql (std.len TyS.node x.4) 0 = decide (x.Items.length = 0) := by rw [Aab, s_eql, Bool.eq_iff_iff]; simp
   have n0 : Afx std x.3 0 = some (Apo x.Names 0) := Asp x.Names 0 h1
   have n1 : Afx std x.3 (std.len TyS.node x.4) = some (Apo x.Names x.Items.length) := Asp x.Names x.Items.length h1
   rw [hl, hz1, hz2, Azx, n0, n1, hc, Bb1]
   simp only [mayN, s_eql]
   by_cases k1 : x.Kind = 1
   ·rw [if_pos k1, k1]
    rfl
   ·rw [if_neg k1, show (x.1 == (1 : Int)) = false by simpa using k1, br_false]
    by_cases k2 : x.Kind = 2
    ·rw [if_pos k2, k2]
     simp only [show ((2 : Int) == 2) = true from rfl, show ((2 : Int) == 3) = false from rfl, br_true, br_false, s_land, s_not]
     rw [gd_b (fun _ => rfl), bd_some, gd_b (fun _ => rfl), bd_some, Aij]
     cases decide (x.Word.size = 0) <;> cases decide (x.Items.length ≤ 64) <;> cases Apo x.Names 0 <;> simp
    ·rw [if_neg k2, show (x.1 == (2 : Int)) = false by simpa using k2, br_false]
     by_cases k3 : x.Kind = 3
     ·rw [if_pos k3, k3]
      simp only [show ((3 : Int) == 3) = true from rfl, br_true, br_false, s_land, s_not]
      rw [gd_b (fun _ => rfl), bd_some, gd_b (fun _ => rfl), bd_some, Aij]
      cases decide (x.Word.size = 0) <;> cases decide (x.Items.length ≤ 64) <;> cases Apo x.Names x.Items.length <;> simp
     ·rw [if_neg k3, show (x.1 == (3 : Int)) = false by simpa using k3, br_false]
theorem Axy (x : Node) (hf : NodeFit x) : Al2 std x = some (mayN 8 x) := by
 unfold Al2 Aus
 rw [show (8 : Int) = ((8 : Nat) : Int) from rfl, Aug _ x 8 (Nat.lt_succ_self _) hf (by omega), bd_some]
end Go.PL
namespace Go.PL
set_option linter.unusedSimpArgs false
set_option linter.unusedVariables false
set_option linter.unusedSectionVars false
open Tys (Ty U)
open Enc (sz enc dflt tb ofB toB)
open Dec (dec dok)
set_option maxRecDepth 100000
noncomputable def Aob (s : ByteArray) : ByteArray := (Ad1 std s).getD ⟨#[]⟩
theorem Av1 (c : UInt8) : ∃ b, Aic std (c.toNat : Int) = some b := by
 unfold Aic strings_IndexByte
 rw [Ak6, bd_some, gd_of (fun _ => rfl), bd_some]
 exact ⟨_, rfl⟩
theorem A52 (s : ByteArray) (hs : s.size ≤ 200) : Ad1 std s = some (Aob s) ∧ (Aob s).size ≤ 2000 := by
 have key : ∃ t, Ad1 std s = some t ∧ t.size ≤ 2000 := by
  unfold Ad1
  obtain ⟨a, ha, la⟩ := Anv s (ByteArray.mk (Array.mk [92])) (ByteArray.mk (Array.mk [92, 92])) (by decide) rfl (by omega)
  obtain ⟨b, hb, lb⟩ := Anv a (ByteArray.mk (Array.mk [34])) (ByteArray.mk (Array.mk [92, 34])) (by decide) rfl (by omega)
  have hp : ∀ c : UInt8, ∃ b, Acu std (c.toNat : Int) = some b := fun c => by
   obtain ⟨b, hb⟩ := Av1 c
   unfold Acu
   rw [hb, bd_some]
   exact ⟨_, rfl⟩
  have hc : Aaa std (std.s2b s) (fun y0 => Acu std y0) = some ((bytes s).any fun c => (Acu std (c.toNat : Int)).getD false) := by
   rw [Avj]
   exact Ahl _ _ _ (fun c _ => by obtain ⟨b, hb⟩ := hp c; rw [hb]; rfl) (by rw [Aae]; unfold big63; omega)
  rw [ck_t (vc_of fun h => by
   rw [Avh, Aix, decide_eq_true_eq] at h
   show (0 : Int) ≤ 0 ∧ (0 : Int) < (s.size : Int)
   omega), gd_of (fun _ => hc), bd_some, ha, bd_some, hb, bd_some]
  have q1 : (ByteArray.mk (Array.mk [34])).size = 1 := rfl
  have z1 : (ByteArray.mk (Array.mk [34]) ++ b).size = 1 + b.size := by rw [ByteArray.size_append, q1]
  rw [s_cat, s_cat, ck_t (show std.catOk _ _ by rw [Aa5, q1]; omega), ck_t (show std.catOk _ _ by rw [Aa5, z1, q1]; omega)]
  cases std.and _ _ with
  | true => exact ⟨_, rfl, by omega⟩
  | false => exact ⟨_, rfl, by rw [ByteArray.size_append, z1, q1]; omega⟩
 obtain ⟨t, h1, h2⟩ := key
 have : Aob s = t := by unfold Aob; rw [h1]; rfl
 rw [this]; exact ⟨h1, h2⟩
noncomputable def Ae3 (n : Node) : ByteArray := if n.Kind = 1 then ByteArray.mk (Array.mk [32]) ++ Aob n.Word else if 0 < n.Items.length then ByteArray.mk (Array.mk []) else if n.Kind = 2 then ByteArray.mk (Array.mk [32, 91, 93]) else ByteArray.mk (Array.mk [32, 123, 125])
theorem Asq (n : Node) (d : Nat) (h : mayN d n = true) : ∃ b, Aj3 std n = some (Ae3 n, b) ∧ (Ae3 n).size ≤ 2001 := by
 unfold Aj3 Ae3
 by_cases k1 : n.Kind = 1
 ·have hw : n.Word.size ≤ 200 := by
   cases d with
   | zero => cases h
   | succ d =>
    simp only [mayN, if_pos k1, Ako, Bool.and_eq_true, decide_eq_true_eq] at h
    exact h.1.1.2
  obtain ⟨h1, h2⟩ := A52 n.Word hw
  have q1 : (ByteArray.mk (Array.mk [32])).size = 1 := rfl
  rw [if_pos k1, show std.cmp .eql n.1 1 = true by rw [s_eql]; simpa using k1, br_true, h1, bd_some, ck_t (show std.catOk _ _ by rw [Aa5, q1]; omega)]
  exact ⟨_, rfl, by rw [ByteArray.size_append, q1]; omega⟩
 ·rw [if_neg k1, show std.cmp .eql n.1 1 = false by rw [s_eql]; simpa using k1, br_false]
  by_cases k2 : 0 < n.Items.length
  ·rw [if_pos k2, show std.cmp .gtr (std.len TyS.node n.4) 0 = true by rw [s_gtr, Aab]; exact decide_eq_true (by omega), br_true]
   exact ⟨_, rfl, by show (0 : Nat) ≤ _; omega⟩
  ·rw [if_neg k2, show std.cmp .gtr (std.len TyS.node n.4) 0 = false by rw [s_gtr, Aab]; exact decide_eq_false (by omega), br_false]
   by_cases k3 : n.Kind = 2
   ·rw [if_pos k3, show std.cmp .eql n.1 2 = true by rw [s_eql]; simpa using k3, br_true]
    exact ⟨_, rfl, by show (3 : Nat) ≤ _; omega⟩
   ·rw [if_neg k3, show std.cmp .eql n.1 2 = false by rw [s_eql]; simpa using k3, br_false]
    exact ⟨_, rfl, by show (3 : Nat) ≤ _; omega⟩
def Aof (f : Nat → Node → List UInt8) : Nat → List Node → List UInt8
 | _, [] => []
 | i, x :: xs => f i x ++ Aof f (i + 1) xs
theorem Awv {ε : Type} (f : Nat → Node → List UInt8) (fin : List UInt8 → ε) : ∀ (xs : List Node) (i : Nat) (s : List UInt8), runL (fun i x s => (.inl (s ++ f i x) : List UInt8 ⊕ ε)) fin i xs s = fin (s ++ Aof f i xs)
 | [], i, s => by simp [runL, Aof]
 | x :: xs, i, s => by
  simp only [runL, Aof]
  rw [Awv f fin xs (i + 1), List.append_assoc]
def headL (n : Node) (i : Nat) : List UInt8 := if n.Kind = 3 then bytes (n.Names.getD i ⟨#[]⟩) ++ [58] else [45]
noncomputable def Ag5 : Nat → Nat → Node → List UInt8
 | 0, _, _ => []
 | d + 1, k, n => Aof (fun i x => Lib.repeatL [32] (2 * k) ++ headL n i ++ bytes (Ae3 x) ++ [10] ++ Ag5 d (k + 1) x) 0 n.Items
theorem Azz {d : Nat} {n : Node} (h : mayN (d + 1) n = true) : ∀ x ∈ n.Items, mayN d x = true := by
 intro x hx
 simp only [mayN] at h
 split at h
 ·simp only [Bool.and_eq_true, decide_eq_true_eq] at h
  rw [List.eq_nil_of_length_eq_zero h.2] at hx; cases hx
 ·split at h
  ·simp only [Bool.and_eq_true, List.all_eq_true] at h; exact h.2 x hx
  ·split at h
   ·simp only [Bool.and_eq_true, List.all_eq_true] at h; exact h.2 x hx
   ·cases h
theorem Bb2 {d : Nat} {n : Node} (h : mayN (d + 1) n = true) : n.Items.length ≤ 64 := by
 simp only [mayN] at h
 split at h
 ·simp only [Bool.and_eq_true, decide_eq_true_eq] at h; omega
 ·split at h
  ·simp only [Bool.and_eq_true, decide_eq_true_eq] at h; exact h.1.1.2
  ·split at h
   ·simp only [Bool.and_eq_true, decide_eq_true_eq] at h; exact h.1.1.2
   ·cases h
theorem Az0 {d : Nat} {n : Node} (h : mayN (d + 1) n = true) (k3 : n.Kind = 3) : n.Names.length = n.Items.length ∧ ∀ s ∈ n.Names, s.size ≤ 64 := by
 simp only [mayN] at h
 rw [if_neg (by omega), if_neg (by omega), if_pos k3] at h
 simp only [Bool.and_eq_true, decide_eq_true_eq, Apo] at h
 refine ⟨h.1.2.2, fun s hs => ?_⟩
 obtain ⟨j, hj⟩ := Ax4 h.1.2.1 s hs
 simp only [keyP, wordS, Bool.and_eq_true, decide_eq_true_eq] at hj
 exact hj.1.2
theorem Bdu {d : Nat} {n : Node} (h : mayN (d + 1) n = true) (i : Nat) (hi : i < n.Items.length) : (headL n i).length ≤ 65 := by
 unfold headL
 split
 ·rename_i k3
  obtain ⟨h1, h2⟩ := Az0 h k3
  obtain ⟨nm, hnm⟩ := Al8 (xs := n.Names) (i := i) (by omega)
  rw [get_at hnm, List.length_append, Aae]
  have := h2 nm (Abv hnm)
  simp only [List.length_singleton]; omega
 ·simp
theorem Az1 (f : Nat → Node → List UInt8) {xs : List Node} {i : Nat} {x : Node} (h : xs[i]? = some x) : Aof f i (xs.drop i) = f i x ++ Aof f (i + 1) (xs.drop (i + 1)) := by
 have hi := Ae2 h
 rw [List.drop_eq_getElem_cons hi]
 have : xs[i] = x := by rw [List.getElem?_eq_getElem hi] at h; exact Option.some.inj h
 rw [this]; rfl
theorem Aqf : ∀ (n : Nat) (x : Node) (d k : Nat) (acc : List UInt8), SizeOf.sizeOf x < n → mayN d x = true → k + d ≤ 1000 → acc.length + (Ag5 d k x).length ≤ 90000000000000 → Agc std n acc x (k : Int) = some (acc ++ Ag5 d k x)
 | 0, x, d, k, acc, h, _, _, _ => by omega
 | n + 1, x, d, k, acc, h, hm, hk, hl => by
  cases d with
  | zero => cases hm
  | succ d =>
   have hfew := Bb2 hm
   rw [Agc, Al3]
   have := Ary (B := Aja std (Agc std n) x (k : Int)) (fun i (s : List UInt8) => ((i : Int), s)) x.Items (fun i y s => (.inl (s ++ (Lib.repeatL [32] (2 * k) ++ headL x i ++ bytes (Ae3 y) ++ [10] ++ Ag5 d (k + 1) y)) : List UInt8 ⊕ List UInt8)) (fun s => s) (fun i s => s.length + (Aof (fun i y => Lib.repeatL [32] (2 * k) ++ headL x i ++ bytes (Ae3 y) ++ [10] ++ Ag5 d (k + 1) y) i (x.Items.drop i)).length ≤ 90000000000000) (fun i y s hy hI => ?_) (fun s _ => ?_) acc (by rw [List.drop_zero]; exact hl)
   ·show Loop _ (((0 : Nat) : Int), acc) = _
    rw [this, Awv]; rfl
   ·refine ⟨fun s' hs => ?_, fun e he => by cases he⟩
    cases hs
    have hi := Ae2 hy
    rw [Az1 _ hy] at hI
    simp only [List.length_append, List.length_singleton] at hI
    refine ⟨?_, by simp only [List.length_append, List.length_singleton]; omega⟩
    have hmy := Azz hm y (Abv hy)
    obtain ⟨b, hv, hvl⟩ := Asq y d hmy
    have hvb : (bytes (Ae3 y)).length = (Ae3 y).size := Aae _
    unfold Aja
    simp only
    rw [Aab, lssT hi, br_true, ck_t (inbT hi), Aai (t := TyS.node) hy, hv]
    have hr : strings_Repeat std (ByteArray.mk (Array.mk [32])) (std.ar .mul .i64 2 (k : Int)) = some ⟨(Lib.repeatL [32] (2 * k)).toArray⟩ := by
     rw [s_mul, w64 (by omega), show (2 * (k : Int)) = ((2 * k : Nat) : Int) by omega]
     unfold strings_Repeat
     rw [Int.toNat_natCast]
     exact ck_t ⟨by omega, by omega, by show 1 * (2 * k) ≤ _; omega⟩
    have hrb : bytes (ByteArray.mk (Lib.repeatL [32] (2 * k)).toArray) = Lib.repeatL [32] (2 * k) := Aaq _
    have hrz : (ByteArray.mk (Lib.repeatL [32] (2 * k)).toArray).size = (Lib.repeatL [32] (2 * k)).length := by rw [Acb, hrb]
    have hadd : std.ar .add .i64 (k : Int) 1 = ((k + 1 : Nat) : Int) := wrap_succ (n := 2000) (by omega) (by unfold big63; omega)
    have q10 : (ByteArray.mk (Array.mk [10])).size = 1 := rfl
    have z10 : (Ae3 y ++ ByteArray.mk (Array.mk [10])).size = (Ae3 y).size + 1 := by rw [ByteArray.size_append, q10]
    have b10 : bytes (Ae3 y ++ ByteArray.mk (Array.mk [10])) = bytes (Ae3 y) ++ [10] := Abm _ _
    have hc10 : std.catOk (Ae3 y) (ByteArray.mk (Array.mk [10])) := by rw [Aa5, q10]; omega
    rw [hr, bd_some, write_eq _ _ (by rw [hrz]; omega), bd_some, hrb, hadd]
    simp only [bd_some]
    simp only [ck_t hc10, s_cat (a := Ae3 y)]
    have hrec : ∀ a : List UInt8, a.length + (Ag5 d (k + 1) y).length ≤ 90000000000000 → Agc std n a y ((k + 1 : Nat) : Int) = some (a ++ Ag5 d (k + 1) y) := fun a ha => Aqf n y d (k + 1) a (by have := A7y (Abv hy); omega) hmy (by omega) ha
    by_cases k3 : x.Kind = 3
    ·have hh : headL x i = bytes (x.Names.getD i ⟨#[]⟩) ++ [58] := if_pos k3
     obtain ⟨l1, l2⟩ := Az0 hm k3
     obtain ⟨nm, hnm⟩ := Al8 (xs := x.Names) (i := i) (by omega)
     have hg : x.Names.getD i ⟨#[]⟩ = nm := get_at hnm
     have hnz := l2 nm (Abv hnm)
     have hnb : (bytes nm).length = nm.size := Aae _
     rw [hh, hg] at hI
     simp only [List.length_append, List.length_singleton] at hI
     have q58 : (ByteArray.mk (Array.mk [58])).size = 1 := rfl
     have z58 : (nm ++ ByteArray.mk (Array.mk [58])).size = nm.size + 1 := by rw [ByteArray.size_append, q58]
     have b58 : bytes (nm ++ ByteArray.mk (Array.mk [58])) = bytes nm ++ [58] := Abm _ _
     rw [show std.cmp .eql x.1 3 = true by rw [s_eql]; simpa using k3, br_true, ck_t (show std.inb (i : Int) (std.len TyS.str x.3) by rw [Aab]; exact inbT (by omega)), Aai (t := TyS.str) hnm, ck_t (show std.catOk nm (ByteArray.mk (Array.mk [58])) by rw [Aa5, q58]; omega), s_cat, write_eq _ _ (by rw [z58]; simp only [List.length_append]; omega), bd_some, b58, write_eq _ _ (by rw [z10]; simp only [List.length_append, List.length_singleton]; omega), bd_some, b10, hrec _ (by simp only [List.length_append, List.length_singleton]; omega), bd_some, s_add, wrap_succ hi (by unfold big63; omega), hh, hg]
     simp only [List.append_assoc]
    ·have hh : headL x i = [45] := if_neg k3
     rw [hh] at hI
     simp only [List.length_singleton] at hI
     have b45 : bytes (ByteArray.mk (Array.mk [45])) = [45] := rfl
     have z45 : (ByteArray.mk (Array.mk [45])).size = 1 := rfl
     rw [show std.cmp .eql x.1 3 = false by rw [s_eql]; simpa using k3, br_false, write_eq _ _ (by rw [z45]; simp only [List.length_append]; omega), bd_some, b45, write_eq _ _ (by rw [z10]; simp only [List.length_append, List.length_singleton]; omega), bd_some, b10, hrec _ (by simp only [List.length_append, List.length_singleton]; omega), bd_some, s_add, wrap_succ hi (by unfold big63; omega), hh]
     simp only [List.append_assoc]
   ·unfold Aja
    simp only
    rw [Aab, lssF, br_false]
    rfl
end Go.PL
namespace Go.PL
set_option linter.unusedSimpArgs false
set_option linter.unusedVariables false
set_option linter.unusedSectionVars false
open Tys (Ty U)
open Enc (sz enc dflt tb ofB toB)
open Dec (dec dok)
set_option maxRecDepth 100000
def wN : Nat → Node → Nat
 | 0, _ => 0
 | d + 1, n => (n.Items.map fun x => 1 + wN d x).sum
theorem Bde {α : Type} (f g : α → Nat) : ∀ l : List α, (∀ x ∈ l, f x ≤ g x) → (l.map f).sum ≤ (l.map g).sum
 | [], _ => Nat.le_refl _
 | x :: l, h => by
  simp only [List.map_cons, List.sum_cons]
  have := Bde f g l fun y hy => h y (List.mem_cons_of_mem _ hy)
  have := h x (List.mem_cons_self ..)
  omega
theorem A7z {α : Type} (f : α → Nat) (k : Nat) : ∀ l : List α, (l.map fun x => f x * k).sum = (l.map f).sum * k
 | [] => by simp
 | x :: l => by simp only [List.map_cons, List.sum_cons, A7z f k l, Nat.add_mul]
theorem A53 {α : Type} (f : α → Nat) (m : Nat) : ∀ l : List α, (∀ x ∈ l, f x ≤ m) → (l.map f).sum ≤ l.length * m
 | [], _ => by simp
 | x :: l, h => by
  have := A53 f m l fun y hy => h y (List.mem_cons_of_mem _ hy)
  have := h x (List.mem_cons_self ..)
  simp only [List.map_cons, List.sum_cons, List.length_cons, Nat.succ_mul]
  omega
theorem A54 (f : Nat → Node → List UInt8) (g : Node → Nat) : ∀ (xs : List Node) (i : Nat), (∀ j x, xs[j]? = some x → (f (i + j) x).length ≤ g x) → (Aof f i xs).length ≤ (xs.map g).sum
 | [], i, h => by simp [Aof]
 | x :: xs, i, h => by
  have h1 := A54 f g xs (i + 1) fun j y hy => by
   have := h (j + 1) y (by simpa using hy)
   rwa [show i + (j + 1) = i + 1 + j by omega] at this
  have h2 := h 0 x rfl
  simp only [Aof, List.length_append, List.map_cons, List.sum_cons]
  rw [Nat.add_zero] at h2
  omega
theorem Az2 : ∀ (d k : Nat) (n : Node), mayN d n = true → (Ag5 d k n).length ≤ wN d n * (2 * (k + d) + 2100)
 | 0, k, n, h => by simp [Ag5]
 | d + 1, k, n, h => by
  rw [Ag5, wN]
  refine Nat.le_trans (A54 _ (fun x => (1 + wN d x) * (2 * (k + (d + 1)) + 2100)) n.Items 0 fun j x hx => ?_) (Nat.le_of_eq (A7z _ _ _))
  rw [Nat.zero_add]
  have hm := Azz h x (Abv hx)
  obtain ⟨b, _, hv⟩ := Asq x d hm
  have h1 := Bdu h j (Ae2 hx)
  have h2 := Az2 d (k + 1) x hm
  have h3 := Lib.repeatL_length [32] (2 * k)
  have e : k + 1 + d = k + (d + 1) := by omega
  rw [e] at h2
  simp only [List.length_append, Aae, List.length_singleton] at h3 ⊢
  rw [h3, Nat.add_mul, Nat.one_mul]
  omega
theorem w_row (d : Nat) (l : List Node) (m : Nat) (h : ∀ x ∈ l, wN d x ≤ m) : wN (d + 1) (rowN l) ≤ l.length * (1 + m) := by
 rw [wN]
 exact A53 _ _ _ fun x hx => by have := h x hx; omega
theorem Bb3 (d : Nat) (s : ByteArray) : wN d (wordN s) = 0 := by cases d <;> rfl
theorem Au5 (d : Nat) {α : Type} (f : α → ByteArray) (l : List α) : wN d (rowN (l.map fun x => wordN (f x))) ≤ l.length := by
 cases d with
 | zero => exact Nat.zero_le _
 | succ d =>
  have := w_row d (l.map fun x => wordN (f x)) 0 fun x hx => by
   obtain ⟨y, _, rfl⟩ := List.mem_map.1 hx
   rw [Bb3]; exact Nat.le_refl _
  simpa using this
theorem Bcy (d : Nat) (r : Route) : 1 ≤ (allD d r).length := by cases d <;> simp [allD]
theorem A8z {α β : Type} (f : α → List β) : ∀ l : List α, (l.map f).flatten.length = (l.map fun x => (f x).length).sum
 | [] => rfl
 | x :: l => by simp only [List.map_cons, List.flatten_cons, List.length_append, List.sum_cons, A8z f l]
theorem Bb4 : ∀ (d D : Nat) (r : Route), Ab1 d r = true → wN D (Ag9 d r) + 1 ≤ 34 * (allD d r).length
 | 0, D, r, h => by cases h
 | d + 1, 0, r, h => by
  have := Bcy (d + 1) r
  simp only [wN]; omega
 | d + 1, D + 1, r, h => by
  have hk := Aft h
  have h1 : oneS r = true := by simp only [Ab1, Bool.and_eq_true] at h; exact h.1
  simp only [oneS, Aav, Ap9, Bool.and_eq_true, decide_eq_true_eq] at h1
  obtain ⟨⟨⟨⟨⟨⟨⟨_, _, m1⟩, m2⟩, _, m3⟩, _, m4⟩, _⟩, _⟩, _⟩ := h1
  have a1 := Au5 D textS r.Match
  have a2 := Au5 D (fun x => x) r.By
  have a3 := Au5 D (fun x => x) r.Mute
  have a4 : wN D (rowN (r.Routes.map (Ag9 d))) ≤ 34 * ((r.Routes.map (allD d)).flatten).length := by
   cases D with
   | zero => exact Nat.zero_le _
   | succ D =>
    rw [wN, A8z, Nat.mul_comm, ← A7z]
    show (((r.Routes.map (Ag9 d)).map fun x => 1 + wN D x)).sum ≤ _
    rw [List.map_map]
    exact Bde _ _ _ fun k hk' => by
     have := Bb4 d D k (hk.2 k hk')
     show 1 + wN D (Ag9 d k) ≤ _
     omega
  have e : wN (D + 1) (Ag9 (d + 1) r) = 9 + (wN D (rowN (r.Match.map Ark)) + wN D (rowN (r.By.map wordN)) + wN D (rowN (r.Mute.map wordN)) + wN D (rowN (r.Routes.map (Ag9 d)))) := by
   simp only [Ag9, mapN, wN, List.map_cons, List.map_nil, List.sum_cons, List.sum_nil]
   have z : ∀ s, wN D (wordN s) = 0 := Bb3 D
   simp only [z, numN]
   omega
  rw [e, allD, List.length_cons]
  have b1 : wN D (rowN (r.Match.map Ark)) ≤ r.Match.length := a1
  have b2 : wN D (rowN (r.By.map wordN)) ≤ r.By.length := a2
  have b3 : wN D (rowN (r.Mute.map wordN)) ≤ r.Mute.length := a3
  omega
theorem Bdf (c : Config) (D : Nat) (h : Ab1 4 c.Route = true) (hn : (allD 4 c.Route).length ≤ 32) (hr : c.Receivers.length ≤ 16) (hi : c.Inhibits.length ≤ 8 ∧ ∀ x ∈ c.Inhibits, Aa4 x = true) (hh : c.Hours.length ≤ 8) : wN (D + 2) (nodeS c) ≤ 2000 := by
 have a1 := Bb4 4 (D + 1) c.Route h
 have a2 := Au5 (D + 1) (fun x => x) c.Receivers
 have a3 : wN (D + 1) (rowN (c.Inhibits.map Aso)) ≤ c.Inhibits.length * 28 := by
  have := w_row D (c.Inhibits.map Aso) 27 fun x hx => by
   obtain ⟨y, hy, rfl⟩ := List.mem_map.1 hx
   have := hi.2 y hy
   simp only [Aa4, Aav, Bool.and_eq_true, decide_eq_true_eq] at this
   obtain ⟨_, ⟨⟨⟨_, _⟩, h1⟩, _, h2⟩, _, h3⟩ := this
   cases D with
   | zero => exact Nat.zero_le _
   | succ D =>
    have b1 : wN D (rowN (y.Source.map Ark)) ≤ y.Source.length := Au5 D textS y.Source
    have b2 : wN D (rowN (y.Target.map Ark)) ≤ y.Target.length := Au5 D textS y.Target
    have b3 : wN D (rowN (y.Equal.map wordN)) ≤ y.Equal.length := Au5 D (fun x => x) y.Equal
    simp only [Aso, mapN, wN, List.map_cons, List.map_nil, List.sum_cons, List.sum_nil]
    omega
  rw [List.length_map] at this
  exact this
 have a4 : wN (D + 1) (rowN (c.Hours.map spanN)) ≤ c.Hours.length * 3 := by
  have := w_row D (c.Hours.map spanN) 2 fun x hx => by
   obtain ⟨y, hy, rfl⟩ := List.mem_map.1 hx
   cases D with
   | zero => exact Nat.zero_le _
   | succ D =>
    simp only [spanN, mapN, wN, List.map_cons, List.map_nil, List.sum_cons, List.sum_nil, Bb3]
    omega
  rw [List.length_map] at this
  exact this
 have b2 : wN (D + 1) (rowN (c.Receivers.map wordN)) ≤ c.Receivers.length := a2
 have m3 : c.Inhibits.length * 28 ≤ 8 * 28 := Nat.mul_le_mul_right _ hi.1
 have m4 : c.Hours.length * 3 ≤ 8 * 3 := Nat.mul_le_mul_right _ hh
 have e : wN (D + 2) (nodeS c) = 4 + (wN (D + 1) (Ag9 4 c.Route) + wN (D + 1) (rowN (c.Receivers.map wordN)) + wN (D + 1) (rowN (c.Inhibits.map Aso)) + wN (D + 1) (rowN (c.Hours.map spanN))) := by
  conv => lhs; rw [wN]
  simp only [nodeS, mapN, List.map_cons, List.map_nil, List.sum_cons, List.sum_nil]
  omega
 rw [e]
 omega
theorem Ar5 (s : ByteArray) : NodeFit (wordN s) := .mk _ (by simp [wordN]) (by simp [wordN]) fun k hk => by cases hk
theorem A3w {l : List Node} (h : l.length ≤ 1000) (hl : ∀ x ∈ l, NodeFit x) : NodeFit (rowN l) := .mk _ (by simp [rowN]) (Nat.le_trans h (by decide)) hl
theorem A3x {ns : List ByteArray} {l : List Node} (hn : ns.length ≤ 1000) (h : l.length ≤ 1000) (hl : ∀ x ∈ l, NodeFit x) : NodeFit (mapN ns l) := .mk _ (Nat.le_trans hn (by decide)) (Nat.le_trans h (by decide)) hl
theorem App {α : Type} (f : α → ByteArray) (l : List α) (h : l.length ≤ 1000) : NodeFit (rowN (l.map fun x => wordN (f x))) := A3w (by rw [List.length_map]; exact h) fun x hx => by
 obtain ⟨y, _, rfl⟩ := List.mem_map.1 hx
 exact Ar5 _
theorem A1o : ∀ (d : Nat) (r : Route), Ab1 d r = true → NodeFit (Ag9 d r)
 | 0, r, h => by cases h
 | d + 1, r, h => by
  have hk := Aft h
  have h1 : oneS r = true := by simp only [Ab1, Bool.and_eq_true] at h; exact h.1
  simp only [oneS, Aav, Ap9, Bool.and_eq_true, decide_eq_true_eq] at h1
  obtain ⟨⟨⟨⟨⟨⟨⟨_, _, m1⟩, m2⟩, _, m3⟩, _, m4⟩, _⟩, _⟩, _⟩ := h1
  refine A3x (by decide) (by simp) fun x hx => ?_
  simp only [List.mem_cons, List.mem_nil_iff, or_false] at hx
  rcases hx with rfl | rfl | rfl | rfl | rfl | rfl | rfl | rfl | rfl
  ·exact Ar5 _
  ·exact App textS _ (by omega)
  ·exact App (fun x => x) _ (by omega)
  ·exact Ar5 _
  ·exact Ar5 _
  ·exact Ar5 _
  ·exact App (fun x => x) _ (by omega)
  ·exact Ar5 _
  ·refine A3w (by rw [List.length_map]; omega) fun x hx => ?_
   obtain ⟨k, hk', rfl⟩ := List.mem_map.1 hx
   exact A1o d k (hk.2 k hk')
theorem Bb5 (c : Config) (h : Ab1 4 c.Route = true) (hr : c.Receivers.length ≤ 16) (hi : c.Inhibits.length ≤ 8 ∧ ∀ x ∈ c.Inhibits, Aa4 x = true) (hh : c.Hours.length ≤ 8) : NodeFit (nodeS c) := by
 refine A3x (by decide) (by simp) fun x hx => ?_
 simp only [List.mem_cons, List.mem_nil_iff, or_false] at hx
 rcases hx with rfl | rfl | rfl | rfl
 ·exact A1o 4 _ h
 ·exact App (fun x => x) _ (by omega)
 ·refine A3w (by rw [List.length_map]; omega) fun x hx => ?_
  obtain ⟨y, hy, rfl⟩ := List.mem_map.1 hx
  have := hi.2 y hy
  simp only [Aa4, Aav, Bool.and_eq_true, decide_eq_true_eq] at this
  obtain ⟨_, ⟨⟨⟨_, _⟩, h1⟩, _, h2⟩, _, h3⟩ := this
  refine A3x (by simp) (by simp) fun x hx => ?_
  simp only [List.mem_cons, List.mem_nil_iff, or_false] at hx
  rcases hx with rfl | rfl | rfl
  ·exact App textS _ (by omega)
  ·exact App textS _ (by omega)
  ·exact App (fun x => x) _ (by omega)
 ·refine A3w (by rw [List.length_map]; omega) fun x hx => ?_
  obtain ⟨y, hy, rfl⟩ := List.mem_map.1 hx
  refine A3x (by simp) (by simp) fun x hx => ?_
  simp only [List.mem_cons, List.mem_nil_iff, or_false] at hx
  rcases hx with rfl | rfl <;> exact Ar5 _
noncomputable def A55 (n : Node) : ByteArray × Int := cond (!mayN 8 n || decide (n.Items.length = 0)) (ByteArray.mk (Array.mk []), 1) (cond (decide ((Ag5 8 0 n).length ≤ 8192)) (⟨(Ag5 8 0 n).toArray⟩, 0) (ByteArray.mk (Array.mk []), 2))
theorem Axz (n : Node) (hf : NodeFit n) (hw : wN 8 n ≤ 2000) : Al4 std n = some (A55 n) := by
 unfold Al4 A55
 rw [Axy n hf, bd_some, show std.cmp .eql (std.len TyS.node n.4) 0 = decide (n.Items.length = 0) by rw [Aab, s_eql, Bool.eq_iff_iff]; simp, s_lor, s_not]
 cases hm : mayN 8 n with
 | false => rfl
 | true =>
  have hl := Az2 8 0 n hm
  have h2 : wN 8 n * (2 * (0 + 8) + 2100) ≤ 2000 * (2 * (0 + 8) + 2100) := Nat.mul_le_mul_right _ hw
  have e := Aqf (SizeOf.sizeOf n + 1) n 8 0 [] (Nat.lt_succ_self _) hm (by omega) (by rw [List.length_nil]; omega)
  cases decide (n.Items.length = 0) with
  | true => rfl
  | false =>
   rw [Bool.not_true, Bool.or_false, br_false]
   unfold Arq
   have e' : Agc std (SizeOf.sizeOf n + 1) [] n 0 = some ([] ++ Ag5 8 0 n) := e
   rw [e', bd_some, List.nil_append]
   unfold Aid
   rw [bd_some, show std.cmp .gtr (std.len TyS.byte (Ag5 8 0 n)) 8192 = !decide ((Ag5 8 0 n).length ≤ 8192) from Awq (t := TyS.byte) (Ag5 8 0 n) 8192]
   by_cases h8 : (Ag5 8 0 n).length ≤ 8192
   ·rw [decide_eq_true h8, Bool.not_true, br_false]
    unfold strings_Builder_String
    rw [ck_t (by omega), bd_some]
    rfl
   ·rw [decide_eq_false h8, Bool.not_false, br_true]
    rfl
noncomputable def Az3 (c : Config) : ByteArray × Int := cond (holdsA c) (A55 (nodeS (normS (bareC c)))) (ByteArray.mk (Array.mk []), 11)
theorem Aqu (c : Config) : (normS c).Hours.length = c.Hours.length := Afn _ _
theorem Ar6 (c : Config) : (normS c).Receivers.length = c.Receivers.length := Afn _ _
theorem Aqv {c : Config} {x : Hours} (h : x ∈ (normS c).Hours) : x ∈ c.Hours := (Ah5 _ _).mem_iff.1 h
theorem Asr (c : Config) (h : Ad3 c) : Aie std c = some (Az3 c) := by
 unfold Aie Amh Az3
 rw [Atp c h, bd_some]
 cases hp : holdsA c with
 | false => rfl
 | true =>
  have hb : Ai1 (bareC c) = true := by
   unfold holdsA at hp
   rw [Bool.and_eq_true] at hp
   exact hp.1
  have ok := Amv hb
  have hbf := Aya h
  have ht := ok.top
  simp only [topS, Bool.and_eq_true, decide_eq_true_eq] at ht
  have hil := Aqd (bareC c)
  have h1 : (normS (bareC c)).Inhibits.length ≤ 8 ∧ ∀ x ∈ (normS (bareC c)).Inhibits, Aa4 x = true := ⟨Nat.le_trans hil ok.inh.1, fun x hx => ok.inh.2 x (Aqe hx)⟩
  have h2 : (normS (bareC c)).Hours.length ≤ 8 := by rw [Aqu]; exact ok.hours.1
  have h3 : ∀ x ∈ (normS (bareC c)).Hours, hourS x = true := fun x hx => ok.hours.2.1 x (Aqv hx)
  have h4 : (normS (bareC c)).Receivers.length ≤ 16 := by rw [Ar6]; exact ok.recv.1
  have hr : Ab1 4 (normS (bareC c)).Route = true := ht.1.1.1
  rw [s_not, Bool.not_true, br_false, bd_some]
  show (bd (Ajy std (bareC c)) fun w3 => _) = _
  rw [Axx _ hbf, hb]
  simp only [cond_true, bd_some]
  rw [A0v _ (Bcw hbf) hr h4 h1 ⟨h2, h3⟩, bd_some, Axz _ (Bb5 _ hr h4 h1 h2) (Bdf _ 6 hr ht.2 h4 h1 h2), bd_some]
end Go.PL
namespace Go.PL
set_option linter.unusedSimpArgs false
set_option linter.unusedVariables false
set_option linter.unusedSectionVars false
open Tys (Ty U)
open Enc (sz enc dflt tb ofB toB)
open Dec (dec dok)
set_option maxRecDepth 100000
def oplC (c : UInt8) : Bool := wordC c || upC c || inC 45 47 c || inC 58 58 c
theorem Ass (c : UInt8) : Aic std (c.toNat : Int) = some (oplC c) := by
 unfold Aic
 have h0 : std.and (std.cmp .geq (c.toNat : Int) 65) (std.cmp .leq (c.toNat : Int) 90) = upC c := by
  rw [Bool.eq_iff_iff]; simp [upC, inC]; omega
 have h1 : strings_IndexByte std (ByteArray.mk (Array.mk [45, 46, 47, 58])) (c.toNat : Int) = some (Lib.indexByte [45, 46, 47, 58] c) := by
  unfold strings_IndexByte; rw [Bbi]
 have h2 : [45, 46, 47, 58].contains c = (inC 45 47 c || inC 58 58 c) := by
  simp only [List.contains_cons, eqC, List.contains_nil]
  rw [Bool.eq_iff_iff]; simp [inC]; omega
 rw [h1, Ak6, bd_some, h0]
 unfold oplC
 simp only [s_lor]
 cases h : (wordC c || upC c) with
 | true => rfl
 | false =>
  simp only [s_not, Bool.not_false, gd_t, bd_some, s_geq, index_ge, h2, s_lor, Bool.false_or]
def oplW (s : ByteArray) : Bool := (bytes s).all oplC && decide (1 ≤ s.size) && decide (s.size ≤ 200) && !decide ((bytes s).head? = some 45)
theorem A56 (s : ByteArray) (h : oplW s = true) : Aob s = s := by
 simp only [oplW, Bool.and_eq_true, decide_eq_true_eq] at h
 obtain ⟨⟨⟨h1, h2⟩, h3⟩, h4⟩ := h
 have key : Ad1 std s = some s := by
  unfold Ad1
  obtain ⟨c, hc⟩ := Al8 (xs := bytes s) (i := 0) (by rw [Aae]; omega)
  have hg : std.sget s 0 = (c.toNat : Int) := Apj (i := 0) hc
  have h0 : std.cmp .neq (std.sget s 0) 45 = true := by
   rw [hg]
   have hh : (bytes s).head? = some c := by rw [List.head?_eq_getElem?]; exact hc
   rw [hh] at h4
   have h5 : ¬ c = 45 := by simpa using h4
   have h6 : c.toNat ≠ 45 := fun e => h5 (UInt8.toNat_inj.1 e)
   rw [s_neq, bne_iff_ne]
   omega
  have hcn : Aaa std (std.s2b s) (fun y0 => Acu std y0) = some false := by
   rw [Avj, Ahl _ (fun c => !oplC c) _ (fun c _ => by
    unfold Acu
    rw [Ass, bd_some, s_not]) (by rw [Aae]; unfold big63; omega), Aij, h1]
   rfl
  rw [ck_t (vc_of fun _ => by
   show (0 : Int) ≤ 0 ∧ (0 : Int) < (s.size : Int)
   omega), h0, Avh, Aix, decide_eq_true h2]
  show (bd (gd false true _) fun w2 => _) = _
  rw [gd_t, hcn, bd_some]
  rfl
 unfold Aob
 rw [key]; rfl
def Bb6 (n : Node) : ByteArray := if n.Kind = 1 then ByteArray.mk (Array.mk [32]) ++ n.Word else if 0 < n.Items.length then ByteArray.mk (Array.mk []) else if n.Kind = 2 then ByteArray.mk (Array.mk [32, 91, 93]) else ByteArray.mk (Array.mk [32, 123, 125])
def Auh : Nat → Nat → Node → List UInt8
 | 0, _, _ => []
 | d + 1, k, n => Aof (fun i x => Lib.repeatL [32] (2 * k) ++ headL n i ++ bytes (Bb6 x) ++ [10] ++ Auh d (k + 1) x) 0 n.Items
def A80 : Nat → Node → Bool
 | 0, _ => true
 | d + 1, n => n.Items.all fun x => (if x.Kind = 1 then oplW x.Word else true) && A80 d x
theorem Axh (f g : Nat → Node → List UInt8) : ∀ (xs : List Node) (i : Nat), (∀ j x, x ∈ xs → f j x = g j x) → Aof f i xs = Aof g i xs
 | [], i, h => rfl
 | x :: xs, i, h => by
  simp only [Aof]
  rw [h i x (List.mem_cons_self ..), Axh f g xs (i + 1) fun j y hy => h j y (List.mem_cons_of_mem _ hy)]
theorem Az4 : ∀ (d k : Nat) (n : Node), A80 d n = true → Ag5 d k n = Auh d k n
 | 0, k, n, h => rfl
 | d + 1, k, n, h => by
  simp only [A80, List.all_eq_true, Bool.and_eq_true] at h
  rw [Ag5, Auh]
  refine Axh _ _ _ _ fun j x hx => ?_
  obtain ⟨h1, h2⟩ := h x hx
  rw [Az4 d (k + 1) x h2]
  have : Ae3 x = Bb6 x := by
   unfold Ae3 Bb6
   by_cases k1 : x.Kind = 1
   ·rw [if_pos k1] at h1
    rw [if_pos k1, if_pos k1, A56 _ h1]
   ·rw [if_neg k1, if_neg k1]
  rw [this]
def Anw : Config := ⟨[], ⟨opsT, [], [], 0, 1, 1, [], false, []⟩, [opsT], [], []⟩
theorem A9w : Ad3 Anw := ⟨Aqc, .mk _ (size_le 3 rfl (by omega)) Aqc Aqc Aqc (by simp [Anw]) (fun k hk => by cases hk), ⟨by show 1 ≤ big63; unfold big63; omega, fun x hx => by
 rw [List.mem_singleton.1 hx]; exact size_le 3 rfl (by omega)⟩, Aqc, Aqc⟩
theorem A57 : holdsA Anw = true := by kernel_rfl
theorem A70 : normS (bareC Anw) = Anw := by kernel_rfl
theorem A9x : mayN 8 (nodeS Anw) = true := by kernel_rfl
theorem A58 : A80 8 (nodeS Anw) = true := by kernel_rfl
theorem A59 : decide ((nodeS Anw).Items.length = 0) = false := by kernel_rfl
theorem A1p : (decide ((Auh 8 0 (nodeS Anw)).length ≤ 8192) && decide (30 < (Auh 8 0 (nodeS Anw)).length)) = true := by kernel_rfl
theorem A71 : Lib.contains (Auh 8 0 (nodeS Anw)) [114, 111, 117, 116, 101, 58, 10, 32, 32, 114, 101, 99, 101, 105, 118, 101, 114, 58, 32, 111, 112, 115, 10] = true := by kernel_rfl
theorem A72 : Lib.contains (Auh 8 0 (nodeS Anw)) [32, 32, 99, 111, 110, 116, 105, 110, 117, 101, 58, 32, 102, 97, 108, 115, 101, 10] = true := by kernel_rfl
theorem A3y : Az3 Anw = (⟨(Auh 8 0 (nodeS Anw)).toArray⟩, 0) := by
 unfold Az3 A55
 have hl := A1p
 rw [Bool.and_eq_true] at hl
 rw [A57, cond_true, A70, A9x, A59, Az4 _ _ _ A58, hl.1]
 rfl
theorem A9y : Adj std = some true := by
 unfold Adj
 have h1 : Aie std (Config.mk [] (Route.mk (ByteArray.mk (Array.mk [111, 112, 115])) [] [] 0 1 1 [] false []) [ByteArray.mk (Array.mk [111, 112, 115])] [] []) = some (⟨(Auh 8 0 (nodeS Anw)).toArray⟩, 0) := (Asr Anw A9w).trans (congrArg some A3y)
 have hl := A1p
 have c1 := A71
 have c2 := A72
 rw [h1, bd_some]
 generalize Auh 8 0 (nodeS Anw) = T at hl c1 c2
 rw [Bool.and_eq_true, decide_eq_true_eq, decide_eq_true_eq] at hl
 have hs : (ByteArray.mk T.toArray).size = T.length := by rw [Acb, Aaq]
 have e0 : std.and (std.cmp .eql ((ByteArray.mk T.toArray, (0 : Int)) : ByteArray × Int).2 0) (std.cmp .gtr (std.slen ((ByteArray.mk T.toArray, (0 : Int)) : ByteArray × Int).1) 30) = true := by
  rw [s_land, s_gtr, s_slen, hs, s_eql]
  simp; omega
 have e1 : ∀ t : List UInt8, Lib.contains T t = true → strings_Contains std ((ByteArray.mk T.toArray, (0 : Int)) : ByteArray × Int).1 (ByteArray.mk (Array.mk t)) = some true := fun t ht => by
  unfold strings_Contains
  rw [ck_t (by rw [hs]; omega)]
  show some (Lib.contains (bytes (ByteArray.mk T.toArray)) t) = _
  rw [Aaq, ht]
 rw [e0, gd_t, e1 _ c1, bd_some]
 show (bd (gd false true _) fun w3 => _) = _
 rw [gd_t, e1 _ c2, bd_some]
 rfl
theorem Az5 : ∀ (n : Nat) (r : Route) (m : Int), SizeOf.sizeOf r < n → RouteFit r → ∃ v, Ab6 std n r m = some v
 | 0, r, m, h, _ => absurd h (Nat.not_lt_zero _)
 | n + 1, r, m, h, hf => by
  obtain ⟨_, _, _, _, h5, h6⟩ := Azq hf
  rw [Ab6, Agh]
  refine ⟨_, Ach (B := Aei std (Ab6 std n) r m) (fun i (s : Int) => (s, (i : Int))) r.Routes (fun _ k s => if decide (m < s) = true then (.inr s : Int ⊕ Int) else .inl (std.ar .add .i64 s ((Ab6 std n k (std.ar .sub .i64 m s)).getD 0))) (fun s => s) (fun i k s hk hi => ?_) (fun s => ?_) 1⟩
  ·unfold Aei
   simp only
   obtain ⟨v, hv⟩ := Az5 n k (std.ar .sub .i64 m s) (by have := Am4 (Abv hk); omega) (h6 k (Abv hk))
   rw [Aab, lssT hi, br_true, ck_t (inbT hi), Aai (t := TyS.route) hk, s_gtr, hv, bd_some, s_add (a := (i : Int)), wrap_succ hi h5]
   cases decide (m < s) <;> rfl
  ·unfold Aei
   simp only
   rw [Aab, lssF, br_false]
   rfl
theorem A9z (c : Config) (h : Ad3 c) : ∃ b, Af5 std c = some b ∧ (b = false → Small c) := by
 unfold Af5
 obtain ⟨v, hv⟩ := Az5 (SizeOf.sizeOf c.Route + 1) c.Route 40 (Nat.lt_succ_self _) h.2.1
 unfold Aiy
 rw [hv, bd_some]
 refine ⟨_, rfl, fun hb => ?_⟩
 simp only [s_lor, s_gtr, Bool.or_eq_false_iff, decide_eq_false_iff_not, s_len] at hb
 exact ⟨by omega, by omega, by omega, by omega⟩
end Go.PL
namespace Go.PL
set_option linter.unusedSimpArgs false
set_option linter.unusedVariables false
set_option linter.unusedSectionVars false
open Tys (Ty U)
open Enc (sz enc dflt tb ofB toB)
open Dec (dec dok)
set_option maxRecDepth 100000
def putL (c : UInt8) (new : List UInt8) (s : List UInt8) : List UInt8 := (s.map fun b => if b = c then new else [b]).flatten
theorem Atr (c : UInt8) (new : List UInt8) : ∀ (s : List UInt8) (k : Nat), s.count c ≤ k → Lib.replaceK [c] new k s = putL c new s
 | [], 0, _ => rfl
 | [], k + 1, _ => rfl
 | b :: s, k, h => by
  have hp : putL c new (b :: s) = (if b = c then new else [b]) ++ putL c new s := by simp [putL]
  rw [hp]
  by_cases hb : b = c
  ·subst hb
   rw [if_pos rfl]
   rw [List.count_cons_self] at h
   obtain ⟨k, rfl⟩ : ∃ j, k = j + 1 := ⟨k - 1, by omega⟩
   rw [Lib.replaceK_hit [b] new k (b :: s) 0 (by rw [Lib.index_one]; simp [Lib.indexByte])]
   show [] ++ new ++ Lib.replaceK [b] new k s = _
   rw [Atr b new s k (by omega)]
   rfl
  ·rw [if_neg hb]
   rw [List.count_cons_of_ne (by simpa using hb)] at h
   have ih := Atr c new s k h
   cases k with
   | zero =>
    have ih' : s = putL c new s := ih
    show b :: s = [b] ++ putL c new s
    rw [← ih']; rfl
   | succ k =>
    have hge := Lib.indexByte_ge s c
    have hib : Lib.indexByte (b :: s) c = if Lib.indexByte s c == -1 then -1 else Lib.indexByte s c + 1 := by
     simp only [Lib.indexByte]
     rw [if_neg (by simpa using hb)]
    by_cases hi : Lib.indexByte s c = -1
    ·have e1 : Lib.replaceK [c] new (k + 1) s = s := by
      rw [Lib.replaceK, Lib.index_one, hi]; rfl
     have e2 : Lib.replaceK [c] new (k + 1) (b :: s) = b :: s := by
      rw [Lib.replaceK, Lib.index_one, hib, hi]; rfl
     rw [e2, ← ih, e1]; rfl
    ·obtain ⟨i, hi2⟩ : ∃ i : Nat, Lib.indexByte s c = (i : Int) := ⟨(Lib.indexByte s c).toNat, by omega⟩
     have e1 := Lib.replaceK_hit [c] new k s i (by rw [Lib.index_one, hi2])
     have e2 := Lib.replaceK_hit [c] new k (b :: s) (i + 1) (by
      rw [Lib.index_one, hib, hi2, if_neg (by simp)]; rfl)
     rw [e2, ← ih, e1]
     simp only [List.take_succ_cons, List.length_singleton, List.cons_append, List.nil_append, List.append_assoc]
     rfl
theorem Aui (c : UInt8) (new s : List UInt8) (h : ([c] == new) = false) : Lib.replaceAll s [c] new = putL c new s := by
 unfold Lib.replaceAll Lib.replace Lib.replaceNum
 rw [h, if_neg (by simp), if_pos (.inl (by omega))]
 exact Atr c new s _ (by rw [Lib.count_one]; exact Nat.le_refl _)
def escL (s : List UInt8) : List UInt8 := (s.map fun b => if b = 34 ∨ b = 92 then [92, b] else [b]).flatten
theorem Bdv (s : List UInt8) : putL 34 [92, 34] (putL 92 [92, 92] s) = escL s := by
 induction s with
 | nil => rfl
 | cons b s ih =>
  have app : ∀ x y : List UInt8, putL 34 [92, 34] (x ++ y) = putL 34 [92, 34] x ++ putL 34 [92, 34] y := fun x y => by simp [putL]
  have e1 : putL 92 [92, 92] (b :: s) = (if b = 92 then [92, 92] else [b]) ++ putL 92 [92, 92] s := by simp [putL]
  have e2 : escL (b :: s) = (if b = 34 ∨ b = 92 then [92, b] else [b]) ++ escL s := by simp [escL]
  rw [e1, app, ih, e2]
  congr 1
  by_cases h1 : b = 92
  ·subst h1; rfl
  ·rw [if_neg h1]
   by_cases h2 : b = 34
   ·subst h2; rfl
   ·rw [if_neg (by rintro (h | h); exact h2 h; exact h1 h)]
    simp [putL, h2]
theorem Bdg (s : List UInt8) : (escL s).length ≤ 2 * s.length := by
 induction s with
 | nil => simp [escL]
 | cons b s ih =>
  have e2 : escL (b :: s) = (if b = 34 ∨ b = 92 then [92, b] else [b]) ++ escL s := by simp [escL]
  rw [e2, List.length_append, List.length_cons]
  split <;> simp <;> omega
def A6a (s : ByteArray) : Bool := (bytes s).all oplC && decide (1 ≤ s.size) && !decide ((bytes s).head? = some 45)
def A81 (s : ByteArray) : List UInt8 := if A6a s = true then bytes s else [34] ++ escL (bytes s) ++ [34]
theorem Bb7 (s : ByteArray) (h : 1 ≤ s.size) : std.cmp .neq (std.sget s 0) 45 = !decide ((bytes s).head? = some 45) := by
 obtain ⟨c, hc⟩ := Al8 (xs := bytes s) (i := 0) (by rw [Aae]; omega)
 have hg : std.sget s 0 = (c.toNat : Int) := Apj (i := 0) hc
 have hh : (bytes s).head? = some c := by rw [List.head?_eq_getElem?]; exact hc
 rw [hg, hh, s_neq, Bool.eq_iff_iff]
 have : c = 45 ↔ c.toNat = 45 := by rw [← UInt8.toNat_inj]; rfl
 simp only [bne_iff_ne, Bool.not_eq_true', decide_eq_false_iff_not, Option.some.injEq]
 rw [this]; omega
theorem A90 (s : ByteArray) (hs : s.size ≤ 200) : bytes (Aob s) = A81 s := by
 have key : Ad1 std s = some ⟨(A81 s).toArray⟩ := by
  have hcn : Aaa std (std.s2b s) (fun y0 => Acu std y0) = some (!(bytes s).all oplC) := by
   rw [Avj, Ahl _ (fun c => !oplC c) _ (fun c _ => by
    unfold Acu
    rw [Ass, bd_some, s_not]) (by rw [Aae]; unfold big63; omega), Aij]
  have hr1 : strings_ReplaceAll std s (ByteArray.mk (Array.mk [92])) (ByteArray.mk (Array.mk [92, 92])) = some ⟨(putL 92 [92, 92] (bytes s)).toArray⟩ := by
   obtain ⟨a, ha, _⟩ := Anv s (ByteArray.mk (Array.mk [92])) (ByteArray.mk (Array.mk [92, 92])) (by decide) rfl (by omega)
   rw [ha]
   unfold strings_ReplaceAll at ha
   obtain ⟨_, ha⟩ := ck_e ha
   rw [← ha]
   exact congrArg (fun l : List UInt8 => some (ByteArray.mk l.toArray)) (Aui 92 [92, 92] (bytes s) rfl)
  have hp1 : (⟨(putL 92 [92, 92] (bytes s)).toArray⟩ : ByteArray).size ≤ 400 := by
   obtain ⟨a, ha, la⟩ := Anv s (ByteArray.mk (Array.mk [92])) (ByteArray.mk (Array.mk [92, 92])) (by decide) rfl (by omega)
   rw [hr1] at ha
   have hh : (putL 92 [92, 92] (bytes s)).length ≤ 2 * (bytes s).length := by
    generalize bytes s = l
    induction l with
    | nil => simp [putL]
    | cons b l ih =>
     have e1 : putL 92 [92, 92] (b :: l) = (if b = 92 then [92, 92] else [b]) ++ putL 92 [92, 92] l := by simp [putL]
     rw [e1, List.length_append, List.length_cons]
     split <;> simp <;> omega
   rw [Acb, Aaq]
   rw [Aae] at hh; omega
  have hr2 : strings_ReplaceAll std ⟨(putL 92 [92, 92] (bytes s)).toArray⟩ (ByteArray.mk (Array.mk [34])) (ByteArray.mk (Array.mk [92, 34])) = some ⟨(escL (bytes s)).toArray⟩ := by
   obtain ⟨a, ha, _⟩ := Anv ⟨(putL 92 [92, 92] (bytes s)).toArray⟩ (ByteArray.mk (Array.mk [34])) (ByteArray.mk (Array.mk [92, 34])) (by decide) rfl (by omega)
   rw [ha]
   unfold strings_ReplaceAll at ha
   obtain ⟨_, ha⟩ := ck_e ha
   rw [← ha]
   have := Aui 34 [92, 34] (bytes ⟨(putL 92 [92, 92] (bytes s)).toArray⟩) rfl
   rw [Aaq, Bdv] at this
   refine congrArg (fun l : List UInt8 => some (ByteArray.mk l.toArray)) (Eq.trans ?_ this)
   exact congrArg (fun l => Lib.replaceAll l [34] [92, 34]) (Aaq _)
  unfold Ad1
  rw [ck_t (vc_of fun h => by
   rw [Avh, Aix, decide_eq_true_eq] at h
   show (0 : Int) ≤ 0 ∧ (0 : Int) < (s.size : Int)
   omega), hcn, hr1, Avh, Aix]
  have esz : (⟨(escL (bytes s)).toArray⟩ : ByteArray).size ≤ 400 := by
   have := Bdg (bytes s)
   rw [Aae] at this
   rw [Acb, Aaq]; omega
  have hfin : (bd (some (⟨(putL 92 [92, 92] (bytes s)).toArray⟩ : ByteArray)) fun w3 => bd (strings_ReplaceAll std w3 (ByteArray.mk (Array.mk [34])) (ByteArray.mk (Array.mk [92, 34]))) fun w4 => ck (std.catOk (ByteArray.mk (Array.mk [34])) w4) <| ck (std.catOk (std.cat (ByteArray.mk (Array.mk [34])) w4) (ByteArray.mk (Array.mk [34]))) <| some (std.cat (std.cat (ByteArray.mk (Array.mk [34])) w4) (ByteArray.mk (Array.mk [34])))) = some ⟨([34] ++ escL (bytes s) ++ [34]).toArray⟩ := by
   have q1 : (ByteArray.mk (Array.mk [34])).size = 1 := rfl
   rw [bd_some, hr2, bd_some, s_cat, s_cat, ck_t (show std.catOk _ _ by rw [Aa5, q1]; omega), ck_t (show std.catOk _ _ by rw [Aa5, ByteArray.size_append, q1]; omega)]
   rfl
  rw [hfin]
  unfold A81 A6a
  by_cases h1 : 1 ≤ s.size
  ·rw [decide_eq_true h1, Bb7 s h1, s_land, Bool.true_and, Bool.and_true]
   cases hh : decide ((bytes s).head? = some 45) with
   | true => rw [Bool.not_true, gd_f, bd_some, Bool.and_false, if_neg (by simp)]; rfl
   | false =>
    rw [Bool.not_false, gd_t, bd_some, Bool.and_true]
    cases (bytes s).all oplC with
    | true => rw [if_pos rfl, mkb]; rfl
    | false => rw [if_neg (by simp)]; rfl
  ·rw [decide_eq_false h1, s_land, Bool.false_and, gd_f, bd_some, Bool.and_false, Bool.false_and, if_neg (by simp)]
   rfl
 unfold Aob
 rw [key]
 exact Aaq _
theorem A6b (c : UInt8) : Agx std (c.toNat : Int) = some (wordC c) := Ak6 c
theorem A6c (s : ByteArray) (hs : s.size ≤ 200) : Aez std s = some (A6a s) := by
 unfold Aez A6a
 have hfin : std.and (std.cmp .gtr (std.slen s) 0) (std.cmp .neq (std.sget s 0) 45) = (decide (1 ≤ s.size) && !decide ((bytes s).head? = some 45)) := by
  rw [s_land, s_gtr, s_slen]
  by_cases h1 : 1 ≤ s.size
  ·rw [Bb7 s h1, decide_eq_true h1, decide_eq_true (show (0 : Int) < s.size by omega)]
  ·rw [decide_eq_false h1, decide_eq_false (show ¬ (0 : Int) < s.size by omega)]; rfl
 rw [Loop_bytes (B := Akn std s) (fun i => i) s (by unfold big63; omega) (fun _ c => oplC c) (decide (1 ≤ s.size) && !decide ((bytes s).head? = some 45)) _ _ (fun i => rfl) (fun i c hc hi => by
  rw [Apj hc, A6b, bd_some]
  have e : std.and (std.and (std.and (std.and (std.and (std.not (wordC c)) (std.or (std.cmp .lss (c.toNat : Int) 65) (std.cmp .gtr (c.toNat : Int) 90))) (std.cmp .neq (c.toNat : Int) 45)) (std.cmp .neq (c.toNat : Int) 46)) (std.cmp .neq (c.toNat : Int) 47)) (std.cmp .neq (c.toNat : Int) 58) = !oplC c := by
   rw [Bool.eq_iff_iff]; simp [oplC, wordC, lowC, upC, digC, barC, inC]; omega
  rw [e]; cases oplC c <;> rfl) (congrArg some hfin), Ahm, Bool.and_assoc]
end Go.PL
namespace Go.PL
set_option linter.unusedSimpArgs false
set_option linter.unusedVariables false
set_option linter.unusedSectionVars false
open Tys (Ty U)
open Enc (sz enc dflt tb ofB toB)
open Dec (dec dok)
set_option maxRecDepth 100000
theorem Bea (c : UInt8) : std.u8ok (c.toNat : Int) ∧ std.u8 (c.toNat : Int) = c := by
 have := c.toNat_lt
 refine ⟨⟨by omega, by omega⟩, ?_⟩
 rw [s_u8, Int.toNat_natCast]
 exact UInt8.ofNat_toNat
theorem Bcz {s : List UInt8} {i : Nat} {c : UInt8} (h : s[i]? = some c) : escL (s.take (i + 1)) = escL (s.take i) ++ (if c = 34 ∨ c = 92 then [92, c] else [c]) := by
 unfold escL
 exact Al9 (fun b => if b = 34 ∨ b = 92 then [92, b] else [b]) h
theorem A6d (s : ByteArray) (hs : s.size ≤ 200) : Aco std s = some (Aob s) := by
 have hv := A90 s hs
 unfold Aco
 rw [A6c s hs, bd_some]
 unfold A81 at hv
 cases hp : A6a s with
 | true =>
  rw [hp, if_pos rfl] at hv
  rw [br_true, ba_ext hv]
 | false =>
  rw [hp, if_neg (by simp)] at hv
  rw [br_false]
  have hlen : ∀ i, (escL ((bytes s).take i)).length ≤ 400 := fun i => by
   have := Bdg ((bytes s).take i)
   rw [List.length_take, Aae] at this
   omega
  have := Ach (B := Aff std s) (fun i (_ : Unit) => ([34] ++ escL ((bytes s).take i), (i : Int))) (bytes s) (fun _ _ (_ : Unit) => (.inl () : Unit ⊕ ByteArray)) (fun _ => Aob s) (fun i c u hc hi => by
   have hli := hlen i
   obtain ⟨k1, k2⟩ := Bea c
   unfold Aff
   simp only
   rw [Atf, Apj hc, lssT hi, br_true, ck_t (inbT hi), ck_t (vc_of fun _ => inbT hi), s_add, wrap_succ hi (by rw [Aae]; unfold big63; omega), k2, Bcz hc]
   have e34 : std.cmp .eql (c.toNat : Int) 34 = decide (c = 34) := by
    rw [s_eql, Bool.eq_iff_iff]; simp [← UInt8.toNat_inj]; omega
   have e92 : std.cmp .eql (c.toNat : Int) 92 = decide (c = 92) := by
    rw [s_eql, Bool.eq_iff_iff]; simp [← UInt8.toNat_inj]; omega
   rw [e34, e92, s_lor]
   have o1 : ∀ x y : List UInt8, x.length ≤ 1000 → y.length ≤ 1000 → std.appOk TyS.byte 1 x y := fun x y hx hy => ⟨by omega, by omega⟩
   by_cases hq : c = 34 ∨ c = 92
   ·rw [if_pos hq, show (decide (c = 34) || decide (c = 92)) = true by simpa using hq, br_true, ck_t (o1 _ _ (by simp; omega) (by simp)), ck_t k1, ck_t (o1 _ _ (by rw [s_app]; simp; omega) (by simp)), s_app, s_app]
    simp only [List.append_assoc]
    rfl
   ·rw [if_neg hq, show (decide (c = 34) || decide (c = 92)) = false by simpa using hq, br_false, ck_t k1, ck_t (o1 _ _ (by simp; omega) (by simp)), s_app, List.append_assoc]) (fun _ => by
   have hli := hlen (bytes s).length
   unfold Aff
   simp only
   rw [Atf, lssF, br_false, List.take_length]
   rw [List.take_length] at hli
   rw [ck_t (show std.appOk TyS.byte 1 ([34] ++ escL (bytes s)) [_] from ⟨by simp; omega, by simp; omega⟩), A5n]
   show rt (some _) = _
   refine congrArg (fun x : ByteArray => (some (.inr x) : Option ((List UInt8 × Int) ⊕ ByteArray))) (ba_ext ?_)
   rw [Aaq, hv]
   rfl) ()
  rw [Aj4] at this
  exact this
theorem A1q {ε : Type} (rf : Node → Int → Option ByteArray) (X : Node) (k1 j1 : Int) (P : ByteArray) (d : Nat) (L : List UInt8) (hm : mayN d X = true) (hr : rf X k1 = some ⟨L.toArray⟩) (hl : P.size + L.length ≤ 95000000000000) :
  (br (std.cmp .eql X.1 1) (ck (std.catOk P (ByteArray.mk (Array.mk [32]))) <| bd (Aco std X.2) fun w7 => ck (std.catOk (std.cat P (ByteArray.mk (Array.mk [32]))) w7) <| ck (std.catOk (std.cat (std.cat P (ByteArray.mk (Array.mk [32]))) w7) (ByteArray.mk (Array.mk [10]))) <| bd (rf X k1) fun w10 => ck (std.catOk (std.cat (std.cat (std.cat P (ByteArray.mk (Array.mk [32]))) w7) (ByteArray.mk (Array.mk [10]))) w10) <| some (.inl ((std.cat (std.cat (std.cat (std.cat P (ByteArray.mk (Array.mk [32]))) w7) (ByteArray.mk (Array.mk [10]))) w10, j1)))) (br (std.and (std.cmp .eql (std.len TyS.node X.4) 0) (std.cmp .eql X.1 2)) (ck (std.catOk P (ByteArray.mk (Array.mk [32, 91, 93]))) <| ck (std.catOk (std.cat P (ByteArray.mk (Array.mk [32, 91, 93]))) (ByteArray.mk (Array.mk [10]))) <| bd (rf X k1) fun w14 => ck (std.catOk (std.cat (std.cat P (ByteArray.mk (Array.mk [32, 91, 93]))) (ByteArray.mk (Array.mk [10]))) w14) <| some (.inl ((std.cat (std.cat (std.cat P (ByteArray.mk (Array.mk [32, 91, 93]))) (ByteArray.mk (Array.mk [10]))) w14, j1)))) (br (std.cmp .eql (std.len TyS.node X.4) 0) (ck (std.catOk P (ByteArray.mk (Array.mk [32, 123, 125]))) <| ck (std.catOk (std.cat P (ByteArray.mk (Array.mk [32, 123, 125]))) (ByteArray.mk (Array.mk [10]))) <| bd (rf X k1) fun w18 => ck (std.catOk (std.cat (std.cat P (ByteArray.mk (Array.mk [32, 123, 125]))) (ByteArray.mk (Array.mk [10]))) w18) <| some (.inl ((std.cat (std.cat (std.cat P (ByteArray.mk (Array.mk [32, 123, 125]))) (ByteArray.mk (Array.mk [10]))) w18, j1)))) (ck (std.catOk P (ByteArray.mk (Array.mk [10]))) <| bd (rf X k1) fun w21 => ck (std.catOk (std.cat P (ByteArray.mk (Array.mk [10]))) w21) <| some (.inl ((std.cat (std.cat P (ByteArray.mk (Array.mk [10]))) w21, j1)))))) : Option ((ByteArray × Int) ⊕ ε)) = some (.inl (⟨(bytes P ++ bytes (Ae3 X) ++ [10] ++ L).toArray⟩, j1)) := by
 have q1 : (ByteArray.mk (Array.mk [32])).size = 1 := rfl
 have q3 : (ByteArray.mk (Array.mk [32, 91, 93])).size = 3 := rfl
 have q4 : (ByteArray.mk (Array.mk [32, 123, 125])).size = 3 := rfl
 have q10 : (ByteArray.mk (Array.mk [10])).size = 1 := rfl
 have qL : (ByteArray.mk L.toArray).size = L.length := by rw [Acb, Aaq]
 have hz : std.cmp .eql (std.len TyS.node X.4) 0 = decide (X.Items.length = 0) := by rw [Aab, s_eql, Bool.eq_iff_iff]; simp
 have fin : ∀ Q : ByteArray, bytes Q = bytes P ++ bytes (Ae3 X) ++ [10] ++ L → (some (.inl (Q, j1)) : Option ((ByteArray × Int) ⊕ ε)) = some (.inl (⟨(bytes P ++ bytes (Ae3 X) ++ [10] ++ L).toArray⟩, j1)) := fun Q hQ => by
  rw [show Q = ⟨(bytes P ++ bytes (Ae3 X) ++ [10] ++ L).toArray⟩ from ba_ext (by rw [hQ, Aaq])]
 rw [hr, hz]
 simp only [bd_some, s_cat]
 by_cases k : X.Kind = 1
 ·have hw : X.Word.size ≤ 200 := by
   cases d with
   | zero => cases hm
   | succ d =>
    simp only [mayN, if_pos k, Ako, Bool.and_eq_true, decide_eq_true_eq] at hm
    exact hm.1.1.2
  have hq := (A52 X.Word hw).2
  have hv : Ae3 X = ByteArray.mk (Array.mk [32]) ++ Aob X.Word := if_pos k
  rw [show std.cmp .eql X.1 1 = true by rw [s_eql]; simpa using k, br_true, A6d X.Word hw, bd_some]
  rw [ck_t (show std.catOk _ _ by rw [Aa5, q1]; omega), ck_t (show std.catOk _ _ by rw [Aa5]; simp only [ByteArray.size_append, q1]; omega), ck_t (show std.catOk _ _ by rw [Aa5]; simp only [ByteArray.size_append, q1, q10]; omega), ck_t (show std.catOk _ _ by rw [Aa5]; simp only [ByteArray.size_append, q1, q10, qL]; omega)]
  refine fin _ ?_
  rw [hv]
  simp only [Abm, Aaq, List.append_assoc]
 ·rw [show std.cmp .eql X.1 1 = false by rw [s_eql]; simpa using k, br_false, s_land]
  by_cases k0 : X.Items.length = 0
  ·rw [decide_eq_true k0, Bool.true_and]
   by_cases k2 : X.Kind = 2
   ·have hv : Ae3 X = ByteArray.mk (Array.mk [32, 91, 93]) := by unfold Ae3; rw [if_neg k, if_neg (by omega), if_pos k2]
    rw [show std.cmp .eql X.1 2 = true by rw [s_eql]; simpa using k2, br_true]
    rw [ck_t (show std.catOk _ _ by rw [Aa5, q3]; omega), ck_t (show std.catOk _ _ by rw [Aa5]; simp only [ByteArray.size_append, q3, q10]; omega), ck_t (show std.catOk _ _ by rw [Aa5]; simp only [ByteArray.size_append, q3, q10, qL]; omega)]
    refine fin _ ?_
    rw [hv]
    simp only [Abm, Aaq]
   ·have hv : Ae3 X = ByteArray.mk (Array.mk [32, 123, 125]) := by unfold Ae3; rw [if_neg k, if_neg (by omega), if_neg k2]
    rw [show std.cmp .eql X.1 2 = false by rw [s_eql]; simpa using k2, br_false, br_true]
    rw [ck_t (show std.catOk _ _ by rw [Aa5, q4]; omega), ck_t (show std.catOk _ _ by rw [Aa5]; simp only [ByteArray.size_append, q4, q10]; omega), ck_t (show std.catOk _ _ by rw [Aa5]; simp only [ByteArray.size_append, q4, q10, qL]; omega)]
    refine fin _ ?_
    rw [hv]
    simp only [Abm, Aaq]
  ·have hv : Ae3 X = ByteArray.mk (Array.mk []) := by unfold Ae3; rw [if_neg k, if_pos (by omega)]
   rw [decide_eq_false k0, Bool.false_and, br_false, br_false]
   rw [ck_t (show std.catOk _ _ by rw [Aa5, q10]; omega), ck_t (show std.catOk _ _ by rw [Aa5]; simp only [ByteArray.size_append, q10, qL]; omega)]
   refine fin _ ?_
   rw [hv]
   simp only [Abm, Aaq]
   show bytes P ++ [10] ++ L = bytes P ++ [] ++ [10] ++ L
   rw [List.append_nil]
theorem Auj : ∀ (n : Nat) (x : Node) (d k : Nat), SizeOf.sizeOf x < n → mayN d x = true → k + d ≤ 1000 → (Ag5 d k x).length ≤ 90000000000000 → Aak std n x (k : Int) = some ⟨(Ag5 d k x).toArray⟩
 | 0, x, d, k, h, _, _, _ => by omega
 | n + 1, x, d, k, h, hm, hk, hl => by
  cases d with
  | zero => cases hm
  | succ d =>
   have hfew := Bb2 hm
   rw [Aak, Af4]
   let f : Nat → Node → List UInt8 := fun i y => Lib.repeatL [32] (2 * k) ++ headL x i ++ bytes (Ae3 y) ++ [10] ++ Ag5 d (k + 1) y
   have := Ary (B := Aef std (Aak std n) x (k : Int)) (fun i (s : List UInt8) => ((⟨s.toArray⟩ : ByteArray), (i : Int))) x.Items (fun i y s => (.inl (s ++ f i y) : List UInt8 ⊕ ByteArray)) (fun s => ⟨s.toArray⟩) (fun i s => s.length + (Aof f i (x.Items.drop i)).length ≤ 90000000000000) (fun i y s hy hI => ?_) (fun s _ => ?_) [] (by rw [List.drop_zero, List.length_nil, Nat.zero_add]; exact hl)
   ·show Loop _ ((⟨([] : List UInt8).toArray⟩ : ByteArray), ((0 : Nat) : Int)) = _
    rw [this, Awv, List.nil_append]; rfl
   ·refine ⟨fun s' hs => ?_, fun e he => by cases he⟩
    cases hs
    have hi := Ae2 hy
    rw [Az1 _ hy] at hI
    have hfl : (f i y).length = (Lib.repeatL [32] (2 * k)).length + (headL x i).length + (bytes (Ae3 y)).length + 1 + (Ag5 d (k + 1) y).length := by
     simp only [f, List.length_append, List.length_singleton]
    rw [List.length_append, hfl] at hI
    have hrl := Lib.repeatL_length [32] (2 * k)
    simp only [List.length_singleton, Nat.mul_one] at hrl
    refine ⟨?_, by rw [List.length_append, hfl]; omega⟩
    have hmy := Azz hm y (Abv hy)
    have hrec : Aak std n y ((k + 1 : Nat) : Int) = some ⟨(Ag5 d (k + 1) y).toArray⟩ := Auj n y d (k + 1) (by have := A7y (Abv hy); omega) hmy (by omega) (by omega)
    have hadd : std.ar .add .i64 (k : Int) 1 = ((k + 1 : Nat) : Int) := wrap_succ (n := 2000) (by omega) (by unfold big63; omega)
    have hmul : std.ar .mul .i64 2 (k : Int) = ((2 * k : Nat) : Int) := by rw [s_mul, w64 (by omega)]; omega
    have q32 : (ByteArray.mk (Array.mk [32])).size = 1 := rfl
    have hend : Ac4 std (Aak std n) x (k : Int) (i : Int) (⟨(s ++ Lib.repeatL [32] (2 * k)).toArray⟩, ((2 * k : Nat) : Int)) = some (.inr (.inl (⟨(s ++ f i y).toArray⟩, ((i + 1 : Nat) : Int)))) := by
     unfold Ac4
     simp only [Aai (t := TyS.node) hy, hmul, hadd]
     rw [lssF, br_false, s_add, wrap_succ hi (by unfold big63; omega)]
     have zs : (ByteArray.mk (s ++ Lib.repeatL [32] (2 * k)).toArray).size = s.length + 2 * k := by rw [Acb, Aaq, List.length_append, hrl]
     by_cases k3 : x.Kind = 3
     ·have hh : headL x i = bytes (x.Names.getD i ⟨#[]⟩) ++ [58] := if_pos k3
      obtain ⟨l1, l2⟩ := Az0 hm k3
      obtain ⟨nm, hnm⟩ := Al8 (xs := x.Names) (i := i) (by omega)
      have hg : x.Names.getD i ⟨#[]⟩ = nm := get_at hnm
      have hnz := l2 nm (Abv hnm)
      rw [hh, hg, List.length_append, List.length_singleton, Aae] at hI
      have q58 : (ByteArray.mk (Array.mk [58])).size = 1 := rfl
      rw [show std.cmp .eql x.1 3 = true by rw [s_eql]; simpa using k3, br_true, ck_t (show std.inb (i : Int) (std.len TyS.str x.3) by rw [Aab]; exact inbT (by omega)), Aai (t := TyS.str) hnm, ck_t (show std.catOk _ nm by rw [Aa5, zs]; omega), ck_t (show std.catOk _ (ByteArray.mk (Array.mk [58])) by rw [Aa5, s_cat, ByteArray.size_append, zs, q58]; omega)]
      have ht := A1q (ε := ByteArray) (Aak std n) y ((k + 1 : Nat) : Int) ((i + 1 : Nat) : Int) (std.cat (std.cat ⟨(s ++ Lib.repeatL [32] (2 * k)).toArray⟩ nm) (ByteArray.mk (Array.mk [58]))) d (Ag5 d (k + 1) y) hmy hrec (by rw [s_cat, s_cat, ByteArray.size_append, ByteArray.size_append, zs, q58]; omega)
      rw [ht, Ba8]
      refine congrArg (fun l : List UInt8 => (some (.inr (.inl ((⟨l.toArray⟩ : ByteArray), ((i + 1 : Nat) : Int)))) : Option ((ByteArray × Int) ⊕ ((ByteArray × Int) ⊕ ByteArray)))) ?_
      rw [s_cat, s_cat, Abm, Abm, Aaq]
      simp only [f, hh, hg, List.append_assoc]
     ·have hh : headL x i = [45] := if_neg k3
      rw [hh, List.length_singleton] at hI
      have q45 : (ByteArray.mk (Array.mk [45])).size = 1 := rfl
      rw [show std.cmp .eql x.1 3 = false by rw [s_eql]; simpa using k3, br_false, ck_t (show std.catOk _ (ByteArray.mk (Array.mk [45])) by rw [Aa5, zs, q45]; omega)]
      have ht := A1q (ε := ByteArray) (Aak std n) y ((k + 1 : Nat) : Int) ((i + 1 : Nat) : Int) (std.cat ⟨(s ++ Lib.repeatL [32] (2 * k)).toArray⟩ (ByteArray.mk (Array.mk [45]))) d (Ag5 d (k + 1) y) hmy hrec (by rw [s_cat, ByteArray.size_append, zs, q45]; omega)
      rw [ht, Ba8]
      refine congrArg (fun l : List UInt8 => (some (.inr (.inl ((⟨l.toArray⟩ : ByteArray), ((i + 1 : Nat) : Int)))) : Option ((ByteArray × Int) ⊕ ((ByteArray × Int) ⊕ ByteArray)))) ?_
      rw [s_cat, Abm, Aaq]
      simp only [f, hh, List.append_assoc]
    have hsp := Ach (B := Ac4 std (Aak std n) x (k : Int) (i : Int)) (fun j (_ : Unit) => ((⟨(s ++ Lib.repeatL [32] j).toArray⟩ : ByteArray), (j : Int))) (List.range (2 * k)) (fun _ _ (_ : Unit) => (.inl () : Unit ⊕ ((ByteArray × Int) ⊕ ByteArray))) (fun _ => .inl (⟨(s ++ f i y).toArray⟩, ((i + 1 : Nat) : Int))) (fun j c u hc hj => by
     rw [List.length_range] at hj
     have hjl := Lib.repeatL_length [32] j
     simp only [List.length_singleton, Nat.mul_one] at hjl
     unfold Ac4
     simp only [hmul]
     rw [lssT hj, br_true, ck_t (show std.catOk _ (ByteArray.mk (Array.mk [32])) by rw [Aa5, q32, Acb, Aaq, List.length_append]; omega), s_add, wrap_succ hj (by unfold big63; omega)]
     refine congrArg (fun b : ByteArray => (some (.inl (b, ((j + 1 : Nat) : Int))) : Option ((ByteArray × Int) ⊕ ((ByteArray × Int) ⊕ ByteArray)))) (ba_ext ?_)
     rw [s_cat, Abm, Aaq, Aaq, Lib.repeatL_add, Lib.repeatL_one, List.append_assoc]) (fun _ => by
     rw [List.length_range]
     exact hend) ()
    rw [Aj4] at hsp
    have e0 : s ++ Lib.repeatL [32] 0 = s := List.append_nil s
    simp only [e0] at hsp
    unfold Aef
    simp only
    rw [Aab, lssT hi, br_true, ck_t (inbT hi)]
    exact hsp
   ·unfold Aef
    simp only
    rw [Aab, lssF, br_false]
    rfl
end Go.PL
namespace Go.PL
set_option linter.unusedSimpArgs false
set_option linter.unusedVariables false
set_option linter.unusedSectionVars false
open Tys (Ty U)
open Enc (sz enc dflt tb ofB toB)
open Dec (dec dok)
set_option maxRecDepth 100000
def bitB (d : Int) (j : Nat) : Bool := std.cmp .eql (std.ar .and .i64 (std.ar .shr .i64 d (j : Int)) 1) 1
def daysL (d : Int) : Nat → List ByteArray
 | 0 => []
 | i + 1 => daysL d i ++ (if bitB d i = true then [dayT i] else [])
theorem Aww (d : Int) : ∀ i, i ≤ 7 → (daysL d i).length ≤ i ∧ ∀ x ∈ daysL d i, x.size = 3
 | 0, _ => ⟨Nat.le_refl _, fun x hx => by cases hx⟩
 | i + 1, h => by
  obtain ⟨h1, h2⟩ := Aww d i (by omega)
  rw [daysL]
  split
  ·refine ⟨Bby _ h1, fun x hx => ?_⟩
   rcases List.mem_append.1 hx with hx | hx
   ·exact h2 x hx
   ·rw [List.mem_singleton.1 hx]; exact dayT_size i (by omega)
  ·rw [List.append_nil]; exact ⟨by omega, h2⟩
def comL : List ByteArray → List UInt8
 | [] => []
 | w :: r => bytes w ++ (r.map fun x => 44 :: bytes x).flatten
theorem Bc0 (ws : List ByteArray) : Lib.join (ws.map (·.data.toList)) [44] = comL ws := by
 cases ws with
 | nil => rfl
 | cons w r =>
  rw [List.map_cons, Lib.join_cons]
  simp only [comL, Lib.joinTail, List.map_map]
  rfl
theorem Bc1 (l : List ByteArray) (x : ByteArray) : comL (l ++ [x]) = if l = [] then bytes x else comL l ++ 44 :: bytes x := by
 cases l with
 | nil => simp [comL]
 | cons w r =>
  rw [if_neg (by simp)]
  simp [comL]
theorem A82 (l : List ByteArray) (h : ∀ x ∈ l, x.size = 3) : (comL l).length ≤ 4 * l.length := by
 cases l with
 | nil => simp [comL]
 | cons w r =>
  have h1 := h w (List.mem_cons_self ..)
  have h2 := A7r (fun x : ByteArray => 44 :: bytes x) 4 r fun x hx => by
   have := h x (List.mem_cons_of_mem _ hx)
   rw [List.length_cons, Aae]; omega
  simp only [comL, List.length_append, Aae, List.length_cons]
  omega
theorem Bdw (l : List ByteArray) (h : ∀ x ∈ l, x.size = 3) (hl : l ≠ []) : 1 ≤ (comL l).length := by
 cases l with
 | nil => exact absurd rfl hl
 | cons w r =>
  have h1 := h w (List.mem_cons_self ..)
  simp only [comL, List.length_append, Aae]
  omega
noncomputable def clk (n : Int) : ByteArray := (Ahu std n).getD ⟨#[]⟩
theorem Az6 (n : Int) (h0 : 0 ≤ n) (h1 : n ≤ 1440) : Ahu std n = some (clk n) ∧ (clk n).size = 5 := by
 obtain ⟨t, h2, h3⟩ := An9 n h0 h1
 have : clk n = t := by unfold clk; rw [h2]; rfl
 rw [this]; exact ⟨h2, h3⟩
noncomputable def A6e (h : Hours) : ByteArray := (⟨(comL (daysL h.Days 7)).toArray⟩ : ByteArray) ++ ByteArray.mk (Array.mk [32]) ++ clk h.From ++ ByteArray.mk (Array.mk [45]) ++ clk h.To
theorem A3z (h : Hours) (hs : hourS h = true) : Aj0 std h = some (A6e h, 0) := by
 have h0 := hs
 simp only [hourS, Bool.and_eq_true, decide_eq_true_eq] at h0
 obtain ⟨⟨⟨⟨⟨⟨_, _⟩, _⟩, f0⟩, f1⟩, f2⟩, t1⟩ := h0
 obtain ⟨ha, la⟩ := Az6 h.From f0 (by omega)
 obtain ⟨hb, lb⟩ := Az6 h.To (by omega) t1
 unfold Aj0
 rw [Aqt h, bd_some, hs, s_not, Bool.not_true, br_false]
 have := Ach (B := Aib std h) (fun i (_ : Unit) => (daysL h.Days i, (i : Int))) (List.range 7) (fun _ _ (_ : Unit) => (.inl () : Unit ⊕ (ByteArray × Int))) (fun _ => (A6e h, 0)) (fun i n u hx hi => by
  rw [List.length_range] at hi
  obtain ⟨hI, hz⟩ := Aww h.Days i (by omega)
  unfold Aib
  simp only
  rw [show std.cmp .lss (i : Int) 7 = true from lssT (n := 7) hi, br_true, ck_t (show std.inb (i : Int) (Int.ofNat 7) from inbT (n := 7) hi), ck_t (show std.nn (i : Int) by show (0 : Int) ≤ _; omega), s_add, wrap_succ (n := 7) hi (by unfold big63; omega), daysL]
  unfold bitB
  cases std.cmp .eql (std.ar .and .i64 (std.ar .shr .i64 h.Days (i : Int)) 1) 1 with
  | true =>
   rw [br_true, if_pos rfl]
   have hA : std.appOk TyS.str 16 (daysL h.Days i) [dayT i] := ⟨by simp; omega, by simp; omega⟩
   exact ck_t hA
  | false => rw [br_false, if_neg (by simp), List.append_nil]) (fun _ => by
  obtain ⟨hI, hz⟩ := Aww h.Days 7 (by omega)
  rw [List.length_range]
  unfold Aib
  simp only
  have hj := A82 (daysL h.Days 7) hz
  have hJ : strings_Join std (daysL h.Days 7) (ByteArray.mk (Array.mk [44])) = some ⟨(comL (daysL h.Days 7)).toArray⟩ := by
   unfold strings_Join
   have e : Lib.join ((daysL h.Days 7).map (·.data.toList)) (ByteArray.mk (Array.mk [44])).data.toList = comL (daysL h.Days 7) := Bc0 _
   rw [e]
   exact ck_t ⟨by omega, by omega⟩
  have jz : (ByteArray.mk (comL (daysL h.Days 7)).toArray).size ≤ 28 := by rw [Acb, Aaq]; omega
  have z1 : (ByteArray.mk (Array.mk [32])).size = 1 := rfl
  have z2 : (ByteArray.mk (Array.mk [45])).size = 1 := rfl
  rw [show std.cmp .lss ((7 : Nat) : Int) 7 = false from rfl, br_false, hJ, bd_some, s_cat, ck_t (show std.catOk _ _ by rw [Aa5, z1]; omega), ha, bd_some, s_cat, ck_t (show std.catOk _ _ by rw [Aa5, ByteArray.size_append, z1, la]; omega), s_cat, ck_t (show std.catOk _ _ by rw [Aa5, ByteArray.size_append, ByteArray.size_append, z1, z2, la]; omega), hb, bd_some, s_cat, ck_t (show std.catOk _ _ by rw [Aa5, ByteArray.size_append, ByteArray.size_append, ByteArray.size_append, z1, z2, la, lb]; omega)]
  rfl) ()
 rw [Aj4] at this
 exact this
theorem A1r (h : Hours) (hs : hourS h = true) : Azv h = A6e h := by
 unfold Azv
 rw [A3z h hs]
 rfl
theorem Bc2 : ((List.range 128).all fun d => (List.range 7).all fun i => bitB (d : Int) i == decide (d / 2 ^ i % 2 = 1)) = true := by kernel_rfl
theorem Beb (d i : Nat) (hd : d ≤ 127) (hi : i < 7) : bitB (d : Int) i = decide (d / 2 ^ i % 2 = 1) := by
 have := Bc2
 rw [List.all_eq_true] at this
 have h1 := this d (List.mem_range.2 (by omega))
 rw [List.all_eq_true] at h1
 simpa using h1 i (List.mem_range.2 hi)
theorem A91 (d i : Nat) (hd : d ≤ 127) (hi : i < 7) : Abu std (d : Int) (i : Int) = some (bitB (d : Int) i) := by
 unfold Abu
 have eq2 : ∀ q : Nat, q ≤ 127 → std.ar .quo .i64 (q : Int) 2 = ((q / 2 : Nat) : Int) := fun q hq => by
  rw [s_quo, tdiv0 (by omega), w64 (by omega)]; omega
 have er2 : ∀ q : Nat, std.cmp .eql (std.ar .rem .i64 (q : Int) 2) 1 = decide (q % 2 = 1) := fun q => by
  rw [s_rem, tmod0 (by omega), s_eql, Bool.eq_iff_iff]
  simp only [beq_iff_eq, decide_eq_true_eq]
  omega
 have := Ach (B := Ago std (i : Int)) (fun j (_ : Unit) => (((d / 2 ^ j : Nat) : Int), (j : Int))) (List.range i) (fun _ _ (_ : Unit) => (.inl () : Unit ⊕ Bool)) (fun _ => bitB (d : Int) i) (fun j n u hx hj => by
  rw [List.length_range] at hj
  unfold Ago
  simp only
  have hle : d / 2 ^ j ≤ d := Nat.div_le_self ..
  have e : std.ar .quo .i64 ((d / 2 ^ j : Nat) : Int) 2 = ((d / 2 ^ (j + 1) : Nat) : Int) := by
   rw [eq2 _ (by omega), Nat.pow_succ, ← Nat.div_div_eq_div_mul]
  rw [lssT hj, br_true, s_add, wrap_succ hj (by unfold big63; omega), e]) (fun _ => by
  rw [List.length_range]
  unfold Ago
  simp only
  rw [lssF, br_false, Beb d i hd hi, er2]
  rfl) ()
 rw [Aj4] at this
 have e0 : ((d / 2 ^ 0 : Nat) : Int) = (d : Int) := by simp
 simp only [e0] at this
 exact this
theorem A6f (n : Int) : Aey std n = Ahu std n := rfl
theorem A6g (h : Hours) (hs : hourS h = true) : Afk std h = some (Azv h) := by
 have h0 := hs
 simp only [hourS, Bool.and_eq_true, decide_eq_true_eq] at h0
 obtain ⟨⟨⟨⟨⟨⟨_, d1⟩, d2⟩, f0⟩, f1⟩, f2⟩, t1⟩ := h0
 obtain ⟨ha, la⟩ := Az6 h.From f0 (by omega)
 obtain ⟨hb, lb⟩ := Az6 h.To (by omega) t1
 obtain ⟨d, hd⟩ : ∃ d : Nat, h.Days = (d : Int) := ⟨h.Days.toNat, by omega⟩
 rw [A1r h hs]
 unfold Afk
 have := Ach (B := Af1 std h) (fun i (_ : Unit) => ((⟨(comL (daysL h.Days i)).toArray⟩ : ByteArray), (i : Int))) (List.range 7) (fun _ _ (_ : Unit) => (.inl () : Unit ⊕ ByteArray)) (fun _ => A6e h) (fun i n u hx hi => by
  rw [List.length_range] at hi
  obtain ⟨hI, hz⟩ := Aww h.Days i (by omega)
  have hl := A82 (daysL h.Days i) hz
  have hsz : (ByteArray.mk (comL (daysL h.Days i)).toArray).size = (comL (daysL h.Days i)).length := by rw [Acb, Aaq]
  have hday := dayT_size i hi
  have hset : Abu std h.2 (i : Int) = some (bitB h.Days i) := by
   show Abu std h.Days (i : Int) = _
   rw [hd]; exact A91 d i (by omega) hi
  have hget : std.get TyS.str [ByteArray.mk (Array.mk [109, 111, 110]), ByteArray.mk (Array.mk [116, 117, 101]), ByteArray.mk (Array.mk [119, 101, 100]), ByteArray.mk (Array.mk [116, 104, 117]), ByteArray.mk (Array.mk [102, 114, 105]), ByteArray.mk (Array.mk [115, 97, 116]), ByteArray.mk (Array.mk [115, 117, 110])] (i : Int) = dayT i := by
   have : i = 0 ∨ i = 1 ∨ i = 2 ∨ i = 3 ∨ i = 4 ∨ i = 5 ∨ i = 6 := by omega
   rcases this with rfl | rfl | rfl | rfl | rfl | rfl | rfl <;> rfl
  have hinb : std.inb (i : Int) (std.len TyS.str [ByteArray.mk (Array.mk [109, 111, 110]), ByteArray.mk (Array.mk [116, 117, 101]), ByteArray.mk (Array.mk [119, 101, 100]), ByteArray.mk (Array.mk [116, 104, 117]), ByteArray.mk (Array.mk [102, 114, 105]), ByteArray.mk (Array.mk [115, 97, 116]), ByteArray.mk (Array.mk [115, 117, 110])]) := inbT (n := 7) hi
  have q1 : (ByteArray.mk (Array.mk [44])).size = 1 := rfl
  unfold Af1
  simp only [hset, hget, bd_some]
  rw [show std.cmp .lss (i : Int) 7 = true from lssT (n := 7) hi, br_true, s_add, wrap_succ (n := 7) hi (by unfold big63; omega), daysL]
  have hne : std.scmp .neq (ByteArray.mk (comL (daysL h.Days i)).toArray) (ByteArray.mk (Array.mk [])) = !decide (daysL h.Days i = []) := by
   rw [Avh, Aix, hsz]
   by_cases hn : daysL h.Days i = []
   ·rw [hn]; rfl
   ·have := Bdw _ hz hn
    rw [decide_eq_true this, decide_eq_false hn]; rfl
  rw [hne, s_land]
  cases bitB h.Days i with
  | false =>
   rw [Bool.false_and, br_false, br_false, if_neg (by simp), List.append_nil]
  | true =>
   rw [Bool.true_and, if_pos rfl, Bc1, br_true]
   by_cases hn : daysL h.Days i = []
   ·rw [decide_eq_true hn, Bool.not_true, br_false, if_pos hn, br_true, ck_t hinb, ck_t (show std.catOk _ (dayT i) by rw [Aa5, hsz]; omega), hn]
    refine congrArg (fun b : ByteArray => (some (.inl (b, ((i + 1 : Nat) : Int))) : Option ((ByteArray × Int) ⊕ ByteArray))) (ba_ext ?_)
    rw [s_cat, Abm, Aaq, Aaq]; rfl
   ·rw [decide_eq_false hn, Bool.not_false, br_true, if_neg hn, ck_t (show std.catOk _ (ByteArray.mk (Array.mk [44])) by rw [Aa5, hsz, q1]; omega), ck_t hinb, ck_t (show std.catOk _ (dayT i) by rw [Aa5, s_cat, ByteArray.size_append, hsz, q1]; omega)]
    refine congrArg (fun b : ByteArray => (some (.inl (b, ((i + 1 : Nat) : Int))) : Option ((ByteArray × Int) ⊕ ByteArray))) (ba_ext ?_)
    rw [s_cat, s_cat, Abm, Abm, Aaq, Aaq, List.append_assoc]; rfl) (fun _ => by
  obtain ⟨hI, hz⟩ := Aww h.Days 7 (by omega)
  have hl := A82 (daysL h.Days 7) hz
  have hsz : (ByteArray.mk (comL (daysL h.Days 7)).toArray).size = (comL (daysL h.Days 7)).length := by rw [Acb, Aaq]
  have z1 : (ByteArray.mk (Array.mk [32])).size = 1 := rfl
  have z2 : (ByteArray.mk (Array.mk [45])).size = 1 := rfl
  rw [List.length_range]
  unfold Af1
  simp only [A6f]
  rw [show std.cmp .lss ((7 : Nat) : Int) 7 = false from rfl, br_false, s_cat, ck_t (show std.catOk _ _ by rw [Aa5, z1, hsz]; omega), ha, bd_some, s_cat, ck_t (show std.catOk _ _ by rw [Aa5, ByteArray.size_append, z1, la, hsz]; omega), s_cat, ck_t (show std.catOk _ _ by rw [Aa5, ByteArray.size_append, ByteArray.size_append, z1, z2, la, hsz]; omega), hb, bd_some, s_cat, ck_t (show std.catOk _ _ by rw [Aa5, ByteArray.size_append, ByteArray.size_append, ByteArray.size_append, z1, z2, la, lb, hsz]; omega)]
  rfl) ()
 rw [Aj4] at this
 exact this
end Go.PL
namespace Go.PL
set_option linter.unusedSimpArgs false
set_option linter.unusedVariables false
set_option linter.unusedSectionVars false
open Tys (Ty U)
open Enc (sz enc dflt tb ofB toB)
open Dec (dec dok)
set_option maxRecDepth 100000
theorem Ats (l : List Matcher) (h : Aav l = true) : Acn std l = some (shortS l) := by
 simp only [Aav, Bool.and_eq_true, List.all_eq_true, decide_eq_true_eq] at h
 unfold Acn shortS
 have := Ack (t := TyS.matcher) (B := Akk std l) (fun i => i) l (by unfold big63; omega) (fun _ m => A1m m) true _ _ (fun i => rfl) (fun i m hm hi => by
  rw [Aai (t := TyS.matcher) hm, Au3 m (Ajs (h.1 m (Abv hm))), bd_some, s_gtr, s_slen, Ais]
  show br (!decide (((textS m).size : Int) ≤ ((200 : Nat) : Int))) _ _ = _
  rw [leN]
  unfold A1m
  cases decide ((textS m).size ≤ 200) <;> rfl) (fun _ => rfl) (fun _ => ⟨_, rfl⟩)
 rw [Ahm, Bool.and_true] at this
 exact this
theorem Av2 : ∀ (n : Nat) (r : Route) (d e : Nat), SizeOf.sizeOf r < n → Ab1 e r = true → d ≤ 100 → Ac6 std n r (d : Int) = some (flatS d r)
 | 0, r, d, e, h, _, _ => by omega
 | n + 1, r, d, e, h, hs, hd => by
  obtain ⟨e, rfl⟩ := Atw hs
  have hk := Aft hs
  have h1 : oneS r = true := by simp only [Ab1, Bool.and_eq_true] at hs; exact hs.1
  have hm : Aav r.Match = true := by
   simp only [oneS, Bool.and_eq_true] at h1
   exact h1.1.1.1.1.1.1.2
  rw [Ac6, Agn]
  cases d with
  | zero => rfl
  | succ d =>
   rw [show std.cmp .eql ((d + 1 : Nat) : Int) 0 = false by rw [s_eql]; simp; omega, s_not, Bool.not_false, gd_t, Ats r.Match hm, bd_some, s_lor, Bool.false_or, s_not]
   simp only [flatS]
   cases shortS r.Match with
   | false => rfl
   | true =>
    rw [Bool.not_true, br_false, Bool.true_and]
    have := Ack (t := TyS.route) (B := Ajp std (Ac6 std n) r ((d + 1 : Nat) : Int)) (fun i => i) r.Routes (by have := hk.1; unfold big63; omega) (fun _ k => flatS d k) true _ _ (fun i => rfl) (fun i k hkk hi => by
     have hk' := Abv hkk
     rw [Aai (t := TyS.route) hkk, show std.ar .sub .i64 ((d + 1 : Nat) : Int) 1 = (d : Int) by rw [s_sub, w64 (by omega)]; omega, Av2 n k d e (by have := Am4 hk'; omega) (hk.2 k hk') (by omega), bd_some]
     cases flatS d k <;> rfl) (fun _ => rfl) (fun _ => ⟨_, rfl⟩)
    rw [Ahm, Bool.and_true] at this
    exact this
theorem A6h (c : Config) (h : Ad3 c) (hs : c.Hours.length ≤ 18) : Adp std c = some (holdsA c) := by
 unfold Adp
 show (bd (Ado std (bareC c)) fun w1 => _) = _
 rw [A3g _ (Aya h) (by show (0 : Nat) ≤ 1000; omega) (by show c.Hours.length ≤ 1000; omega), bd_some]
 unfold holdsA
 cases hb : Ai1 (bareC c) with
 | false => rfl
 | true =>
  have ok := Amv hb
  have ht : Ab1 4 c.Route = true := by
   have := ok.top
   simp only [topS, Bool.and_eq_true] at this
   exact this.1.1.1
  have hi : ∀ x ∈ c.Inhibits, Aa4 x = true := ok.inh.2
  have e3 : Ai0 std c.2 3 = some (flatS 3 c.Route) := Av2 _ c.Route 3 4 (Nat.lt_succ_self _) ht (by omega)
  rw [s_not, s_not, Bool.not_true, Bool.not_false, gd_t, e3, bd_some, s_lor, Bool.false_or, s_not, Bool.true_and]
  cases flatS 3 c.Route with
  | false => rfl
  | true =>
   rw [Bool.not_true, br_false, Bool.true_and]
   have := Ack (t := TyS.inhibit) (B := Akl std c) (fun i => i) c.Inhibits h.2.2.2.1.1 (fun _ x => Azs x) true _ _ (fun i => rfl) (fun i x hx hi' => by
    have hx1 := hi x (Abv hx)
    simp only [Aa4, Bool.and_eq_true] at hx1
    rw [Aai (t := TyS.inhibit) hx, Ats x.1 hx1.2.1.2, bd_some, gd_b (fun _ => Ats x.2 hx1.2.2), bd_some]
    unfold Azs
    simp only [s_lor, s_not]
    cases shortS x.1 <;> cases shortS x.2 <;> rfl) (fun _ => rfl) (fun _ => ⟨_, rfl⟩)
   rw [Ahm, Bool.and_true] at this
   exact this
theorem Ajt (l : List ByteArray) (h : l.length ≤ 1000) : Aa0 std l = some (rowN (l.map wordN)) :=
 A1n (t := .str) (Akm std l) l (fun y => Aac std y) wordN (fun i b => rfl) (fun m hm => rfl) h
theorem Am5 (l : List Matcher) (h : Aav l = true) : Abf std l = some (rowN (l.map Ark)) := by
 simp only [Aav, Bool.and_eq_true, List.all_eq_true, decide_eq_true_eq] at h
 unfold Abf
 have := Ach (B := Aec std l) (fun i (_ : Unit) => ((l.take i).map textS, (i : Int))) l (fun _ _ (_ : Unit) => (.inl () : Unit ⊕ Node)) (fun _ => rowN (l.map Ark)) (fun i m u hm hi => by
  unfold Aec
  simp only
  rw [Aab, lssT hi, br_true, ck_t (inbT hi), Aai (t := TyS.matcher) hm, Au3 m (Ajs (h.1 m (Abv hm))), bd_some, ck_t (show std.appOk TyS.str 16 ((l.take i).map textS) [textS m] from ⟨by simp; omega, by simp; omega⟩), s_add, wrap_succ hi (by unfold big63; omega), take_snoc hm, List.map_append]
  rfl) (fun _ => by
  unfold Aec
  simp only
  rw [Aab, lssF, br_false, List.take_length, Ajt _ (by rw [List.length_map]; omega), bd_some, List.map_map]
  rfl) ()
 rw [Aj4] at this
 exact this
theorem Awx (n : Int) (h0 : 0 ≤ n) (h1 : n ≤ 1099511627776) : strconv_Itoa std n = some ⟨(Lib.itoa n).toArray⟩ := by
 unfold strconv_Itoa
 exact ck_t ⟨by omega, by omega⟩
theorem Auk : ∀ (n : Nat) (r : Route) (d : Nat), SizeOf.sizeOf r < n → Ab1 d r = true → Abg std n r = some (Ag9 d r)
 | 0, r, d, h, _ => by omega
 | n + 1, r, d, h, hs => by
  obtain ⟨d, rfl⟩ := Atw hs
  have hk := Aft hs
  have h1 : oneS r = true := by simp only [Ab1, Bool.and_eq_true] at hs; exact hs.1
  simp only [oneS, Ap9, fromS, Bool.and_eq_true, decide_eq_true_eq] at h1
  obtain ⟨⟨⟨⟨⟨⟨⟨_, m1⟩, m2⟩, _, m3⟩, _, m4⟩, w1, w2⟩, e1, e2⟩, p1, p2⟩ := h1
  rw [Abg, Af2]
  have hrec : ∀ k ∈ r.Routes, Abg std n k = some (Ag9 d k) := fun k hk' => Auk n k d (by have := Am4 hk'; omega) (hk.2 k hk')
  have hkl := hk.1
  cases ho : r.8 with
  | true =>
   rw [br_true]
   have := Ach (B := Aed std (Abg std n) r) (fun i (_ : Unit) => ((i : Int), (r.Routes.take i).map (Ag9 d))) r.Routes (fun _ _ (_ : Unit) => (.inl () : Unit ⊕ Node)) (fun _ => Ag9 (d + 1) r) (fun i k u hkk hi => by
    unfold Aed
    simp only
    rw [Aab, lssT hi, br_true, ck_t (inbT hi), Aai (t := TyS.route) hkk, hrec k (Abv hkk), bd_some, Aot, ck_t (show std.appOk TyS.node 72 ((r.Routes.take i).map (Ag9 d)) [Ag9 d k] from ⟨by simp; omega, by simp; omega⟩), s_add, wrap_succ hi (by unfold big63; omega), take_snoc hkk, List.map_append]
    rfl) (fun _ => by
    unfold Aed Aac
    simp only
    rw [Aab, lssF, br_false, List.take_length, Am5 r.2 m1, Ajt r.3 (by omega), Ajt r.7 (by omega), Awx r.4 w1 w2, Awx r.5 (by omega) e2, Awx r.6 (by omega) p2]
    simp only [bd_some, Aot, Ag9]
    rw [ho]
    rfl) ()
   rw [Aj4] at this
   exact this
  | false =>
   rw [br_false]
   have := Ach (B := Aee std (Abg std n) r) (fun i (_ : Unit) => ((i : Int), (r.Routes.take i).map (Ag9 d))) r.Routes (fun _ _ (_ : Unit) => (.inl () : Unit ⊕ Node)) (fun _ => Ag9 (d + 1) r) (fun i k u hkk hi => by
    unfold Aee
    simp only
    rw [Aab, lssT hi, br_true, ck_t (inbT hi), Aai (t := TyS.route) hkk, hrec k (Abv hkk), bd_some, Aot, ck_t (show std.appOk TyS.node 72 ((r.Routes.take i).map (Ag9 d)) [Ag9 d k] from ⟨by simp; omega, by simp; omega⟩), s_add, wrap_succ hi (by unfold big63; omega), take_snoc hkk, List.map_append]
    rfl) (fun _ => by
    unfold Aee Aac
    simp only
    rw [Aab, lssF, br_false, List.take_length, Am5 r.2 m1, Ajt r.3 (by omega), Ajt r.7 (by omega), Awx r.4 w1 w2, Awx r.5 (by omega) e2, Awx r.6 (by omega) p2]
    simp only [bd_some, Aot, Ag9]
    rw [ho]
    rfl) ()
   rw [Aj4] at this
   exact this
theorem A73 (c : Config) (h : Ab1 4 c.Route = true) (hr : c.Receivers.length ≤ 16) (hi : c.Inhibits.length ≤ 8 ∧ ∀ x ∈ c.Inhibits, Aa4 x = true) (hh : c.Hours.length ≤ 8 ∧ ∀ x ∈ c.Hours, hourS x = true) : Afl std c = some (nodeS c) := by
 obtain ⟨i1, i2⟩ := hi
 obtain ⟨g1, g2⟩ := hh
 have hR : Aif std c.2 = some (Ag9 4 c.Route) := Auk _ c.Route 4 (Nat.lt_succ_self _) h
 have eB1 : Loop (Ad2 std c (c.Inhibits.map Aso)) (0, []) = some (nodeS c) := by
  have := Ach (B := Ad2 std c (c.Inhibits.map Aso)) (fun i (_ : Unit) => ((i : Int), (c.Hours.take i).map spanN)) c.Hours (fun _ _ (_ : Unit) => (.inl () : Unit ⊕ Node)) (fun _ => nodeS c) (fun i x u hx hi => by
   unfold Ad2 Aac
   simp only
   rw [Aab, lssT hi, br_true, ck_t (inbT hi), Aai (t := TyS.hours) hx, A6g x (g2 x (Abv hx)), bd_some, bd_some, bd_some, ck_t (show std.appOk TyS.node 72 ((c.Hours.take i).map spanN) [_] from ⟨by simp; omega, by simp; omega⟩), s_add, wrap_succ hi (by unfold big63; omega), take_snoc hx, List.map_append]
   rfl) (fun _ => by
   unfold Ad2
   simp only
   rw [Aab, lssF, br_false, List.take_length, hR, Ajt c.3 (by omega)]
   simp only [bd_some, Aot]
   rfl) ()
  rw [Aj4] at this
  exact this
 unfold Afl
 have := Ach (B := Af3 std c) (fun i (_ : Unit) => ((i : Int), (c.Inhibits.take i).map Aso)) c.Inhibits (fun _ _ (_ : Unit) => (.inl () : Unit ⊕ Node)) (fun _ => nodeS c) (fun i x u hx hi => by
  have hx1 := i2 x (Abv hx)
  simp only [Aa4, Bool.and_eq_true, decide_eq_true_eq] at hx1
  obtain ⟨_, ⟨⟨⟨_, _⟩, h1⟩, h2⟩, h3⟩ := hx1
  unfold Af3
  simp only
  rw [Aab, lssT hi, br_true, ck_t (inbT hi), Aai (t := TyS.inhibit) hx, Am5 x.1 h2, bd_some, Am5 x.2 h3, bd_some, Ajt x.3 (by omega), bd_some]
  simp only [Aot]
  rw [ck_t (show std.appOk TyS.node 72 ((c.Inhibits.take i).map Aso) [_] from ⟨by simp; omega, by simp; omega⟩), s_add, wrap_succ hi (by unfold big63; omega), take_snoc hx, List.map_append]
  rfl) (fun _ => by
  unfold Af3
  simp only
  rw [Aab, lssF, br_false, List.take_length, eB1]
  rfl) ()
 rw [Aj4] at this
 exact this
end Go.PL
namespace Go.PL
set_option linter.unusedSimpArgs false
set_option linter.unusedVariables false
set_option linter.unusedSectionVars false
open Tys (Ty U)
open Enc (sz enc dflt tb ofB toB)
open Dec (dec dok)
set_option maxRecDepth 100000
theorem Ad5 {a b : List UInt8} (ha : a.all plainC = true) (hb : b.all plainC = true) : (a ++ b).all plainC = true := by rw [List.all_append, ha, hb]; rfl
theorem A6i {l : List UInt8} {p : UInt8 → Bool} (h : l.all p = true) (hp : ∀ c, p c = true → plainC c = true) : l.all plainC = true := by
 rw [List.all_eq_true] at h ⊢
 exact fun c hc => hp c (h c hc)
theorem At2 {s : ByteArray} (h : wordS s = true) : Ako s = true := by
 simp only [wordS, Ako, Bool.and_eq_true, decide_eq_true_eq] at h ⊢
 refine ⟨A6i h.1.1 fun c hc => ?_, by omega⟩
 simp [wordC, lowC, digC, barC, inC, plainC] at hc ⊢
 omega
theorem Awy {s : ByteArray} (h : nameS s = true) : Ako s = true := by
 simp only [nameS, Ako, Bool.and_eq_true, decide_eq_true_eq] at h ⊢
 refine ⟨?_, by omega⟩
 rw [List.all_eq_true]
 intro c hc
 obtain ⟨j, hj⟩ := Ax4 h.1.1 c hc
 simp [nameP, letC, lowC, upC, digC, barC, inC, plainC] at hj ⊢
 omega
theorem Bb8 : ∀ u : Nat, (Lib.decDigits u).all plainC = true := by
 intro u
 induction u using Nat.strongRecOn with
 | ind u ih =>
  have hd : ∀ k : Nat, k < 10 → plainC (UInt8.ofNat (48 + k)) = true := by decide
  rw [Lib.decDigits]
  split
  ·rename_i h
   show (plainC (UInt8.ofNat (48 + u)) && true) = true
   rw [hd u h]; rfl
  ·rename_i h
   rw [List.all_append, ih (u / 10) (by omega)]
   show (true && (plainC (UInt8.ofNat (48 + u % 10)) && true)) = true
   rw [hd (u % 10) (by omega)]; rfl
theorem Awz (n : Int) (h0 : 0 ≤ n) (h1 : n ≤ 1099511627776) : Ako ⟨(Lib.itoa n).toArray⟩ = true := by
 simp only [Ako, Bool.and_eq_true, decide_eq_true_eq]
 have hl := Lib.itoa_length_le n (by omega) (by omega)
 refine ⟨?_, by rw [Acb, Aaq]; omega⟩
 rw [Aaq]
 unfold Lib.itoa
 rw [if_neg (by omega)]
 exact Bb8 _
theorem A92 {m : Matcher} (h : Adr m = true) (hs : A1m m = true) : Ako (textS m) = true := by
 simp only [Ako, Bool.and_eq_true, decide_eq_true_eq]
 refine ⟨?_, by unfold A1m at hs; exact of_decide_eq_true hs⟩
 rw [Amu]
 have ok := Ajs h
 simp only [Adr, Bool.and_eq_true, decide_eq_true_eq] at h
 obtain ⟨hw, ⟨⟨⟨⟨hn, g1⟩, g4⟩, _⟩, _⟩, _⟩ := h
 have h1 : (bytes m.Name).all plainC = true := by
  have := Awy hn
  simp only [Ako, Bool.and_eq_true] at this
  exact this.1
 have h2 : (signL m.How).all plainC = true := by
  have : m.How = 1 ∨ m.How = 2 ∨ m.How = 3 ∨ m.How = 4 := by omega
  rcases this with e | e | e | e <;> rw [e] <;> decide
 have hb : ∀ w ∈ m.Words, (bytes w).all plainC = true := fun w hw' => by
  have := Arh hw w hw'
  simp only [Apk, Bool.and_eq_true] at this
  refine A6i this.1 fun c hc => ?_
  simp [mwC, lowC, upC, digC, barC, inC, plainC] at hc ⊢
  omega
 have h3 : (barsL m.Words).all plainC = true := by
  generalize m.Words = ws at hb
  cases ws with
  | nil => rfl
  | cons w r =>
   refine Ad5 (hb w (List.mem_cons_self ..)) ?_
   rw [List.all_eq_true]
   intro c hc
   rw [List.mem_flatten] at hc
   obtain ⟨l, hl, hc⟩ := hc
   obtain ⟨x, hx, rfl⟩ := List.mem_map.1 hl
   rcases List.mem_cons.1 hc with rfl | hc
   ·decide
   ·exact List.all_eq_true.1 (hb x (List.mem_cons_of_mem _ hx)) c hc
 exact Ad5 (Ad5 (Ad5 (Ad5 h1 h2) (by decide)) h3) (by decide)
theorem A6j (n : Nat) (h : n ≤ 99) : ∃ t, Ano std (n : Int) = some t ∧ (bytes t).all plainC = true := by
 have q : std.ar .add .i64 48 (std.ar .quo .i64 (n : Int) 10) = ((48 + n / 10 : Nat) : Int) := by
  rw [s_quo, tdiv0 (by omega), w64 (by omega), s_add, w64 (by omega)]; omega
 have r : std.ar .add .i64 48 (std.ar .rem .i64 (n : Int) 10) = ((48 + n % 10 : Nat) : Int) := by
  rw [s_rem, tmod0 (by omega), s_add, w64 (by omega)]; omega
 obtain ⟨a1, a2⟩ := u8_at (n := 48 + n / 10) (by omega)
 obtain ⟨b1, b2⟩ := u8_at (n := 48 + n % 10) (by omega)
 unfold Ano
 rw [q, r, ck_t a1, ck_t b1, a2, b2, A5n]
 refine ⟨_, rfl, ?_⟩
 rw [Aaq]
 have hd : ∀ k : Nat, k < 10 → plainC (UInt8.ofNat (48 + k)) = true := by decide
 show (plainC (UInt8.ofNat (48 + n / 10)) && (plainC (UInt8.ofNat (48 + n % 10)) && true)) = true
 rw [hd (n / 10) (by omega), hd (n % 10) (by omega)]; rfl
theorem A6k (n : Int) (h0 : 0 ≤ n) (h1 : n ≤ 1440) : (bytes (clk n)).all plainC = true := by
 have e := (Az6 n h0 h1).1
 unfold Ahu at e
 have q1 : std.ar .quo .i64 n 60 = ((n / 60).toNat : Int) := by rw [s_quo, tdiv0 h0, w64 (by omega)]; omega
 have q2 : std.ar .rem .i64 n 60 = ((n % 60).toNat : Int) := by rw [s_rem, tmod0 h0]; omega
 obtain ⟨a, ha, pa⟩ := A6j (n / 60).toNat (by omega)
 obtain ⟨b, hb, pb⟩ := A6j (n % 60).toNat (by omega)
 rw [q1, q2, ha, bd_some, hb, bd_some] at e
 obtain ⟨_, e⟩ := ck_e e
 obtain ⟨_, e⟩ := ck_e e
 rw [← Option.some.inj e, s_cat, s_cat, Abm, Abm]
 exact Ad5 (Ad5 pa (by decide)) pb
theorem day_plain (i : Nat) (h : i < 7) : (bytes (dayT i)).all plainC = true := by
 have : i = 0 ∨ i = 1 ∨ i = 2 ∨ i = 3 ∨ i = 4 ∨ i = 5 ∨ i = 6 := by omega
 rcases this with rfl | rfl | rfl | rfl | rfl | rfl | rfl <;> rfl
theorem A74 (h : Hours) (hs : hourS h = true) : Ako (Azv h) = true := by
 rw [A1r h hs]
 simp only [hourS, Bool.and_eq_true, decide_eq_true_eq] at hs
 obtain ⟨⟨⟨⟨⟨⟨_, _⟩, _⟩, f0⟩, f1⟩, f2⟩, t1⟩ := hs
 obtain ⟨hI, hz⟩ := Aww h.Days 7 (by omega)
 have hl := A82 (daysL h.Days 7) hz
 have sa := (Az6 h.From f0 (by omega)).2
 have sb := (Az6 h.To (by omega) t1).2
 have pd : ∀ i, i ≤ 7 → ∀ x ∈ daysL h.Days i, (bytes x).all plainC = true := by
  intro i
  induction i with
  | zero => intro _ x hx; cases hx
  | succ i ih =>
   intro hi x hx
   rw [daysL] at hx
   rcases List.mem_append.1 hx with hx | hx
   ·exact ih (by omega) x hx
   ·split at hx
    ·rw [List.mem_singleton.1 hx]
     exact day_plain i (by omega)
    ·cases hx
 have pc : (comL (daysL h.Days 7)).all plainC = true := by
  have hb := pd 7 (by omega)
  generalize daysL h.Days 7 = ws at hb
  cases ws with
  | nil => rfl
  | cons w r =>
   refine Ad5 (hb w (List.mem_cons_self ..)) ?_
   rw [List.all_eq_true]
   intro c hc
   rw [List.mem_flatten] at hc
   obtain ⟨l, hl, hc⟩ := hc
   obtain ⟨x, hx, rfl⟩ := List.mem_map.1 hl
   rcases List.mem_cons.1 hc with rfl | hc
   ·decide
   ·exact List.all_eq_true.1 (hb x (List.mem_cons_of_mem _ hx)) c hc
 simp only [Ako, Bool.and_eq_true, decide_eq_true_eq]
 unfold A6e
 refine ⟨?_, ?_⟩
 ·rw [Abm, Abm, Abm, Abm, Aaq]
  exact Ad5 (Ad5 (Ad5 (Ad5 pc (by decide)) (A6k _ f0 (by omega))) (by decide)) (A6k _ (by omega) t1)
 ·have z1 : (ByteArray.mk (Array.mk [32])).size = 1 := rfl
  have z2 : (ByteArray.mk (Array.mk [45])).size = 1 := rfl
  have z3 : (ByteArray.mk (comL (daysL h.Days 7)).toArray).size = (comL (daysL h.Days 7)).length := by rw [Acb, Aaq]
  simp only [ByteArray.size_append, z1, z2, z3, sa, sb]
  omega
theorem Aqg (d : Nat) {s : ByteArray} (h : Ako s = true) : mayN (d + 1) (wordN s) = true := by
 show (if (1 : Int) = 1 then Ako s && decide (0 = 0) && decide (0 = 0) else _) = true
 rw [if_pos rfl, h]; rfl
theorem A30 (d : Nat) {l : List Node} (hl : l.length ≤ 64) (h : ∀ x ∈ l, mayN d x = true) : mayN (d + 1) (rowN l) = true := by
 have e : mayN (d + 1) (rowN l) = (decide (l.length ≤ 64) && l.all (mayN d)) := by
  rw [mayN, if_neg (show ¬ (rowN l).Kind = 1 from by show ¬ (2 : Int) = 1; omega), if_pos (show (rowN l).Kind = 2 from rfl)]
  show (true && decide (l.length ≤ 64) && true && l.all (mayN d)) = _
  simp
 rw [e, decide_eq_true hl, Bool.true_and, List.all_eq_true]
 exact h
theorem Att (d : Nat) {α : Type} (f : α → ByteArray) {l : List α} (hl : l.length ≤ 64) (h : ∀ x ∈ l, Ako (f x) = true) : mayN (d + 2) (rowN (l.map fun x => wordN (f x))) = true :=
 A30 _ (by rw [List.length_map]; exact hl) fun x hx => by
  obtain ⟨y, hy, rfl⟩ := List.mem_map.1 hx
  exact Aqg _ (h y hy)
theorem A31 (d : Nat) {ns : List ByteArray} {l : List Node} (hn : Apo ns l.length = true) (hl : l.length ≤ 64) (h : ∀ x ∈ l, mayN d x = true) : mayN (d + 1) (mapN ns l) = true := by
 have e : mayN (d + 1) (mapN ns l) = (decide (l.length ≤ 64) && Apo ns l.length && l.all (mayN d)) := by
  rw [mayN, if_neg (show ¬ (mapN ns l).Kind = 1 from by show ¬ (3 : Int) = 1; omega), if_neg (show ¬ (mapN ns l).Kind = 2 from by show ¬ (3 : Int) = 2; omega), if_pos (show (mapN ns l).Kind = 3 from rfl)]
  show (true && decide (l.length ≤ 64) && Apo ns l.length && l.all (mayN d)) = _
  simp
 rw [e, decide_eq_true hl, hn, Bool.true_and, Bool.true_and, List.all_eq_true]
 exact h
theorem Atu (d : Nat) {l : List Matcher} (hm : Aav l = true) (hs : shortS l = true) : mayN (d + 2) (rowN (l.map Ark)) = true := by
 simp only [Aav, Bool.and_eq_true, List.all_eq_true, decide_eq_true_eq] at hm
 unfold shortS at hs
 rw [List.all_eq_true] at hs
 exact Att d textS (by omega) fun m hm' => A92 (hm.1 m hm') (hs m hm')
theorem Au6 {may : ByteArray → Bool} {l : List ByteArray} (h : Ay8 may l = true) (hp : ∀ s, may s = true → Ako s = true) : ∀ s ∈ l, Ako s = true := fun s hs => hp s (Arh h s hs)
theorem Bc3 (b : Bool) : Ako (onW b) = true := by cases b <;> decide
theorem Bb9 : Apo Bb0 9 = true := by kernel_rfl
theorem Bdx : Apo topsW 4 = true := by kernel_rfl
theorem A75 : Apo [ByteArray.mk (Array.mk [115, 111, 117, 114, 99, 101]), ByteArray.mk (Array.mk [116, 97, 114, 103, 101, 116]), ByteArray.mk (Array.mk [101, 113, 117, 97, 108])] 3 = true := by kernel_rfl
theorem A93 : Apo [ByteArray.mk (Array.mk [110, 97, 109, 101]), ByteArray.mk (Array.mk [115, 112, 97, 110])] 2 = true := by kernel_rfl
theorem A6l : ∀ (j e : Nat) (r : Route), flatS (j + 1) r = true → Ab1 e r = true → mayN (2 * j + 3) (Ag9 e r) = true
 | j, 0, r, _, h => by cases h
 | j, e + 1, r, hf, hs => by
  have hk := Aft hs
  have h1 : oneS r = true := by simp only [Ab1, Bool.and_eq_true] at hs; exact hs.1
  simp only [oneS, Ap9, fromS, Bool.and_eq_true, decide_eq_true_eq] at h1
  obtain ⟨⟨⟨⟨⟨⟨⟨m0, m1⟩, m2⟩, m3, m3'⟩, m4, m4'⟩, w1, w2⟩, e1, e2⟩, p1, p2⟩ := h1
  simp only [flatS, Bool.and_eq_true, List.all_eq_true] at hf
  refine A31 (2 * j + 2) Bb9 (by simp) fun x hx => ?_
  simp only [List.mem_cons, List.mem_nil_iff, or_false] at hx
  rcases hx with rfl | rfl | rfl | rfl | rfl | rfl | rfl | rfl | rfl
  ·exact Aqg _ (At2 m0)
  ·exact Atu _ m1 hf.1
  ·exact Att _ (fun x => x) (by omega) (Au6 m3 fun s => Awy)
  ·exact Aqg _ (Awz _ w1 w2)
  ·exact Aqg _ (Awz _ (by omega) e2)
  ·exact Aqg _ (Awz _ (by omega) p2)
  ·exact Att _ (fun x => x) (by omega) (Au6 m4 fun s => At2)
  ·exact Aqg _ (Bc3 _)
  ·refine A30 (2 * j + 1) (by rw [List.length_map]; omega) fun x hx => ?_
   obtain ⟨k, hk', rfl⟩ := List.mem_map.1 hx
   cases j with
   | zero =>
    have := hf.2 k hk'
    cases this
   | succ j =>
    exact A6l j e k (hf.2 k hk') (hk.2 k hk')
theorem A83 (c : Config) (hh : holdsA c = true) : mayN 8 (nodeS (normS (bareC c))) = true := by
 unfold holdsA at hh
 simp only [Bool.and_eq_true, List.all_eq_true] at hh
 obtain ⟨hb, hf, hi⟩ := hh
 have ok := Amv hb
 have ht := ok.top
 simp only [topS, Bool.and_eq_true, decide_eq_true_eq] at ht
 refine A31 7 Bdx (by simp) fun x hx => ?_
 simp only [List.mem_cons, List.mem_nil_iff, or_false] at hx
 rcases hx with rfl | rfl | rfl | rfl
 ·exact A6l 2 4 _ hf ht.1.1.1
 ·have hl := Ar6 (bareC c)
  exact Att 5 (fun x => x) (by have := ok.recv.1; omega) fun s hs => At2 (ok.recv.2.1 s ((Ah5 _ _).mem_iff.1 hs))
 ·have hl := Aqd (bareC c)
  refine A30 6 (by rw [List.length_map]; have := ok.inh.1; omega) fun x hx => ?_
  obtain ⟨y, hy, rfl⟩ := List.mem_map.1 hx
  have hy' := Aqe hy
  have h1 := ok.inh.2 y hy'
  have h2 := hi y hy'
  simp only [Aa4, Bool.and_eq_true, decide_eq_true_eq] at h1
  unfold Azs at h2
  rw [Bool.and_eq_true] at h2
  obtain ⟨g0, ⟨⟨⟨_, _⟩, g1⟩, g2⟩, g3⟩ := h1
  refine A31 5 A75 (by simp) fun x hx => ?_
  simp only [List.mem_cons, List.mem_nil_iff, or_false] at hx
  rcases hx with rfl | rfl | rfl
  ·exact Atu 3 g2 h2.1
  ·exact Atu 3 g3 h2.2
  ·exact Att 3 (fun x => x) (by omega) (Au6 g0 fun s => Awy)
 ·have hl := Aqu (bareC c)
  refine A30 6 (by rw [List.length_map]; have := ok.hours.1; omega) fun x hx => ?_
  obtain ⟨y, hy, rfl⟩ := List.mem_map.1 hx
  have h1 := ok.hours.2.1 y (Aqv hy)
  refine A31 5 A93 (by simp) fun x hx => ?_
  simp only [List.mem_cons, List.mem_nil_iff, or_false] at hx
  rcases hx with rfl | rfl
  ·have h2 := h1
   simp only [hourS, Bool.and_eq_true] at h2
   exact Aqg 4 (At2 h2.1.1.1.1.1.1)
  ·exact Aqg 4 (A74 y h1)
theorem A6m (c : Config) (h : Ad3 c) (hh : holdsA c = true) : Afm std c = some ⟨(Ag5 8 0 (nodeS (normS (bareC c)))).toArray⟩ := by
 have hm := A83 c hh
 have hb : Ai1 (bareC c) = true := by
  unfold holdsA at hh
  simp only [Bool.and_eq_true] at hh
  exact hh.1
 have ok := Amv hb
 have hbf := Aya h
 have ht := ok.top
 simp only [topS, Bool.and_eq_true, decide_eq_true_eq] at ht
 have hil := Aqd (bareC c)
 have h1 : (normS (bareC c)).Inhibits.length ≤ 8 ∧ ∀ x ∈ (normS (bareC c)).Inhibits, Aa4 x = true := ⟨Nat.le_trans hil ok.inh.1, fun x hx => ok.inh.2 x (Aqe hx)⟩
 have h2 : (normS (bareC c)).Hours.length ≤ 8 := by rw [Aqu]; exact ok.hours.1
 have h3 : ∀ x ∈ (normS (bareC c)).Hours, hourS x = true := fun x hx => ok.hours.2.1 x (Aqv hx)
 have h4 : (normS (bareC c)).Receivers.length ≤ 16 := by rw [Ar6]; exact ok.recv.1
 have hr : Ab1 4 (normS (bareC c)).Route = true := ht.1.1.1
 have hw := Bdf (normS (bareC c)) 6 hr ht.2 h4 h1 h2
 have hl := Az2 8 0 _ hm
 have hmul : wN 8 (nodeS (normS (bareC c))) * (2 * (0 + 8) + 2100) ≤ 2000 * (2 * (0 + 8) + 2100) := Nat.mul_le_mul_right _ hw
 unfold Afm
 show (bd (Ac7 std (bareC c)) fun w1 => _) = _
 rw [A3t _ hbf hb, bd_some, A73 _ hr h4 h1 ⟨h2, h3⟩, bd_some]
 have hL : Aig std (nodeS (normS (bareC c))) 0 = some ⟨(Ag5 8 0 (nodeS (normS (bareC c)))).toArray⟩ := Auj _ _ 8 0 (Nat.lt_succ_self _) hm (by omega) (by omega)
 rw [hL, bd_some]
theorem A0w (c : Config) (hc : Ad3 c) : Ae0 std c = some true := by
 unfold Ae0
 obtain ⟨w1, h1, s1⟩ := A9z c hc
 rw [h1, bd_some, A9y]
 cases w1 with
 | true => rfl
 | false =>
  have sm := s1 rfl
  have hH := A6h c hc (by have := sm.hours; omega)
  have e0 : std.scmp .eql (ByteArray.mk (Array.mk [])) (ByteArray.mk (Array.mk [])) = true := by rw [s_seql]; exact decide_eq_true rfl
  have tt : ∀ x : Bool, std.eqb x x = true := fun x => by cases x <;> rfl
  rw [br_false, Asr c hc, bd_some, Atp c hc, bd_some, hH, bd_some, tt, show std.not (std.not true) = true from rfl, gd_t, bd_some, show std.or (std.not true) (std.not true) = false from rfl, br_false, bd_some]
  unfold Az3
  cases hp : holdsA c with
  | false =>
   show some (std.and (std.cmp .eql 11 11) (std.scmp .eql (ByteArray.mk (Array.mk [])) (ByteArray.mk (Array.mk [])))) = _
   rw [e0]; rfl
  | true =>
   rw [s_not, Bool.not_true, br_false, A6m c hc hp, bd_some, cond_true]
   unfold A55
   have hm := A83 c hp
   have hit : decide ((nodeS (normS (bareC c))).Items.length = 0) = false := rfl
   rw [hm, hit]
   have hs : (ByteArray.mk (Ag5 8 0 (nodeS (normS (bareC c)))).toArray).size = (Ag5 8 0 (nodeS (normS (bareC c)))).length := by rw [Acb, Aaq]
   generalize Ag5 8 0 (nodeS (normS (bareC c))) = L at hs
   rw [s_slen, hs, s_gtr, Ais]
   show br (!decide ((L.length : Int) ≤ ((8192 : Nat) : Int))) _ _ = _
   rw [leN]
   have eself : std.scmp .eql (ByteArray.mk L.toArray) (ByteArray.mk L.toArray) = true := by rw [s_seql]; exact decide_eq_true rfl
   cases decide (L.length ≤ 8192) with
   | true =>
    show some (std.and (std.cmp .eql 0 0) (std.scmp .eql (ByteArray.mk L.toArray) (ByteArray.mk L.toArray))) = _
    rw [eself]; rfl
   | false =>
    show some (std.and (std.cmp .eql 2 2) (std.scmp .eql (ByteArray.mk (Array.mk [])) (ByteArray.mk (Array.mk [])))) = _
    rw [e0]; rfl
end Go.PL
