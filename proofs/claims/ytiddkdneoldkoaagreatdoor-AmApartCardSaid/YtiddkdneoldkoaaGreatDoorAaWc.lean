/- Texts of this claim: plain laws of what the program's functions compute. No condition of their own. -/
import Derived.Test.YtiddkdneoldkoaaGreatDoorAaWb
import Derived.Lib.ItoaLen
import Derived.Lib.SplitLaws
import Derived.Lib.Replace
import Derived.Lib.Repeat
import Derived.KernelRfl
import Derived.Lib.IndexBytes
namespace Go.PL
set_option linter.unusedSimpArgs false
set_option linter.unusedVariables false
set_option linter.unusedSectionVars false
open Tys (Ty U)
open Enc (sz enc dflt tb ofB toB)
open Dec (dec dok)
set_option maxRecDepth 100000
theorem replaceK_len (old new : List UInt8) : ∀ (k : Nat) (s : List UInt8), (Lib.replaceK old new k s).length ≤ s.length + k * new.length
 | 0, s => by simp [Lib.replaceK]
 | k + 1, s => by
  rw [Lib.replaceK]
  split
  ·exact Nat.le_add_right ..
  ·have h := replaceK_len old new k (s.drop ((Lib.index s old).toNat + old.length))
   simp only [List.length_append, List.length_take, List.length_drop, Nat.succ_mul] at h ⊢
   omega
theorem replace_some (s old new : ByteArray) (h0 : 1 ≤ old.size) (h2 : new.size = 2) (hs : s.size ≤ 1000) : ∃ t, strings_ReplaceAll std s old new = some t ∧ t.size ≤ 3 * s.size := by
 have hc := Lib.countB_le old h0 s.size s (Nat.le_refl _)
 unfold strings_ReplaceAll
 refine ⟨_, ck_t ⟨by omega, h0, by rw [h2]; omega⟩, ?_⟩
 rw [size_bytes, bytes_mk]
 unfold Lib.replaceAll Lib.replace
 split
 ·show (bytes s).length ≤ _
  rw [len_bytes]; omega
 ·have h := replaceK_len old.data.toList new.data.toList (Lib.replaceNum s.data.toList old.data.toList (-1)) s.data.toList
  have e : Lib.replaceNum s.data.toList old.data.toList (-1) = Lib.countB s old := by
   unfold Lib.replaceNum
   rw [if_pos (.inl (by omega))]
  have l1 : s.data.toList.length = s.size := len_bytes s
  have l2 : new.data.toList.length = 2 := (len_bytes new).trans h2
  rw [e] at h ⊢
  rw [l1, l2] at h
  omega
theorem join_len (sep : List UInt8) : ∀ (l : List (List UInt8)) (m : Nat), (∀ x ∈ l, x.length ≤ m) → (Lib.join l sep).length ≤ l.length * (m + sep.length)
 | [], m, _ => by simp [Lib.join]
 | x :: l, m, h => by
  have key : ∀ l : List (List UInt8), (∀ x ∈ l, x.length ≤ m) → (Lib.joinTail sep l).length ≤ l.length * (m + sep.length) := by
   intro l
   induction l with
   | nil => intro _; simp [Lib.joinTail]
   | cons y l ih =>
    intro h
    have h1 := ih fun x hx => h x (List.mem_cons_of_mem _ hx)
    have h2 := h y (List.mem_cons_self ..)
    simp only [Lib.joinTail, List.map_cons, List.flatten_cons, List.length_append, List.length_cons, Nat.succ_mul] at h1 ⊢
    omega
  rw [Lib.join_cons]
  have h1 := key l fun x hx => h x (List.mem_cons_of_mem _ hx)
  have h2 := h x (List.mem_cons_self ..)
  simp only [List.length_append, List.length_cons, Nat.succ_mul]
  omega
end Go.PL
namespace Go.PL
set_option linter.unusedSimpArgs false
set_option linter.unusedVariables false
set_option linter.unusedSectionVars false
open Tys (Ty U)
open Enc (sz enc dflt tb ofB toB)
open Dec (dec dok)
set_option maxRecDepth 100000
theorem Loop_go {S ε α σ : Type} {B : S → Option (S ⊕ ε)} (enc : Nat → σ → S) (xs : List α) (next : Nat → α → σ → σ) (I : Nat → σ → Prop) (G : ε → Prop)
  (h1 : ∀ i x s, xs[i]? = some x → I i s → B (enc i s) = some (.inl (enc (i + 1) (next i x s))) ∧ I (i + 1) (next i x s))
  (h2 : ∀ s, I xs.length s → ∃ e, B (enc xs.length s) = some (.inr e) ∧ G e) (s0 : σ) (h0 : I 0 s0) : ∃ e, Loop B (enc 0 s0) = some e ∧ G e := by
 have key : ∀ (n i : Nat) (s : σ), i + n = xs.length → I i s → ∃ e, Loop B (enc i s) = some e ∧ G e := by
  intro n
  induction n with
  | zero =>
   intro i s hi hI
   obtain rfl : i = xs.length := by omega
   obtain ⟨e, he, hg⟩ := h2 s hI
   exact ⟨e, by rw [Loop_eq, he], hg⟩
  | succ n ih =>
   intro i s hi hI
   have hl : i < xs.length := by omega
   obtain ⟨h3, h4⟩ := h1 i xs[i] s (List.getElem?_eq_getElem hl) hI
   obtain ⟨e, he, hg⟩ := ih (i + 1) _ (by omega) h4
   exact ⟨e, by rw [Loop_eq, h3]; exact he, hg⟩
 exact key xs.length 0 s0 (by omega) h0
theorem app_len {α : Type} {l : List α} {n : Nat} (x : α) (h : l.length ≤ n) : (l ++ [x]).length ≤ n + 1 := by
 rw [List.length_append, List.length_singleton]; omega
theorem hours_two_some (n : Int) (h0 : 0 ≤ n) (h1 : n ≤ 99) : ∃ t, hours_two std n = some t ∧ t.size = 2 := by
 unfold hours_two
 have q1 : std.ar .quo .i64 n 10 = n / 10 := by rw [s_quo, tdiv0 h0, w64 (by omega)]
 have q2 : std.ar .rem .i64 n 10 = n % 10 := by rw [s_rem, tmod0 h0]
 have a1 : std.ar .add .i64 48 (n / 10) = 48 + n / 10 := by rw [s_add, w64 (by omega)]
 have a2 : std.ar .add .i64 48 (n % 10) = 48 + n % 10 := by rw [s_add, w64 (by omega)]
 rw [q1, q2, a1, a2, s_conv, s_conv, w8 (by omega), w8 (by omega), ck_t (show std.u8ok _ from ⟨by omega, by omega⟩), ck_t (show std.u8ok _ from ⟨by omega, by omega⟩), b2s_eq]
 exact ⟨_, rfl, rfl⟩
theorem hours_clock_some (n : Int) (h0 : 0 ≤ n) (h1 : n ≤ 1440) : ∃ t, hours_clock std n = some t ∧ t.size = 5 := by
 unfold hours_clock
 have q1 : std.ar .quo .i64 n 60 = n / 60 := by rw [s_quo, tdiv0 h0, w64 (by omega)]
 have q2 : std.ar .rem .i64 n 60 = n % 60 := by rw [s_rem, tmod0 h0]
 obtain ⟨a, ha, la⟩ := hours_two_some (n / 60) (by omega) (by omega)
 obtain ⟨b, hb, lb⟩ := hours_two_some (n % 60) (by omega) (by omega)
 have z : (ByteArray.mk (Array.mk [58])).size = 1 := rfl
 rw [q1, q2, ha, bd_some, ck_t (show std.catOk _ _ by rw [s_catOk, la, z]; omega), hb, bd_some, s_cat, s_cat, ck_t (show std.catOk _ _ by rw [s_catOk, ByteArray.size_append, la, lb, z]; omega)]
 exact ⟨_, rfl, by rw [ByteArray.size_append, ByteArray.size_append, la, lb, z]⟩
def dayT (i : Nat) : ByteArray := std.sel [ByteArray.mk (Array.mk [109, 111, 110]), ByteArray.mk (Array.mk [116, 117, 101]), ByteArray.mk (Array.mk [119, 101, 100]), ByteArray.mk (Array.mk [116, 104, 117]), ByteArray.mk (Array.mk [102, 114, 105]), ByteArray.mk (Array.mk [115, 97, 116]), ByteArray.mk (Array.mk [115, 117, 110])] (i : Int)
theorem dayT_size (i : Nat) (h : i < 7) : (dayT i).size = 3 := by
 have : i = 0 ∨ i = 1 ∨ i = 2 ∨ i = 3 ∨ i = 4 ∨ i = 5 ∨ i = 6 := by omega
 rcases this with rfl | rfl | rfl | rfl | rfl | rfl | rfl <;> rfl
theorem hours_Text_some (h : Hours) (hs : hourS h = true) : ∃ v, hours_Text std h = some v := by
 have h0 := hs
 simp only [hourS, Bool.and_eq_true, decide_eq_true_eq] at h0
 obtain ⟨⟨⟨⟨⟨⟨_, _⟩, _⟩, f0⟩, f1⟩, f2⟩, t1⟩ := h0
 obtain ⟨a, ha, la⟩ := hours_clock_some h.From f0 (by omega)
 obtain ⟨b, hb, lb⟩ := hours_clock_some h.To (by omega) t1
 unfold hours_Text
 rw [hours_Right_eq h, bd_some, hs, s_not, Bool.not_true, br_false]
 have := Loop_go (B := hours_Text_B1 std h) (fun i (l : List ByteArray) => (l, (i : Int))) (List.range 7) (fun i _ l => if std.cmp .eql (std.ar .and .i64 (std.ar .shr .i64 h.Days (i : Int)) 1) 1 = true then l ++ [dayT i] else l) (fun i l => i ≤ 7 ∧ l.length ≤ i ∧ ∀ x ∈ l, x.size ≤ 3) (fun _ => True) (fun i n l hx ⟨hi7, hI, hz⟩ => by
  have hi : i < 7 := by have := lt_of_at hx; simpa using this
  refine ⟨?_, by omega, ?_, ?_⟩
  ·unfold hours_Text_B1
   simp only
   rw [show std.cmp .lss (i : Int) 7 = true from lssT (n := 7) hi, br_true, ck_t (show std.inb (i : Int) (Int.ofNat 7) from inbT (n := 7) hi), ck_t (show std.nn (i : Int) by show (0 : Int) ≤ _; omega), s_add, wrap_succ (n := 7) hi (by unfold big63; omega)]
   cases std.cmp .eql (std.ar .and .i64 (std.ar .shr .i64 h.Days (i : Int)) 1) 1 with
   | true =>
    rw [br_true, if_pos rfl]
    have hA : std.appOk TyS.str 16 l [dayT i] := ⟨by simp; omega, by simp; omega⟩
    exact ck_t hA
   | false => rfl
  ·split
   ·exact app_len _ hI
   ·omega
  ·split
   ·intro x hx
    rcases List.mem_append.1 hx with hx | hx
    ·exact hz x hx
    ·rw [List.mem_singleton.1 hx, dayT_size i hi]; omega
   ·exact hz) (fun l ⟨_, hI, hz⟩ => by
  simp only [List.length_range] at hI
  unfold hours_Text_B1
  simp only [List.length_range]
  have hj := join_len [44] (l.map (·.data.toList)) 3 (fun x hx => by
   obtain ⟨y, hy, rfl⟩ := List.mem_map.1 hx
   show (bytes y).length ≤ 3
   rw [len_bytes]; exact hz y hy)
  simp only [List.length_map, List.length_singleton] at hj
  have hJ : strings_Join std l (ByteArray.mk (Array.mk [44])) = some ⟨(Lib.join (l.map (·.data.toList)) [44]).toArray⟩ := by
   unfold strings_Join
   exact ck_t ⟨by omega, by show (Lib.join (l.map (·.data.toList)) [44]).length ≤ _; omega⟩
  have jz : (ByteArray.mk (Lib.join (l.map (·.data.toList)) [44]).toArray).size ≤ 28 := by rw [size_bytes, bytes_mk]; omega
  generalize ByteArray.mk (Lib.join (l.map (·.data.toList)) [44]).toArray = J at hJ jz
  have z1 : (ByteArray.mk (Array.mk [32])).size = 1 := rfl
  have z2 : (ByteArray.mk (Array.mk [45])).size = 1 := rfl
  rw [show std.cmp .lss ((7 : Nat) : Int) 7 = false from rfl, br_false, hJ, bd_some, s_cat, ck_t (show std.catOk _ _ by rw [s_catOk, z1]; omega), ha, bd_some, s_cat, ck_t (show std.catOk _ _ by rw [s_catOk, ByteArray.size_append, z1, la]; omega), s_cat, ck_t (show std.catOk _ _ by rw [s_catOk, ByteArray.size_append, ByteArray.size_append, z1, z2, la]; omega), hb, bd_some, s_cat, ck_t (show std.catOk _ _ by rw [s_catOk, ByteArray.size_append, ByteArray.size_append, ByteArray.size_append, z1, z2, la, lb]; omega)]
  exact ⟨_, rfl, trivial⟩) [] ⟨by omega, by simp, fun x hx => by cases hx⟩
 obtain ⟨e, he, _⟩ := this
 exact ⟨e, he⟩
end Go.PL
namespace Go.PL
set_option linter.unusedSimpArgs false
set_option linter.unusedVariables false
set_option linter.unusedSectionVars false
open Tys (Ty U)
open Enc (sz enc dflt tb ofB toB)
open Dec (dec dok)
set_option maxRecDepth 100000
end Go.PL
namespace Go.PL
set_option linter.unusedSimpArgs false
set_option linter.unusedVariables false
set_option linter.unusedSectionVars false
open Tys (Ty U)
open Enc (sz enc dflt tb ofB toB)
open Dec (dec dok)
set_option maxRecDepth 100000
def shortM (m : Matcher) : Bool := decide ((textS m).size ≤ 200)
def shortS (l : List Matcher) : Bool := l.all shortM
theorem amfile_short_eq (l : List Matcher) (hf : fitL matcherFit l) (h : matchersS l = true) : amfile_short std l = some (shortS l) := by
 unfold amfile_short
 simp only [matchersS, Bool.and_eq_true, List.all_eq_true] at h
 rw [contains_Matcher l (fun m => !shortM m) _ (fun m hm => by
  unfold amfile_short_1
  rw [matcher_Text_eq m (hf.2 m hm) (h.1 m hm), bd_some]
  simp only
  rw [s_gtr, s_slen, not_le_lt]
  show some (!decide (((textS m).size : Int) ≤ ((200 : Nat) : Int))) = _
  rw [leN]; rfl) hf.1, bd_some, s_not, all_not_any, Bool.not_not]
 rfl
def flatS : Nat → Route → Bool
 | 0, _ => false
 | d + 1, r => shortS r.Match && r.Routes.all (flatS d)
theorem amfile_flat_N_eq : ∀ (n : Nat) (r : Route) (d e : Nat), SizeOf.sizeOf r < n → RouteFit r → routeS e r = true → d ≤ 100 → amfile_flat_N std n r (d : Int) = some (flatS d r)
 | 0, r, d, e, h, _, _, _ => by omega
 | n + 1, r, d, e, h, hf, hs, hd => by
  obtain ⟨e, rfl⟩ := routeS_pos hs
  have hk := routeS_kids hs
  have h1 : oneS r = true := by simp only [routeS, Bool.and_eq_true] at hs; exact hs.1
  have hm : matchersS r.Match = true := by
   simp only [oneS, Bool.and_eq_true] at h1
   exact h1.1.1.1.1.1.1.2
  obtain ⟨_, f2, _, _, f5, f6⟩ := fit_route hf
  rw [amfile_flat_N, amfile_flat_S]
  cases d with
  | zero => rfl
  | succ d =>
   rw [show std.cmp .gtr ((d + 1 : Nat) : Int) 0 = true by rw [s_gtr]; exact decide_eq_true (by omega), gd_t, amfile_short_eq r.Match f2 hm, bd_some, s_land, Bool.true_and]
   have e1 : slices_ContainsFunc_Route_Route std r.9 (fun y0 => amfile_flat_1 std (amfile_flat_N std n) y0 ((d + 1 : Nat) : Int)) = some (r.Routes.any fun k => !flatS d k) := contains_Route r.Routes (fun k => !flatS d k) _ (fun k hk' => by
    unfold amfile_flat_1
    rw [show std.ar .sub .i64 ((d + 1 : Nat) : Int) 1 = (d : Int) by rw [s_sub, w64 (by omega)]; omega, amfile_flat_N_eq n k d e (by have := route_lt hk'; omega) (f6 k hk') (hk.2 k hk') (by omega), bd_some, s_not]) f5
   rw [gd_b (fun _ => e1), bd_some, s_land, s_not, all_not_any]
   simp only [flatS]
   cases shortS r.Match <;> simp
theorem amfile_flat_eq (r : Route) (d e : Nat) (hf : RouteFit r) (hs : routeS e r = true) (hd : d ≤ 100) : amfile_flat std r (d : Int) = some (flatS d r) := amfile_flat_N_eq _ r d e (Nat.lt_succ_self _) hf hs hd
def bareC (c : Config) : Config := ⟨[], c.Route, c.Receivers, c.Inhibits, c.Hours⟩
theorem bare_fit {c : Config} (h : configFit c) : configFit (bareC c) := ⟨fitL_nil, h.2.1, h.2.2.1, h.2.2.2.1, h.2.2.2.2⟩
def shortI (x : Inhibit) : Bool := shortS x.Source && shortS x.Target
def holdsA (c : Config) : Bool := configS (bareC c) && (flatS 3 c.Route && c.Inhibits.all shortI)
theorem amfile_Holds_eq (c : Config) (h : configFit c) : amfile_Holds std c = some (holdsA c) := by
 unfold amfile_Holds amfile_bare
 rw [bd_some]
 show (bd (config_Right std (bareC c)) fun w2 => _) = _
 rw [config_Right_eq _ (bare_fit h), bd_some]
 unfold holdsA
 cases hb : configS (bareC c) with
 | false => rfl
 | true =>
  have ok := configS_ok hb
  have ht : routeS 4 c.Route = true := by
   have := ok.top
   simp only [topS, Bool.and_eq_true] at this
   exact this.1.1.1
  have hi : ∀ x ∈ c.Inhibits, inhibitS x = true := ok.inh.2
  rw [gd_t, show (3 : Int) = ((3 : Nat) : Int) from rfl, amfile_flat_eq c.Route 3 4 h.2.1 ht (by omega), bd_some, s_land, Bool.true_and, Bool.true_and]
  have e1 : slices_ContainsFunc_Inhibit_Inhibit std c.4 (fun y0 => amfile_Holds_1 std y0) = some (c.Inhibits.any fun x => !shortI x) := contains_Inhibit c.Inhibits (fun x => !shortI x) _ (fun x hx => by
   have hx1 := hi x hx
   simp only [inhibitS, Bool.and_eq_true] at hx1
   have hxf := h.2.2.2.1.2 x hx
   unfold amfile_Holds_1 shortI
   rw [amfile_short_eq x.1 hxf.1 hx1.2.1.2, bd_some, gd_b (fun _ => amfile_short_eq x.2 hxf.2.1 hx1.2.2), bd_some]
   simp only [s_lor, s_not]
   cases shortS x.1 <;> cases shortS x.2 <;> rfl) h.2.2.2.1.1
  rw [gd_b (fun _ => e1), bd_some, s_land, s_not, all_not_any]
  cases flatS 3 c.Route <;> simp
end Go.PL
namespace Go.PL
set_option linter.unusedSimpArgs false
set_option linter.unusedVariables false
set_option linter.unusedSectionVars false
open Tys (Ty U)
open Enc (sz enc dflt tb ofB toB)
open Dec (dec dok)
set_option maxRecDepth 100000
theorem node_eta (n : Node) : Node.mk n.1 n.2 n.3 n.4 = n := by cases n; rfl
def wordN (s : ByteArray) : Node := ⟨1, s, [], []⟩
def rowN (l : List Node) : Node := ⟨2, ⟨#[]⟩, [], l⟩
def mapN (names : List ByteArray) (l : List Node) : Node := ⟨3, ⟨#[]⟩, names, l⟩
theorem row_eq {t : TyS} (B : Int × List Node → Option ((Int × List Node) ⊕ Node)) (xs : List (US t)) (q : US t → Option Node) (f : US t → Node)
  (hB : ∀ i b, B (i, b) = br (std.cmp .lss i (std.len t xs)) (ck (std.inb i (std.len t xs)) <| bd (q (std.get t xs i)) fun w2 => ck (std.appOk TyS.node 72 b [Node.mk w2.1 w2.2 w2.3 w2.4]) <| some (.inl ((std.ar .add .i64 i 1, std.app TyS.node b [Node.mk w2.1 w2.2 w2.3 w2.4])))) (rt (some (Node.mk 2 (ByteArray.mk (Array.mk [])) [] b))))
  (hq : ∀ x ∈ xs, q x = some (f x)) (hl : xs.length ≤ 1000) : Loop B (0, []) = some (rowN (xs.map f)) := by
 have := Loop_each (B := B) (fun i (_ : Unit) => ((i : Int), (xs.take i).map f)) xs (fun _ _ (_ : Unit) => (.inl () : Unit ⊕ Node)) (fun _ => rowN (xs.map f)) (fun i x u hx hi => by
  rw [hB, len_nat, lssT hi, br_true, ck_t (inbT hi), get_nat (t := t) hx, hq x (mem_at hx), bd_some, node_eta, ck_t (show std.appOk TyS.node 72 ((xs.take i).map f) [f x] from ⟨by simp; omega, by simp; omega⟩), s_add, wrap_succ hi (by unfold big63; omega), take_snoc hx, List.map_append]
  rfl) (fun _ => by
  rw [hB, len_nat, lssF, br_false, List.take_length]
  rfl) ()
 rw [runL_end] at this
 exact this
def matchN (m : Matcher) : Node := wordN (textS m)
theorem amfile_match_eq (m : Matcher) (hf : matcherFit m) (h : matcherS m = true) : amfile_match std m = some (matchN m) := by
 unfold amfile_match amfile_word
 rw [matcher_Text_eq m hf h, bd_some, bd_some]
 rfl
def numN (n : Int) : Node := wordN ⟨(Lib.itoa n).toArray⟩
theorem amfile_number_eq (n : Int) (h0 : 0 ≤ n) (h1 : n ≤ 1099511627776) : amfile_number std n = some (numN n) := by
 unfold amfile_number amfile_word strconv_Itoa
 rw [ck_t ⟨by omega, by omega⟩, bd_some, bd_some]
 rfl
theorem row_matchers (l : List Matcher) (hf : fitL matcherFit l) (h : matchersS l = true) : amfile_row_Matcher std l (fun y0 => amfile_match std y0) = some (rowN (l.map matchN)) := by
 simp only [matchersS, Bool.and_eq_true, List.all_eq_true, decide_eq_true_eq] at h
 exact row_eq (t := .matcher) (amfile_row_Matcher_B1 std l fun y0 => amfile_match std y0) l _ matchN (fun i b => rfl) (fun m hm => amfile_match_eq m (hf.2 m hm) (h.1 m hm)) (by omega)
theorem row_words (l : List ByteArray) (h : l.length ≤ 1000) : amfile_row_string std l (fun y0 => amfile_word std y0) = some (rowN (l.map wordN)) :=
 row_eq (t := .str) (amfile_row_string_B1 std l fun y0 => amfile_word std y0) l _ wordN (fun i b => rfl) (fun m hm => rfl) h
def quietN (x : Inhibit) : Node := mapN [ByteArray.mk (Array.mk [115, 111, 117, 114, 99, 101]), ByteArray.mk (Array.mk [116, 97, 114, 103, 101, 116]), ByteArray.mk (Array.mk [101, 113, 117, 97, 108])] [rowN (x.Source.map matchN), rowN (x.Target.map matchN), rowN (x.Equal.map wordN)]
theorem amfile_quiet_eq (x : Inhibit) (hf : inhibitFit x) (h : inhibitS x = true) : amfile_quiet std x = some (quietN x) := by
 simp only [inhibitS, Bool.and_eq_true, decide_eq_true_eq] at h
 obtain ⟨_, ⟨⟨⟨_, _⟩, h1⟩, h2⟩, h3⟩ := h
 unfold amfile_quiet amfile_table
 rw [row_matchers x.1 hf.1 h2, bd_some, row_matchers x.2 hf.2.1 h3, bd_some, row_words x.3 (by omega), bd_some, bd_some]
 rfl
noncomputable def hoursT (h : Hours) : ByteArray := ((hours_Text std h).getD (⟨#[]⟩, 0)).1
theorem hoursT_eq (h : Hours) (hs : hourS h = true) : ∃ e, hours_Text std h = some (hoursT h, e) := by
 obtain ⟨v, hv⟩ := hours_Text_some h hs
 unfold hoursT
 rw [hv]
 exact ⟨v.2, rfl⟩
noncomputable def spanN (h : Hours) : Node := mapN [ByteArray.mk (Array.mk [110, 97, 109, 101]), ByteArray.mk (Array.mk [115, 112, 97, 110])] [wordN h.Name, wordN (hoursT h)]
theorem amfile_span_eq (h : Hours) (hs : hourS h = true) : amfile_span std h = some (spanN h) := by
 obtain ⟨e, he⟩ := hoursT_eq h hs
 unfold amfile_span amfile_word amfile_table
 rw [he, bd_some, bd_some, bd_some, bd_some]
 rfl
def routedW : List ByteArray := (amfile_routed std).getD []
def topsW : List ByteArray := (amfile_tops std).getD []
def onW (b : Bool) : ByteArray := cond b (ByteArray.mk (Array.mk [116, 114, 117, 101])) (ByteArray.mk (Array.mk [102, 97, 108, 115, 101]))
def routeN : Nat → Route → Node
 | 0, _ => rowN []
 | d + 1, r => mapN routedW [wordN r.Receiver, rowN (r.Match.map matchN), rowN (r.By.map wordN), numN r.Wait, numN r.Every, numN r.Repeat, rowN (r.Mute.map wordN), wordN (onW r.On), rowN (r.Routes.map (routeN d))]
theorem amfile_route_N_eq : ∀ (n : Nat) (r : Route) (d : Nat), SizeOf.sizeOf r < n → RouteFit r → routeS d r = true → amfile_route_N std n r = some (routeN d r)
 | 0, r, d, h, _, _ => by omega
 | n + 1, r, d, h, hf, hs => by
  obtain ⟨d, rfl⟩ := routeS_pos hs
  have hk := routeS_kids hs
  have h1 : oneS r = true := by simp only [routeS, Bool.and_eq_true] at hs; exact hs.1
  simp only [oneS, orderS, fromS, Bool.and_eq_true, decide_eq_true_eq] at h1
  obtain ⟨⟨⟨⟨⟨⟨⟨_, m1⟩, m2⟩, _, m3⟩, _, m4⟩, w1, w2⟩, e1, e2⟩, p1, p2⟩ := h1
  obtain ⟨_, f2, _, _, f5, f6⟩ := fit_route hf
  rw [amfile_route_N, amfile_route_S]
  have hr : amfile_row_Route std r.9 (amfile_route_N std n) = some (rowN (r.Routes.map (routeN d))) :=
   row_eq (t := .route) (amfile_row_Route_B1 std r.Routes (amfile_route_N std n)) r.Routes _ (routeN d) (fun i b => rfl) (fun k hk' => amfile_route_N_eq n k d (by have := route_lt hk'; omega) (f6 k hk') (hk.2 k hk')) (by omega)
  rw [hr, row_matchers r.2 f2 m1, row_words r.3 (by omega), row_words r.7 (by omega), amfile_number_eq r.4 w1 w2, amfile_number_eq r.5 (by omega) e2, amfile_number_eq r.6 (by omega) p2]
  unfold amfile_routed amfile_word amfile_table
  simp only [bd_some, node_eta]
  simp only [routeN]
  cases r.8 <;> rfl
theorem amfile_route_eq (r : Route) (d : Nat) (hf : RouteFit r) (hs : routeS d r = true) : amfile_route std r = some (routeN d r) := amfile_route_N_eq _ r d (Nat.lt_succ_self _) hf hs
noncomputable def nodeS (c : Config) : Node := mapN topsW [routeN 4 c.Route, rowN (c.Receivers.map wordN), rowN (c.Inhibits.map quietN), rowN (c.Hours.map spanN)]
theorem amfile_node_eq (c : Config) (hf : configFit c) (h : routeS 4 c.Route = true) (hr : c.Receivers.length ≤ 16) (hi : c.Inhibits.length ≤ 8 ∧ ∀ x ∈ c.Inhibits, inhibitS x = true) (hh : c.Hours.length ≤ 8 ∧ ∀ x ∈ c.Hours, hourS x = true) : amfile_node std c = some (nodeS c) := by
 unfold amfile_node amfile_tops amfile_table
 have e1 : amfile_row_Inhibit std c.4 (fun y0 => amfile_quiet std y0) = some (rowN (c.Inhibits.map quietN)) :=
  row_eq (t := .inhibit) (amfile_row_Inhibit_B1 std c.Inhibits fun y0 => amfile_quiet std y0) c.Inhibits _ quietN (fun i b => rfl) (fun x hx => amfile_quiet_eq x (hf.2.2.2.1.2 x hx) (hi.2 x hx)) (by omega)
 have e2 : amfile_row_Hours std c.5 (fun y0 => amfile_span std y0) = some (rowN (c.Hours.map spanN)) :=
  row_eq (t := .hours) (amfile_row_Hours_B1 std c.Hours fun y0 => amfile_span std y0) c.Hours _ spanN (fun i b => rfl) (fun x hx => amfile_span_eq x (hh.2 x hx)) (by omega)
 rw [amfile_route_eq c.2 4 hf.2.1 h, row_words c.3 (by omega), e1, e2]
 simp only [bd_some, node_eta]
 rfl
end Go.PL
namespace Go.PL
set_option linter.unusedSimpArgs false
set_option linter.unusedVariables false
set_option linter.unusedSectionVars false
open Tys (Ty U)
open Enc (sz enc dflt tb ofB toB)
open Dec (dec dok)
set_option maxRecDepth 100000
def owordS (s : ByteArray) : Bool := (bytes s).all plainC && decide (s.size ≤ 200)
theorem outline_word_eq (s : ByteArray) : outline_word std s = some (owordS s) := by
 unfold outline_word
 rw [show std.cmp .leq (std.slen s) 200 = decide (s.size ≤ 200) from leN (b := 200)]
 unfold owordS
 by_cases h : s.size ≤ 200
 ·rw [decide_eq_true h, gd_t, s2b_eq, contains_byte _ (fun c => !plainC c) _ (fun c _ => by
   unfold outline_word_1
   simp only [s_lor, s_lss, s_gtr]
   congr 1
   rw [Bool.eq_iff_iff]
   simp [plainC, inC]
   omega) (by rw [len_bytes]; unfold big63; omega), bd_some, s_land, s_not, Bool.true_and, Bool.and_true, List.all_eq_not_any_not]
 ·rw [decide_eq_false h, gd_f, bd_some, s_land, Bool.false_and, Bool.and_false]
theorem outline_small_eq (c : UInt8) : outline_small std (c.toNat : Int) = some (wordC c) := by
 unfold outline_small
 simp only [s_land, s_lor, s_leq, s_geq, s_eql]
 congr 1
 rw [Bool.eq_iff_iff]
 simp [wordC, lowC, digC, barC, inC]
 omega
theorem outline_name_eq (s : ByteArray) : outline_name std s = some (wordS s) := by
 unfold outline_name
 have h0 : std.and (std.scmp .neq s (ByteArray.mk (Array.mk []))) (std.cmp .leq (std.slen s) 64) = (decide (1 ≤ s.size) && decide (s.size ≤ 64)) := by
  rw [s_land, s_sneq, empty_size, s_leq, s_slen]; congr 1; exact leN (b := 64)
 rw [h0]
 unfold wordS
 by_cases h : (decide (1 ≤ s.size) && decide (s.size ≤ 64)) = true
 ·rw [h, gd_t, s2b_eq, contains_byte _ (fun c => !wordC c) _ (fun c _ => by
   unfold outline_name_1
   rw [outline_small_eq, bd_some, s_not]) (by simp at h; rw [len_bytes]; unfold big63; omega), bd_some, s_land, s_not, Bool.true_and]
  rw [Bool.and_assoc, h, Bool.and_true, List.all_eq_not_any_not]
 ·simp only [Bool.not_eq_true] at h
  rw [h, gd_f, bd_some, s_land, Bool.false_and, Bool.and_assoc, h, Bool.and_false]
def keyP (l : List ByteArray) (i : Nat) (s : ByteArray) : Bool := wordS s && onceP l i s
def namesN (l : List ByteArray) (k : Nat) : Bool := allI (keyP l) 0 l && decide (l.length = k)
theorem contains_take (l : List ByteArray) (i : Nat) (s : ByteArray) (h : l.length ≤ big63) : slices_Contains_string_string std (std.lsub TyS.str l 0 (i : Int)) s = some (hasS (l.take i) s) := by
 rw [s_lsub, Int.toNat_natCast, show Int.toNat 0 = 0 from rfl, List.drop_zero, contains_s _ _ (by rw [List.length_take]; omega), hasS_comm]
theorem outline_names_eq (l : List ByteArray) (k : Nat) (h : l.length ≤ big63) : outline_names std l (k : Int) = some (namesN l k) := by
 unfold outline_names
 refine Loop_elems (t := TyS.str) (B := outline_names_B1 std l (k : Int)) (fun i => i) l h (keyP l) (decide (l.length = k)) _ _ (fun i => rfl) (fun i s hs hi => ?_) (fun _ => ?_) (fun _ => ⟨_, rfl⟩)
 ·rw [get_nat (t := TyS.str) hs, outline_name_eq, bd_some, ck_t (vc_of fun _ => by show (0 : Int) ≤ 0 ∧ (0 : Int) ≤ i ∧ (i : Int) ≤ (l.length : Int); omega), contains_take l i s h]
  unfold keyP onceP
  cases wordS s <;> cases hasS (l.take i) s <;> rfl
 ·rw [len_nat]
  congr 1
  rw [s_eql, Bool.eq_iff_iff]
  simp
  omega
def mayN : Nat → Node → Bool
 | 0, _ => false
 | d + 1, n => if n.Kind = 1 then owordS n.Word && decide (n.Names.length = 0) && decide (n.Items.length = 0)
  else if n.Kind = 2 then decide (n.Word.size = 0) && decide (n.Items.length ≤ 64) && namesN n.Names 0 && n.Items.all (mayN d)
  else if n.Kind = 3 then decide (n.Word.size = 0) && decide (n.Items.length ≤ 64) && namesN n.Names n.Items.length && n.Items.all (mayN d)
  else false
inductive NodeFit : Node → Prop where
 | mk (n : Node) (h1 : n.Names.length ≤ big63) (h2 : n.Items.length ≤ big63) (h3 : ∀ k ∈ n.Items, NodeFit k) : NodeFit n
theorem node_lt {r k : Node} (h : k ∈ r.Items) : SizeOf.sizeOf k < SizeOf.sizeOf r := by
 have := List.sizeOf_lt_of_mem h
 cases r
 simp only [Node.mk.sizeOf_spec] at this ⊢
 omega
theorem seq_empty (s : ByteArray) : std.scmp .eql s (ByteArray.mk (Array.mk [])) = decide (s.size = 0) := by
 have := empty_size s
 rw [s_seql, Bool.eq_iff_iff]
 have h2 : (decide (s ≠ ByteArray.mk (Array.mk [])) = true ↔ decide (1 ≤ s.size) = true) := by rw [this]
 simp only [decide_eq_true_eq] at h2 ⊢
 constructor
 ·intro h
  rcases Nat.eq_zero_or_pos s.size with h0 | h0
  ·exact h0
  ·exact absurd h (h2.2 h0)
 ·intro h
  by_cases he : s = ByteArray.mk (Array.mk [])
  ·exact he
  ·have := h2.1 he; omega
theorem contains_Node (xs : List Node) (p : Node → Bool) (q : Node → Option Bool) (hq : ∀ x ∈ xs, q x = some (p x)) (hl : xs.length ≤ big63) : slices_ContainsFunc_Node_Node std xs q = some (xs.any p) := by
 have h1 : slices_IndexFunc_Node_Node std xs q = some (fnd xs p) := idx_loop (t := TyS.node) xs p q hq hl
 unfold slices_ContainsFunc_Node_Node
 rw [h1, bd_some, s_geq, any_find]
theorem outline_may_eq : ∀ (n : Nat) (x : Node) (d : Nat), SizeOf.sizeOf x < n → NodeFit x → d ≤ 100 → outline_may_N std n x (d : Int) = some (mayN d x)
 | 0, x, d, h, _, _ => by omega
 | n + 1, x, d, h, hf, hd => by
  obtain ⟨_, h1, h2, h3⟩ := hf
  rw [outline_may_N, outline_may_S]
  cases d with
  | zero => rfl
  | succ d =>
   rw [show std.cmp .eql ((d + 1 : Nat) : Int) 0 = false by rw [s_eql]; simp; omega, br_false]
   have hc : slices_ContainsFunc_Node_Node std x.4 (fun y0 => outline_may_1 std (outline_may_N std n) y0 ((d + 1 : Nat) : Int)) = some (x.Items.any fun k => !mayN d k) := contains_Node x.Items (fun k => !mayN d k) _ (fun k hk => by
    unfold outline_may_1
    rw [show std.ar .sub .i64 ((d + 1 : Nat) : Int) 1 = (d : Int) by rw [s_sub, w64 (by omega)]; omega, outline_may_eq n k d (by have := node_lt hk; omega) (h3 k hk) (by omega), bd_some, s_not]) h2
   have hl : std.cmp .leq (std.len TyS.node x.4) 64 = decide (x.Items.length ≤ 64) := leq_len (t := TyS.node) x.4 64
   have hz1 : std.cmp .eql (std.len TyS.str x.3) 0 = decide (x.Names.length = 0) := by rw [len_nat, s_eql, Bool.eq_iff_iff]; simp
   have hz2 : std.cmp .eql (std.len TyS.node x.4) 0 = decide (x.Items.length = 0) := by rw [len_nat, s_eql, Bool.eq_iff_iff]; simp
   have n0 : outline_names std x.3 0 = some (namesN x.Names 0) := outline_names_eq x.Names 0 h1
   have n1 : outline_names std x.3 (std.len TyS.node x.4) = some (namesN x.Names x.Items.length) := outline_names_eq x.Names x.Items.length h1
   rw [hl, hz1, hz2, outline_word_eq, n0, n1, hc, seq_empty]
   simp only [mayN, s_eql]
   by_cases k1 : x.Kind = 1
   ·rw [if_pos k1, k1]
    rfl
   ·rw [if_neg k1, show (x.1 == (1 : Int)) = false by simpa using k1, br_false]
    by_cases k2 : x.Kind = 2
    ·rw [if_pos k2, k2]
     simp only [show ((2 : Int) == 2) = true from rfl, show ((2 : Int) == 3) = false from rfl, br_true, br_false, s_land, s_not]
     rw [gd_b (fun _ => rfl), bd_some, gd_b (fun _ => rfl), bd_some, all_not_any]
     cases decide (x.Word.size = 0) <;> cases decide (x.Items.length ≤ 64) <;> cases namesN x.Names 0 <;> simp
    ·rw [if_neg k2, show (x.1 == (2 : Int)) = false by simpa using k2, br_false]
     by_cases k3 : x.Kind = 3
     ·rw [if_pos k3, k3]
      simp only [show ((3 : Int) == 3) = true from rfl, br_true, br_false, s_land, s_not]
      rw [gd_b (fun _ => rfl), bd_some, gd_b (fun _ => rfl), bd_some, all_not_any]
      cases decide (x.Word.size = 0) <;> cases decide (x.Items.length ≤ 64) <;> cases namesN x.Names x.Items.length <;> simp
     ·rw [if_neg k3, show (x.1 == (3 : Int)) = false by simpa using k3, br_false]
theorem outline_Right_eq (x : Node) (hf : NodeFit x) : outline_Right std x = some (mayN 8 x) := by
 unfold outline_Right outline_may
 rw [show (8 : Int) = ((8 : Nat) : Int) from rfl, outline_may_eq _ x 8 (Nat.lt_succ_self _) hf (by omega), bd_some]
end Go.PL
namespace Go.PL
set_option linter.unusedSimpArgs false
set_option linter.unusedVariables false
set_option linter.unusedSectionVars false
open Tys (Ty U)
open Enc (sz enc dflt tb ofB toB)
open Dec (dec dok)
set_option maxRecDepth 100000
noncomputable def quotedS (s : ByteArray) : ByteArray := (outline_quoted std s).getD ⟨#[]⟩
theorem outline_plain_some (c : UInt8) : ∃ b, outline_plain std (c.toNat : Int) = some b := by
 unfold outline_plain strings_IndexByte
 rw [outline_small_eq, bd_some, gd_of (fun _ => rfl), bd_some]
 exact ⟨_, rfl⟩
theorem quoted_eq (s : ByteArray) (hs : s.size ≤ 200) : outline_quoted std s = some (quotedS s) ∧ (quotedS s).size ≤ 2000 := by
 have key : ∃ t, outline_quoted std s = some t ∧ t.size ≤ 2000 := by
  unfold outline_quoted
  obtain ⟨a, ha, la⟩ := replace_some s (ByteArray.mk (Array.mk [92])) (ByteArray.mk (Array.mk [92, 92])) (by decide) rfl (by omega)
  obtain ⟨b, hb, lb⟩ := replace_some a (ByteArray.mk (Array.mk [34])) (ByteArray.mk (Array.mk [92, 34])) (by decide) rfl (by omega)
  have hp : ∀ c : UInt8, ∃ b, outline_quoted_1 std (c.toNat : Int) = some b := fun c => by
   obtain ⟨b, hb⟩ := outline_plain_some c
   unfold outline_quoted_1
   rw [hb, bd_some]
   exact ⟨_, rfl⟩
  have hc : slices_ContainsFunc_byte_byte std (std.s2b s) (fun y0 => outline_quoted_1 std y0) = some ((bytes s).any fun c => (outline_quoted_1 std (c.toNat : Int)).getD false) := by
   rw [s2b_eq]
   exact contains_byte _ _ _ (fun c _ => by obtain ⟨b, hb⟩ := hp c; rw [hb]; rfl) (by rw [len_bytes]; unfold big63; omega)
  rw [ck_t (vc_of fun h => by
   rw [s_sneq, empty_size, decide_eq_true_eq] at h
   show (0 : Int) ≤ 0 ∧ (0 : Int) < (s.size : Int)
   omega), gd_of (fun _ => hc), bd_some, ha, bd_some, hb, bd_some]
  have q1 : (ByteArray.mk (Array.mk [34])).size = 1 := rfl
  have z1 : (ByteArray.mk (Array.mk [34]) ++ b).size = 1 + b.size := by rw [ByteArray.size_append, q1]
  rw [s_cat, s_cat, ck_t (show std.catOk _ _ by rw [s_catOk, q1]; omega), ck_t (show std.catOk _ _ by rw [s_catOk, z1, q1]; omega)]
  cases std.and _ _ with
  | true => exact ⟨_, rfl, by omega⟩
  | false => exact ⟨_, rfl, by rw [ByteArray.size_append, z1, q1]; omega⟩
 obtain ⟨t, h1, h2⟩ := key
 have : quotedS s = t := by unfold quotedS; rw [h1]; rfl
 rw [this]; exact ⟨h1, h2⟩
noncomputable def valueS' (n : Node) : ByteArray := if n.Kind = 1 then ByteArray.mk (Array.mk [32]) ++ quotedS n.Word else if 0 < n.Items.length then ByteArray.mk (Array.mk []) else if n.Kind = 2 then ByteArray.mk (Array.mk [32, 91, 93]) else ByteArray.mk (Array.mk [32, 123, 125])
theorem outline_value_eq (n : Node) (d : Nat) (h : mayN d n = true) : ∃ b, outline_value std n = some (valueS' n, b) ∧ (valueS' n).size ≤ 2001 := by
 unfold outline_value valueS'
 by_cases k1 : n.Kind = 1
 ·have hw : n.Word.size ≤ 200 := by
   cases d with
   | zero => cases h
   | succ d =>
    simp only [mayN, if_pos k1, owordS, Bool.and_eq_true, decide_eq_true_eq] at h
    exact h.1.1.2
  obtain ⟨h1, h2⟩ := quoted_eq n.Word hw
  have q1 : (ByteArray.mk (Array.mk [32])).size = 1 := rfl
  rw [if_pos k1, show std.cmp .eql n.1 1 = true by rw [s_eql]; simpa using k1, br_true, h1, bd_some, ck_t (show std.catOk _ _ by rw [s_catOk, q1]; omega)]
  exact ⟨_, rfl, by rw [ByteArray.size_append, q1]; omega⟩
 ·rw [if_neg k1, show std.cmp .eql n.1 1 = false by rw [s_eql]; simpa using k1, br_false]
  by_cases k2 : 0 < n.Items.length
  ·rw [if_pos k2, show std.cmp .gtr (std.len TyS.node n.4) 0 = true by rw [s_gtr, len_nat]; exact decide_eq_true (by omega), br_true]
   exact ⟨_, rfl, by show (0 : Nat) ≤ _; omega⟩
  ·rw [if_neg k2, show std.cmp .gtr (std.len TyS.node n.4) 0 = false by rw [s_gtr, len_nat]; exact decide_eq_false (by omega), br_false]
   by_cases k3 : n.Kind = 2
   ·rw [if_pos k3, show std.cmp .eql n.1 2 = true by rw [s_eql]; simpa using k3, br_true]
    exact ⟨_, rfl, by show (3 : Nat) ≤ _; omega⟩
   ·rw [if_neg k3, show std.cmp .eql n.1 2 = false by rw [s_eql]; simpa using k3, br_false]
    exact ⟨_, rfl, by show (3 : Nat) ≤ _; omega⟩
def itemsL (f : Nat → Node → List UInt8) : Nat → List Node → List UInt8
 | _, [] => []
 | i, x :: xs => f i x ++ itemsL f (i + 1) xs
theorem runL_items {ε : Type} (f : Nat → Node → List UInt8) (fin : List UInt8 → ε) : ∀ (xs : List Node) (i : Nat) (s : List UInt8), runL (fun i x s => (.inl (s ++ f i x) : List UInt8 ⊕ ε)) fin i xs s = fin (s ++ itemsL f i xs)
 | [], i, s => by simp [runL, itemsL]
 | x :: xs, i, s => by
  simp only [runL, itemsL]
  rw [runL_items f fin xs (i + 1), List.append_assoc]
def headL (n : Node) (i : Nat) : List UInt8 := if n.Kind = 3 then bytes (n.Names.getD i ⟨#[]⟩) ++ [58] else [45]
noncomputable def linesL : Nat → Nat → Node → List UInt8
 | 0, _, _ => []
 | d + 1, k, n => itemsL (fun i x => Lib.repeatL [32] (2 * k) ++ headL n i ++ bytes (valueS' x) ++ [10] ++ linesL d (k + 1) x) 0 n.Items
theorem may_items {d : Nat} {n : Node} (h : mayN (d + 1) n = true) : ∀ x ∈ n.Items, mayN d x = true := by
 intro x hx
 simp only [mayN] at h
 split at h
 ·simp only [Bool.and_eq_true, decide_eq_true_eq] at h
  rw [List.eq_nil_of_length_eq_zero h.2] at hx; cases hx
 ·split at h
  ·simp only [Bool.and_eq_true, List.all_eq_true] at h; exact h.2 x hx
  ·split at h
   ·simp only [Bool.and_eq_true, List.all_eq_true] at h; exact h.2 x hx
   ·cases h
theorem may_few {d : Nat} {n : Node} (h : mayN (d + 1) n = true) : n.Items.length ≤ 64 := by
 simp only [mayN] at h
 split at h
 ·simp only [Bool.and_eq_true, decide_eq_true_eq] at h; omega
 ·split at h
  ·simp only [Bool.and_eq_true, decide_eq_true_eq] at h; exact h.1.1.2
  ·split at h
   ·simp only [Bool.and_eq_true, decide_eq_true_eq] at h; exact h.1.1.2
   ·cases h
theorem may_names {d : Nat} {n : Node} (h : mayN (d + 1) n = true) (k3 : n.Kind = 3) : n.Names.length = n.Items.length ∧ ∀ s ∈ n.Names, s.size ≤ 64 := by
 simp only [mayN] at h
 rw [if_neg (by omega), if_neg (by omega), if_pos k3] at h
 simp only [Bool.and_eq_true, decide_eq_true_eq, namesN] at h
 refine ⟨h.1.2.2, fun s hs => ?_⟩
 obtain ⟨j, hj⟩ := allI_mem h.1.2.1 s hs
 simp only [keyP, wordS, Bool.and_eq_true, decide_eq_true_eq] at hj
 exact hj.1.2
theorem head_le {d : Nat} {n : Node} (h : mayN (d + 1) n = true) (i : Nat) (hi : i < n.Items.length) : (headL n i).length ≤ 65 := by
 unfold headL
 split
 ·rename_i k3
  obtain ⟨h1, h2⟩ := may_names h k3
  obtain ⟨nm, hnm⟩ := at_some (xs := n.Names) (i := i) (by omega)
  rw [get_at hnm, List.length_append, len_bytes]
  have := h2 nm (mem_at hnm)
  simp only [List.length_singleton]; omega
 ·simp
theorem itemsL_drop (f : Nat → Node → List UInt8) {xs : List Node} {i : Nat} {x : Node} (h : xs[i]? = some x) : itemsL f i (xs.drop i) = f i x ++ itemsL f (i + 1) (xs.drop (i + 1)) := by
 have hi := lt_of_at h
 rw [List.drop_eq_getElem_cons hi]
 have : xs[i] = x := by rw [List.getElem?_eq_getElem hi] at h; exact Option.some.inj h
 rw [this]; rfl
theorem outline_lines_N_eq : ∀ (n : Nat) (x : Node) (d k : Nat) (acc : List UInt8), SizeOf.sizeOf x < n → mayN d x = true → k + d ≤ 1000 → acc.length + (linesL d k x).length ≤ 90000000000000 → outline_lines_N std n acc x (k : Int) = some (acc ++ linesL d k x)
 | 0, x, d, k, acc, h, _, _, _ => by omega
 | n + 1, x, d, k, acc, h, hm, hk, hl => by
  cases d with
  | zero => cases hm
  | succ d =>
   have hfew := may_few hm
   rw [outline_lines_N, outline_lines_S]
   have := Loop_row (B := outline_lines_S_B1 std (outline_lines_N std n) x (k : Int)) (fun i (s : List UInt8) => ((i : Int), s)) x.Items (fun i y s => (.inl (s ++ (Lib.repeatL [32] (2 * k) ++ headL x i ++ bytes (valueS' y) ++ [10] ++ linesL d (k + 1) y)) : List UInt8 ⊕ List UInt8)) (fun s => s) (fun i s => s.length + (itemsL (fun i y => Lib.repeatL [32] (2 * k) ++ headL x i ++ bytes (valueS' y) ++ [10] ++ linesL d (k + 1) y) i (x.Items.drop i)).length ≤ 90000000000000) (fun i y s hy hI => ?_) (fun s _ => ?_) acc (by rw [List.drop_zero]; exact hl)
   ·show Loop _ (((0 : Nat) : Int), acc) = _
    rw [this, runL_items]; rfl
   ·refine ⟨fun s' hs => ?_, fun e he => by cases he⟩
    cases hs
    have hi := lt_of_at hy
    rw [itemsL_drop _ hy] at hI
    simp only [List.length_append, List.length_singleton] at hI
    refine ⟨?_, by simp only [List.length_append, List.length_singleton]; omega⟩
    have hmy := may_items hm y (mem_at hy)
    obtain ⟨b, hv, hvl⟩ := outline_value_eq y d hmy
    have hvb : (bytes (valueS' y)).length = (valueS' y).size := len_bytes _
    unfold outline_lines_S_B1
    simp only
    rw [len_nat, lssT hi, br_true, ck_t (inbT hi), get_nat (t := TyS.node) hy, hv]
    have hr : strings_Repeat std (ByteArray.mk (Array.mk [32])) (std.ar .mul .i64 2 (k : Int)) = some ⟨(Lib.repeatL [32] (2 * k)).toArray⟩ := by
     rw [s_mul, w64 (by omega), show (2 * (k : Int)) = ((2 * k : Nat) : Int) by omega]
     unfold strings_Repeat
     rw [Int.toNat_natCast]
     exact ck_t ⟨by omega, by omega, by show 1 * (2 * k) ≤ _; omega⟩
    have hrb : bytes (ByteArray.mk (Lib.repeatL [32] (2 * k)).toArray) = Lib.repeatL [32] (2 * k) := bytes_mk _
    have hrz : (ByteArray.mk (Lib.repeatL [32] (2 * k)).toArray).size = (Lib.repeatL [32] (2 * k)).length := by rw [size_bytes, hrb]
    have hadd : std.ar .add .i64 (k : Int) 1 = ((k + 1 : Nat) : Int) := wrap_succ (n := 2000) (by omega) (by unfold big63; omega)
    have q10 : (ByteArray.mk (Array.mk [10])).size = 1 := rfl
    have z10 : (valueS' y ++ ByteArray.mk (Array.mk [10])).size = (valueS' y).size + 1 := by rw [ByteArray.size_append, q10]
    have b10 : bytes (valueS' y ++ ByteArray.mk (Array.mk [10])) = bytes (valueS' y) ++ [10] := bytes_app _ _
    have hc10 : std.catOk (valueS' y) (ByteArray.mk (Array.mk [10])) := by rw [s_catOk, q10]; omega
    rw [hr, bd_some, write_eq _ _ (by rw [hrz]; omega), bd_some, hrb, hadd]
    simp only [bd_some]
    simp only [ck_t hc10, s_cat (a := valueS' y)]
    have hrec : ∀ a : List UInt8, a.length + (linesL d (k + 1) y).length ≤ 90000000000000 → outline_lines_N std n a y ((k + 1 : Nat) : Int) = some (a ++ linesL d (k + 1) y) := fun a ha => outline_lines_N_eq n y d (k + 1) a (by have := node_lt (mem_at hy); omega) hmy (by omega) ha
    by_cases k3 : x.Kind = 3
    ·have hh : headL x i = bytes (x.Names.getD i ⟨#[]⟩) ++ [58] := if_pos k3
     obtain ⟨l1, l2⟩ := may_names hm k3
     obtain ⟨nm, hnm⟩ := at_some (xs := x.Names) (i := i) (by omega)
     have hg : x.Names.getD i ⟨#[]⟩ = nm := get_at hnm
     have hnz := l2 nm (mem_at hnm)
     have hnb : (bytes nm).length = nm.size := len_bytes _
     rw [hh, hg] at hI
     simp only [List.length_append, List.length_singleton] at hI
     have q58 : (ByteArray.mk (Array.mk [58])).size = 1 := rfl
     have z58 : (nm ++ ByteArray.mk (Array.mk [58])).size = nm.size + 1 := by rw [ByteArray.size_append, q58]
     have b58 : bytes (nm ++ ByteArray.mk (Array.mk [58])) = bytes nm ++ [58] := bytes_app _ _
     rw [show std.cmp .eql x.1 3 = true by rw [s_eql]; simpa using k3, br_true, ck_t (show std.inb (i : Int) (std.len TyS.str x.3) by rw [len_nat]; exact inbT (by omega)), get_nat (t := TyS.str) hnm, ck_t (show std.catOk nm (ByteArray.mk (Array.mk [58])) by rw [s_catOk, q58]; omega), s_cat, write_eq _ _ (by rw [z58]; simp only [List.length_append]; omega), bd_some, b58, write_eq _ _ (by rw [z10]; simp only [List.length_append, List.length_singleton]; omega), bd_some, b10, hrec _ (by simp only [List.length_append, List.length_singleton]; omega), bd_some, s_add, wrap_succ hi (by unfold big63; omega), hh, hg]
     simp only [List.append_assoc]
    ·have hh : headL x i = [45] := if_neg k3
     rw [hh] at hI
     simp only [List.length_singleton] at hI
     have b45 : bytes (ByteArray.mk (Array.mk [45])) = [45] := rfl
     have z45 : (ByteArray.mk (Array.mk [45])).size = 1 := rfl
     rw [show std.cmp .eql x.1 3 = false by rw [s_eql]; simpa using k3, br_false, write_eq _ _ (by rw [z45]; simp only [List.length_append]; omega), bd_some, b45, write_eq _ _ (by rw [z10]; simp only [List.length_append, List.length_singleton]; omega), bd_some, b10, hrec _ (by simp only [List.length_append, List.length_singleton]; omega), bd_some, s_add, wrap_succ hi (by unfold big63; omega), hh]
     simp only [List.append_assoc]
   ·unfold outline_lines_S_B1
    simp only
    rw [len_nat, lssF, br_false]
    rfl
end Go.PL
namespace Go.PL
set_option linter.unusedSimpArgs false
set_option linter.unusedVariables false
set_option linter.unusedSectionVars false
open Tys (Ty U)
open Enc (sz enc dflt tb ofB toB)
open Dec (dec dok)
set_option maxRecDepth 100000
def wN : Nat → Node → Nat
 | 0, _ => 0
 | d + 1, n => (n.Items.map fun x => 1 + wN d x).sum
theorem sum_le {α : Type} (f g : α → Nat) : ∀ l : List α, (∀ x ∈ l, f x ≤ g x) → (l.map f).sum ≤ (l.map g).sum
 | [], _ => Nat.le_refl _
 | x :: l, h => by
  simp only [List.map_cons, List.sum_cons]
  have := sum_le f g l fun y hy => h y (List.mem_cons_of_mem _ hy)
  have := h x (List.mem_cons_self ..)
  omega
theorem sum_mul {α : Type} (f : α → Nat) (k : Nat) : ∀ l : List α, (l.map fun x => f x * k).sum = (l.map f).sum * k
 | [] => by simp
 | x :: l => by simp only [List.map_cons, List.sum_cons, sum_mul f k l, Nat.add_mul]
theorem sum_const {α : Type} (f : α → Nat) (m : Nat) : ∀ l : List α, (∀ x ∈ l, f x ≤ m) → (l.map f).sum ≤ l.length * m
 | [], _ => by simp
 | x :: l, h => by
  have := sum_const f m l fun y hy => h y (List.mem_cons_of_mem _ hy)
  have := h x (List.mem_cons_self ..)
  simp only [List.map_cons, List.sum_cons, List.length_cons, Nat.succ_mul]
  omega
theorem itemsL_le (f : Nat → Node → List UInt8) (g : Node → Nat) : ∀ (xs : List Node) (i : Nat), (∀ j x, xs[j]? = some x → (f (i + j) x).length ≤ g x) → (itemsL f i xs).length ≤ (xs.map g).sum
 | [], i, h => by simp [itemsL]
 | x :: xs, i, h => by
  have h1 := itemsL_le f g xs (i + 1) fun j y hy => by
   have := h (j + 1) y (by simpa using hy)
   rwa [show i + (j + 1) = i + 1 + j by omega] at this
  have h2 := h 0 x rfl
  simp only [itemsL, List.length_append, List.map_cons, List.sum_cons]
  rw [Nat.add_zero] at h2
  omega
theorem linesL_le : ∀ (d k : Nat) (n : Node), mayN d n = true → (linesL d k n).length ≤ wN d n * (2 * (k + d) + 2100)
 | 0, k, n, h => by simp [linesL]
 | d + 1, k, n, h => by
  rw [linesL, wN]
  refine Nat.le_trans (itemsL_le _ (fun x => (1 + wN d x) * (2 * (k + (d + 1)) + 2100)) n.Items 0 fun j x hx => ?_) (Nat.le_of_eq (sum_mul _ _ _))
  rw [Nat.zero_add]
  have hm := may_items h x (mem_at hx)
  obtain ⟨b, _, hv⟩ := outline_value_eq x d hm
  have h1 := head_le h j (lt_of_at hx)
  have h2 := linesL_le d (k + 1) x hm
  have h3 := Lib.repeatL_length [32] (2 * k)
  have e : k + 1 + d = k + (d + 1) := by omega
  rw [e] at h2
  simp only [List.length_append, len_bytes, List.length_singleton] at h3 ⊢
  rw [h3, Nat.add_mul, Nat.one_mul]
  omega
theorem w_row (d : Nat) (l : List Node) (m : Nat) (h : ∀ x ∈ l, wN d x ≤ m) : wN (d + 1) (rowN l) ≤ l.length * (1 + m) := by
 rw [wN]
 exact sum_const _ _ _ fun x hx => by have := h x hx; omega
theorem w_word (d : Nat) (s : ByteArray) : wN d (wordN s) = 0 := by cases d <;> rfl
theorem w_words (d : Nat) {α : Type} (f : α → ByteArray) (l : List α) : wN d (rowN (l.map fun x => wordN (f x))) ≤ l.length := by
 cases d with
 | zero => exact Nat.zero_le _
 | succ d =>
  have := w_row d (l.map fun x => wordN (f x)) 0 fun x hx => by
   obtain ⟨y, _, rfl⟩ := List.mem_map.1 hx
   rw [w_word]; exact Nat.le_refl _
  simpa using this
theorem allD_pos (d : Nat) (r : Route) : 1 ≤ (allD d r).length := by cases d <;> simp [allD]
theorem sum_flat {α β : Type} (f : α → List β) : ∀ l : List α, (l.map f).flatten.length = (l.map fun x => (f x).length).sum
 | [] => rfl
 | x :: l => by simp only [List.map_cons, List.flatten_cons, List.length_append, List.sum_cons, sum_flat f l]
theorem w_route : ∀ (d D : Nat) (r : Route), routeS d r = true → wN D (routeN d r) + 1 ≤ 34 * (allD d r).length
 | 0, D, r, h => by cases h
 | d + 1, 0, r, h => by
  have := allD_pos (d + 1) r
  simp only [wN]; omega
 | d + 1, D + 1, r, h => by
  have hk := routeS_kids h
  have h1 : oneS r = true := by simp only [routeS, Bool.and_eq_true] at h; exact h.1
  simp only [oneS, matchersS, orderS, Bool.and_eq_true, decide_eq_true_eq] at h1
  obtain ⟨⟨⟨⟨⟨⟨⟨_, _, m1⟩, m2⟩, _, m3⟩, _, m4⟩, _⟩, _⟩, _⟩ := h1
  have a1 := w_words D textS r.Match
  have a2 := w_words D (fun x => x) r.By
  have a3 := w_words D (fun x => x) r.Mute
  have a4 : wN D (rowN (r.Routes.map (routeN d))) ≤ 34 * ((r.Routes.map (allD d)).flatten).length := by
   cases D with
   | zero => exact Nat.zero_le _
   | succ D =>
    rw [wN, sum_flat, Nat.mul_comm, ← sum_mul]
    show (((r.Routes.map (routeN d)).map fun x => 1 + wN D x)).sum ≤ _
    rw [List.map_map]
    exact sum_le _ _ _ fun k hk' => by
     have := w_route d D k (hk.2 k hk')
     show 1 + wN D (routeN d k) ≤ _
     omega
  have e : wN (D + 1) (routeN (d + 1) r) = 9 + (wN D (rowN (r.Match.map matchN)) + wN D (rowN (r.By.map wordN)) + wN D (rowN (r.Mute.map wordN)) + wN D (rowN (r.Routes.map (routeN d)))) := by
   simp only [routeN, mapN, wN, List.map_cons, List.map_nil, List.sum_cons, List.sum_nil]
   have z : ∀ s, wN D (wordN s) = 0 := w_word D
   simp only [z, numN]
   omega
  rw [e, allD, List.length_cons]
  have b1 : wN D (rowN (r.Match.map matchN)) ≤ r.Match.length := a1
  have b2 : wN D (rowN (r.By.map wordN)) ≤ r.By.length := a2
  have b3 : wN D (rowN (r.Mute.map wordN)) ≤ r.Mute.length := a3
  omega
theorem w_node (c : Config) (D : Nat) (h : routeS 4 c.Route = true) (hn : (allD 4 c.Route).length ≤ 32) (hr : c.Receivers.length ≤ 16) (hi : c.Inhibits.length ≤ 8 ∧ ∀ x ∈ c.Inhibits, inhibitS x = true) (hh : c.Hours.length ≤ 8) : wN (D + 2) (nodeS c) ≤ 2000 := by
 have a1 := w_route 4 (D + 1) c.Route h
 have a2 := w_words (D + 1) (fun x => x) c.Receivers
 have a3 : wN (D + 1) (rowN (c.Inhibits.map quietN)) ≤ c.Inhibits.length * 28 := by
  have := w_row D (c.Inhibits.map quietN) 27 fun x hx => by
   obtain ⟨y, hy, rfl⟩ := List.mem_map.1 hx
   have := hi.2 y hy
   simp only [inhibitS, matchersS, Bool.and_eq_true, decide_eq_true_eq] at this
   obtain ⟨_, ⟨⟨⟨_, _⟩, h1⟩, _, h2⟩, _, h3⟩ := this
   cases D with
   | zero => exact Nat.zero_le _
   | succ D =>
    have b1 : wN D (rowN (y.Source.map matchN)) ≤ y.Source.length := w_words D textS y.Source
    have b2 : wN D (rowN (y.Target.map matchN)) ≤ y.Target.length := w_words D textS y.Target
    have b3 : wN D (rowN (y.Equal.map wordN)) ≤ y.Equal.length := w_words D (fun x => x) y.Equal
    simp only [quietN, mapN, wN, List.map_cons, List.map_nil, List.sum_cons, List.sum_nil]
    omega
  rw [List.length_map] at this
  exact this
 have a4 : wN (D + 1) (rowN (c.Hours.map spanN)) ≤ c.Hours.length * 3 := by
  have := w_row D (c.Hours.map spanN) 2 fun x hx => by
   obtain ⟨y, hy, rfl⟩ := List.mem_map.1 hx
   cases D with
   | zero => exact Nat.zero_le _
   | succ D =>
    simp only [spanN, mapN, wN, List.map_cons, List.map_nil, List.sum_cons, List.sum_nil, w_word]
    omega
  rw [List.length_map] at this
  exact this
 have b2 : wN (D + 1) (rowN (c.Receivers.map wordN)) ≤ c.Receivers.length := a2
 have m3 : c.Inhibits.length * 28 ≤ 8 * 28 := Nat.mul_le_mul_right _ hi.1
 have m4 : c.Hours.length * 3 ≤ 8 * 3 := Nat.mul_le_mul_right _ hh
 have e : wN (D + 2) (nodeS c) = 4 + (wN (D + 1) (routeN 4 c.Route) + wN (D + 1) (rowN (c.Receivers.map wordN)) + wN (D + 1) (rowN (c.Inhibits.map quietN)) + wN (D + 1) (rowN (c.Hours.map spanN))) := by
  conv => lhs; rw [wN]
  simp only [nodeS, mapN, List.map_cons, List.map_nil, List.sum_cons, List.sum_nil]
  omega
 rw [e]
 omega
theorem fit_word (s : ByteArray) : NodeFit (wordN s) := .mk _ (by simp [wordN]) (by simp [wordN]) fun k hk => by cases hk
theorem fit_row {l : List Node} (h : l.length ≤ 1000) (hl : ∀ x ∈ l, NodeFit x) : NodeFit (rowN l) := .mk _ (by simp [rowN]) (Nat.le_trans h (by decide)) hl
theorem fit_map {ns : List ByteArray} {l : List Node} (hn : ns.length ≤ 1000) (h : l.length ≤ 1000) (hl : ∀ x ∈ l, NodeFit x) : NodeFit (mapN ns l) := .mk _ (Nat.le_trans hn (by decide)) (Nat.le_trans h (by decide)) hl
theorem fit_words {α : Type} (f : α → ByteArray) (l : List α) (h : l.length ≤ 1000) : NodeFit (rowN (l.map fun x => wordN (f x))) := fit_row (by rw [List.length_map]; exact h) fun x hx => by
 obtain ⟨y, _, rfl⟩ := List.mem_map.1 hx
 exact fit_word _
theorem fit_routeN : ∀ (d : Nat) (r : Route), routeS d r = true → NodeFit (routeN d r)
 | 0, r, h => by cases h
 | d + 1, r, h => by
  have hk := routeS_kids h
  have h1 : oneS r = true := by simp only [routeS, Bool.and_eq_true] at h; exact h.1
  simp only [oneS, matchersS, orderS, Bool.and_eq_true, decide_eq_true_eq] at h1
  obtain ⟨⟨⟨⟨⟨⟨⟨_, _, m1⟩, m2⟩, _, m3⟩, _, m4⟩, _⟩, _⟩, _⟩ := h1
  refine fit_map (by decide) (by simp) fun x hx => ?_
  simp only [List.mem_cons, List.mem_nil_iff, or_false] at hx
  rcases hx with rfl | rfl | rfl | rfl | rfl | rfl | rfl | rfl | rfl
  ·exact fit_word _
  ·exact fit_words textS _ (by omega)
  ·exact fit_words (fun x => x) _ (by omega)
  ·exact fit_word _
  ·exact fit_word _
  ·exact fit_word _
  ·exact fit_words (fun x => x) _ (by omega)
  ·exact fit_word _
  ·refine fit_row (by rw [List.length_map]; omega) fun x hx => ?_
   obtain ⟨k, hk', rfl⟩ := List.mem_map.1 hx
   exact fit_routeN d k (hk.2 k hk')
theorem fit_nodeS (c : Config) (h : routeS 4 c.Route = true) (hr : c.Receivers.length ≤ 16) (hi : c.Inhibits.length ≤ 8 ∧ ∀ x ∈ c.Inhibits, inhibitS x = true) (hh : c.Hours.length ≤ 8) : NodeFit (nodeS c) := by
 refine fit_map (by decide) (by simp) fun x hx => ?_
 simp only [List.mem_cons, List.mem_nil_iff, or_false] at hx
 rcases hx with rfl | rfl | rfl | rfl
 ·exact fit_routeN 4 _ h
 ·exact fit_words (fun x => x) _ (by omega)
 ·refine fit_row (by rw [List.length_map]; omega) fun x hx => ?_
  obtain ⟨y, hy, rfl⟩ := List.mem_map.1 hx
  have := hi.2 y hy
  simp only [inhibitS, matchersS, Bool.and_eq_true, decide_eq_true_eq] at this
  obtain ⟨_, ⟨⟨⟨_, _⟩, h1⟩, _, h2⟩, _, h3⟩ := this
  refine fit_map (by simp) (by simp) fun x hx => ?_
  simp only [List.mem_cons, List.mem_nil_iff, or_false] at hx
  rcases hx with rfl | rfl | rfl
  ·exact fit_words textS _ (by omega)
  ·exact fit_words textS _ (by omega)
  ·exact fit_words (fun x => x) _ (by omega)
 ·refine fit_row (by rw [List.length_map]; omega) fun x hx => ?_
  obtain ⟨y, hy, rfl⟩ := List.mem_map.1 hx
  refine fit_map (by simp) (by simp) fun x hx => ?_
  simp only [List.mem_cons, List.mem_nil_iff, or_false] at hx
  rcases hx with rfl | rfl <;> exact fit_word _
noncomputable def printS (n : Node) : ByteArray × Int := cond (!mayN 8 n || decide (n.Items.length = 0)) (ByteArray.mk (Array.mk []), 1) (cond (decide ((linesL 8 0 n).length ≤ 8192)) (⟨(linesL 8 0 n).toArray⟩, 0) (ByteArray.mk (Array.mk []), 2))
theorem outline_Print_eq (n : Node) (hf : NodeFit n) (hw : wN 8 n ≤ 2000) : outline_Print std n = some (printS n) := by
 unfold outline_Print printS
 rw [outline_Right_eq n hf, bd_some, show std.cmp .eql (std.len TyS.node n.4) 0 = decide (n.Items.length = 0) by rw [len_nat, s_eql, Bool.eq_iff_iff]; simp, s_lor, s_not]
 cases hm : mayN 8 n with
 | false => rfl
 | true =>
  have hl := linesL_le 8 0 n hm
  have h2 : wN 8 n * (2 * (0 + 8) + 2100) ≤ 2000 * (2 * (0 + 8) + 2100) := Nat.mul_le_mul_right _ hw
  have e := outline_lines_N_eq (SizeOf.sizeOf n + 1) n 8 0 [] (Nat.lt_succ_self _) hm (by omega) (by rw [List.length_nil]; omega)
  cases decide (n.Items.length = 0) with
  | true => rfl
  | false =>
   rw [Bool.not_true, Bool.or_false, br_false]
   unfold outline_lines
   have e' : outline_lines_N std (SizeOf.sizeOf n + 1) [] n 0 = some ([] ++ linesL 8 0 n) := e
   rw [e', bd_some, List.nil_append]
   unfold strings_Builder_Len
   rw [bd_some, show std.cmp .gtr (std.len TyS.byte (linesL 8 0 n)) 8192 = !decide ((linesL 8 0 n).length ≤ 8192) from gtr_len (t := TyS.byte) (linesL 8 0 n) 8192]
   by_cases h8 : (linesL 8 0 n).length ≤ 8192
   ·rw [decide_eq_true h8, Bool.not_true, br_false]
    unfold strings_Builder_String
    rw [ck_t (by omega), bd_some]
    rfl
   ·rw [decide_eq_false h8, Bool.not_false, br_true]
    rfl
noncomputable def exportA (c : Config) : ByteArray × Int := cond (holdsA c) (printS (nodeS (normS (bareC c)))) (ByteArray.mk (Array.mk []), 11)
theorem norm_hours_len (c : Config) : (normS c).Hours.length = c.Hours.length := sortI_len _ _
theorem norm_recv_len (c : Config) : (normS c).Receivers.length = c.Receivers.length := sortI_len _ _
theorem norm_hours_mem {c : Config} {x : Hours} (h : x ∈ (normS c).Hours) : x ∈ c.Hours := (sortI_perm _ _).mem_iff.1 h
theorem amfile_Export_eq (c : Config) (h : configFit c) : amfile_Export std c = some (exportA c) := by
 unfold amfile_Export amfile_bare exportA
 rw [amfile_Holds_eq c h, bd_some]
 cases hp : holdsA c with
 | false => rfl
 | true =>
  have hb : configS (bareC c) = true := by
   unfold holdsA at hp
   rw [Bool.and_eq_true] at hp
   exact hp.1
  have ok := configS_ok hb
  have hbf := bare_fit h
  have ht := ok.top
  simp only [topS, Bool.and_eq_true, decide_eq_true_eq] at ht
  have hil := norm_inh_len (bareC c)
  have h1 : (normS (bareC c)).Inhibits.length ≤ 8 ∧ ∀ x ∈ (normS (bareC c)).Inhibits, inhibitS x = true := ⟨Nat.le_trans hil ok.inh.1, fun x hx => ok.inh.2 x (norm_inh_mem hx)⟩
  have h2 : (normS (bareC c)).Hours.length ≤ 8 := by rw [norm_hours_len]; exact ok.hours.1
  have h3 : ∀ x ∈ (normS (bareC c)).Hours, hourS x = true := fun x hx => ok.hours.2.1 x (norm_hours_mem hx)
  have h4 : (normS (bareC c)).Receivers.length ≤ 16 := by rw [norm_recv_len]; exact ok.recv.1
  have hr : routeS 4 (normS (bareC c)).Route = true := ht.1.1.1
  rw [s_not, Bool.not_true, br_false, bd_some]
  show (bd (config_Normal std (bareC c)) fun w3 => _) = _
  rw [config_Normal_eq _ hbf, hb]
  simp only [cond_true, bd_some]
  rw [amfile_node_eq _ (norm_fit hbf) hr h4 h1 ⟨h2, h3⟩, bd_some, outline_Print_eq _ (fit_nodeS _ hr h4 h1 h2) (w_node _ 6 hr ht.2 h4 h1 h2), bd_some]
end Go.PL
namespace Go.PL
set_option linter.unusedSimpArgs false
set_option linter.unusedVariables false
set_option linter.unusedSectionVars false
open Tys (Ty U)
open Enc (sz enc dflt tb ofB toB)
open Dec (dec dok)
set_option maxRecDepth 100000
def oplC (c : UInt8) : Bool := wordC c || upC c || inC 45 47 c || inC 58 58 c
theorem outline_plain_eq (c : UInt8) : outline_plain std (c.toNat : Int) = some (oplC c) := by
 unfold outline_plain
 have h0 : std.and (std.cmp .geq (c.toNat : Int) 65) (std.cmp .leq (c.toNat : Int) 90) = upC c := by
  rw [Bool.eq_iff_iff]; simp [upC, inC]; omega
 have h1 : strings_IndexByte std (ByteArray.mk (Array.mk [45, 46, 47, 58])) (c.toNat : Int) = some (Lib.indexByte [45, 46, 47, 58] c) := by
  unfold strings_IndexByte; rw [u8_cast]
 have h2 : [45, 46, 47, 58].contains c = (inC 45 47 c || inC 58 58 c) := by
  simp only [List.contains_cons, eqC, List.contains_nil]
  rw [Bool.eq_iff_iff]; simp [inC]; omega
 rw [h1, outline_small_eq, bd_some, h0]
 unfold oplC
 simp only [s_lor]
 cases h : (wordC c || upC c) with
 | true => rfl
 | false =>
  simp only [s_not, Bool.not_false, gd_t, bd_some, s_geq, index_ge, h2, s_lor, Bool.false_or]
def oplW (s : ByteArray) : Bool := (bytes s).all oplC && decide (1 ≤ s.size) && decide (s.size ≤ 200) && !decide ((bytes s).head? = some 45)
theorem quoted_plain (s : ByteArray) (h : oplW s = true) : quotedS s = s := by
 simp only [oplW, Bool.and_eq_true, decide_eq_true_eq] at h
 obtain ⟨⟨⟨h1, h2⟩, h3⟩, h4⟩ := h
 have key : outline_quoted std s = some s := by
  unfold outline_quoted
  obtain ⟨c, hc⟩ := at_some (xs := bytes s) (i := 0) (by rw [len_bytes]; omega)
  have hg : std.sget s 0 = (c.toNat : Int) := sget_at (i := 0) hc
  have h0 : std.cmp .neq (std.sget s 0) 45 = true := by
   rw [hg]
   have hh : (bytes s).head? = some c := by rw [List.head?_eq_getElem?]; exact hc
   rw [hh] at h4
   have h5 : ¬ c = 45 := by simpa using h4
   have h6 : c.toNat ≠ 45 := fun e => h5 (UInt8.toNat_inj.1 e)
   rw [s_neq, bne_iff_ne]
   omega
  have hcn : slices_ContainsFunc_byte_byte std (std.s2b s) (fun y0 => outline_quoted_1 std y0) = some false := by
   rw [s2b_eq, contains_byte _ (fun c => !oplC c) _ (fun c _ => by
    unfold outline_quoted_1
    rw [outline_plain_eq, bd_some, s_not]) (by rw [len_bytes]; unfold big63; omega), all_not_any, h1]
   rfl
  rw [ck_t (vc_of fun _ => by
   show (0 : Int) ≤ 0 ∧ (0 : Int) < (s.size : Int)
   omega), h0, s_sneq, empty_size, decide_eq_true h2]
  show (bd (gd false true _) fun w2 => _) = _
  rw [gd_t, hcn, bd_some]
  rfl
 unfold quotedS
 rw [key]; rfl
def valueP (n : Node) : ByteArray := if n.Kind = 1 then ByteArray.mk (Array.mk [32]) ++ n.Word else if 0 < n.Items.length then ByteArray.mk (Array.mk []) else if n.Kind = 2 then ByteArray.mk (Array.mk [32, 91, 93]) else ByteArray.mk (Array.mk [32, 123, 125])
def linesP : Nat → Nat → Node → List UInt8
 | 0, _, _ => []
 | d + 1, k, n => itemsL (fun i x => Lib.repeatL [32] (2 * k) ++ headL n i ++ bytes (valueP x) ++ [10] ++ linesP d (k + 1) x) 0 n.Items
def plainN : Nat → Node → Bool
 | 0, _ => true
 | d + 1, n => n.Items.all fun x => (if x.Kind = 1 then oplW x.Word else true) && plainN d x
theorem itemsL_congr (f g : Nat → Node → List UInt8) : ∀ (xs : List Node) (i : Nat), (∀ j x, x ∈ xs → f j x = g j x) → itemsL f i xs = itemsL g i xs
 | [], i, h => rfl
 | x :: xs, i, h => by
  simp only [itemsL]
  rw [h i x (List.mem_cons_self ..), itemsL_congr f g xs (i + 1) fun j y hy => h j y (List.mem_cons_of_mem _ hy)]
theorem lines_plain : ∀ (d k : Nat) (n : Node), plainN d n = true → linesL d k n = linesP d k n
 | 0, k, n, h => rfl
 | d + 1, k, n, h => by
  simp only [plainN, List.all_eq_true, Bool.and_eq_true] at h
  rw [linesL, linesP]
  refine itemsL_congr _ _ _ _ fun j x hx => ?_
  obtain ⟨h1, h2⟩ := h x hx
  rw [lines_plain d (k + 1) x h2]
  have : valueS' x = valueP x := by
   unfold valueS' valueP
   by_cases k1 : x.Kind = 1
   ·rw [if_pos k1] at h1
    rw [if_pos k1, if_pos k1, quoted_plain _ h1]
   ·rw [if_neg k1, if_neg k1]
  rw [this]
def aliveD : Config := ⟨[], ⟨opsT, [], [], 0, 1, 1, [], false, []⟩, [opsT], [], []⟩
theorem aliveD_fit : configFit aliveD := ⟨fitL_nil, .mk _ (size_le 3 rfl (by omega)) fitL_nil fitL_nil fitL_nil (by simp [aliveD]) (fun k hk => by cases hk), ⟨by show 1 ≤ big63; unfold big63; omega, fun x hx => by
 rw [List.mem_singleton.1 hx]; exact size_le 3 rfl (by omega)⟩, fitL_nil, fitL_nil⟩
theorem aliveD_holds : holdsA aliveD = true := by kernel_rfl
theorem aliveD_norm : normS (bareC aliveD) = aliveD := by kernel_rfl
theorem aliveD_may : mayN 8 (nodeS aliveD) = true := by kernel_rfl
theorem aliveD_plain : plainN 8 (nodeS aliveD) = true := by kernel_rfl
theorem aliveD_items : decide ((nodeS aliveD).Items.length = 0) = false := by kernel_rfl
theorem aliveD_len : (decide ((linesP 8 0 (nodeS aliveD)).length ≤ 8192) && decide (30 < (linesP 8 0 (nodeS aliveD)).length)) = true := by kernel_rfl
theorem aliveD_has1 : Lib.contains (linesP 8 0 (nodeS aliveD)) [114, 111, 117, 116, 101, 58, 10, 32, 32, 114, 101, 99, 101, 105, 118, 101, 114, 58, 32, 111, 112, 115, 10] = true := by kernel_rfl
theorem aliveD_has2 : Lib.contains (linesP 8 0 (nodeS aliveD)) [32, 32, 99, 111, 110, 116, 105, 110, 117, 101, 58, 32, 102, 97, 108, 115, 101, 10] = true := by kernel_rfl
theorem aliveD_export : exportA aliveD = (⟨(linesP 8 0 (nodeS aliveD)).toArray⟩, 0) := by
 unfold exportA printS
 have hl := aliveD_len
 rw [Bool.and_eq_true] at hl
 rw [aliveD_holds, cond_true, aliveD_norm, aliveD_may, aliveD_items, lines_plain _ _ _ aliveD_plain, hl.1]
 rfl
theorem alive12_eq : transhipmentlaw12_alive std = some true := by
 unfold transhipmentlaw12_alive
 have h1 : amfile_Export std (Config.mk [] (Route.mk (ByteArray.mk (Array.mk [111, 112, 115])) [] [] 0 1 1 [] false []) [ByteArray.mk (Array.mk [111, 112, 115])] [] []) = some (⟨(linesP 8 0 (nodeS aliveD)).toArray⟩, 0) := (amfile_Export_eq aliveD aliveD_fit).trans (congrArg some aliveD_export)
 have hl := aliveD_len
 have c1 := aliveD_has1
 have c2 := aliveD_has2
 rw [h1, bd_some]
 generalize linesP 8 0 (nodeS aliveD) = T at hl c1 c2
 rw [Bool.and_eq_true, decide_eq_true_eq, decide_eq_true_eq] at hl
 have hs : (ByteArray.mk T.toArray).size = T.length := by rw [size_bytes, bytes_mk]
 have e0 : std.and (std.cmp .eql ((ByteArray.mk T.toArray, (0 : Int)) : ByteArray × Int).2 0) (std.cmp .gtr (std.slen ((ByteArray.mk T.toArray, (0 : Int)) : ByteArray × Int).1) 30) = true := by
  rw [s_land, s_gtr, s_slen, hs, s_eql]
  simp; omega
 have e1 : ∀ t : List UInt8, Lib.contains T t = true → strings_Contains std ((ByteArray.mk T.toArray, (0 : Int)) : ByteArray × Int).1 (ByteArray.mk (Array.mk t)) = some true := fun t ht => by
  unfold strings_Contains
  rw [ck_t (by rw [hs]; omega)]
  show some (Lib.contains (bytes (ByteArray.mk T.toArray)) t) = _
  rw [bytes_mk, ht]
 rw [e0, gd_t, e1 _ c1, bd_some]
 show (bd (gd false true _) fun w3 => _) = _
 rw [gd_t, e1 _ c2, bd_some]
 rfl
theorem many12_some : ∀ (n : Nat) (r : Route) (m : Int), SizeOf.sizeOf r < n → RouteFit r → ∃ v, transhipmentlaw12_many_N std n r m = some v
 | 0, r, m, h, _ => absurd h (Nat.not_lt_zero _)
 | n + 1, r, m, h, hf => by
  obtain ⟨_, _, _, _, h5, h6⟩ := fit_route hf
  rw [transhipmentlaw12_many_N, transhipmentlaw12_many_S]
  refine ⟨_, Loop_each (B := transhipmentlaw12_many_S_B1 std (transhipmentlaw12_many_N std n) r m) (fun i (s : Int) => (s, (i : Int))) r.Routes (fun _ k s => if decide (m < s) = true then (.inr s : Int ⊕ Int) else .inl (std.ar .add .i64 s ((transhipmentlaw12_many_N std n k (std.ar .sub .i64 m s)).getD 0))) (fun s => s) (fun i k s hk hi => ?_) (fun s => ?_) 1⟩
  ·unfold transhipmentlaw12_many_S_B1
   simp only
   obtain ⟨v, hv⟩ := many12_some n k (std.ar .sub .i64 m s) (by have := route_lt (mem_at hk); omega) (h6 k (mem_at hk))
   rw [len_nat, lssT hi, br_true, ck_t (inbT hi), get_nat (t := TyS.route) hk, s_gtr, hv, bd_some, s_add (a := (i : Int)), wrap_succ hi h5]
   cases decide (m < s) <;> rfl
  ·unfold transhipmentlaw12_many_S_B1
   simp only
   rw [len_nat, lssF, br_false]
   rfl
theorem big12_some (c : Config) (h : configFit c) : ∃ b, transhipmentlaw12_big std c = some b ∧ (b = false → Small c) := by
 unfold transhipmentlaw12_big
 obtain ⟨v, hv⟩ := many12_some (SizeOf.sizeOf c.Route + 1) c.Route 40 (Nat.lt_succ_self _) h.2.1
 unfold transhipmentlaw12_many
 rw [hv, bd_some]
 refine ⟨_, rfl, fun hb => ?_⟩
 simp only [s_lor, s_gtr, Bool.or_eq_false_iff, decide_eq_false_iff_not, s_len] at hb
 exact ⟨by omega, by omega, by omega, by omega⟩
end Go.PL
namespace Go.PL
set_option linter.unusedSimpArgs false
set_option linter.unusedVariables false
set_option linter.unusedSectionVars false
open Tys (Ty U)
open Enc (sz enc dflt tb ofB toB)
open Dec (dec dok)
set_option maxRecDepth 100000
def semiC (c : UInt8) : Bool := plainC c && !inC 59 59 c
def dvalueS (s : ByteArray) : Bool := decide (1 ≤ s.size) && decide (s.size ≤ 200) && decide ((⟨(Lib.trimB (bytes s) 32).toArray⟩ : ByteArray) = s) && (bytes s).all semiC
def mayD (d : Def) : Bool := allI (keyP d.Keys) 0 d.Keys && (wordS d.Typ && decide (d.Keys.length ≤ 64) && decide (d.Keys.length = d.Values.length) && d.Values.all dvalueS)
def defFit (d : Def) : Prop := d.Keys.length ≤ big63 ∧ d.Values.length ≤ big63
def rightD (l : List Def) : Bool := decide (l.length ≤ 64) && l.all mayD
def keyL (k v : ByteArray) : List UInt8 := [9] ++ bytes k ++ [9] ++ bytes v ++ [10]
def keysL : List ByteArray → List ByteArray → List UInt8
 | k :: ks, v :: vs => keyL k v ++ keysL ks vs
 | _, _ => []
def defL (d : Def) : List UInt8 := [100, 101, 102, 105, 110, 101, 32] ++ bytes d.Typ ++ [32, 123] ++ [10] ++ keysL d.Keys d.Values ++ [125, 10]
def defsL (l : List Def) : List UInt8 := (l.map defL).flatten
structure DefOK (d : Def) : Prop where
 typ : d.Typ.size ≤ 64
 few : d.Keys.length ≤ 64
 len : d.Values.length = d.Keys.length
 keys : ∀ k ∈ d.Keys, k.size ≤ 64
 vals : ∀ v ∈ d.Values, v.size ≤ 200
noncomputable def printD (l : List Def) : ByteArray × Int := cond (rightD l) (cond (decide ((defsL l).length ≤ 8192)) (⟨(defsL l).toArray⟩, 0) (ByteArray.mk (Array.mk []), 2)) (ByteArray.mk (Array.mk []), 1)
end Go.PL
namespace Go.PL
set_option linter.unusedSimpArgs false
set_option linter.unusedVariables false
set_option linter.unusedSectionVars false
open Tys (Ty U)
open Enc (sz enc dflt tb ofB toB)
open Dec (dec dok)
set_option maxRecDepth 100000
def oddS (x : Label) : Bool := Lib.contains (bytes x.Value) [59] || Lib.hasSuffix (bytes x.Value) [32]
def oddR (r : Rule) : Bool := r.Labels.any oddS
def six (c : Config) (a b d : Bool) : List WhyW := [WhyW.mk (ByteArray.mk (Array.mk [114, 111, 117, 116, 101, 115])) (std.cmp .gtr (std.len TyS.route c.2.9) 0), WhyW.mk (ByteArray.mk (Array.mk [103, 114, 111, 117, 112])) (std.cmp .gtr (std.len TyS.str c.2.3) 0), WhyW.mk (ByteArray.mk (Array.mk [105, 110, 104, 105, 98, 105, 116])) (std.cmp .gtr (std.len TyS.inhibit c.4) 0), WhyW.mk (ByteArray.mk (Array.mk [102, 111, 114])) a, WhyW.mk (ByteArray.mk (Array.mk [107, 101, 101, 112])) b, WhyW.mk (ByteArray.mk (Array.mk [108, 97, 98, 101, 108])) d]
def saidW (l : List WhyW) : List ByteArray := (l.filter (·.is)).map (·.word)
def whyS (c : Config) : List ByteArray := saidW (six c (c.Rules.any fun r => r.For != 0) (c.Rules.any fun r => r.Keep != 0) (c.Rules.any oddR))
def holdsN (c : Config) : Bool := configS c && decide ((whyS c).length = 0)
def contactD (s : ByteArray) : Def := ⟨ByteArray.mk (Array.mk [99, 111, 110, 116, 97, 99, 116]), [ByteArray.mk (Array.mk [110, 97, 109, 101])], [s]⟩
def itoaS (n : Int) : ByteArray := ⟨(Lib.itoa n).toArray⟩
def aliveN : Def := ⟨ByteArray.mk (Array.mk [110, 111, 116, 105, 102, 121]), [ByteArray.mk (Array.mk [99, 111, 110, 116, 97, 99, 116]), ByteArray.mk (Array.mk [119, 97, 105, 116]), ByteArray.mk (Array.mk [101, 118, 101, 114, 121]), ByteArray.mk (Array.mk [114, 101, 112, 101, 97, 116])], [opsT, itoaS 0, itoaS 1, itoaS 1]⟩
def plainR (r : Rule) : Rule := ⟨r.1, r.2, r.3, r.4, 0, 0, r.7, []⟩
def plainT (r : Route) : Route := ⟨r.1, r.2, [], r.4, r.5, r.6, r.7, r.8, []⟩
def plainF (c : Config) : Config := ⟨c.Rules.map plainR, plainT c.Route, c.Receivers, [], c.Hours⟩
end Go.PL
namespace Go.PL
set_option linter.unusedSimpArgs false
set_option linter.unusedVariables false
set_option linter.unusedSectionVars false
open Tys (Ty U)
open Enc (sz enc dflt tb ofB toB)
open Dec (dec dok)
set_option maxRecDepth 100000
def putL (c : UInt8) (new : List UInt8) (s : List UInt8) : List UInt8 := (s.map fun b => if b = c then new else [b]).flatten
theorem replaceK_one (c : UInt8) (new : List UInt8) : ∀ (s : List UInt8) (k : Nat), s.count c ≤ k → Lib.replaceK [c] new k s = putL c new s
 | [], 0, _ => rfl
 | [], k + 1, _ => rfl
 | b :: s, k, h => by
  have hp : putL c new (b :: s) = (if b = c then new else [b]) ++ putL c new s := by simp [putL]
  rw [hp]
  by_cases hb : b = c
  ·subst hb
   rw [if_pos rfl]
   rw [List.count_cons_self] at h
   obtain ⟨k, rfl⟩ : ∃ j, k = j + 1 := ⟨k - 1, by omega⟩
   rw [Lib.replaceK_hit [b] new k (b :: s) 0 (by rw [Lib.index_one]; simp [Lib.indexByte])]
   show [] ++ new ++ Lib.replaceK [b] new k s = _
   rw [replaceK_one b new s k (by omega)]
   rfl
  ·rw [if_neg hb]
   rw [List.count_cons_of_ne (by simpa using hb)] at h
   have ih := replaceK_one c new s k h
   cases k with
   | zero =>
    have ih' : s = putL c new s := ih
    show b :: s = [b] ++ putL c new s
    rw [← ih']; rfl
   | succ k =>
    have hge := Lib.indexByte_ge s c
    have hib : Lib.indexByte (b :: s) c = if Lib.indexByte s c == -1 then -1 else Lib.indexByte s c + 1 := by
     simp only [Lib.indexByte]
     rw [if_neg (by simpa using hb)]
    by_cases hi : Lib.indexByte s c = -1
    ·have e1 : Lib.replaceK [c] new (k + 1) s = s := by
      rw [Lib.replaceK, Lib.index_one, hi]; rfl
     have e2 : Lib.replaceK [c] new (k + 1) (b :: s) = b :: s := by
      rw [Lib.replaceK, Lib.index_one, hib, hi]; rfl
     rw [e2, ← ih, e1]; rfl
    ·obtain ⟨i, hi2⟩ : ∃ i : Nat, Lib.indexByte s c = (i : Int) := ⟨(Lib.indexByte s c).toNat, by omega⟩
     have e1 := Lib.replaceK_hit [c] new k s i (by rw [Lib.index_one, hi2])
     have e2 := Lib.replaceK_hit [c] new k (b :: s) (i + 1) (by
      rw [Lib.index_one, hib, hi2, if_neg (by simp)]; rfl)
     rw [e2, ← ih, e1]
     simp only [List.take_succ_cons, List.length_singleton, List.cons_append, List.nil_append, List.append_assoc]
     rfl
theorem replaceAll_one (c : UInt8) (new s : List UInt8) (h : ([c] == new) = false) : Lib.replaceAll s [c] new = putL c new s := by
 unfold Lib.replaceAll Lib.replace Lib.replaceNum
 rw [h, if_neg (by simp), if_pos (.inl (by omega))]
 exact replaceK_one c new s _ (by rw [Lib.count_one]; exact Nat.le_refl _)
def escL (s : List UInt8) : List UInt8 := (s.map fun b => if b = 34 ∨ b = 92 then [92, b] else [b]).flatten
theorem put_put (s : List UInt8) : putL 34 [92, 34] (putL 92 [92, 92] s) = escL s := by
 induction s with
 | nil => rfl
 | cons b s ih =>
  have app : ∀ x y : List UInt8, putL 34 [92, 34] (x ++ y) = putL 34 [92, 34] x ++ putL 34 [92, 34] y := fun x y => by simp [putL]
  have e1 : putL 92 [92, 92] (b :: s) = (if b = 92 then [92, 92] else [b]) ++ putL 92 [92, 92] s := by simp [putL]
  have e2 : escL (b :: s) = (if b = 34 ∨ b = 92 then [92, b] else [b]) ++ escL s := by simp [escL]
  rw [e1, app, ih, e2]
  congr 1
  by_cases h1 : b = 92
  ·subst h1; rfl
  ·rw [if_neg h1]
   by_cases h2 : b = 34
   ·subst h2; rfl
   ·rw [if_neg (by rintro (h | h); exact h2 h; exact h1 h)]
    simp [putL, h2]
theorem esc_le (s : List UInt8) : (escL s).length ≤ 2 * s.length := by
 induction s with
 | nil => simp [escL]
 | cons b s ih =>
  have e2 : escL (b :: s) = (if b = 34 ∨ b = 92 then [92, b] else [b]) ++ escL s := by simp [escL]
  rw [e2, List.length_append, List.length_cons]
  split <;> simp <;> omega
def plainQ (s : ByteArray) : Bool := (bytes s).all oplC && decide (1 ≤ s.size) && !decide ((bytes s).head? = some 45)
def quoteL (s : ByteArray) : List UInt8 := if plainQ s = true then bytes s else [34] ++ escL (bytes s) ++ [34]
theorem head_45 (s : ByteArray) (h : 1 ≤ s.size) : std.cmp .neq (std.sget s 0) 45 = !decide ((bytes s).head? = some 45) := by
 obtain ⟨c, hc⟩ := at_some (xs := bytes s) (i := 0) (by rw [len_bytes]; omega)
 have hg : std.sget s 0 = (c.toNat : Int) := sget_at (i := 0) hc
 have hh : (bytes s).head? = some c := by rw [List.head?_eq_getElem?]; exact hc
 rw [hg, hh, s_neq, Bool.eq_iff_iff]
 have : c = 45 ↔ c.toNat = 45 := by rw [← UInt8.toNat_inj]; rfl
 simp only [bne_iff_ne, Bool.not_eq_true', decide_eq_false_iff_not, Option.some.injEq]
 rw [this]; omega
theorem quoted_val (s : ByteArray) (hs : s.size ≤ 200) : bytes (quotedS s) = quoteL s := by
 have key : outline_quoted std s = some ⟨(quoteL s).toArray⟩ := by
  have hcn : slices_ContainsFunc_byte_byte std (std.s2b s) (fun y0 => outline_quoted_1 std y0) = some (!(bytes s).all oplC) := by
   rw [s2b_eq, contains_byte _ (fun c => !oplC c) _ (fun c _ => by
    unfold outline_quoted_1
    rw [outline_plain_eq, bd_some, s_not]) (by rw [len_bytes]; unfold big63; omega), all_not_any]
  have hr1 : strings_ReplaceAll std s (ByteArray.mk (Array.mk [92])) (ByteArray.mk (Array.mk [92, 92])) = some ⟨(putL 92 [92, 92] (bytes s)).toArray⟩ := by
   obtain ⟨a, ha, _⟩ := replace_some s (ByteArray.mk (Array.mk [92])) (ByteArray.mk (Array.mk [92, 92])) (by decide) rfl (by omega)
   rw [ha]
   unfold strings_ReplaceAll at ha
   obtain ⟨_, ha⟩ := ck_e ha
   rw [← ha]
   exact congrArg (fun l : List UInt8 => some (ByteArray.mk l.toArray)) (replaceAll_one 92 [92, 92] (bytes s) rfl)
  have hp1 : (⟨(putL 92 [92, 92] (bytes s)).toArray⟩ : ByteArray).size ≤ 400 := by
   obtain ⟨a, ha, la⟩ := replace_some s (ByteArray.mk (Array.mk [92])) (ByteArray.mk (Array.mk [92, 92])) (by decide) rfl (by omega)
   rw [hr1] at ha
   have hh : (putL 92 [92, 92] (bytes s)).length ≤ 2 * (bytes s).length := by
    generalize bytes s = l
    induction l with
    | nil => simp [putL]
    | cons b l ih =>
     have e1 : putL 92 [92, 92] (b :: l) = (if b = 92 then [92, 92] else [b]) ++ putL 92 [92, 92] l := by simp [putL]
     rw [e1, List.length_append, List.length_cons]
     split <;> simp <;> omega
   rw [size_bytes, bytes_mk]
   rw [len_bytes] at hh; omega
  have hr2 : strings_ReplaceAll std ⟨(putL 92 [92, 92] (bytes s)).toArray⟩ (ByteArray.mk (Array.mk [34])) (ByteArray.mk (Array.mk [92, 34])) = some ⟨(escL (bytes s)).toArray⟩ := by
   obtain ⟨a, ha, _⟩ := replace_some ⟨(putL 92 [92, 92] (bytes s)).toArray⟩ (ByteArray.mk (Array.mk [34])) (ByteArray.mk (Array.mk [92, 34])) (by decide) rfl (by omega)
   rw [ha]
   unfold strings_ReplaceAll at ha
   obtain ⟨_, ha⟩ := ck_e ha
   rw [← ha]
   have := replaceAll_one 34 [92, 34] (bytes ⟨(putL 92 [92, 92] (bytes s)).toArray⟩) rfl
   rw [bytes_mk, put_put] at this
   refine congrArg (fun l : List UInt8 => some (ByteArray.mk l.toArray)) (Eq.trans ?_ this)
   exact congrArg (fun l => Lib.replaceAll l [34] [92, 34]) (bytes_mk _)
  unfold outline_quoted
  rw [ck_t (vc_of fun h => by
   rw [s_sneq, empty_size, decide_eq_true_eq] at h
   show (0 : Int) ≤ 0 ∧ (0 : Int) < (s.size : Int)
   omega), hcn, hr1, s_sneq, empty_size]
  have esz : (⟨(escL (bytes s)).toArray⟩ : ByteArray).size ≤ 400 := by
   have := esc_le (bytes s)
   rw [len_bytes] at this
   rw [size_bytes, bytes_mk]; omega
  have hfin : (bd (some (⟨(putL 92 [92, 92] (bytes s)).toArray⟩ : ByteArray)) fun w3 => bd (strings_ReplaceAll std w3 (ByteArray.mk (Array.mk [34])) (ByteArray.mk (Array.mk [92, 34]))) fun w4 => ck (std.catOk (ByteArray.mk (Array.mk [34])) w4) <| ck (std.catOk (std.cat (ByteArray.mk (Array.mk [34])) w4) (ByteArray.mk (Array.mk [34]))) <| some (std.cat (std.cat (ByteArray.mk (Array.mk [34])) w4) (ByteArray.mk (Array.mk [34])))) = some ⟨([34] ++ escL (bytes s) ++ [34]).toArray⟩ := by
   have q1 : (ByteArray.mk (Array.mk [34])).size = 1 := rfl
   rw [bd_some, hr2, bd_some, s_cat, s_cat, ck_t (show std.catOk _ _ by rw [s_catOk, q1]; omega), ck_t (show std.catOk _ _ by rw [s_catOk, ByteArray.size_append, q1]; omega)]
   rfl
  rw [hfin]
  unfold quoteL plainQ
  by_cases h1 : 1 ≤ s.size
  ·rw [decide_eq_true h1, head_45 s h1, s_land, Bool.true_and, Bool.and_true]
   cases hh : decide ((bytes s).head? = some 45) with
   | true => rw [Bool.not_true, gd_f, bd_some, Bool.and_false, if_neg (by simp)]; rfl
   | false =>
    rw [Bool.not_false, gd_t, bd_some, Bool.and_true]
    cases (bytes s).all oplC with
    | true => rw [if_pos rfl, mkb]; rfl
    | false => rw [if_neg (by simp)]; rfl
  ·rw [decide_eq_false h1, s_land, Bool.false_and, gd_f, bd_some, Bool.and_false, Bool.false_and, if_neg (by simp)]
   rfl
 unfold quotedS
 rw [key]
 exact bytes_mk _
end Go.PL
namespace Go.PL
set_option linter.unusedSimpArgs false
set_option linter.unusedVariables false
set_option linter.unusedSectionVars false
open Tys (Ty U)
open Enc (sz enc dflt tb ofB toB)
open Dec (dec dok)
set_option maxRecDepth 100000
end Go.PL
namespace Go.PL
set_option linter.unusedSimpArgs false
set_option linter.unusedVariables false
set_option linter.unusedSectionVars false
open Tys (Ty U)
open Enc (sz enc dflt tb ofB toB)
open Dec (dec dok)
set_option maxRecDepth 100000
def bitB (d : Int) (j : Nat) : Bool := std.cmp .eql (std.ar .and .i64 (std.ar .shr .i64 d (j : Int)) 1) 1
def daysL (d : Int) : Nat → List ByteArray
 | 0 => []
 | i + 1 => daysL d i ++ (if bitB d i = true then [dayT i] else [])
theorem days_ok (d : Int) : ∀ i, i ≤ 7 → (daysL d i).length ≤ i ∧ ∀ x ∈ daysL d i, x.size = 3
 | 0, _ => ⟨Nat.le_refl _, fun x hx => by cases hx⟩
 | i + 1, h => by
  obtain ⟨h1, h2⟩ := days_ok d i (by omega)
  rw [daysL]
  split
  ·refine ⟨app_len _ h1, fun x hx => ?_⟩
   rcases List.mem_append.1 hx with hx | hx
   ·exact h2 x hx
   ·rw [List.mem_singleton.1 hx]; exact dayT_size i (by omega)
  ·rw [List.append_nil]; exact ⟨by omega, h2⟩
def comL : List ByteArray → List UInt8
 | [] => []
 | w :: r => bytes w ++ (r.map fun x => 44 :: bytes x).flatten
theorem join_com (ws : List ByteArray) : Lib.join (ws.map (·.data.toList)) [44] = comL ws := by
 cases ws with
 | nil => rfl
 | cons w r =>
  rw [List.map_cons, Lib.join_cons]
  simp only [comL, Lib.joinTail, List.map_map]
  rfl
theorem com_le (l : List ByteArray) (h : ∀ x ∈ l, x.size = 3) : (comL l).length ≤ 4 * l.length := by
 cases l with
 | nil => simp [comL]
 | cons w r =>
  have h1 := h w (List.mem_cons_self ..)
  have h2 := flat_le (fun x : ByteArray => 44 :: bytes x) 4 r fun x hx => by
   have := h x (List.mem_cons_of_mem _ hx)
   rw [List.length_cons, len_bytes]; omega
  simp only [comL, List.length_append, len_bytes, List.length_cons]
  omega
noncomputable def clk (n : Int) : ByteArray := (hours_clock std n).getD ⟨#[]⟩
theorem clk_eq (n : Int) (h0 : 0 ≤ n) (h1 : n ≤ 1440) : hours_clock std n = some (clk n) ∧ (clk n).size = 5 := by
 obtain ⟨t, h2, h3⟩ := hours_clock_some n h0 h1
 have : clk n = t := by unfold clk; rw [h2]; rfl
 rw [this]; exact ⟨h2, h3⟩
noncomputable def hoursV (h : Hours) : ByteArray := (⟨(comL (daysL h.Days 7)).toArray⟩ : ByteArray) ++ ByteArray.mk (Array.mk [32]) ++ clk h.From ++ ByteArray.mk (Array.mk [45]) ++ clk h.To
theorem hours_Text_eq (h : Hours) (hs : hourS h = true) : hours_Text std h = some (hoursV h, 0) := by
 have h0 := hs
 simp only [hourS, Bool.and_eq_true, decide_eq_true_eq] at h0
 obtain ⟨⟨⟨⟨⟨⟨_, _⟩, _⟩, f0⟩, f1⟩, f2⟩, t1⟩ := h0
 obtain ⟨ha, la⟩ := clk_eq h.From f0 (by omega)
 obtain ⟨hb, lb⟩ := clk_eq h.To (by omega) t1
 unfold hours_Text
 rw [hours_Right_eq h, bd_some, hs, s_not, Bool.not_true, br_false]
 have := Loop_each (B := hours_Text_B1 std h) (fun i (_ : Unit) => (daysL h.Days i, (i : Int))) (List.range 7) (fun _ _ (_ : Unit) => (.inl () : Unit ⊕ (ByteArray × Int))) (fun _ => (hoursV h, 0)) (fun i n u hx hi => by
  rw [List.length_range] at hi
  obtain ⟨hI, hz⟩ := days_ok h.Days i (by omega)
  unfold hours_Text_B1
  simp only
  rw [show std.cmp .lss (i : Int) 7 = true from lssT (n := 7) hi, br_true, ck_t (show std.inb (i : Int) (Int.ofNat 7) from inbT (n := 7) hi), ck_t (show std.nn (i : Int) by show (0 : Int) ≤ _; omega), s_add, wrap_succ (n := 7) hi (by unfold big63; omega), daysL]
  unfold bitB
  cases std.cmp .eql (std.ar .and .i64 (std.ar .shr .i64 h.Days (i : Int)) 1) 1 with
  | true =>
   rw [br_true, if_pos rfl]
   have hA : std.appOk TyS.str 16 (daysL h.Days i) [dayT i] := ⟨by simp; omega, by simp; omega⟩
   exact ck_t hA
  | false => rw [br_false, if_neg (by simp), List.append_nil]) (fun _ => by
  obtain ⟨hI, hz⟩ := days_ok h.Days 7 (by omega)
  rw [List.length_range]
  unfold hours_Text_B1
  simp only
  have hj := com_le (daysL h.Days 7) hz
  have hJ : strings_Join std (daysL h.Days 7) (ByteArray.mk (Array.mk [44])) = some ⟨(comL (daysL h.Days 7)).toArray⟩ := by
   unfold strings_Join
   have e : Lib.join ((daysL h.Days 7).map (·.data.toList)) (ByteArray.mk (Array.mk [44])).data.toList = comL (daysL h.Days 7) := join_com _
   rw [e]
   exact ck_t ⟨by omega, by omega⟩
  have jz : (ByteArray.mk (comL (daysL h.Days 7)).toArray).size ≤ 28 := by rw [size_bytes, bytes_mk]; omega
  have z1 : (ByteArray.mk (Array.mk [32])).size = 1 := rfl
  have z2 : (ByteArray.mk (Array.mk [45])).size = 1 := rfl
  rw [show std.cmp .lss ((7 : Nat) : Int) 7 = false from rfl, br_false, hJ, bd_some, s_cat, ck_t (show std.catOk _ _ by rw [s_catOk, z1]; omega), ha, bd_some, s_cat, ck_t (show std.catOk _ _ by rw [s_catOk, ByteArray.size_append, z1, la]; omega), s_cat, ck_t (show std.catOk _ _ by rw [s_catOk, ByteArray.size_append, ByteArray.size_append, z1, z2, la]; omega), hb, bd_some, s_cat, ck_t (show std.catOk _ _ by rw [s_catOk, ByteArray.size_append, ByteArray.size_append, ByteArray.size_append, z1, z2, la, lb]; omega)]
  rfl) ()
 rw [runL_end] at this
 exact this
theorem hoursT_val (h : Hours) (hs : hourS h = true) : hoursT h = hoursV h := by
 unfold hoursT
 rw [hours_Text_eq h hs]
 rfl
theorem bits_all : ((List.range 128).all fun d => (List.range 7).all fun i => bitB (d : Int) i == decide (d / 2 ^ i % 2 = 1)) = true := by kernel_rfl
theorem bit_eq (d i : Nat) (hd : d ≤ 127) (hi : i < 7) : bitB (d : Int) i = decide (d / 2 ^ i % 2 = 1) := by
 have := bits_all
 rw [List.all_eq_true] at this
 have h1 := this d (List.mem_range.2 (by omega))
 rw [List.all_eq_true] at h1
 simpa using h1 i (List.mem_range.2 hi)
end Go.PL
namespace Go.PL
set_option linter.unusedSimpArgs false
set_option linter.unusedVariables false
set_option linter.unusedSectionVars false
open Tys (Ty U)
open Enc (sz enc dflt tb ofB toB)
open Dec (dec dok)
set_option maxRecDepth 100000
end Go.PL
namespace Go.PL
set_option linter.unusedSimpArgs false
set_option linter.unusedVariables false
set_option linter.unusedSectionVars false
open Tys (Ty U)
open Enc (sz enc dflt tb ofB toB)
open Dec (dec dok)
set_option maxRecDepth 100000
end Go.PL
namespace Go.PL
set_option linter.unusedSimpArgs false
set_option linter.unusedVariables false
set_option linter.unusedSectionVars false
open Tys (Ty U)
open Enc (sz enc dflt tb ofB toB)
open Dec (dec dok)
set_option maxRecDepth 100000
def signW (n : Int) : ByteArray := std.sel [ByteArray.mk (Array.mk []), ByteArray.mk (Array.mk [62]), ByteArray.mk (Array.mk [62, 61]), ByteArray.mk (Array.mk [60]), ByteArray.mk (Array.mk [60, 61]), ByteArray.mk (Array.mk [61, 61])] n
def keysN (name : ByteArray) (n : Nat) : List ByteArray := (List.range n).map fun (i : Nat) => name ++ itoaS ((i : Nat) : Int)
def listedD (d : Def) (name : ByteArray) (l : List ByteArray) : Def := ⟨d.Typ, d.Keys ++ keysN name l.length, d.Values ++ l⟩
noncomputable def periodD (h : Hours) : Def := ⟨ByteArray.mk (Array.mk [116, 105, 109, 101, 112, 101, 114, 105, 111, 100]), [ByteArray.mk (Array.mk [110, 97, 109, 101]), ByteArray.mk (Array.mk [115, 112, 97, 110])], [h.Name, hoursT h]⟩
def notifyD (r : Route) : Def := listedD ⟨ByteArray.mk (Array.mk [110, 111, 116, 105, 102, 121]), [ByteArray.mk (Array.mk [99, 111, 110, 116, 97, 99, 116]), ByteArray.mk (Array.mk [119, 97, 105, 116]), ByteArray.mk (Array.mk [101, 118, 101, 114, 121]), ByteArray.mk (Array.mk [114, 101, 112, 101, 97, 116])], [r.Receiver, itoaS r.Wait, itoaS r.Every, itoaS r.Repeat]⟩ (ByteArray.mk (Array.mk [112, 101, 114, 105, 111, 100, 95])) r.Mute
def labelV (m : Label) : ByteArray := m.Name ++ ByteArray.mk (Array.mk [61]) ++ m.Value
def serviceD (r : Rule) : Def := listedD ⟨ByteArray.mk (Array.mk [115, 101, 114, 118, 105, 99, 101]), [ByteArray.mk (Array.mk [110, 97, 109, 101]), ByteArray.mk (Array.mk [109, 101, 116, 114, 105, 99]), ByteArray.mk (Array.mk [99, 104, 101, 99, 107]), ByteArray.mk (Array.mk [108, 105, 109, 105, 116]), ByteArray.mk (Array.mk [97, 116, 116, 101, 109, 112, 116, 115])], [r.Name, r.Metric, signW r.How, itoaS r.Limit, itoaS r.Tries]⟩ (ByteArray.mk (Array.mk [108, 97, 98, 101, 108, 95])) (r.Labels.map labelV)
noncomputable def blocksS (c : Config) : List Def := c.Hours.map periodD ++ c.Receivers.map contactD ++ [notifyD c.Route] ++ c.Rules.map serviceD
end Go.PL
namespace Go.PL
set_option linter.unusedSimpArgs false
set_option linter.unusedVariables false
set_option linter.unusedSectionVars false
open Tys (Ty U)
open Enc (sz enc dflt tb ofB toB)
open Dec (dec dok)
set_option maxRecDepth 100000
theorem dec_dig : ∀ u : Nat, ∀ c ∈ Lib.decDigits u, 48 ≤ c.toNat ∧ c.toNat ≤ 57 := by
 intro u
 induction u using Nat.strongRecOn with
 | ind u ih =>
  have hd : ∀ k : Nat, k < 10 → 48 ≤ (UInt8.ofNat (48 + k)).toNat ∧ (UInt8.ofNat (48 + k)).toNat ≤ 57 := by decide
  rw [Lib.decDigits]
  split
  ·rename_i h
   intro c hc
   rw [List.mem_singleton.1 hc]; exact hd u h
  ·rename_i h
   intro c hc
   rcases List.mem_append.1 hc with hc | hc
   ·exact ih (u / 10) (by omega) c hc
   ·rw [List.mem_singleton.1 hc]; exact hd (u % 10) (by omega)
end Go.PL
namespace Go.PL
set_option linter.unusedSimpArgs false
set_option linter.unusedVariables false
set_option linter.unusedSectionVars false
open Tys (Ty U)
open Enc (sz enc dflt tb ofB toB)
open Dec (dec dok)
set_option maxRecDepth 100000
end Go.PL
namespace Go.PL
set_option linter.unusedSimpArgs false
set_option linter.unusedVariables false
set_option linter.unusedSectionVars false
open Tys (Ty U)
open Enc (sz enc dflt tb ofB toB)
open Dec (dec dok)
set_option maxRecDepth 100000
end Go.PL
namespace Go.PL
set_option linter.unusedSimpArgs false
set_option linter.unusedVariables false
set_option linter.unusedSectionVars false
open Tys (Ty U)
open Enc (sz enc dflt tb ofB toB)
open Dec (dec dok)
set_option maxRecDepth 100000
theorem norm_rules_mem {c : Config} {x : Rule} (h : x ∈ (normS c).Rules) : x ∈ c.Rules := (sortI_perm _ _).mem_iff.1 h
theorem norm_rules_len (c : Config) : (normS c).Rules.length = c.Rules.length := sortI_len _ _
noncomputable def exportN (c : Config) : ByteArray × Int := cond (configS c) (cond (holdsN c) (printD (blocksS (normS c))) (ByteArray.mk (Array.mk []), 11)) (ByteArray.mk (Array.mk []), 1)
structure NormOK (c : Config) : Prop where
 rules : c.Rules.length ≤ 16 ∧ ∀ r ∈ c.Rules, ruleS r = true
 recv : c.Receivers.length ≤ 16 ∧ ∀ s ∈ c.Receivers, wordS s = true
 hours : c.Hours.length ≤ 8 ∧ ∀ x ∈ c.Hours, hourS x = true
 route : oneS c.Route = true
theorem norm_ok {c : Config} (h : configS c = true) : NormOK (normS c) := by
 have ok := configS_ok h
 have ht := ok.top
 simp only [topS, routeS, Bool.and_eq_true, decide_eq_true_eq] at ht
 refine ⟨⟨by rw [norm_rules_len]; exact ok.rules.1, fun r hr => ok.rules.2.1 r (norm_rules_mem hr)⟩, ⟨by rw [norm_recv_len]; exact ok.recv.1, fun s hs => ok.recv.2.1 s ((sortI_perm _ _).mem_iff.1 hs)⟩, ⟨by rw [norm_hours_len]; exact ok.hours.1, fun x hx => ok.hours.2.1 x (norm_hours_mem hx)⟩, ht.1.1.1.1⟩
end Go.PL
namespace Go.PL
set_option linter.unusedSimpArgs false
set_option linter.unusedVariables false
set_option linter.unusedSectionVars false
open Tys (Ty U)
open Enc (sz enc dflt tb ofB toB)
open Dec (dec dok)
set_option maxRecDepth 100000
def dvL (l : List UInt8) : Nat := l.foldl (fun n c => 10 * n + (c.toNat - 48)) 0
theorem dv_dec : ∀ u : Nat, dvL (Lib.decDigits u) = u := by
 intro u
 induction u using Nat.strongRecOn with
 | ind u ih =>
  have hd : ∀ k : Nat, k < 10 → (UInt8.ofNat (48 + k)).toNat - 48 = k := by decide
  rw [Lib.decDigits]
  split
  ·rename_i h
   show 10 * 0 + ((UInt8.ofNat (48 + u)).toNat - 48) = u
   rw [hd u h]; omega
  ·rename_i h
   have := ih (u / 10) (by omega)
   unfold dvL at this ⊢
   rw [List.foldl_append, this]
   show 10 * (u / 10) + ((UInt8.ofNat (48 + u % 10)).toNat - 48) = u
   rw [hd (u % 10) (by omega)]; omega
theorem dec_inj {a b : Nat} (h : Lib.decDigits a = Lib.decDigits b) : a = b := by
 rw [← dv_dec a, ← dv_dec b, h]
theorem itoa_inj {a b : Int} (h : Lib.itoa a = Lib.itoa b) : a = b := by
 have no : ∀ (u : Nat) (l : List UInt8), (45 : UInt8) :: l = Lib.decDigits u → False := fun u l e => by
  have := dec_dig u 45 (by rw [← e]; exact List.mem_cons_self ..)
  have h45 : (45 : UInt8).toNat = 45 := rfl
  omega
 unfold Lib.itoa at h
 split at h
 ·split at h
  ·have := dec_inj (List.cons.inj h).2
   omega
  ·exact (no _ _ h).elim
 ·split at h
  ·exact (no _ _ h.symm).elim
  ·have := dec_inj h
   omega
theorem itoaS_inj {a b : Int} (h : itoaS a = itoaS b) : a = b := by
 apply itoa_inj
 have := congrArg bytes h
 unfold itoaS at this
 rwa [bytes_mk, bytes_mk] at this
theorem flat_inj4 (f : ByteArray → List UInt8) (k : Nat) (hf : ∀ a b, f a = f b → a = b) : ∀ l m : List ByteArray, (∀ x ∈ l, (f x).length = k + 1) → (∀ x ∈ m, (f x).length = k + 1) → (l.map f).flatten = (m.map f).flatten → l = m
 | [], [], _, _, _ => rfl
 | [], b :: m, _, hm, h => by
  have := congrArg List.length h
  have h1 := hm b (List.mem_cons_self ..)
  simp only [List.map_cons, List.flatten_cons, List.length_append, List.map_nil, List.flatten_nil, List.length_nil] at this; omega
 | a :: l, [], hl, _, h => by
  have := congrArg List.length h
  have h1 := hl a (List.mem_cons_self ..)
  simp only [List.map_cons, List.flatten_cons, List.length_append, List.map_nil, List.flatten_nil, List.length_nil] at this; omega
 | a :: l, b :: m, hl, hm, h => by
  simp only [List.map_cons, List.flatten_cons] at h
  have h1 := hl a (List.mem_cons_self ..)
  have h2 := hm b (List.mem_cons_self ..)
  obtain ⟨h3, h4⟩ := List.append_inj h (by omega)
  rw [hf a b h3, flat_inj4 f k hf l m (fun x hx => hl x (List.mem_cons_of_mem _ hx)) (fun x hx => hm x (List.mem_cons_of_mem _ hx)) h4]
theorem com_inj : ∀ l m : List ByteArray, (∀ x ∈ l, x.size = 3) → (∀ x ∈ m, x.size = 3) → comL l = comL m → l = m
 | [], [], _, _, _ => rfl
 | [], b :: m, _, hm, h => by
  have := congrArg List.length h
  have h1 := hm b (List.mem_cons_self ..)
  simp only [comL, List.length_nil, List.length_append, len_bytes] at this; omega
 | a :: l, [], hl, _, h => by
  have := congrArg List.length h
  have h1 := hl a (List.mem_cons_self ..)
  simp only [comL, List.length_nil, List.length_append, len_bytes] at this; omega
 | a :: l, b :: m, hl, hm, h => by
  have h1 := hl a (List.mem_cons_self ..)
  have h2 := hm b (List.mem_cons_self ..)
  obtain ⟨h3, h4⟩ := List.append_inj h (by rw [len_bytes, len_bytes]; omega)
  rw [ba_ext h3, flat_inj4 (fun x : ByteArray => 44 :: bytes x) 3 (fun x y e => ba_ext (List.cons.inj e).2) l m (fun x hx => by
   rw [List.length_cons, len_bytes, hl x (List.mem_cons_of_mem _ hx)]) (fun x hx => by
   rw [List.length_cons, len_bytes, hm x (List.mem_cons_of_mem _ hx)]) h4]
theorem day_inj {i j : Nat} (hi : i < 7) (hj : j < 7) (h : dayT i = dayT j) : i = j := by
 have key : ((List.range 7).all fun i => (List.range 7).all fun j => decide (i = j) || !(bytes (dayT i) == bytes (dayT j))) = true := by kernel_rfl
 rw [List.all_eq_true] at key
 have h1 := key i (List.mem_range.2 hi)
 rw [List.all_eq_true] at h1
 have h2 := h1 j (List.mem_range.2 hj)
 rw [h] at h2
 simpa using h2
theorem days_mem (d : Int) (i : Nat) (hi : i < 7) : ∀ k, k ≤ 7 → (dayT i ∈ daysL d k ↔ i < k ∧ bitB d i = true)
 | 0, _ => by simp [daysL]
 | k + 1, hk => by
  have ih := days_mem d i hi k (by omega)
  rw [daysL, List.mem_append, ih]
  constructor
  ·rintro (⟨h1, h2⟩ | h)
   ·exact ⟨by omega, h2⟩
   ·split at h
    ·rename_i hb
     have := day_inj hi (by omega) (List.mem_singleton.1 h)
     subst this
     exact ⟨by omega, hb⟩
    ·cases h
  ·rintro ⟨h1, h2⟩
   by_cases he : i = k
   ·subst he; right; rw [if_pos h2]; exact List.mem_singleton.2 rfl
   ·left; exact ⟨by omega, h2⟩
theorem bits_inj (d e : Nat) (hd : d ≤ 127) (he : e ≤ 127) (h : daysL (d : Int) 7 = daysL (e : Int) 7) : d = e := by
 have hb : ∀ i, i < 7 → d / 2 ^ i % 2 = e / 2 ^ i % 2 := fun i hi => by
  have h1 := days_mem (d : Int) i hi 7 (by omega)
  have h2 := days_mem (e : Int) i hi 7 (by omega)
  rw [h, h2] at h1
  have h3 : bitB (d : Int) i = bitB (e : Int) i := by
   rw [Bool.eq_iff_iff]
   constructor
   ·intro hx; exact (h1.2 ⟨hi, hx⟩).2
   ·intro hx; exact (h1.1 ⟨hi, hx⟩).2
  rw [bit_eq d i hd hi, bit_eq e i he hi] at h3
  have h4 : (d / 2 ^ i % 2 = 1) ↔ (e / 2 ^ i % 2 = 1) := by simpa using h3
  omega
 have b0 := hb 0 (by omega)
 have b1 := hb 1 (by omega)
 have b2 := hb 2 (by omega)
 have b3 := hb 3 (by omega)
 have b4 := hb 4 (by omega)
 have b5 := hb 5 (by omega)
 have b6 := hb 6 (by omega)
 simp only [Nat.reducePow] at b0 b1 b2 b3 b4 b5 b6
 omega
theorem two_val (n : Nat) (h : n ≤ 99) : ∃ t, hours_two std (n : Int) = some t ∧ bytes t = [UInt8.ofNat (48 + n / 10), UInt8.ofNat (48 + n % 10)] := by
 have q : std.ar .add .i64 48 (std.ar .quo .i64 (n : Int) 10) = ((48 + n / 10 : Nat) : Int) := by
  rw [s_quo, tdiv0 (by omega), w64 (by omega), s_add, w64 (by omega)]; omega
 have r : std.ar .add .i64 48 (std.ar .rem .i64 (n : Int) 10) = ((48 + n % 10 : Nat) : Int) := by
  rw [s_rem, tmod0 (by omega), s_add, w64 (by omega)]; omega
 obtain ⟨a1, a2⟩ := u8_at (n := 48 + n / 10) (by omega)
 obtain ⟨b1, b2⟩ := u8_at (n := 48 + n % 10) (by omega)
 unfold hours_two
 rw [q, r, ck_t a1, ck_t b1, a2, b2, b2s_eq]
 exact ⟨_, rfl, bytes_mk _⟩
theorem clk_inj {a b : Int} (a0 : 0 ≤ a) (a1 : a ≤ 1440) (b0 : 0 ≤ b) (b1 : b ≤ 1440) (h : bytes (clk a) = bytes (clk b)) : a = b := by
 have val : ∀ n : Int, 0 ≤ n → n ≤ 1440 → bytes (clk n) = [UInt8.ofNat (48 + (n / 60).toNat / 10), UInt8.ofNat (48 + (n / 60).toNat % 10), 58, UInt8.ofNat (48 + (n % 60).toNat / 10), UInt8.ofNat (48 + (n % 60).toNat % 10)] := fun n h0 h1 => by
  have e := (clk_eq n h0 h1).1
  unfold hours_clock at e
  have q1 : std.ar .quo .i64 n 60 = ((n / 60).toNat : Int) := by rw [s_quo, tdiv0 h0, w64 (by omega)]; omega
  have q2 : std.ar .rem .i64 n 60 = ((n % 60).toNat : Int) := by rw [s_rem, tmod0 h0]; omega
  obtain ⟨x, hx, px⟩ := two_val (n / 60).toNat (by omega)
  obtain ⟨y, hy, py⟩ := two_val (n % 60).toNat (by omega)
  rw [q1, q2, hx, bd_some, hy, bd_some] at e
  obtain ⟨_, e⟩ := ck_e e
  obtain ⟨_, e⟩ := ck_e e
  rw [← Option.some.inj e, s_cat, s_cat, bytes_app, bytes_app, px, py]
  rfl
 rw [val a a0 a1, val b b0 b1] at h
 have hn : ∀ j k : Nat, j < 30 → k < 30 → UInt8.ofNat (48 + j) = UInt8.ofNat (48 + k) → j = k := fun j k hj hk e => by
  have := congrArg UInt8.toNat e
  rw [UInt8.toNat_ofNat', UInt8.toNat_ofNat'] at this
  omega
 simp only [List.cons.injEq, and_true, true_and] at h
 obtain ⟨g1, g2, g3, g4⟩ := h
 have k1 := hn _ _ (by omega) (by omega) g1
 have k2 := hn _ _ (by omega) (by omega) g2
 have k3 := hn _ _ (by omega) (by omega) g3
 have k4 := hn _ _ (by omega) (by omega) g4
 omega
theorem hours_inj {x y : Hours} (hx : hourS x = true) (hy : hourS y = true) (hn : x.Name = y.Name) (h : hoursT x = hoursT y) : x = y := by
 rw [hoursT_val x hx, hoursT_val y hy] at h
 simp only [hourS, Bool.and_eq_true, decide_eq_true_eq] at hx hy
 obtain ⟨⟨⟨⟨⟨⟨_, d1⟩, d2⟩, f0⟩, f1⟩, f2⟩, t1⟩ := hx
 obtain ⟨⟨⟨⟨⟨⟨_, d1'⟩, d2'⟩, f0'⟩, f1'⟩, f2'⟩, t1'⟩ := hy
 have hb := congrArg bytes h
 unfold hoursV at hb
 simp only [bytes_app, bytes_mk, List.append_assoc] at hb
 have no32 : ∀ d : Int, ∀ c ∈ comL (daysL d 7), (fun c : UInt8 => decide (c ≠ 32)) c = true := fun d c hc => by
  obtain ⟨_, hz⟩ := days_ok d 7 (by omega)
  have hday : ∀ i, i ≤ 7 → ∀ x ∈ daysL d i, ∀ c ∈ bytes x, c ≠ 32 := by
   intro i
   induction i with
   | zero => intro _ x hx; cases hx
   | succ i ih =>
    intro hi x hx
    rw [daysL] at hx
    rcases List.mem_append.1 hx with hx | hx
    ·exact ih (by omega) x hx
    ·split at hx
     ·rw [List.mem_singleton.1 hx]
      have : ((List.range 7).all fun j => (bytes (dayT j)).all fun c => !(c == 32)) = true := by kernel_rfl
      rw [List.all_eq_true] at this
      have := this i (List.mem_range.2 (by omega))
      rw [List.all_eq_true] at this
      intro c hc
      simpa using this c hc
     ·cases hx
  have hb := hday 7 (by omega)
  revert hc
  generalize daysL d 7 = ws at hb
  intro hc
  cases ws with
  | nil => cases hc
  | cons w r =>
   rw [decide_eq_true_eq]
   rcases List.mem_append.1 hc with hc | hc
   ·exact hb w (List.mem_cons_self ..) c hc
   ·rw [List.mem_flatten] at hc
    obtain ⟨l, hl, hc⟩ := hc
    obtain ⟨z, hz, rfl⟩ := List.mem_map.1 hl
    rcases List.mem_cons.1 hc with rfl | hc
    ·decide
    ·exact hb z (List.mem_cons_of_mem _ hz) c hc
 obtain ⟨h1, h2⟩ := span_inj (p := fun c : UInt8 => decide (c ≠ 32)) _ _ _ _ (no32 x.Days) (no32 y.Days) (fun c hc => by
  have : c = 32 := by simpa using hc.symm
  rw [this]; rfl) (fun c hc => by
  have : c = 32 := by simpa using hc.symm
  rw [this]; rfl) hb
 have h3 := (List.append_inj h2 rfl).2
 have la := (clk_eq x.From f0 (by omega)).2
 have lb := (clk_eq y.From f0' (by omega)).2
 obtain ⟨h4, h5⟩ := List.append_inj h3 (by rw [len_bytes, len_bytes, la, lb])
 have h6 := (List.append_inj h5 rfl).2
 have e1 := clk_inj f0 (by omega) f0' (by omega) h4
 have e2 := clk_inj (by omega) t1 (by omega) t1' h6
 have e3 := com_inj _ _ (days_ok x.Days 7 (by omega)).2 (days_ok y.Days 7 (by omega)).2 h1
 obtain ⟨d, hd⟩ : ∃ d : Nat, x.Days = (d : Int) := ⟨x.Days.toNat, by omega⟩
 obtain ⟨e, he⟩ : ∃ e : Nat, y.Days = (e : Int) := ⟨y.Days.toNat, by omega⟩
 rw [hd, he] at e3
 have := bits_inj d e (by omega) (by omega) e3
 cases x; cases y
 simp only at hn hd he e1 e2
 subst hn; subst hd; subst he; subst e1; subst e2; subst this
 rfl
end Go.PL
namespace Go.PL
set_option linter.unusedSimpArgs false
set_option linter.unusedVariables false
set_option linter.unusedSectionVars false
open Tys (Ty U)
open Enc (sz enc dflt tb ofB toB)
open Dec (dec dok)
set_option maxRecDepth 100000
theorem word_ne {s : ByteArray} (h : wordS s = true) (n : UInt8) (hn : wordC n = false) : ∀ c ∈ bytes s, (fun c : UInt8 => decide (c ≠ n)) c = true := fun c hc => by
 simp only [wordS, Bool.and_eq_true, List.all_eq_true] at h
 rw [decide_eq_true_eq]
 rintro rfl
 rw [h.1.1 c hc] at hn; cases hn
theorem head_ne (n : UInt8) (l : List UInt8) : ∀ c, (n :: l).head? = some c → (fun c : UInt8 => decide (c ≠ n)) c = false := fun c hc => by
 have : c = n := by simpa using hc.symm
 subst this; simp
def typP (t : List UInt8) (d : Def) : Bool := bytes d.Typ == t
structure SayR (r : Rule) : Prop where
 ok : ruleS r = true
 wait : r.For = 0
 keep : r.Keep = 0
structure Says (c : Config) : Prop where
 ok : configS c = true
 routes : c.Route.Routes = []
 keys : c.Route.By = []
 inh : c.Inhibits = []
 wait : ∀ r ∈ c.Rules, r.For = 0
 keep : ∀ r ∈ c.Rules, r.Keep = 0
end Go.PL
namespace Go.PL
set_option linter.unusedSimpArgs false
set_option linter.unusedVariables false
set_option linter.unusedSectionVars false
open Tys (Ty U)
open Enc (sz enc dflt tb ofB toB)
open Dec (dec dok)
set_option maxRecDepth 100000
theorem esc_cons (b : UInt8) (s : List UInt8) : escL (b :: s) = (if b = 34 ∨ b = 92 then [92, b] else [b]) ++ escL s := by simp [escL]
theorem esc_inj : ∀ s t : List UInt8, escL s = escL t → s = t
 | [], [], _ => rfl
 | [], c :: t, h => by
  rw [esc_cons] at h
  have := congrArg List.length h
  split at this <;> simp [escL] at this
 | b :: s, [], h => by
  rw [esc_cons] at h
  have := congrArg List.length h
  split at this <;> simp [escL] at this
 | b :: s, c :: t, h => by
  rw [esc_cons, esc_cons] at h
  by_cases hb : b = 34 ∨ b = 92
  ·rw [if_pos hb] at h
   by_cases hc : c = 34 ∨ c = 92
   ·rw [if_pos hc] at h
    have h1 := (List.cons.inj h).2
    rw [(List.cons.inj h1).1, esc_inj s t (List.cons.inj h1).2]
   ·rw [if_neg hc] at h
    exact absurd (.inr (List.cons.inj h).1.symm) hc
  ·rw [if_neg hb] at h
   by_cases hc : c = 34 ∨ c = 92
   ·rw [if_pos hc] at h
    exact absurd (.inr (List.cons.inj h).1) hb
   ·rw [if_neg hc] at h
    rw [(List.cons.inj h).1, esc_inj s t (List.cons.inj h).2]
theorem opl_ne {s : ByteArray} (h : plainQ s = true) (n : UInt8) (hn : oplC n = false) : ∀ c ∈ bytes s, c ≠ n := fun c hc e => by
 simp only [plainQ, Bool.and_eq_true, List.all_eq_true] at h
 have := h.1.1 c hc
 rw [e, hn] at this; cases this
theorem quote_inj {s t : ByteArray} (h : quoteL s = quoteL t) : s = t := by
 have mix : ∀ (u : ByteArray) (l : List UInt8), plainQ u = true → bytes u = 34 :: l → False := fun u l hu e => opl_ne hu 34 (by decide) 34 (by rw [e]; exact List.mem_cons_self ..) rfl
 unfold quoteL at h
 cases hs : plainQ s with
 | true =>
  rw [hs, if_pos rfl] at h
  cases ht : plainQ t with
  | true =>
   rw [ht, if_pos rfl] at h
   exact ba_ext h
  | false =>
   rw [ht, if_neg (by simp)] at h
   exact (mix s _ hs h).elim
 | false =>
  rw [hs, if_neg (by simp)] at h
  cases ht : plainQ t with
  | true =>
   rw [ht, if_pos rfl] at h
   exact (mix t _ ht h.symm).elim
  | false =>
   rw [ht, if_neg (by simp)] at h
   have h1 := List.append_cancel_right h
   exact ba_ext (esc_inj _ _ (List.cons.inj h1).2)
theorem esc_mem : ∀ (s : List UInt8), ∀ c ∈ escL s, c ∈ s ∨ c = 92
 | [], c, h => by simp [escL] at h
 | b :: s, c, h => by
  rw [esc_cons] at h
  rcases List.mem_append.1 h with h | h
  ·split at h
   ·simp only [List.mem_cons, List.mem_nil_iff, or_false] at h
    rcases h with rfl | rfl
    ·exact .inr rfl
    ·exact .inl (List.mem_cons_self ..)
   ·rw [List.mem_singleton.1 h]; exact .inl (List.mem_cons_self ..)
  ·rcases esc_mem s c h with h | h
   ·exact .inl (List.mem_cons_of_mem _ h)
   ·exact .inr h
theorem plain_no10 {s : ByteArray} (h : owordS s = true) : ∀ c ∈ bytes s, c ≠ 10 := fun c hc e => by
 simp only [owordS, Bool.and_eq_true, List.all_eq_true] at h
 have := h.1 c hc
 rw [e] at this; revert this; decide
theorem quote_no10 {s : ByteArray} (h : owordS s = true) : ∀ c ∈ quoteL s, c ≠ 10 := fun c hc => by
 unfold quoteL at hc
 split at hc
 ·exact plain_no10 h c hc
 ·rcases List.mem_append.1 hc with hc | hc
  ·rcases List.mem_append.1 hc with hc | hc
   ·rw [List.mem_singleton.1 hc]; decide
   ·rcases esc_mem _ c hc with hc | rfl
    ·exact plain_no10 h c hc
    ·decide
  ·rw [List.mem_singleton.1 hc]; decide
theorem may_cases {d : Nat} {n : Node} (h : mayN d n = true) : (n.Kind = 1 ∧ owordS n.Word = true ∧ n.Names = [] ∧ n.Items = []) ∨ (n.Kind = 2 ∧ n.Word.size = 0 ∧ n.Names = []) ∨ (n.Kind = 3 ∧ n.Word.size = 0 ∧ n.Names.length = n.Items.length ∧ ∀ s ∈ n.Names, wordS s = true) := by
 cases d with
 | zero => cases h
 | succ d =>
  simp only [mayN] at h
  split at h
  ·rename_i k
   simp only [Bool.and_eq_true, decide_eq_true_eq] at h
   exact .inl ⟨k, h.1.1, List.eq_nil_of_length_eq_zero h.1.2, List.eq_nil_of_length_eq_zero h.2⟩
  ·split at h
   ·rename_i k
    simp only [Bool.and_eq_true, decide_eq_true_eq, namesN] at h
    exact .inr (.inl ⟨k, h.1.1.1, List.eq_nil_of_length_eq_zero h.1.2.2⟩)
   ·split at h
    ·rename_i k
     simp only [Bool.and_eq_true, decide_eq_true_eq, namesN] at h
     refine .inr (.inr ⟨k, h.1.1.1, h.1.2.2, fun s hs => ?_⟩)
     obtain ⟨j, hj⟩ := allI_mem h.1.2.1 s hs
     simp only [keyP, Bool.and_eq_true] at hj
     exact hj.1
    ·cases h
theorem empty_eq {s t : ByteArray} (hs : s.size = 0) (ht : t.size = 0) : s = t := by
 have e : ∀ u : ByteArray, u.size = 0 → bytes u = [] := fun u h => List.eq_nil_of_length_eq_zero (by rw [len_bytes]; exact h)
 apply ba_ext
 rw [e s hs, e t ht]
theorem val_word {n : Node} (k : n.Kind = 1) (h : owordS n.Word = true) : bytes (valueS' n) = 32 :: quoteL n.Word := by
 unfold valueS'
 rw [if_pos k, bytes_app, quoted_val]
 ·rfl
 ·simp only [owordS, Bool.and_eq_true, decide_eq_true_eq] at h
  exact h.2
theorem val_items {n : Node} (k : n.Kind ≠ 1) (h : 0 < n.Items.length) : bytes (valueS' n) = [] := by
 unfold valueS'
 rw [if_neg k, if_pos h]
theorem val_row {n : Node} (k : n.Kind = 2) (h : n.Items = []) : bytes (valueS' n) = [32, 91, 93] := by
 unfold valueS'
 rw [if_neg (by omega), if_neg (by rw [h]; simp), if_pos k]
theorem val_map {n : Node} (k : n.Kind = 3) (h : n.Items = []) : bytes (valueS' n) = [32, 123, 125] := by
 unfold valueS'
 rw [if_neg (by omega), if_neg (by rw [h]; simp), if_neg (by omega)]
theorem quote_not (s : ByteArray) (c : UInt8) (l : List UInt8) (hc : oplC c = false) (h34 : c ≠ 34) : quoteL s ≠ c :: l := fun e => by
 unfold quoteL at e
 split at e
 ·rename_i hp
  exact opl_ne hp c hc c (by rw [e]; exact List.mem_cons_self ..) rfl
 ·exact h34 (List.cons.inj e).1.symm
inductive ValC (n : Node) : List UInt8 → Prop where
 | word (k : n.Kind = 1) (h : owordS n.Word = true) (h1 : n.Names = []) (h2 : n.Items = []) : ValC n (32 :: quoteL n.Word)
 | row (k : n.Kind = 2) (h : n.Word.size = 0) (h1 : n.Names = []) (h2 : n.Items = []) : ValC n [32, 91, 93]
 | map (k : n.Kind = 3) (h : n.Word.size = 0) (h1 : n.Names = []) (h2 : n.Items = []) : ValC n [32, 123, 125]
 | items (h : 0 < n.Items.length) : ValC n []
theorem val_c {d : Nat} {n : Node} (h : mayN d n = true) : ValC n (bytes (valueS' n)) := by
 rcases may_cases h with ⟨k, hw, h1, h2⟩ | ⟨k, hw, h1⟩ | ⟨k, hw, h1, _⟩
 ·rw [val_word k hw]; exact .word k hw h1 h2
 ·by_cases hi : 0 < n.Items.length
  ·rw [val_items (by omega) hi]; exact .items hi
  ·have h2 := List.eq_nil_of_length_eq_zero (show n.Items.length = 0 by omega)
   rw [val_row k h2]; exact .row k hw h1 h2
 ·by_cases hi : 0 < n.Items.length
  ·rw [val_items (by omega) hi]; exact .items hi
  ·have h2 := List.eq_nil_of_length_eq_zero (show n.Items.length = 0 by omega)
   rw [val_map k h2]; exact .map k hw (List.eq_nil_of_length_eq_zero (by rw [h1, h2]; rfl)) h2
theorem node_ext {x y : Node} (h1 : x.Kind = y.Kind) (h2 : x.Word = y.Word) (h3 : x.Names = y.Names) (h4 : x.Items = y.Items) : x = y := by
 cases x; cases y
 simp only at h1 h2 h3 h4
 rw [h1, h2, h3, h4]
theorem val_inj {x y : Node} {v : List UInt8} (hx : ValC x v) (hy : ValC y v) : (x = y ∧ x.Items = []) ∨ (0 < x.Items.length ∧ 0 < y.Items.length) := by
 have go : ∀ u w, ValC x u → ValC y w → u = w → (x = y ∧ x.Items = []) ∨ (0 < x.Items.length ∧ 0 < y.Items.length) := fun u w hu hw e => by
  cases hu with
  | word k h h1 h2 =>
   cases hw with
   | word k' h' h1' h2' => exact .inl ⟨node_ext (by rw [k, k']) (quote_inj (List.cons.inj e).2) (by rw [h1, h1']) (by rw [h2, h2']), h2⟩
   | row => exact (quote_not _ 91 [93] (by decide) (by decide) (List.cons.inj e).2).elim
   | map => exact (quote_not _ 123 [125] (by decide) (by decide) (List.cons.inj e).2).elim
   | items => cases e
  | row k h h1 h2 =>
   cases hw with
   | word => exact (quote_not _ 91 [93] (by decide) (by decide) (List.cons.inj e).2.symm).elim
   | row k' h' h1' h2' => exact .inl ⟨node_ext (by rw [k, k']) (empty_eq h h') (by rw [h1, h1']) (by rw [h2, h2']), h2⟩
   | map => exact absurd e (by decide)
   | items => cases e
  | map k h h1 h2 =>
   cases hw with
   | word => exact (quote_not _ 123 [125] (by decide) (by decide) (List.cons.inj e).2.symm).elim
   | row => exact absurd e (by decide)
   | map k' h' h1' h2' => exact .inl ⟨node_ext (by rw [k, k']) (empty_eq h h') (by rw [h1, h1']) (by rw [h2, h2']), h2⟩
   | items => cases e
  | items h =>
   cases hw with
   | word => cases e
   | row => cases e
   | map => cases e
   | items h' => exact .inr ⟨h, h'⟩
 exact go v v hx hy rfl
theorem val_no10 {x : Node} {v : List UInt8} (h : ValC x v) : ∀ c ∈ v, (fun c : UInt8 => decide (c ≠ 10)) c = true := fun c hc => by
 rw [decide_eq_true_eq]
 cases h with
 | word k h =>
  rcases List.mem_cons.1 hc with rfl | hc
  ·decide
  ·exact quote_no10 h c hc
 | row => rintro rfl; revert hc; decide
 | map => rintro rfl; revert hc; decide
 | items => cases hc
theorem val_head {x : Node} {v : List UInt8} (h : ValC x v) (R : List UInt8) : ∀ c, (v ++ 10 :: R).head? = some c → (fun c : UInt8 => decide (c ≠ 32 ∧ c ≠ 10)) c = false := fun c hc => by
 rw [decide_eq_false_iff_not]
 rintro ⟨h1, h2⟩
 cases h with
 | word => exact h1 (by simpa using hc.symm)
 | row => exact h1 (by simpa using hc.symm)
 | map => exact h1 (by simpa using hc.symm)
 | items => exact h2 (by simpa using hc.symm)
theorem sp_two : ∀ m : Nat, Lib.repeatL [32] (m + 2) = Lib.repeatL [32] m ++ [32, 32]
 | 0 => rfl
 | m + 1 => by
  show 32 :: Lib.repeatL [32] (m + 2) = 32 :: (Lib.repeatL [32] m ++ [32, 32])
  rw [sp_two m]
theorem sp_not {a : UInt8} (ha : a ≠ 32) (l L : List UInt8) : ∀ m : Nat, Lib.repeatL [32] m ++ a :: l ≠ Lib.repeatL [32] (m + 2) ++ L
 | 0, e => ha (List.cons.inj e).1
 | m + 1, e => sp_not ha l L m (List.cons.inj e).2
def Below (k : Nat) (R : List UInt8) : Prop := R = [] ∨ ∀ L, R ≠ Lib.repeatL [32] (2 * k) ++ L
theorem below_succ {k : Nat} {R : List UInt8} (h : Below k R) : Below (k + 1) R := by
 rcases h with h | h
 ·exact .inl h
 ·refine .inr fun L e => h ([32, 32] ++ L) ?_
  rw [e, show 2 * (k + 1) = 2 * k + 2 from rfl, sp_two, List.append_assoc]
def HeadOK (h : List UInt8) : Prop := (∀ c ∈ h, (fun c : UInt8 => decide (c ≠ 32 ∧ c ≠ 10)) c = true) ∧ ∃ a l, h = a :: l ∧ a ≠ 32
noncomputable def lineL (d k : Nat) (h : Nat → List UInt8) : Nat → Node → List UInt8 := fun i x => Lib.repeatL [32] (2 * k) ++ h i ++ bytes (valueS' x) ++ [10] ++ linesL d (k + 1) x
theorem below_items (d k : Nat) (h : Nat → List UInt8) (i : Nat) (xs : List Node) (R : List UInt8) (hh : ∀ j, j < xs.length → HeadOK (h (i + j))) (hR : Below k R) : Below (k + 1) (itemsL (lineL d k h) i xs ++ R) := by
 cases xs with
 | nil => exact below_succ hR
 | cons x xs =>
  obtain ⟨_, a, l, e, ha⟩ := hh 0 (by simp)
  refine .inr fun L e2 => ?_
  simp only [itemsL, lineL, Nat.add_zero] at e2 e
  rw [e] at e2
  simp only [List.append_assoc, List.cons_append] at e2
  exact sp_not ha _ L (2 * k) e2
theorem not_below (d k : Nat) (h : Nat → List UInt8) (i : Nat) (x : Node) (xs : List Node) (R S : List UInt8) (hS : Below k S) (e : S = itemsL (lineL d k h) i (x :: xs) ++ R) : False := by
 simp only [itemsL, lineL, List.append_assoc] at e
 rcases hS with hS | hS
 ·rw [hS] at e
  have := congrArg List.length e
  simp at this
 ·exact hS _ e
theorem lines_nil (d k : Nat) {x : Node} (h : x.Items = []) : linesL d k x = [] := by
 cases d with
 | zero => rfl
 | succ d => rw [linesL, h]; rfl
theorem items_inj (d k : Nat) (IH : ∀ (x y : Node) (R S : List UInt8), mayN d x = true → mayN d y = true → 0 < x.Items.length → 0 < y.Items.length → Below (k + 1) R → Below (k + 1) S → linesL d (k + 1) x ++ R = linesL d (k + 1) y ++ S → x = y ∧ R = S) (f g : Nat → List UInt8) : ∀ (xs ys : List Node) (i : Nat) (R S : List UInt8), (∀ x ∈ xs, mayN d x = true) → (∀ y ∈ ys, mayN d y = true) → (∀ j, j < xs.length → HeadOK (f (i + j))) → (∀ j, j < ys.length → HeadOK (g (i + j))) → Below k R → Below k S → itemsL (lineL d k f) i xs ++ R = itemsL (lineL d k g) i ys ++ S → xs = ys ∧ (∀ j, j < xs.length → f (i + j) = g (i + j)) ∧ R = S
 | [], [], i, R, S, _, _, _, _, _, _, h => ⟨rfl, fun j hj => absurd hj (Nat.not_lt_zero _), h⟩
 | [], y :: ys, i, R, S, _, _, _, _, hR, _, h => (not_below d k g i y ys S R hR h).elim
 | x :: xs, [], i, R, S, _, _, _, _, _, hS, h => (not_below d k f i x xs R S hS h.symm).elim
 | x :: xs, y :: ys, i, R, S, hx, hy, hf, hg, hR, hS, h => by
  have mx := hx x (List.mem_cons_self ..)
  have my := hy y (List.mem_cons_self ..)
  have nf : ∀ j, j < xs.length → HeadOK (f (i + 1 + j)) := fun j hj => by
   have := hf (j + 1) (by rw [List.length_cons]; omega)
   rwa [show i + (j + 1) = i + 1 + j by omega] at this
  have ng : ∀ j, j < ys.length → HeadOK (g (i + 1 + j)) := fun j hj => by
   have := hg (j + 1) (by rw [List.length_cons]; omega)
   rwa [show i + (j + 1) = i + 1 + j by omega] at this
  have vx := val_c mx
  have vy := val_c my
  have hf0 : HeadOK (f i) := hf 0 (by simp)
  have hg0 : HeadOK (g i) := hg 0 (by simp)
  have nrm : ∀ (f : Nat → List UInt8) (x : Node) (xs : List Node) (R : List UInt8), itemsL (lineL d k f) i (x :: xs) ++ R = Lib.repeatL [32] (2 * k) ++ (f i ++ (bytes (valueS' x) ++ 10 :: (linesL d (k + 1) x ++ (itemsL (lineL d k f) (i + 1) xs ++ R)))) := fun f x xs R => by
   show Lib.repeatL [32] (2 * k) ++ f i ++ bytes (valueS' x) ++ [10] ++ linesL d (k + 1) x ++ itemsL (lineL d k f) (i + 1) xs ++ R = _
   simp only [List.append_assoc, List.cons_append, List.nil_append]
  rw [nrm, nrm] at h
  have h1 := List.append_cancel_left h
  obtain ⟨h2, h3⟩ := span_inj (p := fun c : UInt8 => decide (c ≠ 32 ∧ c ≠ 10)) _ _ _ _ hf0.1 hg0.1 (val_head vx _) (val_head vy _) h1
  obtain ⟨h4, h5⟩ := span_inj (p := fun c : UInt8 => decide (c ≠ 10)) _ _ _ _ (val_no10 vx) (val_no10 vy) (head_ne 10 _) (head_ne 10 _) h3
  have h6 := (List.cons.inj h5).2
  have bx := below_items d k f (i + 1) xs R nf hR
  have by' := below_items d k g (i + 1) ys S ng hS
  have both : x = y ∧ itemsL (lineL d k f) (i + 1) xs ++ R = itemsL (lineL d k g) (i + 1) ys ++ S := by
   rw [h4] at vx
   rcases val_inj vx vy with ⟨e, hi⟩ | ⟨i1, i2⟩
   ·refine ⟨e, ?_⟩
    have h7 : linesL d (k + 1) x ++ (itemsL (lineL d k f) (i + 1) xs ++ R) = linesL d (k + 1) y ++ (itemsL (lineL d k g) (i + 1) ys ++ S) := h6
    rw [lines_nil d (k + 1) hi, lines_nil d (k + 1) (e ▸ hi)] at h7
    exact h7
   ·exact IH x y _ _ mx my i1 i2 bx by' h6
  obtain ⟨e, h7⟩ := both
  obtain ⟨e1, e2, e3⟩ := items_inj d k IH f g xs ys (i + 1) R S (fun z hz => hx z (List.mem_cons_of_mem _ hz)) (fun z hz => hy z (List.mem_cons_of_mem _ hz)) nf ng hR hS h7
  refine ⟨by rw [e, e1], fun j hj => ?_, e3⟩
  cases j with
  | zero => exact h2
  | succ j =>
   have := e2 j (by rw [List.length_cons] at hj; omega)
   rwa [show i + (j + 1) = i + 1 + j by omega]
theorem head_ok {d : Nat} {n : Node} (h : mayN d n = true) (j : Nat) (hj : j < n.Items.length) : HeadOK (headL n j) := by
 rcases may_cases h with ⟨k, _, _, hi⟩ | ⟨k, _, _⟩ | ⟨k, _, hl, hw⟩
 ·rw [hi] at hj; exact absurd hj (Nat.not_lt_zero _)
 ·unfold headL
  rw [if_neg (by omega)]
  exact ⟨fun c hc => by rw [List.mem_singleton.1 hc]; decide, 45, [], rfl, by decide⟩
 ·unfold headL
  obtain ⟨s, hs⟩ := at_some (xs := n.Names) (i := j) (by omega)
  rw [if_pos k, get_at hs]
  have hws := hw s (mem_at hs)
  have h32 := word_ne hws 32 (by decide)
  have h10 := word_ne hws 10 (by decide)
  simp only [wordS, Bool.and_eq_true, decide_eq_true_eq] at hws
  refine ⟨fun c hc => ?_, ?_⟩
  ·rw [decide_eq_true_eq]
   rcases List.mem_append.1 hc with hc | hc
   ·exact ⟨of_decide_eq_true (h32 c hc), of_decide_eq_true (h10 c hc)⟩
   ·rw [List.mem_singleton.1 hc]; decide
  ·have hl := len_bytes s
   cases hb : bytes s with
   | nil => rw [hb] at hl; simp at hl; omega
   | cons a l => exact ⟨a, l ++ [58], rfl, of_decide_eq_true (h32 a (by rw [hb]; exact List.mem_cons_self ..))⟩
theorem names_ext : ∀ (l m : List ByteArray), l.length = m.length → (∀ j, j < l.length → l.getD j ⟨#[]⟩ = m.getD j ⟨#[]⟩) → l = m
 | [], [], _, _ => rfl
 | [], _ :: _, h, _ => by simp at h
 | _ :: _, [], h, _ => by simp at h
 | a :: l, b :: m, h, e => by
  have e0 : a = b := e 0 (by simp)
  rw [e0, names_ext l m (by simpa using h) fun j hj => e (j + 1) (by simpa using hj)]
theorem lines_inj : ∀ (d k : Nat) (x y : Node) (R S : List UInt8), mayN d x = true → mayN d y = true → 0 < x.Items.length → 0 < y.Items.length → Below k R → Below k S → linesL d k x ++ R = linesL d k y ++ S → x = y ∧ R = S
 | 0, _, _, _, _, _, h, _, _, _, _, _, _ => by cases h
 | d + 1, k, x, y, R, S, hx, hy, ix, iy, hR, hS, h => by
  have h' : itemsL (lineL d k (headL x)) 0 x.Items ++ R = itemsL (lineL d k (headL y)) 0 y.Items ++ S := h
  obtain ⟨e1, e2, e3⟩ := items_inj d k (lines_inj d (k + 1)) (headL x) (headL y) x.Items y.Items 0 R S (may_items hx) (may_items hy) (fun j hj => by rw [Nat.zero_add]; exact head_ok hx j hj) (fun j hj => by rw [Nat.zero_add]; exact head_ok hy j hj) hR hS h'
  refine ⟨?_, e3⟩
  have e0 := e2 0 ix
  have dash : ∀ (a b : Node), a.Kind = 2 → b.Kind = 3 → headL a (0 + 0) = headL b (0 + 0) → False := fun a b ka kb e => by
   unfold headL at e
   rw [if_neg (by omega), if_pos kb] at e
   have := congrArg List.getLast? e
   rw [List.getLast?_append] at this
   revert this; simp
  rcases may_cases hx with ⟨_, _, _, hi⟩ | ⟨k1, w1, n1⟩ | ⟨k1, w1, l1, _⟩
  ·rw [hi] at ix; exact absurd ix (Nat.lt_irrefl _)
  ·rcases may_cases hy with ⟨_, _, _, hi⟩ | ⟨k2, w2, n2⟩ | ⟨k2, w2, l2, _⟩
   ·rw [hi] at iy; exact absurd iy (Nat.lt_irrefl _)
   ·exact node_ext (by rw [k1, k2]) (empty_eq w1 w2) (by rw [n1, n2]) e1
   ·exact (dash x y k1 k2 e0).elim
  ·rcases may_cases hy with ⟨_, _, _, hi⟩ | ⟨k2, w2, n2⟩ | ⟨k2, w2, l2, _⟩
   ·rw [hi] at iy; exact absurd iy (Nat.lt_irrefl _)
   ·exact (dash y x k2 k1 e0.symm).elim
   ·refine node_ext (by rw [k1, k2]) (empty_eq w1 w2) (names_ext _ _ (by rw [l1, l2, e1]) fun j hj => ?_) e1
    have := e2 j (by omega)
    unfold headL at this
    rw [if_pos k1, if_pos k2, Nat.zero_add] at this
    exact ba_ext (List.append_cancel_right this)
theorem lines_inj0 {x y : Node} (hx : mayN 8 x = true) (hy : mayN 8 y = true) (ix : 0 < x.Items.length) (iy : 0 < y.Items.length) (h : linesL 8 0 x = linesL 8 0 y) : x = y :=
 (lines_inj 8 0 x y [] [] hx hy ix iy (.inl rfl) (.inl rfl) (by rw [h])).1
theorem wordN_inj {s t : ByteArray} (h : wordN s = wordN t) : s = t := congrArg Node.Word h
theorem rowN_inj {l m : List Node} (h : rowN l = rowN m) : l = m := congrArg Node.Items h
theorem mapN_inj {a b : List ByteArray} {l m : List Node} (h : mapN a l = mapN b m) : l = m := congrArg Node.Items h
theorem numN_inj {a b : Int} (h : numN a = numN b) : a = b := itoaS_inj (wordN_inj h)
theorem words_inj {l m : List ByteArray} (h : rowN (l.map wordN) = rowN (m.map wordN)) : l = m :=
 map_inj_on (P := fun _ => True) (fun x y _ _ => wordN_inj) l m (fun _ _ => trivial) (fun _ _ => trivial) (rowN_inj h)
theorem matchN_inj {l m : List Matcher} (hl : matchersS l = true) (hm : matchersS m = true) (h : rowN (l.map matchN) = rowN (m.map matchN)) : l = m :=
 map_inj_on (P := fun m => matcherS m = true) (fun x y hx hy e => textS_inj hx hy (wordN_inj e)) l m (matchersS_ok hl).2 (matchersS_ok hm).2 (rowN_inj h)
theorem quietN_inj {x y : Inhibit} (hx : inhibitS x = true) (hy : inhibitS y = true) (h : quietN x = quietN y) : x = y := by
 simp only [inhibitS, Bool.and_eq_true, decide_eq_true_eq] at hx hy
 have h := mapN_inj h
 simp only [List.cons.injEq, and_true] at h
 obtain ⟨h1, h2, h3⟩ := h
 have e1 := matchN_inj hx.2.1.2 hy.2.1.2 h1
 have e2 := matchN_inj hx.2.2 hy.2.2 h2
 have e3 := words_inj h3
 cases x; cases y
 simp only at e1 e2 e3
 rw [e1, e2, e3]
theorem spanN_inj {x y : Hours} (hx : hourS x = true) (hy : hourS y = true) (h : spanN x = spanN y) : x = y := by
 have h := mapN_inj h
 simp only [List.cons.injEq, and_true] at h
 exact hours_inj hx hy (wordN_inj h.1) (wordN_inj h.2)
theorem onW_inj {a b : Bool} (h : onW a = onW b) : a = b := by
 cases a <;> cases b <;> first | rfl | (have h' := congrArg bytes h; revert h'; decide)
theorem map_inj_in {α β : Type} {f : α → β} {P : α → Prop} : ∀ l m : List α, (∀ x ∈ l, ∀ y, P x → P y → f x = f y → x = y) → (∀ x ∈ l, P x) → (∀ x ∈ m, P x) → l.map f = m.map f → l = m
 | [], [], _, _, _, _ => rfl
 | [], _ :: _, _, _, _, h => by simp at h
 | _ :: _, [], _, _, _, h => by simp at h
 | x :: l, y :: m, hf, hl, hm, h => by
  rw [List.map_cons, List.map_cons] at h
  obtain ⟨h1, h2⟩ := List.cons.inj h
  rw [hf x (List.mem_cons_self ..) y (hl x (List.mem_cons_self ..)) (hm y (List.mem_cons_self ..)) h1, map_inj_in l m (fun z hz => hf z (List.mem_cons_of_mem _ hz)) (fun z hz => hl z (List.mem_cons_of_mem _ hz)) (fun z hz => hm z (List.mem_cons_of_mem _ hz)) h2]
theorem routeN_inj : ∀ (d : Nat) (r q : Route), routeS d r = true → routeS d q = true → routeN d r = routeN d q → r = q
 | 0, r, q, h, _, _ => by cases h
 | d + 1, r, q, hr, hq, h => by
  have kr := routeS_kids hr
  have kq := routeS_kids hq
  have o1 : oneS r = true := by simp only [routeS, Bool.and_eq_true] at hr; exact hr.1
  have o2 : oneS q = true := by simp only [routeS, Bool.and_eq_true] at hq; exact hq.1
  simp only [oneS, Bool.and_eq_true] at o1 o2
  simp only [routeN] at h
  have h := mapN_inj h
  simp only [List.cons.injEq, and_true] at h
  obtain ⟨h1, h2, h3, h4, h5, h6, h7, h8, h9⟩ := h
  have e1 := wordN_inj h1
  have e2 := matchN_inj o1.1.1.1.1.1.1.2 o2.1.1.1.1.1.1.2 h2
  have e3 := words_inj h3
  have e4 := numN_inj h4
  have e5 := numN_inj h5
  have e6 := numN_inj h6
  have e7 := words_inj h7
  have e8 := onW_inj (wordN_inj h8)
  have e9 : r.Routes = q.Routes := map_inj_in (P := fun x => routeS d x = true) _ _ (fun x _ y hx hy e => routeN_inj d x y hx hy e) kr.2 kq.2 (rowN_inj h9)
  cases r; cases q
  simp only at e1 e2 e3 e4 e5 e6 e7 e8 e9
  subst e1; subst e2; subst e3; subst e4; subst e5; subst e6; subst e7; subst e8; subst e9
  rfl
theorem node_inj {a b : Config} (ha : configS a = true) (hb : configS b = true) (hra : a.Rules = []) (hrb : b.Rules = []) (h : nodeS (normS a) = nodeS (normS b)) : normS a = normS b := by
 have oa := norm_ok ha
 have ob := norm_ok hb
 have ta := (configS_ok ha).top
 have tb := (configS_ok hb).top
 simp only [topS, Bool.and_eq_true] at ta tb
 have h := mapN_inj h
 simp only [List.cons.injEq, and_true] at h
 obtain ⟨h1, h2, h3, h4⟩ := h
 have e1 : (normS a).Route = (normS b).Route := routeN_inj 4 a.Route b.Route ta.1.1.1 tb.1.1.1 h1
 have e2 : (normS a).Receivers = (normS b).Receivers := words_inj h2
 have e3 : (normS a).Inhibits = (normS b).Inhibits := map_inj_on (P := fun x => inhibitS x = true) (fun x y hx hy => quietN_inj hx hy) _ _ (norm_inh_ok ha) (norm_inh_ok hb) (rowN_inj h3)
 have e4 : (normS a).Hours = (normS b).Hours := map_inj_on (P := fun x => hourS x = true) (fun x y hx hy => spanN_inj hx hy) _ _ oa.hours.2 ob.hours.2 (rowN_inj h4)
 have e5 : (normS a).Rules = (normS b).Rules := by
  show sortI (byName (·.Name)) a.Rules = sortI (byName (·.Name)) b.Rules
  rw [hra, hrb]
 generalize normS a = x at *
 generalize normS b = y at *
 cases x; cases y
 simp only at e1 e2 e3 e4 e5
 subst e1; subst e2; subst e3; subst e4; subst e5
 rfl
theorem export_zeroA {c : Config} (h : (exportA c).2 = 0) : configS (bareC c) = true ∧ mayN 8 (nodeS (normS (bareC c))) = true ∧ (exportA c).1 = ⟨(linesL 8 0 (nodeS (normS (bareC c)))).toArray⟩ := by
 unfold exportA at h ⊢
 cases hh : holdsA c with
 | false => rw [hh] at h; cases h
 | true =>
  rw [hh, cond_true] at h
  rw [cond_true]
  unfold holdsA at hh
  rw [Bool.and_eq_true] at hh
  unfold printS at h ⊢
  cases hm : !mayN 8 (nodeS (normS (bareC c))) || decide ((nodeS (normS (bareC c))).Items.length = 0) with
  | true => rw [hm] at h; cases h
  | false =>
   rw [hm, cond_false] at h
   rw [cond_false]
   rw [Bool.or_eq_false_iff] at hm
   cases hl : decide ((linesL 8 0 (nodeS (normS (bareC c)))).length ≤ 8192) with
   | false => rw [hl] at h; cases h
   | true => exact ⟨hh.1, by simpa using hm.1, rfl⟩
theorem AmApart_true (a b : Config) (ha : configFit a) (hb : configFit b) : transhipmentlaw12_AmApart std a b = some true := by
 unfold transhipmentlaw12_AmApart
 obtain ⟨w1, h1, s1⟩ := big12_some a ha
 obtain ⟨w2, h2, s2⟩ := big12_some b hb
 rw [h1, bd_some, h2, alive12_eq]
 cases w1 with
 | true => rfl
 | false =>
  rw [show std.not false = true from rfl, gd_t, bd_some]
  cases w2 with
  | true => rfl
  | false =>
   rw [show std.or false false = false from rfl, br_false, amfile_Export_eq a ha, bd_some, amfile_Export_eq b hb, bd_some]
   by_cases hz : (exportA a).2 = 0 ∧ (exportA b).2 = 0
   ·obtain ⟨za, zb⟩ := hz
    obtain ⟨a1, a2, a3⟩ := export_zeroA za
    obtain ⟨b1, b2, b3⟩ := export_zeroA zb
    have hs : config_Same std (Config.mk [] a.2 a.3 a.4 a.5) (Config.mk [] b.2 b.3 b.4 b.5) = some (eqB (normS (bareC a)) (normS (bareC b))) := by
     have := config_Same_eq (bareC a) (bareC b) (bare_fit ha) (bare_fit hb)
     rw [a1, b1, normC_t a1, normC_t b1] at this
     exact this
    rw [za, zb, show std.or (std.cmp .neq 0 0) (std.cmp .neq 0 0) = false from rfl, br_false, bd_some, gd_t, hs, bd_some, a3, b3]
    have key : std.scmp .eql (ByteArray.mk (linesL 8 0 (nodeS (normS (bareC a)))).toArray) (ByteArray.mk (linesL 8 0 (nodeS (normS (bareC b)))).toArray) = eqB (normS (bareC a)) (normS (bareC b)) := by
     rw [s_seql, Bool.eq_iff_iff, decide_eq_true_eq, eqB_iff]
     constructor
     ·intro e
      have e' := congrArg bytes e
      rw [bytes_mk, bytes_mk] at e'
      exact node_inj a1 b1 rfl rfl (lines_inj0 a2 b2 (show 0 < 4 by omega) (show 0 < 4 by omega) e')
     ·intro e; rw [e]
    rw [key]
    cases eqB (normS (bareC a)) (normS (bareC b)) <;> rfl
   ·have : std.or (std.cmp .neq (exportA a).2 0) (std.cmp .neq (exportA b).2 0) = true := by
     rw [s_lor, s_neq, s_neq, Bool.or_eq_true, bne_iff_ne, bne_iff_ne]
     omega
    rw [this]
    rfl
end Go.PL
