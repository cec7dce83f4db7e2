/- Texts of this claim: plain laws of what the program's functions compute. No condition of their own. -/
import Derived.Test.YtiddkdneoldkoaaGreatDoorWb
import Derived.Lib.ItoaLen
import Derived.Lib.SplitLaws
import Derived.Lib.Replace
import Derived.Lib.Repeat
import Derived.KernelRfl
namespace Go.PL
set_option linter.unusedSimpArgs false
set_option linter.unusedVariables false
set_option linter.unusedSectionVars false
open Tys (Ty U)
open Enc (sz enc dflt tb ofB toB)
open Dec (dec dok)
set_option maxRecDepth 100000
theorem replaceK_len (old new : List UInt8) : ∀ (k : Nat) (s : List UInt8), (Lib.replaceK old new k s).length ≤ s.length + k * new.length
 | 0, s => by simp [Lib.replaceK]
 | k + 1, s => by
  rw [Lib.replaceK]
  split
  ·exact Nat.le_add_right ..
  ·have h := replaceK_len old new k (s.drop ((Lib.index s old).toNat + old.length))
   simp only [List.length_append, List.length_take, List.length_drop, Nat.succ_mul] at h ⊢
   omega
theorem replace_some (s old new : ByteArray) (h0 : 1 ≤ old.size) (h2 : new.size = 2) (hs : s.size ≤ 1000) : ∃ t, strings_ReplaceAll std s old new = some t ∧ t.size ≤ 3 * s.size := by
 have hc := Lib.countB_le old h0 s.size s (Nat.le_refl _)
 unfold strings_ReplaceAll
 refine ⟨_, ck_t ⟨by omega, h0, by rw [h2]; omega⟩, ?_⟩
 rw [size_bytes, bytes_mk]
 unfold Lib.replaceAll Lib.replace
 split
 ·show (bytes s).length ≤ _
  rw [len_bytes]; omega
 ·have h := replaceK_len old.data.toList new.data.toList (Lib.replaceNum s.data.toList old.data.toList (-1)) s.data.toList
  have e : Lib.replaceNum s.data.toList old.data.toList (-1) = Lib.countB s old := by
   unfold Lib.replaceNum
   rw [if_pos (.inl (by omega))]
  have l1 : s.data.toList.length = s.size := len_bytes s
  have l2 : new.data.toList.length = 2 := (len_bytes new).trans h2
  rw [e] at h ⊢
  rw [l1, l2] at h
  omega
theorem join_len (sep : List UInt8) : ∀ (l : List (List UInt8)) (m : Nat), (∀ x ∈ l, x.length ≤ m) → (Lib.join l sep).length ≤ l.length * (m + sep.length)
 | [], m, _ => by simp [Lib.join]
 | x :: l, m, h => by
  have key : ∀ l : List (List UInt8), (∀ x ∈ l, x.length ≤ m) → (Lib.joinTail sep l).length ≤ l.length * (m + sep.length) := by
   intro l
   induction l with
   | nil => intro _; simp [Lib.joinTail]
   | cons y l ih =>
    intro h
    have h1 := ih fun x hx => h x (List.mem_cons_of_mem _ hx)
    have h2 := h y (List.mem_cons_self ..)
    simp only [Lib.joinTail, List.map_cons, List.flatten_cons, List.length_append, List.length_cons, Nat.succ_mul] at h1 ⊢
    omega
  rw [Lib.join_cons]
  have h1 := key l fun x hx => h x (List.mem_cons_of_mem _ hx)
  have h2 := h x (List.mem_cons_self ..)
  simp only [List.length_append, List.length_cons, Nat.succ_mul]
  omega
end Go.PL
namespace Go.PL
set_option linter.unusedSimpArgs false
set_option linter.unusedVariables false
set_option linter.unusedSectionVars false
open Tys (Ty U)
open Enc (sz enc dflt tb ofB toB)
open Dec (dec dok)
set_option maxRecDepth 100000
theorem Loop_go {S ε α σ : Type} {B : S → Option (S ⊕ ε)} (enc : Nat → σ → S) (xs : List α) (next : Nat → α → σ → σ) (I : Nat → σ → Prop) (G : ε → Prop)
  (h1 : ∀ i x s, xs[i]? = some x → I i s → B (enc i s) = some (.inl (enc (i + 1) (next i x s))) ∧ I (i + 1) (next i x s))
  (h2 : ∀ s, I xs.length s → ∃ e, B (enc xs.length s) = some (.inr e) ∧ G e) (s0 : σ) (h0 : I 0 s0) : ∃ e, Loop B (enc 0 s0) = some e ∧ G e := by
 have key : ∀ (n i : Nat) (s : σ), i + n = xs.length → I i s → ∃ e, Loop B (enc i s) = some e ∧ G e := by
  intro n
  induction n with
  | zero =>
   intro i s hi hI
   obtain rfl : i = xs.length := by omega
   obtain ⟨e, he, hg⟩ := h2 s hI
   exact ⟨e, by rw [Loop_eq, he], hg⟩
  | succ n ih =>
   intro i s hi hI
   have hl : i < xs.length := by omega
   obtain ⟨h3, h4⟩ := h1 i xs[i] s (List.getElem?_eq_getElem hl) hI
   obtain ⟨e, he, hg⟩ := ih (i + 1) _ (by omega) h4
   exact ⟨e, by rw [Loop_eq, h3]; exact he, hg⟩
 exact key xs.length 0 s0 (by omega) h0
theorem app_len {α : Type} {l : List α} {n : Nat} (x : α) (h : l.length ≤ n) : (l ++ [x]).length ≤ n + 1 := by
 rw [List.length_append, List.length_singleton]; omega
theorem hours_two_some (n : Int) (h0 : 0 ≤ n) (h1 : n ≤ 99) : ∃ t, hours_two std n = some t ∧ t.size = 2 := by
 unfold hours_two
 have q1 : std.ar .quo .i64 n 10 = n / 10 := by rw [s_quo, tdiv0 h0, w64 (by omega)]
 have q2 : std.ar .rem .i64 n 10 = n % 10 := by rw [s_rem, tmod0 h0]
 have a1 : std.ar .add .i64 48 (n / 10) = 48 + n / 10 := by rw [s_add, w64 (by omega)]
 have a2 : std.ar .add .i64 48 (n % 10) = 48 + n % 10 := by rw [s_add, w64 (by omega)]
 rw [q1, q2, a1, a2, s_conv, s_conv, w8 (by omega), w8 (by omega), ck_t (show std.u8ok _ from ⟨by omega, by omega⟩), ck_t (show std.u8ok _ from ⟨by omega, by omega⟩), b2s_eq]
 exact ⟨_, rfl, rfl⟩
theorem hours_clock_some (n : Int) (h0 : 0 ≤ n) (h1 : n ≤ 1440) : ∃ t, hours_clock std n = some t ∧ t.size = 5 := by
 unfold hours_clock
 have q1 : std.ar .quo .i64 n 60 = n / 60 := by rw [s_quo, tdiv0 h0, w64 (by omega)]
 have q2 : std.ar .rem .i64 n 60 = n % 60 := by rw [s_rem, tmod0 h0]
 obtain ⟨a, ha, la⟩ := hours_two_some (n / 60) (by omega) (by omega)
 obtain ⟨b, hb, lb⟩ := hours_two_some (n % 60) (by omega) (by omega)
 have z : (ByteArray.mk (Array.mk [58])).size = 1 := rfl
 rw [q1, q2, ha, bd_some, ck_t (show std.catOk _ _ by rw [s_catOk, la, z]; omega), hb, bd_some, s_cat, s_cat, ck_t (show std.catOk _ _ by rw [s_catOk, ByteArray.size_append, la, lb, z]; omega)]
 exact ⟨_, rfl, by rw [ByteArray.size_append, ByteArray.size_append, la, lb, z]⟩
def dayT (i : Nat) : ByteArray := std.sel [ByteArray.mk (Array.mk [109, 111, 110]), ByteArray.mk (Array.mk [116, 117, 101]), ByteArray.mk (Array.mk [119, 101, 100]), ByteArray.mk (Array.mk [116, 104, 117]), ByteArray.mk (Array.mk [102, 114, 105]), ByteArray.mk (Array.mk [115, 97, 116]), ByteArray.mk (Array.mk [115, 117, 110])] (i : Int)
theorem dayT_size (i : Nat) (h : i < 7) : (dayT i).size = 3 := by
 have : i = 0 ∨ i = 1 ∨ i = 2 ∨ i = 3 ∨ i = 4 ∨ i = 5 ∨ i = 6 := by omega
 rcases this with rfl | rfl | rfl | rfl | rfl | rfl | rfl <;> rfl
theorem hours_Text_some (h : Hours) (hs : hourS h = true) : ∃ v, hours_Text std h = some v := by
 have h0 := hs
 simp only [hourS, Bool.and_eq_true, decide_eq_true_eq] at h0
 obtain ⟨⟨⟨⟨⟨⟨_, _⟩, _⟩, f0⟩, f1⟩, f2⟩, t1⟩ := h0
 obtain ⟨a, ha, la⟩ := hours_clock_some h.From f0 (by omega)
 obtain ⟨b, hb, lb⟩ := hours_clock_some h.To (by omega) t1
 unfold hours_Text
 rw [hours_Right_eq h, bd_some, hs, s_not, Bool.not_true, br_false]
 have := Loop_go (B := hours_Text_B1 std h) (fun i (l : List ByteArray) => (l, (i : Int))) (List.range 7) (fun i _ l => if std.cmp .eql (std.ar .and .i64 (std.ar .shr .i64 h.Days (i : Int)) 1) 1 = true then l ++ [dayT i] else l) (fun i l => i ≤ 7 ∧ l.length ≤ i ∧ ∀ x ∈ l, x.size ≤ 3) (fun _ => True) (fun i n l hx ⟨hi7, hI, hz⟩ => by
  have hi : i < 7 := by have := lt_of_at hx; simpa using this
  refine ⟨?_, by omega, ?_, ?_⟩
  ·unfold hours_Text_B1
   simp only
   rw [show std.cmp .lss (i : Int) 7 = true from lssT (n := 7) hi, br_true, ck_t (show std.inb (i : Int) (Int.ofNat 7) from inbT (n := 7) hi), ck_t (show std.nn (i : Int) by show (0 : Int) ≤ _; omega), s_add, wrap_succ (n := 7) hi (by unfold big63; omega)]
   cases std.cmp .eql (std.ar .and .i64 (std.ar .shr .i64 h.Days (i : Int)) 1) 1 with
   | true =>
    rw [br_true, if_pos rfl]
    have hA : std.appOk TyS.str 16 l [dayT i] := ⟨by simp; omega, by simp; omega⟩
    exact ck_t hA
   | false => rfl
  ·split
   ·exact app_len _ hI
   ·omega
  ·split
   ·intro x hx
    rcases List.mem_append.1 hx with hx | hx
    ·exact hz x hx
    ·rw [List.mem_singleton.1 hx, dayT_size i hi]; omega
   ·exact hz) (fun l ⟨_, hI, hz⟩ => by
  simp only [List.length_range] at hI
  unfold hours_Text_B1
  simp only [List.length_range]
  have hj := join_len [44] (l.map (·.data.toList)) 3 (fun x hx => by
   obtain ⟨y, hy, rfl⟩ := List.mem_map.1 hx
   show (bytes y).length ≤ 3
   rw [len_bytes]; exact hz y hy)
  simp only [List.length_map, List.length_singleton] at hj
  have hJ : strings_Join std l (ByteArray.mk (Array.mk [44])) = some ⟨(Lib.join (l.map (·.data.toList)) [44]).toArray⟩ := by
   unfold strings_Join
   exact ck_t ⟨by omega, by show (Lib.join (l.map (·.data.toList)) [44]).length ≤ _; omega⟩
  have jz : (ByteArray.mk (Lib.join (l.map (·.data.toList)) [44]).toArray).size ≤ 28 := by rw [size_bytes, bytes_mk]; omega
  generalize ByteArray.mk (Lib.join (l.map (·.data.toList)) [44]).toArray = J at hJ jz
  have z1 : (ByteArray.mk (Array.mk [32])).size = 1 := rfl
  have z2 : (ByteArray.mk (Array.mk [45])).size = 1 := rfl
  rw [show std.cmp .lss ((7 : Nat) : Int) 7 = false from rfl, br_false, hJ, bd_some, s_cat, ck_t (show std.catOk _ _ by rw [s_catOk, z1]; omega), ha, bd_some, s_cat, ck_t (show std.catOk _ _ by rw [s_catOk, ByteArray.size_append, z1, la]; omega), s_cat, ck_t (show std.catOk _ _ by rw [s_catOk, ByteArray.size_append, ByteArray.size_append, z1, z2, la]; omega), hb, bd_some, s_cat, ck_t (show std.catOk _ _ by rw [s_catOk, ByteArray.size_append, ByteArray.size_append, ByteArray.size_append, z1, z2, la, lb]; omega)]
  exact ⟨_, rfl, trivial⟩) [] ⟨by omega, by simp, fun x hx => by cases hx⟩
 obtain ⟨e, he, _⟩ := this
 exact ⟨e, he⟩
end Go.PL
namespace Go.PL
set_option linter.unusedSimpArgs false
set_option linter.unusedVariables false
set_option linter.unusedSectionVars false
open Tys (Ty U)
open Enc (sz enc dflt tb ofB toB)
open Dec (dec dok)
set_option maxRecDepth 100000
end Go.PL
namespace Go.PL
set_option linter.unusedSimpArgs false
set_option linter.unusedVariables false
set_option linter.unusedSectionVars false
open Tys (Ty U)
open Enc (sz enc dflt tb ofB toB)
open Dec (dec dok)
set_option maxRecDepth 100000
def shortM (m : Matcher) : Bool := decide ((textS m).size ≤ 200)
def shortS (l : List Matcher) : Bool := l.all shortM
theorem amfile_short_eq (l : List Matcher) (hf : fitL matcherFit l) (h : matchersS l = true) : amfile_short std l = some (shortS l) := by
 unfold amfile_short
 simp only [matchersS, Bool.and_eq_true, List.all_eq_true] at h
 rw [contains_Matcher l (fun m => !shortM m) _ (fun m hm => by
  unfold amfile_short_1
  rw [matcher_Text_eq m (hf.2 m hm) (h.1 m hm), bd_some]
  simp only
  rw [s_gtr, s_slen, not_le_lt]
  show some (!decide (((textS m).size : Int) ≤ ((200 : Nat) : Int))) = _
  rw [leN]; rfl) hf.1, bd_some, s_not, all_not_any, Bool.not_not]
 rfl
def flatS : Nat → Route → Bool
 | 0, _ => false
 | d + 1, r => shortS r.Match && r.Routes.all (flatS d)
theorem amfile_flat_N_eq : ∀ (n : Nat) (r : Route) (d e : Nat), SizeOf.sizeOf r < n → RouteFit r → routeS e r = true → d ≤ 100 → amfile_flat_N std n r (d : Int) = some (flatS d r)
 | 0, r, d, e, h, _, _, _ => by omega
 | n + 1, r, d, e, h, hf, hs, hd => by
  obtain ⟨e, rfl⟩ := routeS_pos hs
  have hk := routeS_kids hs
  have h1 : oneS r = true := by simp only [routeS, Bool.and_eq_true] at hs; exact hs.1
  have hm : matchersS r.Match = true := by
   simp only [oneS, Bool.and_eq_true] at h1
   exact h1.1.1.1.1.1.1.2
  obtain ⟨_, f2, _, _, f5, f6⟩ := fit_route hf
  rw [amfile_flat_N, amfile_flat_S]
  cases d with
  | zero => rfl
  | succ d =>
   rw [show std.cmp .gtr ((d + 1 : Nat) : Int) 0 = true by rw [s_gtr]; exact decide_eq_true (by omega), gd_t, amfile_short_eq r.Match f2 hm, bd_some, s_land, Bool.true_and]
   have e1 : slices_ContainsFunc_Route_Route std r.9 (fun y0 => amfile_flat_1 std (amfile_flat_N std n) y0 ((d + 1 : Nat) : Int)) = some (r.Routes.any fun k => !flatS d k) := contains_Route r.Routes (fun k => !flatS d k) _ (fun k hk' => by
    unfold amfile_flat_1
    rw [show std.ar .sub .i64 ((d + 1 : Nat) : Int) 1 = (d : Int) by rw [s_sub, w64 (by omega)]; omega, amfile_flat_N_eq n k d e (by have := route_lt hk'; omega) (f6 k hk') (hk.2 k hk') (by omega), bd_some, s_not]) f5
   rw [gd_b (fun _ => e1), bd_some, s_land, s_not, all_not_any]
   simp only [flatS]
   cases shortS r.Match <;> simp
theorem amfile_flat_eq (r : Route) (d e : Nat) (hf : RouteFit r) (hs : routeS e r = true) (hd : d ≤ 100) : amfile_flat std r (d : Int) = some (flatS d r) := amfile_flat_N_eq _ r d e (Nat.lt_succ_self _) hf hs hd
def bareC (c : Config) : Config := ⟨[], c.Route, c.Receivers, c.Inhibits, c.Hours⟩
theorem bare_fit {c : Config} (h : configFit c) : configFit (bareC c) := ⟨fitL_nil, h.2.1, h.2.2.1, h.2.2.2.1, h.2.2.2.2⟩
def shortI (x : Inhibit) : Bool := shortS x.Source && shortS x.Target
def holdsA (c : Config) : Bool := configS (bareC c) && (flatS 3 c.Route && c.Inhibits.all shortI)
theorem amfile_Holds_eq (c : Config) (h : configFit c) : amfile_Holds std c = some (holdsA c) := by
 unfold amfile_Holds amfile_bare
 rw [bd_some]
 show (bd (config_Right std (bareC c)) fun w2 => _) = _
 rw [config_Right_eq _ (bare_fit h), bd_some]
 unfold holdsA
 cases hb : configS (bareC c) with
 | false => rfl
 | true =>
  have ok := configS_ok hb
  have ht : routeS 4 c.Route = true := by
   have := ok.top
   simp only [topS, Bool.and_eq_true] at this
   exact this.1.1.1
  have hi : ∀ x ∈ c.Inhibits, inhibitS x = true := ok.inh.2
  rw [gd_t, show (3 : Int) = ((3 : Nat) : Int) from rfl, amfile_flat_eq c.Route 3 4 h.2.1 ht (by omega), bd_some, s_land, Bool.true_and, Bool.true_and]
  have e1 : slices_ContainsFunc_Inhibit_Inhibit std c.4 (fun y0 => amfile_Holds_1 std y0) = some (c.Inhibits.any fun x => !shortI x) := contains_Inhibit c.Inhibits (fun x => !shortI x) _ (fun x hx => by
   have hx1 := hi x hx
   simp only [inhibitS, Bool.and_eq_true] at hx1
   have hxf := h.2.2.2.1.2 x hx
   unfold amfile_Holds_1 shortI
   rw [amfile_short_eq x.1 hxf.1 hx1.2.1.2, bd_some, gd_b (fun _ => amfile_short_eq x.2 hxf.2.1 hx1.2.2), bd_some]
   simp only [s_lor, s_not]
   cases shortS x.1 <;> cases shortS x.2 <;> rfl) h.2.2.2.1.1
  rw [gd_b (fun _ => e1), bd_some, s_land, s_not, all_not_any]
  cases flatS 3 c.Route <;> simp
end Go.PL
namespace Go.PL
set_option linter.unusedSimpArgs false
set_option linter.unusedVariables false
set_option linter.unusedSectionVars false
open Tys (Ty U)
open Enc (sz enc dflt tb ofB toB)
open Dec (dec dok)
set_option maxRecDepth 100000
theorem node_eta (n : Node) : Node.mk n.1 n.2 n.3 n.4 = n := by cases n; rfl
def wordN (s : ByteArray) : Node := ⟨1, s, [], []⟩
def rowN (l : List Node) : Node := ⟨2, ⟨#[]⟩, [], l⟩
def mapN (names : List ByteArray) (l : List Node) : Node := ⟨3, ⟨#[]⟩, names, l⟩
theorem row_eq {t : TyS} (B : Int × List Node → Option ((Int × List Node) ⊕ Node)) (xs : List (US t)) (q : US t → Option Node) (f : US t → Node)
  (hB : ∀ i b, B (i, b) = br (std.cmp .lss i (std.len t xs)) (ck (std.inb i (std.len t xs)) <| bd (q (std.get t xs i)) fun w2 => ck (std.appOk TyS.node 72 b [Node.mk w2.1 w2.2 w2.3 w2.4]) <| some (.inl ((std.ar .add .i64 i 1, std.app TyS.node b [Node.mk w2.1 w2.2 w2.3 w2.4])))) (rt (some (Node.mk 2 (ByteArray.mk (Array.mk [])) [] b))))
  (hq : ∀ x ∈ xs, q x = some (f x)) (hl : xs.length ≤ 1000) : Loop B (0, []) = some (rowN (xs.map f)) := by
 have := Loop_each (B := B) (fun i (_ : Unit) => ((i : Int), (xs.take i).map f)) xs (fun _ _ (_ : Unit) => (.inl () : Unit ⊕ Node)) (fun _ => rowN (xs.map f)) (fun i x u hx hi => by
  rw [hB, len_nat, lssT hi, br_true, ck_t (inbT hi), get_nat (t := t) hx, hq x (mem_at hx), bd_some, node_eta, ck_t (show std.appOk TyS.node 72 ((xs.take i).map f) [f x] from ⟨by simp; omega, by simp; omega⟩), s_add, wrap_succ hi (by unfold big63; omega), take_snoc hx, List.map_append]
  rfl) (fun _ => by
  rw [hB, len_nat, lssF, br_false, List.take_length]
  rfl) ()
 rw [runL_end] at this
 exact this
def matchN (m : Matcher) : Node := wordN (textS m)
theorem amfile_match_eq (m : Matcher) (hf : matcherFit m) (h : matcherS m = true) : amfile_match std m = some (matchN m) := by
 unfold amfile_match amfile_word
 rw [matcher_Text_eq m hf h, bd_some, bd_some]
 rfl
def numN (n : Int) : Node := wordN ⟨(Lib.itoa n).toArray⟩
theorem amfile_number_eq (n : Int) (h0 : 0 ≤ n) (h1 : n ≤ 1099511627776) : amfile_number std n = some (numN n) := by
 unfold amfile_number amfile_word strconv_Itoa
 rw [ck_t ⟨by omega, by omega⟩, bd_some, bd_some]
 rfl
theorem row_matchers (l : List Matcher) (hf : fitL matcherFit l) (h : matchersS l = true) : amfile_row_Matcher std l (fun y0 => amfile_match std y0) = some (rowN (l.map matchN)) := by
 simp only [matchersS, Bool.and_eq_true, List.all_eq_true, decide_eq_true_eq] at h
 exact row_eq (t := .matcher) (amfile_row_Matcher_B1 std l fun y0 => amfile_match std y0) l _ matchN (fun i b => rfl) (fun m hm => amfile_match_eq m (hf.2 m hm) (h.1 m hm)) (by omega)
theorem row_words (l : List ByteArray) (h : l.length ≤ 1000) : amfile_row_string std l (fun y0 => amfile_word std y0) = some (rowN (l.map wordN)) :=
 row_eq (t := .str) (amfile_row_string_B1 std l fun y0 => amfile_word std y0) l _ wordN (fun i b => rfl) (fun m hm => rfl) h
def quietN (x : Inhibit) : Node := mapN [ByteArray.mk (Array.mk [115, 111, 117, 114, 99, 101]), ByteArray.mk (Array.mk [116, 97, 114, 103, 101, 116]), ByteArray.mk (Array.mk [101, 113, 117, 97, 108])] [rowN (x.Source.map matchN), rowN (x.Target.map matchN), rowN (x.Equal.map wordN)]
theorem amfile_quiet_eq (x : Inhibit) (hf : inhibitFit x) (h : inhibitS x = true) : amfile_quiet std x = some (quietN x) := by
 simp only [inhibitS, Bool.and_eq_true, decide_eq_true_eq] at h
 obtain ⟨_, ⟨⟨⟨_, _⟩, h1⟩, h2⟩, h3⟩ := h
 unfold amfile_quiet amfile_table
 rw [row_matchers x.1 hf.1 h2, bd_some, row_matchers x.2 hf.2.1 h3, bd_some, row_words x.3 (by omega), bd_some, bd_some]
 rfl
noncomputable def hoursT (h : Hours) : ByteArray := ((hours_Text std h).getD (⟨#[]⟩, 0)).1
theorem hoursT_eq (h : Hours) (hs : hourS h = true) : ∃ e, hours_Text std h = some (hoursT h, e) := by
 obtain ⟨v, hv⟩ := hours_Text_some h hs
 unfold hoursT
 rw [hv]
 exact ⟨v.2, rfl⟩
noncomputable def spanN (h : Hours) : Node := mapN [ByteArray.mk (Array.mk [110, 97, 109, 101]), ByteArray.mk (Array.mk [115, 112, 97, 110])] [wordN h.Name, wordN (hoursT h)]
theorem amfile_span_eq (h : Hours) (hs : hourS h = true) : amfile_span std h = some (spanN h) := by
 obtain ⟨e, he⟩ := hoursT_eq h hs
 unfold amfile_span amfile_word amfile_table
 rw [he, bd_some, bd_some, bd_some, bd_some]
 rfl
def routedW : List ByteArray := (amfile_routed std).getD []
def topsW : List ByteArray := (amfile_tops std).getD []
def onW (b : Bool) : ByteArray := cond b (ByteArray.mk (Array.mk [116, 114, 117, 101])) (ByteArray.mk (Array.mk [102, 97, 108, 115, 101]))
def routeN : Nat → Route → Node
 | 0, _ => rowN []
 | d + 1, r => mapN routedW [wordN r.Receiver, rowN (r.Match.map matchN), rowN (r.By.map wordN), numN r.Wait, numN r.Every, numN r.Repeat, rowN (r.Mute.map wordN), wordN (onW r.On), rowN (r.Routes.map (routeN d))]
theorem amfile_route_N_eq : ∀ (n : Nat) (r : Route) (d : Nat), SizeOf.sizeOf r < n → RouteFit r → routeS d r = true → amfile_route_N std n r = some (routeN d r)
 | 0, r, d, h, _, _ => by omega
 | n + 1, r, d, h, hf, hs => by
  obtain ⟨d, rfl⟩ := routeS_pos hs
  have hk := routeS_kids hs
  have h1 : oneS r = true := by simp only [routeS, Bool.and_eq_true] at hs; exact hs.1
  simp only [oneS, orderS, fromS, Bool.and_eq_true, decide_eq_true_eq] at h1
  obtain ⟨⟨⟨⟨⟨⟨⟨_, m1⟩, m2⟩, _, m3⟩, _, m4⟩, w1, w2⟩, e1, e2⟩, p1, p2⟩ := h1
  obtain ⟨_, f2, _, _, f5, f6⟩ := fit_route hf
  rw [amfile_route_N, amfile_route_S]
  have hr : amfile_row_Route std r.9 (amfile_route_N std n) = some (rowN (r.Routes.map (routeN d))) :=
   row_eq (t := .route) (amfile_row_Route_B1 std r.Routes (amfile_route_N std n)) r.Routes _ (routeN d) (fun i b => rfl) (fun k hk' => amfile_route_N_eq n k d (by have := route_lt hk'; omega) (f6 k hk') (hk.2 k hk')) (by omega)
  rw [hr, row_matchers r.2 f2 m1, row_words r.3 (by omega), row_words r.7 (by omega), amfile_number_eq r.4 w1 w2, amfile_number_eq r.5 (by omega) e2, amfile_number_eq r.6 (by omega) p2]
  unfold amfile_routed amfile_word amfile_table
  simp only [bd_some, node_eta]
  simp only [routeN]
  cases r.8 <;> rfl
theorem amfile_route_eq (r : Route) (d : Nat) (hf : RouteFit r) (hs : routeS d r = true) : amfile_route std r = some (routeN d r) := amfile_route_N_eq _ r d (Nat.lt_succ_self _) hf hs
noncomputable def nodeS (c : Config) : Node := mapN topsW [routeN 4 c.Route, rowN (c.Receivers.map wordN), rowN (c.Inhibits.map quietN), rowN (c.Hours.map spanN)]
theorem amfile_node_eq (c : Config) (hf : configFit c) (h : routeS 4 c.Route = true) (hr : c.Receivers.length ≤ 16) (hi : c.Inhibits.length ≤ 8 ∧ ∀ x ∈ c.Inhibits, inhibitS x = true) (hh : c.Hours.length ≤ 8 ∧ ∀ x ∈ c.Hours, hourS x = true) : amfile_node std c = some (nodeS c) := by
 unfold amfile_node amfile_tops amfile_table
 have e1 : amfile_row_Inhibit std c.4 (fun y0 => amfile_quiet std y0) = some (rowN (c.Inhibits.map quietN)) :=
  row_eq (t := .inhibit) (amfile_row_Inhibit_B1 std c.Inhibits fun y0 => amfile_quiet std y0) c.Inhibits _ quietN (fun i b => rfl) (fun x hx => amfile_quiet_eq x (hf.2.2.2.1.2 x hx) (hi.2 x hx)) (by omega)
 have e2 : amfile_row_Hours std c.5 (fun y0 => amfile_span std y0) = some (rowN (c.Hours.map spanN)) :=
  row_eq (t := .hours) (amfile_row_Hours_B1 std c.Hours fun y0 => amfile_span std y0) c.Hours _ spanN (fun i b => rfl) (fun x hx => amfile_span_eq x (hh.2 x hx)) (by omega)
 rw [amfile_route_eq c.2 4 hf.2.1 h, row_words c.3 (by omega), e1, e2]
 simp only [bd_some, node_eta]
 rfl
end Go.PL
namespace Go.PL
set_option linter.unusedSimpArgs false
set_option linter.unusedVariables false
set_option linter.unusedSectionVars false
open Tys (Ty U)
open Enc (sz enc dflt tb ofB toB)
open Dec (dec dok)
set_option maxRecDepth 100000
def owordS (s : ByteArray) : Bool := (bytes s).all plainC && decide (s.size ≤ 200)
theorem outline_word_eq (s : ByteArray) : outline_word std s = some (owordS s) := by
 unfold outline_word
 rw [show std.cmp .leq (std.slen s) 200 = decide (s.size ≤ 200) from leN (b := 200)]
 unfold owordS
 by_cases h : s.size ≤ 200
 ·rw [decide_eq_true h, gd_t, s2b_eq, contains_byte _ (fun c => !plainC c) _ (fun c _ => by
   unfold outline_word_1
   simp only [s_lor, s_lss, s_gtr]
   congr 1
   rw [Bool.eq_iff_iff]
   simp [plainC, inC]
   omega) (by rw [len_bytes]; unfold big63; omega), bd_some, s_land, s_not, Bool.true_and, Bool.and_true, List.all_eq_not_any_not]
 ·rw [decide_eq_false h, gd_f, bd_some, s_land, Bool.false_and, Bool.and_false]
theorem outline_small_eq (c : UInt8) : outline_small std (c.toNat : Int) = some (wordC c) := by
 unfold outline_small
 simp only [s_land, s_lor, s_leq, s_geq, s_eql]
 congr 1
 rw [Bool.eq_iff_iff]
 simp [wordC, lowC, digC, barC, inC]
 omega
theorem outline_name_eq (s : ByteArray) : outline_name std s = some (wordS s) := by
 unfold outline_name
 have h0 : std.and (std.scmp .neq s (ByteArray.mk (Array.mk []))) (std.cmp .leq (std.slen s) 64) = (decide (1 ≤ s.size) && decide (s.size ≤ 64)) := by
  rw [s_land, s_sneq, empty_size, s_leq, s_slen]; congr 1; exact leN (b := 64)
 rw [h0]
 unfold wordS
 by_cases h : (decide (1 ≤ s.size) && decide (s.size ≤ 64)) = true
 ·rw [h, gd_t, s2b_eq, contains_byte _ (fun c => !wordC c) _ (fun c _ => by
   unfold outline_name_1
   rw [outline_small_eq, bd_some, s_not]) (by simp at h; rw [len_bytes]; unfold big63; omega), bd_some, s_land, s_not, Bool.true_and]
  rw [Bool.and_assoc, h, Bool.and_true, List.all_eq_not_any_not]
 ·simp only [Bool.not_eq_true] at h
  rw [h, gd_f, bd_some, s_land, Bool.false_and, Bool.and_assoc, h, Bool.and_false]
def keyP (l : List ByteArray) (i : Nat) (s : ByteArray) : Bool := wordS s && onceP l i s
def namesN (l : List ByteArray) (k : Nat) : Bool := allI (keyP l) 0 l && decide (l.length = k)
theorem contains_take (l : List ByteArray) (i : Nat) (s : ByteArray) (h : l.length ≤ big63) : slices_Contains_string_string std (std.lsub TyS.str l 0 (i : Int)) s = some (hasS (l.take i) s) := by
 rw [s_lsub, Int.toNat_natCast, show Int.toNat 0 = 0 from rfl, List.drop_zero, contains_s _ _ (by rw [List.length_take]; omega), hasS_comm]
theorem outline_names_eq (l : List ByteArray) (k : Nat) (h : l.length ≤ big63) : outline_names std l (k : Int) = some (namesN l k) := by
 unfold outline_names
 refine Loop_elems (t := TyS.str) (B := outline_names_B1 std l (k : Int)) (fun i => i) l h (keyP l) (decide (l.length = k)) _ _ (fun i => rfl) (fun i s hs hi => ?_) (fun _ => ?_) (fun _ => ⟨_, rfl⟩)
 ·rw [get_nat (t := TyS.str) hs, outline_name_eq, bd_some, ck_t (vc_of fun _ => by show (0 : Int) ≤ 0 ∧ (0 : Int) ≤ i ∧ (i : Int) ≤ (l.length : Int); omega), contains_take l i s h]
  unfold keyP onceP
  cases wordS s <;> cases hasS (l.take i) s <;> rfl
 ·rw [len_nat]
  congr 1
  rw [s_eql, Bool.eq_iff_iff]
  simp
  omega
def mayN : Nat → Node → Bool
 | 0, _ => false
 | d + 1, n => if n.Kind = 1 then owordS n.Word && decide (n.Names.length = 0) && decide (n.Items.length = 0)
  else if n.Kind = 2 then decide (n.Word.size = 0) && decide (n.Items.length ≤ 64) && namesN n.Names 0 && n.Items.all (mayN d)
  else if n.Kind = 3 then decide (n.Word.size = 0) && decide (n.Items.length ≤ 64) && namesN n.Names n.Items.length && n.Items.all (mayN d)
  else false
inductive NodeFit : Node → Prop where
 | mk (n : Node) (h1 : n.Names.length ≤ big63) (h2 : n.Items.length ≤ big63) (h3 : ∀ k ∈ n.Items, NodeFit k) : NodeFit n
theorem node_lt {r k : Node} (h : k ∈ r.Items) : SizeOf.sizeOf k < SizeOf.sizeOf r := by
 have := List.sizeOf_lt_of_mem h
 cases r
 simp only [Node.mk.sizeOf_spec] at this ⊢
 omega
theorem seq_empty (s : ByteArray) : std.scmp .eql s (ByteArray.mk (Array.mk [])) = decide (s.size = 0) := by
 have := empty_size s
 rw [s_seql, Bool.eq_iff_iff]
 have h2 : (decide (s ≠ ByteArray.mk (Array.mk [])) = true ↔ decide (1 ≤ s.size) = true) := by rw [this]
 simp only [decide_eq_true_eq] at h2 ⊢
 constructor
 ·intro h
  rcases Nat.eq_zero_or_pos s.size with h0 | h0
  ·exact h0
  ·exact absurd h (h2.2 h0)
 ·intro h
  by_cases he : s = ByteArray.mk (Array.mk [])
  ·exact he
  ·have := h2.1 he; omega
theorem contains_Node (xs : List Node) (p : Node → Bool) (q : Node → Option Bool) (hq : ∀ x ∈ xs, q x = some (p x)) (hl : xs.length ≤ big63) : slices_ContainsFunc_Node_Node std xs q = some (xs.any p) := by
 have h1 : slices_IndexFunc_Node_Node std xs q = some (fnd xs p) := idx_loop (t := TyS.node) xs p q hq hl
 unfold slices_ContainsFunc_Node_Node
 rw [h1, bd_some, s_geq, any_find]
theorem outline_may_eq : ∀ (n : Nat) (x : Node) (d : Nat), SizeOf.sizeOf x < n → NodeFit x → d ≤ 100 → outline_may_N std n x (d : Int) = some (mayN d x)
 | 0, x, d, h, _, _ => by omega
 | n + 1, x, d, h, hf, hd => by
  obtain ⟨_, h1, h2, h3⟩ := hf
  rw [outline_may_N, outline_may_S]
  cases d with
  | zero => rfl
  | succ d =>
   rw [show std.cmp .eql ((d + 1 : Nat) : Int) 0 = false by rw [s_eql]; simp; omega, br_false]
   have hc : slices_ContainsFunc_Node_Node std x.4 (fun y0 => outline_may_1 std (outline_may_N std n) y0 ((d + 1 : Nat) : Int)) = some (x.Items.any fun k => !mayN d k) := contains_Node x.Items (fun k => !mayN d k) _ (fun k hk => by
    unfold outline_may_1
    rw [show std.ar .sub .i64 ((d + 1 : Nat) : Int) 1 = (d : Int) by rw [s_sub, w64 (by omega)]; omega, outline_may_eq n k d (by have := node_lt hk; omega) (h3 k hk) (by omega), bd_some, s_not]) h2
   have hl : std.cmp .leq (std.len TyS.node x.4) 64 = decide (x.Items.length ≤ 64) := leq_len (t := TyS.node) x.4 64
   have hz1 : std.cmp .eql (std.len TyS.str x.3) 0 = decide (x.Names.length = 0) := by rw [len_nat, s_eql, Bool.eq_iff_iff]; simp
   have hz2 : std.cmp .eql (std.len TyS.node x.4) 0 = decide (x.Items.length = 0) := by rw [len_nat, s_eql, Bool.eq_iff_iff]; simp
   have n0 : outline_names std x.3 0 = some (namesN x.Names 0) := outline_names_eq x.Names 0 h1
   have n1 : outline_names std x.3 (std.len TyS.node x.4) = some (namesN x.Names x.Items.length) := outline_names_eq x.Names x.Items.length h1
   rw [hl, hz1, hz2, outline_word_eq, n0, n1, hc, seq_empty]
   simp only [mayN, s_eql]
   by_cases k1 : x.Kind = 1
   ·rw [if_pos k1, k1]
    rfl
   ·rw [if_neg k1, show (x.1 == (1 : Int)) = false by simpa using k1, br_false]
    by_cases k2 : x.Kind = 2
    ·rw [if_pos k2, k2]
     simp only [show ((2 : Int) == 2) = true from rfl, show ((2 : Int) == 3) = false from rfl, br_true, br_false, s_land, s_not]
     rw [gd_b (fun _ => rfl), bd_some, gd_b (fun _ => rfl), bd_some, all_not_any]
     cases decide (x.Word.size = 0) <;> cases decide (x.Items.length ≤ 64) <;> cases namesN x.Names 0 <;> simp
    ·rw [if_neg k2, show (x.1 == (2 : Int)) = false by simpa using k2, br_false]
     by_cases k3 : x.Kind = 3
     ·rw [if_pos k3, k3]
      simp only [show ((3 : Int) == 3) = true from rfl, br_true, br_false, s_land, s_not]
      rw [gd_b (fun _ => rfl), bd_some, gd_b (fun _ => rfl), bd_some, all_not_any]
      cases decide (x.Word.size = 0) <;> cases decide (x.Items.length ≤ 64) <;> cases namesN x.Names x.Items.length <;> simp
     ·rw [if_neg k3, show (x.1 == (3 : Int)) = false by simpa using k3, br_false]
theorem outline_Right_eq (x : Node) (hf : NodeFit x) : outline_Right std x = some (mayN 8 x) := by
 unfold outline_Right outline_may
 rw [show (8 : Int) = ((8 : Nat) : Int) from rfl, outline_may_eq _ x 8 (Nat.lt_succ_self _) hf (by omega), bd_some]
end Go.PL
namespace Go.PL
set_option linter.unusedSimpArgs false
set_option linter.unusedVariables false
set_option linter.unusedSectionVars false
open Tys (Ty U)
open Enc (sz enc dflt tb ofB toB)
open Dec (dec dok)
set_option maxRecDepth 100000
noncomputable def quotedS (s : ByteArray) : ByteArray := (outline_quoted std s).getD ⟨#[]⟩
theorem outline_plain_some (c : UInt8) : ∃ b, outline_plain std (c.toNat : Int) = some b := by
 unfold outline_plain strings_IndexByte
 rw [outline_small_eq, bd_some, gd_of (fun _ => rfl), bd_some]
 exact ⟨_, rfl⟩
theorem quoted_eq (s : ByteArray) (hs : s.size ≤ 200) : outline_quoted std s = some (quotedS s) ∧ (quotedS s).size ≤ 2000 := by
 have key : ∃ t, outline_quoted std s = some t ∧ t.size ≤ 2000 := by
  unfold outline_quoted
  obtain ⟨a, ha, la⟩ := replace_some s (ByteArray.mk (Array.mk [92])) (ByteArray.mk (Array.mk [92, 92])) (by decide) rfl (by omega)
  obtain ⟨b, hb, lb⟩ := replace_some a (ByteArray.mk (Array.mk [34])) (ByteArray.mk (Array.mk [92, 34])) (by decide) rfl (by omega)
  have hp : ∀ c : UInt8, ∃ b, outline_quoted_1 std (c.toNat : Int) = some b := fun c => by
   obtain ⟨b, hb⟩ := outline_plain_some c
   unfold outline_quoted_1
   rw [hb, bd_some]
   exact ⟨_, rfl⟩
  have hc : slices_ContainsFunc_byte_byte std (std.s2b s) (fun y0 => outline_quoted_1 std y0) = some ((bytes s).any fun c => (outline_quoted_1 std (c.toNat : Int)).getD false) := by
   rw [s2b_eq]
   exact contains_byte _ _ _ (fun c _ => by obtain ⟨b, hb⟩ := hp c; rw [hb]; rfl) (by rw [len_bytes]; unfold big63; omega)
  rw [ck_t (vc_of fun h => by
   rw [s_sneq, empty_size, decide_eq_true_eq] at h
   show (0 : Int) ≤ 0 ∧ (0 : Int) < (s.size : Int)
   omega), gd_of (fun _ => hc), bd_some, ha, bd_some, hb, bd_some]
  have q1 : (ByteArray.mk (Array.mk [34])).size = 1 := rfl
  have z1 : (ByteArray.mk (Array.mk [34]) ++ b).size = 1 + b.size := by rw [ByteArray.size_append, q1]
  rw [s_cat, s_cat, ck_t (show std.catOk _ _ by rw [s_catOk, q1]; omega), ck_t (show std.catOk _ _ by rw [s_catOk, z1, q1]; omega)]
  cases std.and _ _ with
  | true => exact ⟨_, rfl, by omega⟩
  | false => exact ⟨_, rfl, by rw [ByteArray.size_append, z1, q1]; omega⟩
 obtain ⟨t, h1, h2⟩ := key
 have : quotedS s = t := by unfold quotedS; rw [h1]; rfl
 rw [this]; exact ⟨h1, h2⟩
noncomputable def valueS' (n : Node) : ByteArray := if n.Kind = 1 then ByteArray.mk (Array.mk [32]) ++ quotedS n.Word else if 0 < n.Items.length then ByteArray.mk (Array.mk []) else if n.Kind = 2 then ByteArray.mk (Array.mk [32, 91, 93]) else ByteArray.mk (Array.mk [32, 123, 125])
theorem outline_value_eq (n : Node) (d : Nat) (h : mayN d n = true) : ∃ b, outline_value std n = some (valueS' n, b) ∧ (valueS' n).size ≤ 2001 := by
 unfold outline_value valueS'
 by_cases k1 : n.Kind = 1
 ·have hw : n.Word.size ≤ 200 := by
   cases d with
   | zero => cases h
   | succ d =>
    simp only [mayN, if_pos k1, owordS, Bool.and_eq_true, decide_eq_true_eq] at h
    exact h.1.1.2
  obtain ⟨h1, h2⟩ := quoted_eq n.Word hw
  have q1 : (ByteArray.mk (Array.mk [32])).size = 1 := rfl
  rw [if_pos k1, show std.cmp .eql n.1 1 = true by rw [s_eql]; simpa using k1, br_true, h1, bd_some, ck_t (show std.catOk _ _ by rw [s_catOk, q1]; omega)]
  exact ⟨_, rfl, by rw [ByteArray.size_append, q1]; omega⟩
 ·rw [if_neg k1, show std.cmp .eql n.1 1 = false by rw [s_eql]; simpa using k1, br_false]
  by_cases k2 : 0 < n.Items.length
  ·rw [if_pos k2, show std.cmp .gtr (std.len TyS.node n.4) 0 = true by rw [s_gtr, len_nat]; exact decide_eq_true (by omega), br_true]
   exact ⟨_, rfl, by show (0 : Nat) ≤ _; omega⟩
  ·rw [if_neg k2, show std.cmp .gtr (std.len TyS.node n.4) 0 = false by rw [s_gtr, len_nat]; exact decide_eq_false (by omega), br_false]
   by_cases k3 : n.Kind = 2
   ·rw [if_pos k3, show std.cmp .eql n.1 2 = true by rw [s_eql]; simpa using k3, br_true]
    exact ⟨_, rfl, by show (3 : Nat) ≤ _; omega⟩
   ·rw [if_neg k3, show std.cmp .eql n.1 2 = false by rw [s_eql]; simpa using k3, br_false]
    exact ⟨_, rfl, by show (3 : Nat) ≤ _; omega⟩
def itemsL (f : Nat → Node → List UInt8) : Nat → List Node → List UInt8
 | _, [] => []
 | i, x :: xs => f i x ++ itemsL f (i + 1) xs
theorem runL_items {ε : Type} (f : Nat → Node → List UInt8) (fin : List UInt8 → ε) : ∀ (xs : List Node) (i : Nat) (s : List UInt8), runL (fun i x s => (.inl (s ++ f i x) : List UInt8 ⊕ ε)) fin i xs s = fin (s ++ itemsL f i xs)
 | [], i, s => by simp [runL, itemsL]
 | x :: xs, i, s => by
  simp only [runL, itemsL]
  rw [runL_items f fin xs (i + 1), List.append_assoc]
def headL (n : Node) (i : Nat) : List UInt8 := if n.Kind = 3 then bytes (n.Names.getD i ⟨#[]⟩) ++ [58] else [45]
noncomputable def linesL : Nat → Nat → Node → List UInt8
 | 0, _, _ => []
 | d + 1, k, n => itemsL (fun i x => Lib.repeatL [32] (2 * k) ++ headL n i ++ bytes (valueS' x) ++ [10] ++ linesL d (k + 1) x) 0 n.Items
theorem may_items {d : Nat} {n : Node} (h : mayN (d + 1) n = true) : ∀ x ∈ n.Items, mayN d x = true := by
 intro x hx
 simp only [mayN] at h
 split at h
 ·simp only [Bool.and_eq_true, decide_eq_true_eq] at h
  rw [List.eq_nil_of_length_eq_zero h.2] at hx; cases hx
 ·split at h
  ·simp only [Bool.and_eq_true, List.all_eq_true] at h; exact h.2 x hx
  ·split at h
   ·simp only [Bool.and_eq_true, List.all_eq_true] at h; exact h.2 x hx
   ·cases h
theorem may_few {d : Nat} {n : Node} (h : mayN (d + 1) n = true) : n.Items.length ≤ 64 := by
 simp only [mayN] at h
 split at h
 ·simp only [Bool.and_eq_true, decide_eq_true_eq] at h; omega
 ·split at h
  ·simp only [Bool.and_eq_true, decide_eq_true_eq] at h; exact h.1.1.2
  ·split at h
   ·simp only [Bool.and_eq_true, decide_eq_true_eq] at h; exact h.1.1.2
   ·cases h
theorem may_names {d : Nat} {n : Node} (h : mayN (d + 1) n = true) (k3 : n.Kind = 3) : n.Names.length = n.Items.length ∧ ∀ s ∈ n.Names, s.size ≤ 64 := by
 simp only [mayN] at h
 rw [if_neg (by omega), if_neg (by omega), if_pos k3] at h
 simp only [Bool.and_eq_true, decide_eq_true_eq, namesN] at h
 refine ⟨h.1.2.2, fun s hs => ?_⟩
 obtain ⟨j, hj⟩ := allI_mem h.1.2.1 s hs
 simp only [keyP, wordS, Bool.and_eq_true, decide_eq_true_eq] at hj
 exact hj.1.2
theorem head_le {d : Nat} {n : Node} (h : mayN (d + 1) n = true) (i : Nat) (hi : i < n.Items.length) : (headL n i).length ≤ 65 := by
 unfold headL
 split
 ·rename_i k3
  obtain ⟨h1, h2⟩ := may_names h k3
  obtain ⟨nm, hnm⟩ := at_some (xs := n.Names) (i := i) (by omega)
  rw [get_at hnm, List.length_append, len_bytes]
  have := h2 nm (mem_at hnm)
  simp only [List.length_singleton]; omega
 ·simp
theorem itemsL_drop (f : Nat → Node → List UInt8) {xs : List Node} {i : Nat} {x : Node} (h : xs[i]? = some x) : itemsL f i (xs.drop i) = f i x ++ itemsL f (i + 1) (xs.drop (i + 1)) := by
 have hi := lt_of_at h
 rw [List.drop_eq_getElem_cons hi]
 have : xs[i] = x := by rw [List.getElem?_eq_getElem hi] at h; exact Option.some.inj h
 rw [this]; rfl
theorem outline_lines_N_eq : ∀ (n : Nat) (x : Node) (d k : Nat) (acc : List UInt8), SizeOf.sizeOf x < n → mayN d x = true → k + d ≤ 1000 → acc.length + (linesL d k x).length ≤ 90000000000000 → outline_lines_N std n acc x (k : Int) = some (acc ++ linesL d k x)
 | 0, x, d, k, acc, h, _, _, _ => by omega
 | n + 1, x, d, k, acc, h, hm, hk, hl => by
  cases d with
  | zero => cases hm
  | succ d =>
   have hfew := may_few hm
   rw [outline_lines_N, outline_lines_S]
   have := Loop_row (B := outline_lines_S_B1 std (outline_lines_N std n) x (k : Int)) (fun i (s : List UInt8) => ((i : Int), s)) x.Items (fun i y s => (.inl (s ++ (Lib.repeatL [32] (2 * k) ++ headL x i ++ bytes (valueS' y) ++ [10] ++ linesL d (k + 1) y)) : List UInt8 ⊕ List UInt8)) (fun s => s) (fun i s => s.length + (itemsL (fun i y => Lib.repeatL [32] (2 * k) ++ headL x i ++ bytes (valueS' y) ++ [10] ++ linesL d (k + 1) y) i (x.Items.drop i)).length ≤ 90000000000000) (fun i y s hy hI => ?_) (fun s _ => ?_) acc (by rw [List.drop_zero]; exact hl)
   ·show Loop _ (((0 : Nat) : Int), acc) = _
    rw [this, runL_items]; rfl
   ·refine ⟨fun s' hs => ?_, fun e he => by cases he⟩
    cases hs
    have hi := lt_of_at hy
    rw [itemsL_drop _ hy] at hI
    simp only [List.length_append, List.length_singleton] at hI
    refine ⟨?_, by simp only [List.length_append, List.length_singleton]; omega⟩
    have hmy := may_items hm y (mem_at hy)
    obtain ⟨b, hv, hvl⟩ := outline_value_eq y d hmy
    have hvb : (bytes (valueS' y)).length = (valueS' y).size := len_bytes _
    unfold outline_lines_S_B1
    simp only
    rw [len_nat, lssT hi, br_true, ck_t (inbT hi), get_nat (t := TyS.node) hy, hv]
    have hr : strings_Repeat std (ByteArray.mk (Array.mk [32])) (std.ar .mul .i64 2 (k : Int)) = some ⟨(Lib.repeatL [32] (2 * k)).toArray⟩ := by
     rw [s_mul, w64 (by omega), show (2 * (k : Int)) = ((2 * k : Nat) : Int) by omega]
     unfold strings_Repeat
     rw [Int.toNat_natCast]
     exact ck_t ⟨by omega, by omega, by show 1 * (2 * k) ≤ _; omega⟩
    have hrb : bytes (ByteArray.mk (Lib.repeatL [32] (2 * k)).toArray) = Lib.repeatL [32] (2 * k) := bytes_mk _
    have hrz : (ByteArray.mk (Lib.repeatL [32] (2 * k)).toArray).size = (Lib.repeatL [32] (2 * k)).length := by rw [size_bytes, hrb]
    have hadd : std.ar .add .i64 (k : Int) 1 = ((k + 1 : Nat) : Int) := wrap_succ (n := 2000) (by omega) (by unfold big63; omega)
    have q10 : (ByteArray.mk (Array.mk [10])).size = 1 := rfl
    have z10 : (valueS' y ++ ByteArray.mk (Array.mk [10])).size = (valueS' y).size + 1 := by rw [ByteArray.size_append, q10]
    have b10 : bytes (valueS' y ++ ByteArray.mk (Array.mk [10])) = bytes (valueS' y) ++ [10] := bytes_app _ _
    have hc10 : std.catOk (valueS' y) (ByteArray.mk (Array.mk [10])) := by rw [s_catOk, q10]; omega
    rw [hr, bd_some, write_eq _ _ (by rw [hrz]; omega), bd_some, hrb, hadd]
    simp only [bd_some]
    simp only [ck_t hc10, s_cat (a := valueS' y)]
    have hrec : ∀ a : List UInt8, a.length + (linesL d (k + 1) y).length ≤ 90000000000000 → outline_lines_N std n a y ((k + 1 : Nat) : Int) = some (a ++ linesL d (k + 1) y) := fun a ha => outline_lines_N_eq n y d (k + 1) a (by have := node_lt (mem_at hy); omega) hmy (by omega) ha
    by_cases k3 : x.Kind = 3
    ·have hh : headL x i = bytes (x.Names.getD i ⟨#[]⟩) ++ [58] := if_pos k3
     obtain ⟨l1, l2⟩ := may_names hm k3
     obtain ⟨nm, hnm⟩ := at_some (xs := x.Names) (i := i) (by omega)
     have hg : x.Names.getD i ⟨#[]⟩ = nm := get_at hnm
     have hnz := l2 nm (mem_at hnm)
     have hnb : (bytes nm).length = nm.size := len_bytes _
     rw [hh, hg] at hI
     simp only [List.length_append, List.length_singleton] at hI
     have q58 : (ByteArray.mk (Array.mk [58])).size = 1 := rfl
     have z58 : (nm ++ ByteArray.mk (Array.mk [58])).size = nm.size + 1 := by rw [ByteArray.size_append, q58]
     have b58 : bytes (nm ++ ByteArray.mk (Array.mk [58])) = bytes nm ++ [58] := bytes_app _ _
     rw [show std.cmp .eql x.1 3 = true by rw [s_eql]; simpa using k3, br_true, ck_t (show std.inb (i : Int) (std.len TyS.str x.3) by rw [len_nat]; exact inbT (by omega)), get_nat (t := TyS.str) hnm, ck_t (show std.catOk nm (ByteArray.mk (Array.mk [58])) by rw [s_catOk, q58]; omega), s_cat, write_eq _ _ (by rw [z58]; simp only [List.length_append]; omega), bd_some, b58, write_eq _ _ (by rw [z10]; simp only [List.length_append, List.length_singleton]; omega), bd_some, b10, hrec _ (by simp only [List.length_append, List.length_singleton]; omega), bd_some, s_add, wrap_succ hi (by unfold big63; omega), hh, hg]
     simp only [List.append_assoc]
    ·have hh : headL x i = [45] := if_neg k3
     rw [hh] at hI
     simp only [List.length_singleton] at hI
     have b45 : bytes (ByteArray.mk (Array.mk [45])) = [45] := rfl
     have z45 : (ByteArray.mk (Array.mk [45])).size = 1 := rfl
     rw [show std.cmp .eql x.1 3 = false by rw [s_eql]; simpa using k3, br_false, write_eq _ _ (by rw [z45]; simp only [List.length_append]; omega), bd_some, b45, write_eq _ _ (by rw [z10]; simp only [List.length_append, List.length_singleton]; omega), bd_some, b10, hrec _ (by simp only [List.length_append, List.length_singleton]; omega), bd_some, s_add, wrap_succ hi (by unfold big63; omega), hh]
     simp only [List.append_assoc]
   ·unfold outline_lines_S_B1
    simp only
    rw [len_nat, lssF, br_false]
    rfl
end Go.PL
namespace Go.PL
set_option linter.unusedSimpArgs false
set_option linter.unusedVariables false
set_option linter.unusedSectionVars false
open Tys (Ty U)
open Enc (sz enc dflt tb ofB toB)
open Dec (dec dok)
set_option maxRecDepth 100000
def wN : Nat → Node → Nat
 | 0, _ => 0
 | d + 1, n => (n.Items.map fun x => 1 + wN d x).sum
theorem sum_le {α : Type} (f g : α → Nat) : ∀ l : List α, (∀ x ∈ l, f x ≤ g x) → (l.map f).sum ≤ (l.map g).sum
 | [], _ => Nat.le_refl _
 | x :: l, h => by
  simp only [List.map_cons, List.sum_cons]
  have := sum_le f g l fun y hy => h y (List.mem_cons_of_mem _ hy)
  have := h x (List.mem_cons_self ..)
  omega
theorem sum_mul {α : Type} (f : α → Nat) (k : Nat) : ∀ l : List α, (l.map fun x => f x * k).sum = (l.map f).sum * k
 | [] => by simp
 | x :: l => by simp only [List.map_cons, List.sum_cons, sum_mul f k l, Nat.add_mul]
theorem sum_const {α : Type} (f : α → Nat) (m : Nat) : ∀ l : List α, (∀ x ∈ l, f x ≤ m) → (l.map f).sum ≤ l.length * m
 | [], _ => by simp
 | x :: l, h => by
  have := sum_const f m l fun y hy => h y (List.mem_cons_of_mem _ hy)
  have := h x (List.mem_cons_self ..)
  simp only [List.map_cons, List.sum_cons, List.length_cons, Nat.succ_mul]
  omega
theorem itemsL_le (f : Nat → Node → List UInt8) (g : Node → Nat) : ∀ (xs : List Node) (i : Nat), (∀ j x, xs[j]? = some x → (f (i + j) x).length ≤ g x) → (itemsL f i xs).length ≤ (xs.map g).sum
 | [], i, h => by simp [itemsL]
 | x :: xs, i, h => by
  have h1 := itemsL_le f g xs (i + 1) fun j y hy => by
   have := h (j + 1) y (by simpa using hy)
   rwa [show i + (j + 1) = i + 1 + j by omega] at this
  have h2 := h 0 x rfl
  simp only [itemsL, List.length_append, List.map_cons, List.sum_cons]
  rw [Nat.add_zero] at h2
  omega
theorem linesL_le : ∀ (d k : Nat) (n : Node), mayN d n = true → (linesL d k n).length ≤ wN d n * (2 * (k + d) + 2100)
 | 0, k, n, h => by simp [linesL]
 | d + 1, k, n, h => by
  rw [linesL, wN]
  refine Nat.le_trans (itemsL_le _ (fun x => (1 + wN d x) * (2 * (k + (d + 1)) + 2100)) n.Items 0 fun j x hx => ?_) (Nat.le_of_eq (sum_mul _ _ _))
  rw [Nat.zero_add]
  have hm := may_items h x (mem_at hx)
  obtain ⟨b, _, hv⟩ := outline_value_eq x d hm
  have h1 := head_le h j (lt_of_at hx)
  have h2 := linesL_le d (k + 1) x hm
  have h3 := Lib.repeatL_length [32] (2 * k)
  have e : k + 1 + d = k + (d + 1) := by omega
  rw [e] at h2
  simp only [List.length_append, len_bytes, List.length_singleton] at h3 ⊢
  rw [h3, Nat.add_mul, Nat.one_mul]
  omega
theorem w_row (d : Nat) (l : List Node) (m : Nat) (h : ∀ x ∈ l, wN d x ≤ m) : wN (d + 1) (rowN l) ≤ l.length * (1 + m) := by
 rw [wN]
 exact sum_const _ _ _ fun x hx => by have := h x hx; omega
theorem w_word (d : Nat) (s : ByteArray) : wN d (wordN s) = 0 := by cases d <;> rfl
theorem w_words (d : Nat) {α : Type} (f : α → ByteArray) (l : List α) : wN d (rowN (l.map fun x => wordN (f x))) ≤ l.length := by
 cases d with
 | zero => exact Nat.zero_le _
 | succ d =>
  have := w_row d (l.map fun x => wordN (f x)) 0 fun x hx => by
   obtain ⟨y, _, rfl⟩ := List.mem_map.1 hx
   rw [w_word]; exact Nat.le_refl _
  simpa using this
theorem allD_pos (d : Nat) (r : Route) : 1 ≤ (allD d r).length := by cases d <;> simp [allD]
theorem sum_flat {α β : Type} (f : α → List β) : ∀ l : List α, (l.map f).flatten.length = (l.map fun x => (f x).length).sum
 | [] => rfl
 | x :: l => by simp only [List.map_cons, List.flatten_cons, List.length_append, List.sum_cons, sum_flat f l]
theorem w_route : ∀ (d D : Nat) (r : Route), routeS d r = true → wN D (routeN d r) + 1 ≤ 34 * (allD d r).length
 | 0, D, r, h => by cases h
 | d + 1, 0, r, h => by
  have := allD_pos (d + 1) r
  simp only [wN]; omega
 | d + 1, D + 1, r, h => by
  have hk := routeS_kids h
  have h1 : oneS r = true := by simp only [routeS, Bool.and_eq_true] at h; exact h.1
  simp only [oneS, matchersS, orderS, Bool.and_eq_true, decide_eq_true_eq] at h1
  obtain ⟨⟨⟨⟨⟨⟨⟨_, _, m1⟩, m2⟩, _, m3⟩, _, m4⟩, _⟩, _⟩, _⟩ := h1
  have a1 := w_words D textS r.Match
  have a2 := w_words D (fun x => x) r.By
  have a3 := w_words D (fun x => x) r.Mute
  have a4 : wN D (rowN (r.Routes.map (routeN d))) ≤ 34 * ((r.Routes.map (allD d)).flatten).length := by
   cases D with
   | zero => exact Nat.zero_le _
   | succ D =>
    rw [wN, sum_flat, Nat.mul_comm, ← sum_mul]
    show (((r.Routes.map (routeN d)).map fun x => 1 + wN D x)).sum ≤ _
    rw [List.map_map]
    exact sum_le _ _ _ fun k hk' => by
     have := w_route d D k (hk.2 k hk')
     show 1 + wN D (routeN d k) ≤ _
     omega
  have e : wN (D + 1) (routeN (d + 1) r) = 9 + (wN D (rowN (r.Match.map matchN)) + wN D (rowN (r.By.map wordN)) + wN D (rowN (r.Mute.map wordN)) + wN D (rowN (r.Routes.map (routeN d)))) := by
   simp only [routeN, mapN, wN, List.map_cons, List.map_nil, List.sum_cons, List.sum_nil]
   have z : ∀ s, wN D (wordN s) = 0 := w_word D
   simp only [z, numN]
   omega
  rw [e, allD, List.length_cons]
  have b1 : wN D (rowN (r.Match.map matchN)) ≤ r.Match.length := a1
  have b2 : wN D (rowN (r.By.map wordN)) ≤ r.By.length := a2
  have b3 : wN D (rowN (r.Mute.map wordN)) ≤ r.Mute.length := a3
  omega
theorem w_node (c : Config) (D : Nat) (h : routeS 4 c.Route = true) (hn : (allD 4 c.Route).length ≤ 32) (hr : c.Receivers.length ≤ 16) (hi : c.Inhibits.length ≤ 8 ∧ ∀ x ∈ c.Inhibits, inhibitS x = true) (hh : c.Hours.length ≤ 8) : wN (D + 2) (nodeS c) ≤ 2000 := by
 have a1 := w_route 4 (D + 1) c.Route h
 have a2 := w_words (D + 1) (fun x => x) c.Receivers
 have a3 : wN (D + 1) (rowN (c.Inhibits.map quietN)) ≤ c.Inhibits.length * 28 := by
  have := w_row D (c.Inhibits.map quietN) 27 fun x hx => by
   obtain ⟨y, hy, rfl⟩ := List.mem_map.1 hx
   have := hi.2 y hy
   simp only [inhibitS, matchersS, Bool.and_eq_true, decide_eq_true_eq] at this
   obtain ⟨_, ⟨⟨⟨_, _⟩, h1⟩, _, h2⟩, _, h3⟩ := this
   cases D with
   | zero => exact Nat.zero_le _
   | succ D =>
    have b1 : wN D (rowN (y.Source.map matchN)) ≤ y.Source.length := w_words D textS y.Source
    have b2 : wN D (rowN (y.Target.map matchN)) ≤ y.Target.length := w_words D textS y.Target
    have b3 : wN D (rowN (y.Equal.map wordN)) ≤ y.Equal.length := w_words D (fun x => x) y.Equal
    simp only [quietN, mapN, wN, List.map_cons, List.map_nil, List.sum_cons, List.sum_nil]
    omega
  rw [List.length_map] at this
  exact this
 have a4 : wN (D + 1) (rowN (c.Hours.map spanN)) ≤ c.Hours.length * 3 := by
  have := w_row D (c.Hours.map spanN) 2 fun x hx => by
   obtain ⟨y, hy, rfl⟩ := List.mem_map.1 hx
   cases D with
   | zero => exact Nat.zero_le _
   | succ D =>
    simp only [spanN, mapN, wN, List.map_cons, List.map_nil, List.sum_cons, List.sum_nil, w_word]
    omega
  rw [List.length_map] at this
  exact this
 have b2 : wN (D + 1) (rowN (c.Receivers.map wordN)) ≤ c.Receivers.length := a2
 have m3 : c.Inhibits.length * 28 ≤ 8 * 28 := Nat.mul_le_mul_right _ hi.1
 have m4 : c.Hours.length * 3 ≤ 8 * 3 := Nat.mul_le_mul_right _ hh
 have e : wN (D + 2) (nodeS c) = 4 + (wN (D + 1) (routeN 4 c.Route) + wN (D + 1) (rowN (c.Receivers.map wordN)) + wN (D + 1) (rowN (c.Inhibits.map quietN)) + wN (D + 1) (rowN (c.Hours.map spanN))) := by
  conv => lhs; rw [wN]
  simp only [nodeS, mapN, List.map_cons, List.map_nil, List.sum_cons, List.sum_nil]
  omega
 rw [e]
 omega
theorem fit_word (s : ByteArray) : NodeFit (wordN s) := .mk _ (by simp [wordN]) (by simp [wordN]) fun k hk => by cases hk
theorem fit_row {l : List Node} (h : l.length ≤ 1000) (hl : ∀ x ∈ l, NodeFit x) : NodeFit (rowN l) := .mk _ (by simp [rowN]) (Nat.le_trans h (by decide)) hl
theorem fit_map {ns : List ByteArray} {l : List Node} (hn : ns.length ≤ 1000) (h : l.length ≤ 1000) (hl : ∀ x ∈ l, NodeFit x) : NodeFit (mapN ns l) := .mk _ (Nat.le_trans hn (by decide)) (Nat.le_trans h (by decide)) hl
theorem fit_words {α : Type} (f : α → ByteArray) (l : List α) (h : l.length ≤ 1000) : NodeFit (rowN (l.map fun x => wordN (f x))) := fit_row (by rw [List.length_map]; exact h) fun x hx => by
 obtain ⟨y, _, rfl⟩ := List.mem_map.1 hx
 exact fit_word _
theorem fit_routeN : ∀ (d : Nat) (r : Route), routeS d r = true → NodeFit (routeN d r)
 | 0, r, h => by cases h
 | d + 1, r, h => by
  have hk := routeS_kids h
  have h1 : oneS r = true := by simp only [routeS, Bool.and_eq_true] at h; exact h.1
  simp only [oneS, matchersS, orderS, Bool.and_eq_true, decide_eq_true_eq] at h1
  obtain ⟨⟨⟨⟨⟨⟨⟨_, _, m1⟩, m2⟩, _, m3⟩, _, m4⟩, _⟩, _⟩, _⟩ := h1
  refine fit_map (by decide) (by simp) fun x hx => ?_
  simp only [List.mem_cons, List.mem_nil_iff, or_false] at hx
  rcases hx with rfl | rfl | rfl | rfl | rfl | rfl | rfl | rfl | rfl
  ·exact fit_word _
  ·exact fit_words textS _ (by omega)
  ·exact fit_words (fun x => x) _ (by omega)
  ·exact fit_word _
  ·exact fit_word _
  ·exact fit_word _
  ·exact fit_words (fun x => x) _ (by omega)
  ·exact fit_word _
  ·refine fit_row (by rw [List.length_map]; omega) fun x hx => ?_
   obtain ⟨k, hk', rfl⟩ := List.mem_map.1 hx
   exact fit_routeN d k (hk.2 k hk')
theorem fit_nodeS (c : Config) (h : routeS 4 c.Route = true) (hr : c.Receivers.length ≤ 16) (hi : c.Inhibits.length ≤ 8 ∧ ∀ x ∈ c.Inhibits, inhibitS x = true) (hh : c.Hours.length ≤ 8) : NodeFit (nodeS c) := by
 refine fit_map (by decide) (by simp) fun x hx => ?_
 simp only [List.mem_cons, List.mem_nil_iff, or_false] at hx
 rcases hx with rfl | rfl | rfl | rfl
 ·exact fit_routeN 4 _ h
 ·exact fit_words (fun x => x) _ (by omega)
 ·refine fit_row (by rw [List.length_map]; omega) fun x hx => ?_
  obtain ⟨y, hy, rfl⟩ := List.mem_map.1 hx
  have := hi.2 y hy
  simp only [inhibitS, matchersS, Bool.and_eq_true, decide_eq_true_eq] at this
  obtain ⟨_, ⟨⟨⟨_, _⟩, h1⟩, _, h2⟩, _, h3⟩ := this
  refine fit_map (by simp) (by simp) fun x hx => ?_
  simp only [List.mem_cons, List.mem_nil_iff, or_false] at hx
  rcases hx with rfl | rfl | rfl
  ·exact fit_words textS _ (by omega)
  ·exact fit_words textS _ (by omega)
  ·exact fit_words (fun x => x) _ (by omega)
 ·refine fit_row (by rw [List.length_map]; omega) fun x hx => ?_
  obtain ⟨y, hy, rfl⟩ := List.mem_map.1 hx
  refine fit_map (by simp) (by simp) fun x hx => ?_
  simp only [List.mem_cons, List.mem_nil_iff, or_false] at hx
  rcases hx with rfl | rfl <;> exact fit_word _
noncomputable def printS (n : Node) : ByteArray × Int := cond (!mayN 8 n || decide (n.Items.length = 0)) (ByteArray.mk (Array.mk []), 1) (cond (decide ((linesL 8 0 n).length ≤ 8192)) (⟨(linesL 8 0 n).toArray⟩, 0) (ByteArray.mk (Array.mk []), 2))
theorem outline_Print_eq (n : Node) (hf : NodeFit n) (hw : wN 8 n ≤ 2000) : outline_Print std n = some (printS n) := by
 unfold outline_Print printS
 rw [outline_Right_eq n hf, bd_some, show std.cmp .eql (std.len TyS.node n.4) 0 = decide (n.Items.length = 0) by rw [len_nat, s_eql, Bool.eq_iff_iff]; simp, s_lor, s_not]
 cases hm : mayN 8 n with
 | false => rfl
 | true =>
  have hl := linesL_le 8 0 n hm
  have h2 : wN 8 n * (2 * (0 + 8) + 2100) ≤ 2000 * (2 * (0 + 8) + 2100) := Nat.mul_le_mul_right _ hw
  have e := outline_lines_N_eq (SizeOf.sizeOf n + 1) n 8 0 [] (Nat.lt_succ_self _) hm (by omega) (by rw [List.length_nil]; omega)
  cases decide (n.Items.length = 0) with
  | true => rfl
  | false =>
   rw [Bool.not_true, Bool.or_false, br_false]
   unfold outline_lines
   have e' : outline_lines_N std (SizeOf.sizeOf n + 1) [] n 0 = some ([] ++ linesL 8 0 n) := e
   rw [e', bd_some, List.nil_append]
   unfold strings_Builder_Len
   rw [bd_some, show std.cmp .gtr (std.len TyS.byte (linesL 8 0 n)) 8192 = !decide ((linesL 8 0 n).length ≤ 8192) from gtr_len (t := TyS.byte) (linesL 8 0 n) 8192]
   by_cases h8 : (linesL 8 0 n).length ≤ 8192
   ·rw [decide_eq_true h8, Bool.not_true, br_false]
    unfold strings_Builder_String
    rw [ck_t (by omega), bd_some]
    rfl
   ·rw [decide_eq_false h8, Bool.not_false, br_true]
    rfl
noncomputable def exportA (c : Config) : ByteArray × Int := cond (holdsA c) (printS (nodeS (normS (bareC c)))) (ByteArray.mk (Array.mk []), 11)
theorem norm_hours_len (c : Config) : (normS c).Hours.length = c.Hours.length := sortI_len _ _
theorem norm_recv_len (c : Config) : (normS c).Receivers.length = c.Receivers.length := sortI_len _ _
theorem norm_hours_mem {c : Config} {x : Hours} (h : x ∈ (normS c).Hours) : x ∈ c.Hours := (sortI_perm _ _).mem_iff.1 h
theorem amfile_Export_eq (c : Config) (h : configFit c) : amfile_Export std c = some (exportA c) := by
 unfold amfile_Export amfile_bare exportA
 rw [amfile_Holds_eq c h, bd_some]
 cases hp : holdsA c with
 | false => rfl
 | true =>
  have hb : configS (bareC c) = true := by
   unfold holdsA at hp
   rw [Bool.and_eq_true] at hp
   exact hp.1
  have ok := configS_ok hb
  have hbf := bare_fit h
  have ht := ok.top
  simp only [topS, Bool.and_eq_true, decide_eq_true_eq] at ht
  have hil := norm_inh_len (bareC c)
  have h1 : (normS (bareC c)).Inhibits.length ≤ 8 ∧ ∀ x ∈ (normS (bareC c)).Inhibits, inhibitS x = true := ⟨Nat.le_trans hil ok.inh.1, fun x hx => ok.inh.2 x (norm_inh_mem hx)⟩
  have h2 : (normS (bareC c)).Hours.length ≤ 8 := by rw [norm_hours_len]; exact ok.hours.1
  have h3 : ∀ x ∈ (normS (bareC c)).Hours, hourS x = true := fun x hx => ok.hours.2.1 x (norm_hours_mem hx)
  have h4 : (normS (bareC c)).Receivers.length ≤ 16 := by rw [norm_recv_len]; exact ok.recv.1
  have hr : routeS 4 (normS (bareC c)).Route = true := ht.1.1.1
  rw [s_not, Bool.not_true, br_false, bd_some]
  show (bd (config_Normal std (bareC c)) fun w3 => _) = _
  rw [config_Normal_eq _ hbf, hb]
  simp only [cond_true, bd_some]
  rw [amfile_node_eq _ (norm_fit hbf) hr h4 h1 ⟨h2, h3⟩, bd_some, outline_Print_eq _ (fit_nodeS _ hr h4 h1 h2) (w_node _ 6 hr ht.2 h4 h1 h2), bd_some]
theorem exportA_bare (c : Config) (l : List Rule) : exportA ⟨l, c.Route, c.Receivers, c.Inhibits, c.Hours⟩ = exportA c := rfl
end Go.PL
namespace Go.PL
set_option linter.unusedSimpArgs false
set_option linter.unusedVariables false
set_option linter.unusedSectionVars false
open Tys (Ty U)
open Enc (sz enc dflt tb ofB toB)
open Dec (dec dok)
set_option maxRecDepth 100000
def oplC (c : UInt8) : Bool := wordC c || upC c || inC 45 47 c || inC 58 58 c
theorem outline_plain_eq (c : UInt8) : outline_plain std (c.toNat : Int) = some (oplC c) := by
 unfold outline_plain
 have h0 : std.and (std.cmp .geq (c.toNat : Int) 65) (std.cmp .leq (c.toNat : Int) 90) = upC c := by
  rw [Bool.eq_iff_iff]; simp [upC, inC]; omega
 have h1 : strings_IndexByte std (ByteArray.mk (Array.mk [45, 46, 47, 58])) (c.toNat : Int) = some (Lib.indexByte [45, 46, 47, 58] c) := by
  unfold strings_IndexByte; rw [u8_cast]
 have h2 : [45, 46, 47, 58].contains c = (inC 45 47 c || inC 58 58 c) := by
  simp only [List.contains_cons, eqC, List.contains_nil]
  rw [Bool.eq_iff_iff]; simp [inC]; omega
 rw [h1, outline_small_eq, bd_some, h0]
 unfold oplC
 simp only [s_lor]
 cases h : (wordC c || upC c) with
 | true => rfl
 | false =>
  simp only [s_not, Bool.not_false, gd_t, bd_some, s_geq, index_ge, h2, s_lor, Bool.false_or]
def oplW (s : ByteArray) : Bool := (bytes s).all oplC && decide (1 ≤ s.size) && decide (s.size ≤ 200) && !decide ((bytes s).head? = some 45)
theorem quoted_plain (s : ByteArray) (h : oplW s = true) : quotedS s = s := by
 simp only [oplW, Bool.and_eq_true, decide_eq_true_eq] at h
 obtain ⟨⟨⟨h1, h2⟩, h3⟩, h4⟩ := h
 have key : outline_quoted std s = some s := by
  unfold outline_quoted
  obtain ⟨c, hc⟩ := at_some (xs := bytes s) (i := 0) (by rw [len_bytes]; omega)
  have hg : std.sget s 0 = (c.toNat : Int) := sget_at (i := 0) hc
  have h0 : std.cmp .neq (std.sget s 0) 45 = true := by
   rw [hg]
   have hh : (bytes s).head? = some c := by rw [List.head?_eq_getElem?]; exact hc
   rw [hh] at h4
   have h5 : ¬ c = 45 := by simpa using h4
   have h6 : c.toNat ≠ 45 := fun e => h5 (UInt8.toNat_inj.1 e)
   rw [s_neq, bne_iff_ne]
   omega
  have hcn : slices_ContainsFunc_byte_byte std (std.s2b s) (fun y0 => outline_quoted_1 std y0) = some false := by
   rw [s2b_eq, contains_byte _ (fun c => !oplC c) _ (fun c _ => by
    unfold outline_quoted_1
    rw [outline_plain_eq, bd_some, s_not]) (by rw [len_bytes]; unfold big63; omega), all_not_any, h1]
   rfl
  rw [ck_t (vc_of fun _ => by
   show (0 : Int) ≤ 0 ∧ (0 : Int) < (s.size : Int)
   omega), h0, s_sneq, empty_size, decide_eq_true h2]
  show (bd (gd false true _) fun w2 => _) = _
  rw [gd_t, hcn, bd_some]
  rfl
 unfold quotedS
 rw [key]; rfl
def valueP (n : Node) : ByteArray := if n.Kind = 1 then ByteArray.mk (Array.mk [32]) ++ n.Word else if 0 < n.Items.length then ByteArray.mk (Array.mk []) else if n.Kind = 2 then ByteArray.mk (Array.mk [32, 91, 93]) else ByteArray.mk (Array.mk [32, 123, 125])
def linesP : Nat → Nat → Node → List UInt8
 | 0, _, _ => []
 | d + 1, k, n => itemsL (fun i x => Lib.repeatL [32] (2 * k) ++ headL n i ++ bytes (valueP x) ++ [10] ++ linesP d (k + 1) x) 0 n.Items
def plainN : Nat → Node → Bool
 | 0, _ => true
 | d + 1, n => n.Items.all fun x => (if x.Kind = 1 then oplW x.Word else true) && plainN d x
theorem itemsL_congr (f g : Nat → Node → List UInt8) : ∀ (xs : List Node) (i : Nat), (∀ j x, x ∈ xs → f j x = g j x) → itemsL f i xs = itemsL g i xs
 | [], i, h => rfl
 | x :: xs, i, h => by
  simp only [itemsL]
  rw [h i x (List.mem_cons_self ..), itemsL_congr f g xs (i + 1) fun j y hy => h j y (List.mem_cons_of_mem _ hy)]
theorem lines_plain : ∀ (d k : Nat) (n : Node), plainN d n = true → linesL d k n = linesP d k n
 | 0, k, n, h => rfl
 | d + 1, k, n, h => by
  simp only [plainN, List.all_eq_true, Bool.and_eq_true] at h
  rw [linesL, linesP]
  refine itemsL_congr _ _ _ _ fun j x hx => ?_
  obtain ⟨h1, h2⟩ := h x hx
  rw [lines_plain d (k + 1) x h2]
  have : valueS' x = valueP x := by
   unfold valueS' valueP
   by_cases k1 : x.Kind = 1
   ·rw [if_pos k1] at h1
    rw [if_pos k1, if_pos k1, quoted_plain _ h1]
   ·rw [if_neg k1, if_neg k1]
  rw [this]
def aliveD : Config := ⟨[], ⟨opsT, [], [], 0, 1, 1, [], false, []⟩, [opsT], [], []⟩
theorem aliveD_fit : configFit aliveD := ⟨fitL_nil, .mk _ (size_le 3 rfl (by omega)) fitL_nil fitL_nil fitL_nil (by simp [aliveD]) (fun k hk => by cases hk), ⟨by show 1 ≤ big63; unfold big63; omega, fun x hx => by
 rw [List.mem_singleton.1 hx]; exact size_le 3 rfl (by omega)⟩, fitL_nil, fitL_nil⟩
theorem aliveD_holds : holdsA aliveD = true := by kernel_rfl
theorem aliveD_norm : normS (bareC aliveD) = aliveD := by kernel_rfl
theorem aliveD_may : mayN 8 (nodeS aliveD) = true := by kernel_rfl
theorem aliveD_plain : plainN 8 (nodeS aliveD) = true := by kernel_rfl
theorem aliveD_items : decide ((nodeS aliveD).Items.length = 0) = false := by kernel_rfl
theorem aliveD_len : (decide ((linesP 8 0 (nodeS aliveD)).length ≤ 8192) && decide (30 < (linesP 8 0 (nodeS aliveD)).length)) = true := by kernel_rfl
theorem aliveD_has1 : Lib.contains (linesP 8 0 (nodeS aliveD)) [114, 111, 117, 116, 101, 58, 10, 32, 32, 114, 101, 99, 101, 105, 118, 101, 114, 58, 32, 111, 112, 115, 10] = true := by kernel_rfl
theorem aliveD_has2 : Lib.contains (linesP 8 0 (nodeS aliveD)) [32, 32, 99, 111, 110, 116, 105, 110, 117, 101, 58, 32, 102, 97, 108, 115, 101, 10] = true := by kernel_rfl
theorem aliveD_export : exportA aliveD = (⟨(linesP 8 0 (nodeS aliveD)).toArray⟩, 0) := by
 unfold exportA printS
 have hl := aliveD_len
 rw [Bool.and_eq_true] at hl
 rw [aliveD_holds, cond_true, aliveD_norm, aliveD_may, aliveD_items, lines_plain _ _ _ aliveD_plain, hl.1]
 rfl
theorem alive12_eq : transhipmentlaw12_alive std = some true := by
 unfold transhipmentlaw12_alive
 have h1 : amfile_Export std (Config.mk [] (Route.mk (ByteArray.mk (Array.mk [111, 112, 115])) [] [] 0 1 1 [] false []) [ByteArray.mk (Array.mk [111, 112, 115])] [] []) = some (⟨(linesP 8 0 (nodeS aliveD)).toArray⟩, 0) := (amfile_Export_eq aliveD aliveD_fit).trans (congrArg some aliveD_export)
 have hl := aliveD_len
 have c1 := aliveD_has1
 have c2 := aliveD_has2
 rw [h1, bd_some]
 generalize linesP 8 0 (nodeS aliveD) = T at hl c1 c2
 rw [Bool.and_eq_true, decide_eq_true_eq, decide_eq_true_eq] at hl
 have hs : (ByteArray.mk T.toArray).size = T.length := by rw [size_bytes, bytes_mk]
 have e0 : std.and (std.cmp .eql ((ByteArray.mk T.toArray, (0 : Int)) : ByteArray × Int).2 0) (std.cmp .gtr (std.slen ((ByteArray.mk T.toArray, (0 : Int)) : ByteArray × Int).1) 30) = true := by
  rw [s_land, s_gtr, s_slen, hs, s_eql]
  simp; omega
 have e1 : ∀ t : List UInt8, Lib.contains T t = true → strings_Contains std ((ByteArray.mk T.toArray, (0 : Int)) : ByteArray × Int).1 (ByteArray.mk (Array.mk t)) = some true := fun t ht => by
  unfold strings_Contains
  rw [ck_t (by rw [hs]; omega)]
  show some (Lib.contains (bytes (ByteArray.mk T.toArray)) t) = _
  rw [bytes_mk, ht]
 rw [e0, gd_t, e1 _ c1, bd_some]
 show (bd (gd false true _) fun w3 => _) = _
 rw [gd_t, e1 _ c2, bd_some]
 rfl
theorem many12_some : ∀ (n : Nat) (r : Route) (m : Int), SizeOf.sizeOf r < n → RouteFit r → ∃ v, transhipmentlaw12_many_N std n r m = some v
 | 0, r, m, h, _ => absurd h (Nat.not_lt_zero _)
 | n + 1, r, m, h, hf => by
  obtain ⟨_, _, _, _, h5, h6⟩ := fit_route hf
  rw [transhipmentlaw12_many_N, transhipmentlaw12_many_S]
  refine ⟨_, Loop_each (B := transhipmentlaw12_many_S_B1 std (transhipmentlaw12_many_N std n) r m) (fun i (s : Int) => (s, (i : Int))) r.Routes (fun _ k s => if decide (m < s) = true then (.inr s : Int ⊕ Int) else .inl (std.ar .add .i64 s ((transhipmentlaw12_many_N std n k (std.ar .sub .i64 m s)).getD 0))) (fun s => s) (fun i k s hk hi => ?_) (fun s => ?_) 1⟩
  ·unfold transhipmentlaw12_many_S_B1
   simp only
   obtain ⟨v, hv⟩ := many12_some n k (std.ar .sub .i64 m s) (by have := route_lt (mem_at hk); omega) (h6 k (mem_at hk))
   rw [len_nat, lssT hi, br_true, ck_t (inbT hi), get_nat (t := TyS.route) hk, s_gtr, hv, bd_some, s_add (a := (i : Int)), wrap_succ hi h5]
   cases decide (m < s) <;> rfl
  ·unfold transhipmentlaw12_many_S_B1
   simp only
   rw [len_nat, lssF, br_false]
   rfl
theorem big12_some (c : Config) (h : configFit c) : ∃ b, transhipmentlaw12_big std c = some b ∧ (b = false → Small c) := by
 unfold transhipmentlaw12_big
 obtain ⟨v, hv⟩ := many12_some (SizeOf.sizeOf c.Route + 1) c.Route 40 (Nat.lt_succ_self _) h.2.1
 unfold transhipmentlaw12_many
 rw [hv, bd_some]
 refine ⟨_, rfl, fun hb => ?_⟩
 simp only [s_lor, s_gtr, Bool.or_eq_false_iff, decide_eq_false_iff_not, s_len] at hb
 exact ⟨by omega, by omega, by omega, by omega⟩
theorem AmRules_true (c : Config) (l : List Rule) (hc : configFit c) (hl : fitL ruleFit l) : transhipmentlaw12_AmRules std c l = some true := by
 unfold transhipmentlaw12_AmRules
 obtain ⟨w1, h1, s1⟩ := big12_some c hc
 rw [h1, bd_some, alive12_eq]
 cases w1 with
 | true => rfl
 | false =>
  rw [br_false, ck_t (by
   show (0 : Int) ≤ 0 ∧ (0 : Int) ≤ min (l.length : Int) 4 ∧ min (l.length : Int) 4 ≤ (l.length : Int)
   omega)]
  obtain ⟨m, hm⟩ : ∃ m, std.lsub TyS.rule l 0 (std.mn (std.len TyS.rule l) 4) = m := ⟨_, rfl⟩
  have hmf : fitL ruleFit m := by
   rw [← hm, s_lsub]
   refine fitL_sub hl (by rw [List.length_drop, List.length_take]; omega) fun y hy => List.mem_of_mem_take (List.mem_of_mem_drop hy)
  have f2 : configFit ⟨m, c.Route, c.Receivers, c.Inhibits, c.Hours⟩ := ⟨hmf, hc.2⟩
  have e1 : holdsA ⟨m, c.Route, c.Receivers, c.Inhibits, c.Hours⟩ = holdsA c := rfl
  have tt : std.eqb (holdsA c) (holdsA c) = true := by cases holdsA c <;> rfl
  have se : std.scmp .eql (exportA c).1 (exportA c).1 = true := by rw [s_seql]; exact decide_eq_true rfl
  have ee : std.cmp .eql (exportA c).2 (exportA c).2 = true := by rw [s_eql]; simp
  rw [hm, amfile_Export_eq c hc, bd_some, amfile_Export_eq _ f2, exportA_bare, bd_some, bd_some, gd_t, amfile_Holds_eq c hc, bd_some, gd_t, amfile_Holds_eq _ f2, bd_some, e1, tt, se, ee]
  rfl
end Go.PL
