/- Texts of this claim: plain laws of what the program's functions compute. No condition of their own. -/
import Derived.Test.YtiddkdneoldkoaaGreatDoorWb
import Derived.Lib.ItoaLen
import Derived.Lib.SplitLaws
import Derived.Lib.Replace
import Derived.Lib.Repeat
import Derived.KernelRfl
namespace Go.PL
set_option linter.unusedSimpArgs false
set_option linter.unusedVariables false
set_option linter.unusedSectionVars false
open Tys (Ty U)
open Enc (sz enc dflt tb ofB toB)
open Dec (dec dok)
set_option maxRecDepth 100000
end Go.PL
namespace Go.PL
set_option linter.unusedSimpArgs false
set_option linter.unusedVariables false
set_option linter.unusedSectionVars false
open Tys (Ty U)
open Enc (sz enc dflt tb ofB toB)
open Dec (dec dok)
set_option maxRecDepth 100000
def dayT (i : Nat) : ByteArray := std.sel [ByteArray.mk (Array.mk [109, 111, 110]), ByteArray.mk (Array.mk [116, 117, 101]), ByteArray.mk (Array.mk [119, 101, 100]), ByteArray.mk (Array.mk [116, 104, 117]), ByteArray.mk (Array.mk [102, 114, 105]), ByteArray.mk (Array.mk [115, 97, 116]), ByteArray.mk (Array.mk [115, 117, 110])] (i : Int)
end Go.PL
namespace Go.PL
set_option linter.unusedSimpArgs false
set_option linter.unusedVariables false
set_option linter.unusedSectionVars false
open Tys (Ty U)
open Enc (sz enc dflt tb ofB toB)
open Dec (dec dok)
set_option maxRecDepth 100000
end Go.PL
namespace Go.PL
set_option linter.unusedSimpArgs false
set_option linter.unusedVariables false
set_option linter.unusedSectionVars false
open Tys (Ty U)
open Enc (sz enc dflt tb ofB toB)
open Dec (dec dok)
set_option maxRecDepth 100000
def shortM (m : Matcher) : Bool := decide ((textS m).size ≤ 200)
def shortS (l : List Matcher) : Bool := l.all shortM
def flatS : Nat → Route → Bool
 | 0, _ => false
 | d + 1, r => shortS r.Match && r.Routes.all (flatS d)
def bareC (c : Config) : Config := ⟨[], c.Route, c.Receivers, c.Inhibits, c.Hours⟩
def shortI (x : Inhibit) : Bool := shortS x.Source && shortS x.Target
def holdsA (c : Config) : Bool := configS (bareC c) && (flatS 3 c.Route && c.Inhibits.all shortI)
end Go.PL
namespace Go.PL
set_option linter.unusedSimpArgs false
set_option linter.unusedVariables false
set_option linter.unusedSectionVars false
open Tys (Ty U)
open Enc (sz enc dflt tb ofB toB)
open Dec (dec dok)
set_option maxRecDepth 100000
def wordN (s : ByteArray) : Node := ⟨1, s, [], []⟩
def rowN (l : List Node) : Node := ⟨2, ⟨#[]⟩, [], l⟩
def mapN (names : List ByteArray) (l : List Node) : Node := ⟨3, ⟨#[]⟩, names, l⟩
def matchN (m : Matcher) : Node := wordN (textS m)
def numN (n : Int) : Node := wordN ⟨(Lib.itoa n).toArray⟩
def quietN (x : Inhibit) : Node := mapN [ByteArray.mk (Array.mk [115, 111, 117, 114, 99, 101]), ByteArray.mk (Array.mk [116, 97, 114, 103, 101, 116]), ByteArray.mk (Array.mk [101, 113, 117, 97, 108])] [rowN (x.Source.map matchN), rowN (x.Target.map matchN), rowN (x.Equal.map wordN)]
noncomputable def hoursT (h : Hours) : ByteArray := ((hours_Text std h).getD (⟨#[]⟩, 0)).1
noncomputable def spanN (h : Hours) : Node := mapN [ByteArray.mk (Array.mk [110, 97, 109, 101]), ByteArray.mk (Array.mk [115, 112, 97, 110])] [wordN h.Name, wordN (hoursT h)]
def onW (b : Bool) : ByteArray := cond b (ByteArray.mk (Array.mk [116, 114, 117, 101])) (ByteArray.mk (Array.mk [102, 97, 108, 115, 101]))
end Go.PL
namespace Go.PL
set_option linter.unusedSimpArgs false
set_option linter.unusedVariables false
set_option linter.unusedSectionVars false
open Tys (Ty U)
open Enc (sz enc dflt tb ofB toB)
open Dec (dec dok)
set_option maxRecDepth 100000
def owordS (s : ByteArray) : Bool := (bytes s).all plainC && decide (s.size ≤ 200)
def keyP (l : List ByteArray) (i : Nat) (s : ByteArray) : Bool := wordS s && onceP l i s
def namesN (l : List ByteArray) (k : Nat) : Bool := allI (keyP l) 0 l && decide (l.length = k)
theorem contains_take (l : List ByteArray) (i : Nat) (s : ByteArray) (h : l.length ≤ big63) : slices_Contains_string_string std (std.lsub TyS.str l 0 (i : Int)) s = some (hasS (l.take i) s) := by
 rw [s_lsub, Int.toNat_natCast, show Int.toNat 0 = 0 from rfl, List.drop_zero, contains_s _ _ (by rw [List.length_take]; omega), hasS_comm]
def mayN : Nat → Node → Bool
 | 0, _ => false
 | d + 1, n => if n.Kind = 1 then owordS n.Word && decide (n.Names.length = 0) && decide (n.Items.length = 0)
  else if n.Kind = 2 then decide (n.Word.size = 0) && decide (n.Items.length ≤ 64) && namesN n.Names 0 && n.Items.all (mayN d)
  else if n.Kind = 3 then decide (n.Word.size = 0) && decide (n.Items.length ≤ 64) && namesN n.Names n.Items.length && n.Items.all (mayN d)
  else false
inductive NodeFit : Node → Prop where
 | mk (n : Node) (h1 : n.Names.length ≤ big63) (h2 : n.Items.length ≤ big63) (h3 : ∀ k ∈ n.Items, NodeFit k) : NodeFit n
end Go.PL
namespace Go.PL
set_option linter.unusedSimpArgs false
set_option linter.unusedVariables false
set_option linter.unusedSectionVars false
open Tys (Ty U)
open Enc (sz enc dflt tb ofB toB)
open Dec (dec dok)
set_option maxRecDepth 100000
def itemsL (f : Nat → Node → List UInt8) : Nat → List Node → List UInt8
 | _, [] => []
 | i, x :: xs => f i x ++ itemsL f (i + 1) xs
def headL (n : Node) (i : Nat) : List UInt8 := if n.Kind = 3 then bytes (n.Names.getD i ⟨#[]⟩) ++ [58] else [45]
end Go.PL
namespace Go.PL
set_option linter.unusedSimpArgs false
set_option linter.unusedVariables false
set_option linter.unusedSectionVars false
open Tys (Ty U)
open Enc (sz enc dflt tb ofB toB)
open Dec (dec dok)
set_option maxRecDepth 100000
def wN : Nat → Node → Nat
 | 0, _ => 0
 | d + 1, n => (n.Items.map fun x => 1 + wN d x).sum
end Go.PL
namespace Go.PL
set_option linter.unusedSimpArgs false
set_option linter.unusedVariables false
set_option linter.unusedSectionVars false
open Tys (Ty U)
open Enc (sz enc dflt tb ofB toB)
open Dec (dec dok)
set_option maxRecDepth 100000
def oplC (c : UInt8) : Bool := wordC c || upC c || inC 45 47 c || inC 58 58 c
def oplW (s : ByteArray) : Bool := (bytes s).all oplC && decide (1 ≤ s.size) && decide (s.size ≤ 200) && !decide ((bytes s).head? = some 45)
def valueP (n : Node) : ByteArray := if n.Kind = 1 then ByteArray.mk (Array.mk [32]) ++ n.Word else if 0 < n.Items.length then ByteArray.mk (Array.mk []) else if n.Kind = 2 then ByteArray.mk (Array.mk [32, 91, 93]) else ByteArray.mk (Array.mk [32, 123, 125])
def linesP : Nat → Nat → Node → List UInt8
 | 0, _, _ => []
 | d + 1, k, n => itemsL (fun i x => Lib.repeatL [32] (2 * k) ++ headL n i ++ bytes (valueP x) ++ [10] ++ linesP d (k + 1) x) 0 n.Items
def plainN : Nat → Node → Bool
 | 0, _ => true
 | d + 1, n => n.Items.all fun x => (if x.Kind = 1 then oplW x.Word else true) && plainN d x
def aliveD : Config := ⟨[], ⟨opsT, [], [], 0, 1, 1, [], false, []⟩, [opsT], [], []⟩
theorem aliveD_fit : configFit aliveD := ⟨fitL_nil, .mk _ (size_le 3 rfl (by omega)) fitL_nil fitL_nil fitL_nil (by simp [aliveD]) (fun k hk => by cases hk), ⟨by show 1 ≤ big63; unfold big63; omega, fun x hx => by
 rw [List.mem_singleton.1 hx]; exact size_le 3 rfl (by omega)⟩, fitL_nil, fitL_nil⟩
end Go.PL
namespace Go.PL
set_option linter.unusedSimpArgs false
set_option linter.unusedVariables false
set_option linter.unusedSectionVars false
open Tys (Ty U)
open Enc (sz enc dflt tb ofB toB)
open Dec (dec dok)
set_option maxRecDepth 100000
def semiC (c : UInt8) : Bool := plainC c && !inC 59 59 c
def dvalueS (s : ByteArray) : Bool := decide (1 ≤ s.size) && decide (s.size ≤ 200) && decide ((⟨(Lib.trimB (bytes s) 32).toArray⟩ : ByteArray) = s) && (bytes s).all semiC
theorem block_value_eq (s : ByteArray) : block_value std s = some (dvalueS s) := by
 unfold block_value
 have h0 : std.and (std.scmp .neq s (ByteArray.mk (Array.mk []))) (std.cmp .leq (std.slen s) 200) = (decide (1 ≤ s.size) && decide (s.size ≤ 200)) := by
  rw [s_land, s_sneq, empty_size, s_leq, s_slen]; congr 1; exact leN (b := 200)
 rw [h0]
 unfold dvalueS
 by_cases h : (decide (1 ≤ s.size) && decide (s.size ≤ 200)) = true
 ·have h200 : s.size ≤ 200 := by simp only [Bool.and_eq_true, decide_eq_true_eq] at h; exact h.2
  have ht : strings_Trim std s (ByteArray.mk (Array.mk [32])) = some ⟨(Lib.trimB (bytes s) 32).toArray⟩ := by
   show ck ((32 : UInt8).toNat < 128 ∧ s.size ≤ 9223372036854775807) _ = _
   exact ck_t ⟨by decide, by omega⟩
  have hc : slices_ContainsFunc_byte_byte std (std.s2b s) (fun y0 => block_value_1 std y0) = some ((bytes s).any fun c => !semiC c) := by
   rw [s2b_eq]
   exact contains_byte _ (fun c => !semiC c) _ (fun c _ => by
    unfold block_value_1
    simp only [s_lor, s_lss, s_gtr, s_eql]
    congr 1
    rw [Bool.eq_iff_iff]
    simp [semiC, plainC, inC]
    omega) (by rw [len_bytes]; unfold big63; omega)
  rw [h, gd_t, ht, bd_some, gd_b (fun _ => hc), bd_some, all_not_any]
  simp only [s_land, s_not, s_seql, Bool.true_and]
  cases decide ((⟨(Lib.trimB (bytes s) 32).toArray⟩ : ByteArray) = s) <;> simp
 ·simp only [Bool.not_eq_true] at h
  rw [h, gd_f, bd_some]
  simp only [s_land, Bool.false_and, gd_f, bd_some]
def mayD (d : Def) : Bool := allI (keyP d.Keys) 0 d.Keys && (wordS d.Typ && decide (d.Keys.length ≤ 64) && decide (d.Keys.length = d.Values.length) && d.Values.all dvalueS)
def defFit (d : Def) : Prop := d.Keys.length ≤ big63 ∧ d.Values.length ≤ big63
theorem block_may_eq (d : Def) (hf : defFit d) : block_may std d = some (mayD d) := by
 unfold block_may mayD
 have hcv : slices_ContainsFunc_string_string std d.3 (fun y0 => block_may_1 std y0) = some (d.Values.any fun v => !dvalueS v) := contains_string d.3 (fun v => !dvalueS v) _ (fun v _ => by
  unfold block_may_1
  rw [block_value_eq, bd_some, s_not]) hf.2
 have hend : (bd (block_word std d.1) fun w5 => bd (gd false (std.and (std.and w5 (std.cmp .leq (std.len TyS.str d.2) 64)) (std.cmp .eql (std.len TyS.str d.2) (std.len TyS.str d.3))) (slices_ContainsFunc_string_string std d.3 fun y0 => block_may_1 std y0)) fun w6 => some (std.and (std.and (std.and w5 (std.cmp .leq (std.len TyS.str d.2) 64)) (std.cmp .eql (std.len TyS.str d.2) (std.len TyS.str d.3))) (std.not w6))) = some (wordS d.Typ && decide (d.Keys.length ≤ 64) && decide (d.Keys.length = d.Values.length) && d.Values.all dvalueS) := by
  have e1 : std.cmp .leq (std.len TyS.str d.2) 64 = decide (d.Keys.length ≤ 64) := leq_len (t := TyS.str) d.2 64
  have e2 : std.cmp .eql (std.len TyS.str d.2) (std.len TyS.str d.3) = decide (d.Keys.length = d.Values.length) := by
   rw [len_nat, len_nat, s_eql, Bool.eq_iff_iff]; simp; omega
  rw [block_word_eq, bd_some, e1, e2, gd_b (fun _ => hcv), bd_some, all_not_any]
  simp only [s_land, s_not]
  cases (wordS d.Typ && decide (d.Keys.length ≤ 64) && decide (d.Keys.length = d.Values.length)) <;> simp
 refine Loop_elems (t := TyS.str) (B := block_may_B1 std d) (fun i => i) d.2 hf.1 (keyP d.Keys) _ _ _ (fun i => rfl) (fun i s hs hi => ?_) (fun _ => hend) (fun _ => ⟨_, hend⟩)
 rw [get_nat (t := TyS.str) hs, block_word_eq, bd_some, ck_t (vc_of fun _ => by show (0 : Int) ≤ 0 ∧ (0 : Int) ≤ i ∧ (i : Int) ≤ (d.2.length : Int); omega), contains_take d.2 i s hf.1]
 unfold keyP onceP
 cases wordS s <;> cases hasS (d.2.take i) s <;> rfl
def rightD (l : List Def) : Bool := decide (l.length ≤ 64) && l.all mayD
theorem block_Right_eq (l : List Def) (hl : l.length ≤ big63) (hf : ∀ d ∈ l, defFit d) : block_Right std l = some (rightD l) := by
 unfold block_Right rightD
 rw [show std.cmp .leq (std.len TyS.dfn l) 64 = decide (l.length ≤ 64) from leq_len (t := TyS.dfn) l 64]
 rw [gd_b (fun _ => contains_Def l (fun d => !mayD d) _ (fun d hd => by
  unfold block_Right_1
  rw [block_may_eq d (hf d hd), bd_some, s_not]) hl), bd_some, all_not_any]
 simp only [s_land, s_not]
 cases decide (l.length ≤ 64) <;> simp
def keyL (k v : ByteArray) : List UInt8 := [9] ++ bytes k ++ [9] ++ bytes v ++ [10]
def keysL : List ByteArray → List ByteArray → List UInt8
 | k :: ks, v :: vs => keyL k v ++ keysL ks vs
 | _, _ => []
def defL (d : Def) : List UInt8 := [100, 101, 102, 105, 110, 101, 32] ++ bytes d.Typ ++ [32, 123] ++ [10] ++ keysL d.Keys d.Values ++ [125, 10]
def defsL (l : List Def) : List UInt8 := (l.map defL).flatten
theorem keysL_take : ∀ (ks vs : List ByteArray) (i : Nat) (k v : ByteArray), ks[i]? = some k → vs[i]? = some v → keysL (ks.take (i + 1)) (vs.take (i + 1)) = keysL (ks.take i) (vs.take i) ++ keyL k v
 | [], vs, i, k, v, hk, _ => by cases hk
 | a :: ks, [], i, k, v, _, hv => by cases hv
 | a :: ks, b :: vs, 0, k, v, hk, hv => by cases hk; cases hv; simp [keysL]
 | a :: ks, b :: vs, i + 1, k, v, hk, hv => by
  have := keysL_take ks vs i k v (by simpa using hk) (by simpa using hv)
  simp only [List.take_succ_cons, keysL] at this ⊢
  rw [this, List.append_assoc]
theorem keysL_le : ∀ (ks vs : List ByteArray), (∀ k ∈ ks, k.size ≤ 64) → (∀ v ∈ vs, v.size ≤ 200) → (keysL ks vs).length ≤ ks.length * 300
 | [], vs, _, _ => by simp [keysL]
 | k :: ks, [], _, _ => by simp [keysL]
 | k :: ks, v :: vs, h1, h2 => by
  have h3 := keysL_le ks vs (fun x hx => h1 x (List.mem_cons_of_mem _ hx)) (fun x hx => h2 x (List.mem_cons_of_mem _ hx))
  have h4 := h1 k (List.mem_cons_self ..)
  have h5 := h2 v (List.mem_cons_self ..)
  simp only [keysL, keyL, List.length_append, len_bytes, List.length_cons, List.length_nil, Nat.succ_mul]
  omega
structure DefOK (d : Def) : Prop where
 typ : d.Typ.size ≤ 64
 few : d.Keys.length ≤ 64
 len : d.Values.length = d.Keys.length
 keys : ∀ k ∈ d.Keys, k.size ≤ 64
 vals : ∀ v ∈ d.Values, v.size ≤ 200
theorem mayD_ok {d : Def} (h : mayD d = true) : DefOK d := by
 simp only [mayD, wordS, Bool.and_eq_true, decide_eq_true_eq, List.all_eq_true] at h
 obtain ⟨h1, ⟨⟨⟨_, h2⟩, h3⟩, h4⟩, h5⟩ := h
 refine ⟨h2, h3, h4.symm, fun k hk => ?_, fun v hv => ?_⟩
 ·obtain ⟨j, hj⟩ := allI_mem h1 k hk
  simp only [keyP, wordS, Bool.and_eq_true, decide_eq_true_eq] at hj
  exact hj.1.2
 ·have := h5 v hv
  simp only [dvalueS, Bool.and_eq_true, decide_eq_true_eq] at this
  exact this.1.1.2
theorem defL_le {d : Def} (ok : DefOK d) : (defL d).length ≤ 20000 := by
 have h1 := keysL_le d.Keys d.Values ok.keys ok.vals
 have h2 := ok.typ
 have h3 : d.Keys.length * 300 ≤ 64 * 300 := Nat.mul_le_mul_right _ ok.few
 simp only [defL, List.length_append, len_bytes, List.length_cons, List.length_nil]
 omega
theorem cat5 (a b c d e : ByteArray) (h : a.size + b.size + c.size + d.size + e.size ≤ 100000) : std.catOk a b ∧ std.catOk (a ++ b) c ∧ std.catOk (a ++ b ++ c) d ∧ std.catOk (a ++ b ++ c ++ d) e := by
 refine ⟨?_, ?_, ?_, ?_⟩ <;> rw [s_catOk] <;> (try simp only [ByteArray.size_append]) <;> omega
noncomputable def printD (l : List Def) : ByteArray × Int := cond (rightD l) (cond (decide ((defsL l).length ≤ 8192)) (⟨(defsL l).toArray⟩, 0) (ByteArray.mk (Array.mk []), 2)) (ByteArray.mk (Array.mk []), 1)
theorem block_keys_eq (l : List Def) (i : Nat) (d : Def) (hd : l[i]? = some d) (ok : DefOK d) (acc : List UInt8) (ha : acc.length ≤ 10000000) (hi : i < 1000) : Loop (block_Print_B1 std l (i : Int)) (0, acc) = some (.inl (((i + 1 : Nat) : Int), acc ++ keysL d.Keys d.Values ++ [125, 10])) := by
 have hl : ∀ j, (keysL (d.Keys.take j) (d.Values.take j)).length ≤ 64 * 300 := fun j => by
  have h1 := keysL_le (d.Keys.take j) (d.Values.take j) (fun k hk => ok.keys k (List.mem_of_mem_take hk)) (fun k hk => ok.vals k (List.mem_of_mem_take hk))
  have h2 : (d.Keys.take j).length ≤ 64 := by rw [List.length_take]; have := ok.few; omega
  have h3 : (d.Keys.take j).length * 300 ≤ 64 * 300 := Nat.mul_le_mul_right _ h2
  omega
 have := Loop_each (B := block_Print_B1 std l (i : Int)) (fun j (_ : Unit) => ((j : Int), acc ++ keysL (d.Keys.take j) (d.Values.take j))) d.Keys (fun _ _ (_ : Unit) => (.inl () : Unit ⊕ ((Int × List UInt8) ⊕ (ByteArray × Int)))) (fun _ => .inl (((i + 1 : Nat) : Int), acc ++ keysL d.Keys d.Values ++ [125, 10])) (fun j k u hk hj => by
  obtain ⟨v, hv⟩ := at_some (xs := d.Values) (i := j) (by have := ok.len; omega)
  have hlj := hl j
  have sk := ok.keys k (mem_at hk)
  have sv := ok.vals v (mem_at hv)
  have q9 : (ByteArray.mk (Array.mk [9])).size = 1 := rfl
  have q10 : (ByteArray.mk (Array.mk [10])).size = 1 := rfl
  obtain ⟨c1, c2, c3, c4⟩ := cat5 (ByteArray.mk (Array.mk [9])) k (ByteArray.mk (Array.mk [9])) v (ByteArray.mk (Array.mk [10])) (by omega)
  unfold block_Print_B1
  simp only
  have hg : std.get TyS.dfn l (i : Int) = d := get_nat (t := TyS.dfn) hd
  simp only [hg, get_nat (t := TyS.str) hk, get_nat (t := TyS.str) hv, s_cat]
  rw [len_nat, len_nat, lssT hj, br_true, ck_t (inbT hj), ck_t c1, ck_t c2, ck_t (show std.inb (j : Int) (d.Values.length : Int) from inbT (by have := ok.len; omega)), ck_t c3, ck_t c4]
  have hb : bytes (ByteArray.mk (Array.mk [9]) ++ k ++ ByteArray.mk (Array.mk [9]) ++ v ++ ByteArray.mk (Array.mk [10])) = keyL k v := by
   rw [bytes_app, bytes_app, bytes_app, bytes_app]; rfl
  have hz : (ByteArray.mk (Array.mk [9]) ++ k ++ ByteArray.mk (Array.mk [9]) ++ v ++ ByteArray.mk (Array.mk [10])).size ≤ 1000 := by
   simp only [ByteArray.size_append]; omega
  rw [write_eq _ _ (by simp only [List.length_append]; omega), bd_some, hb, s_add, wrap_succ hj (by have := ok.few; unfold big63; omega), keysL_take _ _ _ _ _ hk hv, List.append_assoc]) (fun _ => by
  have hlj := hl d.Keys.length
  have hg : std.get TyS.dfn l (i : Int) = d := get_nat (t := TyS.dfn) hd
  unfold block_Print_B1
  simp only [hg]
  have e2 : d.Values.take d.Keys.length = d.Values := by rw [← ok.len, List.take_length]
  rw [len_nat, lssF, br_false, write_eq _ _ (by simp only [List.length_append]; show acc.length + _ + 2 ≤ _; omega), bd_some, show std.ar .add .i64 (i : Int) 1 = ((i + 1 : Nat) : Int) from wrap_succ (n := 1000) hi (by unfold big63; omega), List.take_length, e2]
  rfl) ()
 rw [runL_end] at this
 have e0 : acc ++ keysL (d.Keys.take 0) (d.Values.take 0) = acc := by simp [keysL]
 simp only [e0] at this
 exact this
theorem block_Print_eq (l : List Def) (hl : l.length ≤ big63) (hf : ∀ d ∈ l, defFit d) : block_Print std l = some (printD l) := by
 unfold block_Print printD
 rw [block_Right_eq l hl hf, bd_some]
 cases hr : rightD l with
 | false => rfl
 | true =>
  simp only [rightD, Bool.and_eq_true, decide_eq_true_eq, List.all_eq_true] at hr
  have hok := fun d hd => mayD_ok (hr.2 d hd)
  have hlen : ∀ j, (defsL (l.take j)).length ≤ 64 * 20000 := fun j => by
   have h1 := flatten_le 20000 ((l.take j).map defL) fun x hx => by
    obtain ⟨d, hd, rfl⟩ := List.mem_map.1 hx
    exact defL_le (hok d (List.mem_of_mem_take hd))
   rw [List.length_map, List.length_take] at h1
   have h2 : min j l.length * 20000 ≤ 64 * 20000 := Nat.mul_le_mul_right _ (by omega)
   exact Nat.le_trans h1 h2
  rw [s_not, Bool.not_true, br_false]
  have := Loop_each (B := block_Print_B2 std l) (fun i (_ : Unit) => ((i : Int), defsL (l.take i))) l (fun _ _ (_ : Unit) => (.inl () : Unit ⊕ (ByteArray × Int))) (fun _ => cond (decide ((defsL l).length ≤ 8192)) (⟨(defsL l).toArray⟩, 0) (ByteArray.mk (Array.mk []), 2)) (fun i d u hd hi => by
   have ok := hok d (mem_at hd)
   have hli := hlen i
   have st := ok.typ
   have q7 : (ByteArray.mk (Array.mk [100, 101, 102, 105, 110, 101, 32])).size = 7 := rfl
   have q2 : (ByteArray.mk (Array.mk [32, 123])).size = 2 := rfl
   have q1 : (ByteArray.mk (Array.mk [10])).size = 1 := rfl
   have c1 : std.catOk (ByteArray.mk (Array.mk [100, 101, 102, 105, 110, 101, 32])) d.Typ := by rw [s_catOk, q7]; omega
   have c2 : std.catOk (ByteArray.mk (Array.mk [100, 101, 102, 105, 110, 101, 32]) ++ d.Typ) (ByteArray.mk (Array.mk [32, 123])) := by rw [s_catOk, ByteArray.size_append, q7, q2]; omega
   have c3 : std.catOk (ByteArray.mk (Array.mk [100, 101, 102, 105, 110, 101, 32]) ++ d.Typ ++ ByteArray.mk (Array.mk [32, 123])) (ByteArray.mk (Array.mk [10])) := by rw [s_catOk, ByteArray.size_append, ByteArray.size_append, q7, q2, q1]; omega
   unfold block_Print_B2
   simp only [get_nat (t := TyS.dfn) hd, s_cat]
   rw [len_nat, lssT hi, br_true, ck_t (inbT hi), ck_t c1, ck_t c2, ck_t c3]
   have hb : bytes (ByteArray.mk (Array.mk [100, 101, 102, 105, 110, 101, 32]) ++ d.Typ ++ ByteArray.mk (Array.mk [32, 123]) ++ ByteArray.mk (Array.mk [10])) = [100, 101, 102, 105, 110, 101, 32] ++ bytes d.Typ ++ [32, 123] ++ [10] := by
    rw [bytes_app, bytes_app, bytes_app]
   have hz : (ByteArray.mk (Array.mk [100, 101, 102, 105, 110, 101, 32]) ++ d.Typ ++ ByteArray.mk (Array.mk [32, 123]) ++ ByteArray.mk (Array.mk [10])).size ≤ 1000 := by
    simp only [ByteArray.size_append]; omega
   rw [write_eq _ _ (by omega), bd_some, hb, block_keys_eq l i d hd ok _ (by simp only [List.length_append, len_bytes, List.length_cons, List.length_nil]; omega) (by omega)]
   unfold defsL
   rw [take_flat defL hd]
   simp only [defL, List.append_assoc]) (fun _ => by
   have hli := hlen l.length
   rw [List.take_length] at hli
   unfold block_Print_B2 strings_Builder_Len
   simp only
   rw [len_nat, lssF, br_false, bd_some, List.take_length, show std.cmp .gtr (std.len TyS.byte (defsL l)) 8192 = !decide ((defsL l).length ≤ 8192) from gtr_len (t := TyS.byte) (defsL l) 8192]
   by_cases h8 : (defsL l).length ≤ 8192
   ·rw [decide_eq_true h8, Bool.not_true, br_false]
    unfold strings_Builder_String
    rw [ck_t (by omega), bd_some]
    rfl
   ·rw [decide_eq_false h8, Bool.not_false, br_true]
    rfl) ()
  rw [runL_end] at this
  exact this
end Go.PL
namespace Go.PL
set_option linter.unusedSimpArgs false
set_option linter.unusedVariables false
set_option linter.unusedSectionVars false
open Tys (Ty U)
open Enc (sz enc dflt tb ofB toB)
open Dec (dec dok)
set_option maxRecDepth 100000
def oddS (x : Label) : Bool := Lib.contains (bytes x.Value) [59] || Lib.hasSuffix (bytes x.Value) [32]
theorem nagfile_odd_eq (x : Label) (h : x.Value.size ≤ 64) : nagfile_odd std x = some (oddS x) := by
 unfold nagfile_odd oddS strings_Contains strings_HasSuffix
 rw [ck_t (by omega), bd_some, ck_t (by omega), gd_b (fun _ => rfl), bd_some]
 simp only [s_lor, s_not]
 show some (Lib.contains (bytes x.Value) [59] || (!Lib.contains (bytes x.Value) [59] && Lib.hasSuffix (bytes x.Value) [32])) = _
 cases Lib.contains (bytes x.Value) [59] <;> rfl
def oddR (r : Rule) : Bool := r.Labels.any oddS
def six (c : Config) (a b d : Bool) : List WhyW := [WhyW.mk (ByteArray.mk (Array.mk [114, 111, 117, 116, 101, 115])) (std.cmp .gtr (std.len TyS.route c.2.9) 0), WhyW.mk (ByteArray.mk (Array.mk [103, 114, 111, 117, 112])) (std.cmp .gtr (std.len TyS.str c.2.3) 0), WhyW.mk (ByteArray.mk (Array.mk [105, 110, 104, 105, 98, 105, 116])) (std.cmp .gtr (std.len TyS.inhibit c.4) 0), WhyW.mk (ByteArray.mk (Array.mk [102, 111, 114])) a, WhyW.mk (ByteArray.mk (Array.mk [107, 101, 101, 112])) b, WhyW.mk (ByteArray.mk (Array.mk [108, 97, 98, 101, 108])) d]
def saidW (l : List WhyW) : List ByteArray := (l.filter (·.is)).map (·.word)
def whyS (c : Config) : List ByteArray := saidW (six c (c.Rules.any fun r => r.For != 0) (c.Rules.any fun r => r.Keep != 0) (c.Rules.any oddR))
theorem said_le (l : List WhyW) : (saidW l).length ≤ l.length := by
 unfold saidW
 rw [List.length_map]; exact List.length_filter_le ..
theorem why_loop (B : List ByteArray × Int → Option ((List ByteArray × Int) ⊕ List ByteArray)) (xs : List WhyW) (hl : xs.length ≤ 100)
  (hB : ∀ out i, B (out, i) = br (std.cmp .lss i (std.len TyS.whyw xs)) (ck (std.inb i (std.len TyS.whyw xs)) <| br (std.get TyS.whyw xs i).2 (ck (std.appOk TyS.str 16 out [(std.get TyS.whyw xs i).1]) <| some (.inl (std.app TyS.str out [(std.get TyS.whyw xs i).1], std.ar .add .i64 i 1))) (some (.inl (out, std.ar .add .i64 i 1)))) (rt (some out))) : Loop B ([], 0) = some (saidW xs) := by
 have := Loop_each (B := B) (fun i (_ : Unit) => (saidW (xs.take i), (i : Int))) xs (fun _ _ (_ : Unit) => (.inl () : Unit ⊕ List ByteArray)) (fun _ => saidW xs) (fun i x u hx hi => by
  rw [hB, len_nat, lssT hi, br_true, ck_t (inbT hi), get_nat (t := TyS.whyw) hx, s_add, wrap_succ hi (by unfold big63; omega), take_snoc hx]
  have h1 := said_le (xs.take i)
  rw [List.length_take] at h1
  unfold saidW at h1 ⊢
  rw [List.filter_append, List.map_append]
  cases hx2 : x.2 with
  | true =>
   rw [br_true, ck_t (show std.appOk TyS.str 16 _ [x.1] from ⟨by simp only [List.length_singleton]; omega, by simp only [List.length_singleton]; omega⟩)]
   simp [hx2]
  | false => simp [br_false, hx2]) (fun _ => by
  rw [hB, len_nat, lssF, br_false, List.take_length]
  rfl) ()
 rw [runL_end] at this
 exact this
theorem rules_labels {c : Config} (h : configS c = true) : ∀ r ∈ c.Rules, labelsS r.Labels = true ∧ r.Labels.length ≤ 4 := fun r hr => by
 have := (configS_ok h).rules.2.1 r hr
 simp only [ruleS, Bool.and_eq_true, decide_eq_true_eq] at this
 exact ⟨this.1.2, this.1.1.2⟩
theorem nagfile_Why_eq (c : Config) (hf : configFit c) : nagfile_Why std c = some (cond (configS c) (whyS c) []) := by
 unfold nagfile_Why
 rw [config_Right_eq c hf, bd_some]
 cases hp : configS c with
 | false => rfl
 | true =>
  have hl := rules_labels hp
  have e1 : ∀ (p : Rule → Bool) (q : Rule → Option Bool), (∀ r ∈ c.Rules, q r = some (p r)) → nagfile_Why_1 std q c = some (c.Rules.any p) := fun p q hq => by
   unfold nagfile_Why_1
   rw [contains_Rule c.1 p q hq hf.1.1, bd_some]
  rw [s_not, Bool.not_true, br_false, e1 (fun r => r.For != 0) (fun y0 => nagfile_Why_2 std y0) (fun r _ => rfl), bd_some, e1 (fun r => r.Keep != 0) (fun y0 => nagfile_Why_3 std y0) (fun r _ => rfl), bd_some, e1 oddR (fun y0 => nagfile_Why_4 std y0) (fun r hr => by
   unfold nagfile_Why_4
   obtain ⟨h1, h2⟩ := hl r hr
   have hm := labelsS_mem h1
   have : slices_ContainsFunc_Label_Label std r.8 (fun y0 => nagfile_odd std y0) = some (r.Labels.any oddS) := by
    have h3 : slices_IndexFunc_Label_Label std r.8 (fun y0 => nagfile_odd std y0) = some (fnd r.Labels oddS) := index_Label r.Labels oddS _ (fun x hx => nagfile_odd_eq x (by
     have := hm x hx
     simp only [labelS, valueS, Bool.and_eq_true, decide_eq_true_eq] at this
     exact this.2.2)) (by unfold big63; omega)
    unfold slices_ContainsFunc_Label_Label
    rw [h3, bd_some, s_geq, any_find]
   rw [this, bd_some]
   rfl), bd_some]
  exact why_loop (nagfile_Why_B1 std c _ _ _) (six c _ _ _) (by show 6 ≤ 100; omega) (fun out i => rfl)
def holdsN (c : Config) : Bool := configS c && decide ((whyS c).length = 0)
theorem nagfile_Holds_eq (c : Config) (hf : configFit c) : nagfile_Holds std c = some (holdsN c) := by
 unfold nagfile_Holds holdsN
 rw [config_Right_eq c hf, bd_some, nagfile_Why_eq c hf]
 cases hp : configS c with
 | false => rfl
 | true =>
  rw [gd_t, bd_some, cond_true]
  have : std.cmp .eql (std.len TyS.str (whyS c)) 0 = decide ((whyS c).length = 0) := by rw [len_nat, s_eql, Bool.eq_iff_iff]; simp
  rw [this]; rfl
def contactD (s : ByteArray) : Def := ⟨ByteArray.mk (Array.mk [99, 111, 110, 116, 97, 99, 116]), [ByteArray.mk (Array.mk [110, 97, 109, 101])], [s]⟩
def itoaS (n : Int) : ByteArray := ⟨(Lib.itoa n).toArray⟩
def aliveN : Def := ⟨ByteArray.mk (Array.mk [110, 111, 116, 105, 102, 121]), [ByteArray.mk (Array.mk [99, 111, 110, 116, 97, 99, 116]), ByteArray.mk (Array.mk [119, 97, 105, 116]), ByteArray.mk (Array.mk [101, 118, 101, 114, 121]), ByteArray.mk (Array.mk [114, 101, 112, 101, 97, 116])], [opsT, itoaS 0, itoaS 1, itoaS 1]⟩
theorem aliveD_ok : configS aliveD = true := by kernel_rfl
theorem aliveD_normN : normS aliveD = aliveD := by kernel_rfl
theorem aliveD_why : holdsN aliveD = true := by kernel_rfl
theorem itoa_some (n : Int) (h : -1000 ≤ n ∧ n ≤ 1000) : strconv_Itoa std n = some (itoaS n) := by
 unfold strconv_Itoa
 exact ck_t ⟨by omega, by omega⟩
theorem aliveD_notify : nagfile_notifies std aliveD.Route = some aliveN := by
 unfold nagfile_notifies
 rw [show aliveD.Route.4 = 0 from rfl, show aliveD.Route.5 = 1 from rfl, show aliveD.Route.6 = 1 from rfl, itoa_some 0 (by omega), bd_some, itoa_some 1 (by omega), bd_some, bd_some]
 have : ∀ d s, nagfile_listed std d s [] = some d := fun d s => by
  unfold nagfile_listed
  rw [Loop_eq]; rfl
 show (bd (nagfile_listed std _ _ []) fun w4 => some w4) = _
 rw [this, bd_some]
 rfl
theorem aliveD_blocks : nagfile_blocks std aliveD = some [contactD opsT, aliveN] := by
 unfold nagfile_blocks
 have e1 : nagfile_blocks_B2 std aliveD ([], 0) = some (.inl ([contactD opsT], 1)) := by
  unfold nagfile_blocks_B2
  simp only
  rw [show std.cmp .lss 0 (std.len TyS.str aliveD.3) = true from rfl, br_true, ck_t (show std.inb 0 (std.len TyS.str aliveD.3) from ⟨by omega, by show (0 : Int) < 1; omega⟩)]
  unfold nagfile_contacts
  rw [bd_some, ck_t (show std.appOk TyS.dfn 64 [] [_] from ⟨by simp, by simp⟩)]
  rfl
 have e2 : nagfile_blocks_B2 std aliveD ([contactD opsT], 1) = some (.inr [contactD opsT, aliveN]) := by
  unfold nagfile_blocks_B2
  simp only
  rw [show std.cmp .lss 1 (std.len TyS.str aliveD.3) = false from rfl, br_false, show aliveD.2 = aliveD.Route from rfl, aliveD_notify, bd_some, ck_t (show std.appOk TyS.dfn 64 [contactD opsT] [aliveN] from ⟨by simp, by simp⟩), Loop_eq]
  rfl
 have e3 : Loop (nagfile_blocks_B2 std aliveD) ([], 0) = some [contactD opsT, aliveN] := by
  rw [Loop_eq, e1]
  show Loop (nagfile_blocks_B2 std aliveD) ([contactD opsT], 1) = _
  rw [Loop_eq, e2]
 rw [Loop_eq, show nagfile_blocks_B3 std aliveD ([], 0) = rt (Loop (nagfile_blocks_B2 std aliveD) ([], 0)) from rfl, e3]
 rfl
theorem aliveD_right : rightD [contactD opsT, aliveN] = true := by kernel_rfl
theorem aliveD_text : defsL [contactD opsT, aliveN] = [100, 101, 102, 105, 110, 101, 32, 99, 111, 110, 116, 97, 99, 116, 32, 123, 10, 9, 110, 97, 109, 101, 9, 111, 112, 115, 10, 125, 10, 100, 101, 102, 105, 110, 101, 32, 110, 111, 116, 105, 102, 121, 32, 123, 10, 9, 99, 111, 110, 116, 97, 99, 116, 9, 111, 112, 115, 10, 9, 119, 97, 105, 116, 9, 48, 10, 9, 101, 118, 101, 114, 121, 9, 49, 10, 9, 114, 101, 112, 101, 97, 116, 9, 49, 10, 125, 10] := by kernel_rfl
theorem alive13_eq : transhipmentlaw13_alive std = some true := by
 unfold transhipmentlaw13_alive
 have h1 : nagfile_Export std (Config.mk [] (Route.mk (ByteArray.mk (Array.mk [111, 112, 115])) [] [] 0 1 1 [] false []) [ByteArray.mk (Array.mk [111, 112, 115])] [] []) = some (⟨(defsL [contactD opsT, aliveN]).toArray⟩, 0) := by
  show nagfile_Export std aliveD = _
  unfold nagfile_Export
  rw [config_Normal_eq aliveD aliveD_fit, aliveD_ok, cond_true, aliveD_normN, bd_some]
  simp only
  rw [show std.cmp .neq 0 0 = false from rfl, br_false, nagfile_Holds_eq aliveD aliveD_fit, aliveD_why, bd_some, s_not, Bool.not_true, br_false, aliveD_blocks, bd_some, block_Print_eq _ (by show 2 ≤ big63; unfold big63; omega) (fun d hd => by
   simp only [List.mem_cons, List.mem_nil_iff, or_false] at hd
   rcases hd with rfl | rfl
   ·exact ⟨by show 1 ≤ big63; unfold big63; omega, by show 1 ≤ big63; unfold big63; omega⟩
   ·exact ⟨by show 4 ≤ big63; unfold big63; omega, by show 4 ≤ big63; unfold big63; omega⟩), bd_some]
  unfold printD
  rw [aliveD_right, cond_true, decide_eq_true (show (defsL [contactD opsT, aliveN]).length ≤ 8192 by rw [aliveD_text]; decide), cond_true]
 rw [h1, bd_some, aliveD_text]
 simp only
 rw [s_seql, decide_eq_true rfl]
 rfl
theorem many13_some : ∀ (n : Nat) (r : Route) (m : Int), SizeOf.sizeOf r < n → RouteFit r → ∃ v, transhipmentlaw13_many_N std n r m = some v
 | 0, r, m, h, _ => absurd h (Nat.not_lt_zero _)
 | n + 1, r, m, h, hf => by
  obtain ⟨_, _, _, _, h5, h6⟩ := fit_route hf
  rw [transhipmentlaw13_many_N, transhipmentlaw13_many_S]
  refine ⟨_, Loop_each (B := transhipmentlaw13_many_S_B1 std (transhipmentlaw13_many_N std n) r m) (fun i (s : Int) => (s, (i : Int))) r.Routes (fun _ k s => if decide (m < s) = true then (.inr s : Int ⊕ Int) else .inl (std.ar .add .i64 s ((transhipmentlaw13_many_N std n k (std.ar .sub .i64 m s)).getD 0))) (fun s => s) (fun i k s hk hi => ?_) (fun s => ?_) 1⟩
  ·unfold transhipmentlaw13_many_S_B1
   simp only
   obtain ⟨v, hv⟩ := many13_some n k (std.ar .sub .i64 m s) (by have := route_lt (mem_at hk); omega) (h6 k (mem_at hk))
   rw [len_nat, lssT hi, br_true, ck_t (inbT hi), get_nat (t := TyS.route) hk, s_gtr, hv, bd_some, s_add (a := (i : Int)), wrap_succ hi h5]
   cases decide (m < s) <;> rfl
  ·unfold transhipmentlaw13_many_S_B1
   simp only
   rw [len_nat, lssF, br_false]
   rfl
theorem big13_some (c : Config) (h : configFit c) : ∃ b, transhipmentlaw13_big std c = some b ∧ (b = false → Small c) := by
 unfold transhipmentlaw13_big
 obtain ⟨v, hv⟩ := many13_some (SizeOf.sizeOf c.Route + 1) c.Route 40 (Nat.lt_succ_self _) h.2.1
 unfold transhipmentlaw13_many
 rw [hv, bd_some]
 refine ⟨_, rfl, fun hb => ?_⟩
 simp only [s_lor, s_gtr, Bool.or_eq_false_iff, decide_eq_false_iff_not, s_len] at hb
 exact ⟨by omega, by omega, by omega, by omega⟩
def plainR (r : Rule) : Rule := ⟨r.1, r.2, r.3, r.4, 0, 0, r.7, []⟩
def plainT (r : Route) : Route := ⟨r.1, r.2, [], r.4, r.5, r.6, r.7, r.8, []⟩
def plainF (c : Config) : Config := ⟨c.Rules.map plainR, plainT c.Route, c.Receivers, [], c.Hours⟩
theorem plainR_ok {r : Rule} (h : ruleS r = true) : ruleS (plainR r) = true := by
 simp only [ruleS, Bool.and_eq_true, decide_eq_true_eq] at h ⊢
 obtain ⟨⟨⟨⟨⟨⟨⟨⟨⟨⟨⟨⟨a1, a2⟩, a3⟩, a4⟩, _⟩, _⟩, a5⟩, a6⟩, a7⟩, a8⟩, _⟩, _⟩, _⟩ := h
 exact ⟨⟨⟨⟨⟨⟨⟨⟨⟨⟨⟨⟨a1, a2⟩, a3⟩, a4⟩, rfl⟩, rfl⟩, a5⟩, a6⟩, a7⟩, a8⟩, by show (0 : Nat) ≤ 4; omega⟩, rfl⟩, rfl⟩
theorem plainF_ok {c : Config} (h : configS c = true) : configS (plainF c) = true := by
 have h0 := h
 simp only [configS, Bool.and_eq_true] at h0
 obtain ⟨⟨⟨⟨⟨h1, h2⟩, h3⟩, h4⟩, h5⟩, h6⟩ := h0
 have ok := configS_ok h
 have r1 : rulesS (plainF c) = true := by
  have e : ruleNames (plainF c) = ruleNames c := by
   simp only [ruleNames, plainF, List.map_map]; rfl
  simp only [rulesS, Bool.and_eq_true, decide_eq_true_eq, List.all_eq_true] at h1 ⊢
  rw [e]
  refine ⟨⟨by show (c.Rules.map plainR).length ≤ 16; rw [List.length_map]; exact h1.1.1, fun r hr => ?_⟩, h1.2⟩
  obtain ⟨x, hx, rfl⟩ := List.mem_map.1 hr
  exact plainR_ok (h1.1.2 x hx)
 have h5' := h5
 simp only [topS, routeS, Bool.and_eq_true, decide_eq_true_eq] at h5'
 obtain ⟨⟨⟨⟨t1, _⟩, t2⟩, t3⟩, t4⟩ := h5'
 have r5 : topS (plainF c) = true := by
  simp only [oneS, Bool.and_eq_true, decide_eq_true_eq] at t1
  obtain ⟨⟨⟨⟨⟨⟨⟨b1, b2⟩, b3⟩, b4⟩, b5⟩, b6⟩, b7⟩, b8⟩ := t1
  simp only [topS, routeS, oneS, Bool.and_eq_true, decide_eq_true_eq]
  exact ⟨⟨⟨⟨⟨⟨⟨⟨⟨⟨⟨b1, b2⟩, by show (0 : Nat) ≤ 16; omega⟩, rfl⟩, b5⟩, b6⟩, b7⟩, b8⟩, rfl⟩, t2⟩, t3⟩, by show 1 ≤ 32; omega⟩
 have r6 : namesS (plainF c) = true := by
  unfold namesS at h6 ⊢
  rw [List.all_eq_true] at h6 ⊢
  intro r hr
  have e : allD 4 (plainF c).Route = [plainT c.Route] := rfl
  rw [e, List.mem_singleton] at hr
  subst hr
  exact h6 c.Route (allD_head ok.top)
 show (rulesS (plainF c) && receiversS c && true && hoursS c && topS (plainF c) && namesS (plainF c)) = true
 rw [r1, h2, h4, r5, r6]
 rfl
theorem any_map_false {α : Type} (f : α → Rule) (p : Rule → Bool) (l : List α) (h : ∀ x, p (f x) = false) : (l.map f).any p = false := by
 rw [List.any_eq_false]
 intro x hx
 obtain ⟨y, _, rfl⟩ := List.mem_map.1 hx
 rw [h]; simp
theorem plainF_why (c : Config) : whyS (plainF c) = [] := by
 have e1 : ((plainF c).Rules.any fun r => r.For != 0) = false := any_map_false plainR _ _ fun x => rfl
 have e2 : ((plainF c).Rules.any fun r => r.Keep != 0) = false := any_map_false plainR _ _ fun x => rfl
 have e3 : ((plainF c).Rules.any oddR) = false := any_map_false plainR _ _ fun x => rfl
 unfold whyS
 rw [e1, e2, e3]
 rfl
theorem plainF_fit {c : Config} (h : configFit c) : configFit (plainF c) := by
 obtain ⟨r1, r2, r3, r4, r5, r6⟩ := fit_route h.2.1
 refine ⟨⟨by rw [show (plainF c).Rules.length = c.Rules.length from List.length_map ..]; exact h.1.1, fun r hr => ?_⟩, .mk _ r1 r2 fitL_nil r4 (by simp [plainF, plainT]) (fun k hk => by cases hk), h.2.2.1, fitL_nil, h.2.2.2.2⟩
 obtain ⟨x, hx, rfl⟩ := List.mem_map.1 hr
 obtain ⟨a, b, _⟩ := h.1.2 x hx
 exact ⟨a, b, fitL_nil⟩
theorem why_mem {c : Config} {w : ByteArray} (h : w ∈ whyS c) : w ∈ (six c false false false).map (·.word) := by
 unfold whyS saidW at h
 obtain ⟨x, hx, rfl⟩ := List.mem_map.1 h
 have := (List.mem_filter.1 hx).1
 have e : ∀ a b d, (six c a b d).map (·.word) = (six c false false false).map (·.word) := fun _ _ _ => rfl
 rw [← e]
 exact List.mem_map.2 ⟨x, this, rfl⟩
theorem NagWhy_true (c : Config) (hc : configFit c) : transhipmentlaw13_NagWhy std c = some true := by
 unfold transhipmentlaw13_NagWhy
 obtain ⟨w1, h1, s1⟩ := big13_some c hc
 rw [h1, bd_some, config_Right_eq c hc, alive13_eq]
 cases w1 with
 | true => rfl
 | false =>
  rw [s_not, Bool.not_false, gd_t, bd_some]
  cases hp : configS c with
  | false => rfl
  | true =>
   have ok := configS_ok hp
   have hn := ok.rules.1
   rw [show std.or false (std.not true) = false from rfl, br_false]
   have hend : ∀ R, R = c.Rules.map plainR → Loop (transhipmentlaw13_NagWhy_B1 std c R (whyS c)) (false, 0) = some true := fun R hR => by
    subst hR
    have hw6 : (whyS c).length ≤ 6 := said_le _
    have := Loop_each (B := transhipmentlaw13_NagWhy_B1 std c (c.Rules.map plainR) (whyS c)) (fun i (_ : Unit) => (false, (i : Int))) (whyS c) (fun _ _ (_ : Unit) => (.inl () : Unit ⊕ Bool)) (fun _ => true) (fun i w u hw hi => by
     unfold transhipmentlaw13_NagWhy_B1
     simp only [get_nat (t := TyS.str) hw]
     rw [len_nat, lssT hi, br_true, ck_t (inbT hi), s_add, wrap_succ hi (by unfold big63; omega)]
     have hm := why_mem (mem_at hw)
     simp only [six, List.map_cons, List.map_nil, List.mem_cons, List.mem_nil_iff, or_false] at hm
     rcases hm with rfl | rfl | rfl | rfl | rfl | rfl <;> simp [br]) (fun _ => by
     unfold transhipmentlaw13_NagWhy_B1
     simp only
     have f1 := plainF_fit hc
     have e1 : nagfile_Holds std (Config.mk (c.Rules.map plainR) (Route.mk c.2.1 c.2.2 [] c.2.4 c.2.5 c.2.6 c.2.7 c.2.8 []) c.3 [] c.5) = some true := by
      have := nagfile_Holds_eq (plainF c) f1
      unfold holdsN at this
      rw [plainF_ok hp, plainF_why] at this
      exact this
     have e2 : nagfile_Why std (Config.mk (c.Rules.map plainR) (Route.mk c.2.1 c.2.2 [] c.2.4 c.2.5 c.2.6 c.2.7 c.2.8 []) c.3 [] c.5) = some [] := by
      have := nagfile_Why_eq (plainF c) f1
      rw [plainF_ok hp, plainF_why] at this
      exact this
     have e3 : std.cmp .eql (std.len TyS.str (whyS c)) 0 = decide ((whyS c).length = 0) := by rw [len_nat, s_eql, Bool.eq_iff_iff]; simp
     rw [len_nat, lssF, br_false, alive13_eq, bd_some, gd_t, nagfile_Holds_eq c hc, bd_some, gd_t, nagfile_Why_eq c hc, bd_some, e1, e2]
     unfold holdsN
     rw [hp, cond_true, Bool.true_and, e3]
     cases decide ((whyS c).length = 0) <;> rfl) ()
    rw [runL_end] at this
    exact this
   have := Loop_each (B := transhipmentlaw13_NagWhy_B2 std c) (fun i (_ : Unit) => ((i : Int), (c.Rules.take i).map plainR)) c.Rules (fun _ _ (_ : Unit) => (.inl () : Unit ⊕ Bool)) (fun _ => true) (fun i r u hr hi => by
    unfold transhipmentlaw13_NagWhy_B2
    simp only [get_nat (t := TyS.rule) hr]
    rw [len_nat, lssT hi, br_true, ck_t (inbT hi), ck_t (show std.appOk TyS.rule 96 ((c.Rules.take i).map plainR) [_] from ⟨by simp; omega, by simp; omega⟩), s_add, wrap_succ hi (by unfold big63; omega), take_snoc hr, List.map_append]
    rfl) (fun _ => by
    unfold transhipmentlaw13_NagWhy_B2
    simp only
    rw [len_nat, lssF, br_false, nagfile_Why_eq c hc, hp, cond_true, bd_some, List.take_length, hend _ rfl]
    rfl) ()
   rw [runL_end] at this
   exact this
end Go.PL
