/- Texts of this claim: plain laws of what the program's functions compute. No condition of their own. -/
import Derived.Test.YtnkaolleaebhnaaGreatDoorDlLa
import Derived.Laws.BytesArg
import Derived.LaidEqlPtr
import Derived.Laws.StructEq
import Derived.ChangeKeysEq
import Derived.Lib.Builder
import Derived.Laws.Strings
import Derived.Maps.RangeRun
import Derived.OrdersIn
import Derived.RangeFuncMany
namespace Go.PL
set_option linter.unusedSimpArgs false
set_option linter.unusedVariables false
set_option linter.unusedSectionVars false
open Tys (Ty U)
open Enc (sz enc dflt tb ofB toB)
open Dec (dec dok)
variable [Tys] [Enc] [Dec]
def remk : List En → Nat → List En
 | [], _ => []
 | e :: r, k => if e.k = k then remk r k else e :: remk r k
theorem den_remk (l : List En) (k k' g' : Nat) : den (remk l k) k' g' = if k' = k then none else den l k' g' := by
 induction l with
 | nil => simp [remk, den]
 | cons e r ih =>
  simp only [remk]
  by_cases h : e.k = k
  ·rw [if_pos h, ih]
   by_cases h2 : k' = k
   ·simp [h2]
   ·have : ¬ (e.k = k' ∧ e.g = g') := fun x => h2 (x.1.symm.trans h)
    simp [h2, den, this]
  ·rw [if_neg h]
   simp only [den, ih]
   by_cases h2 : k' = k
   ·subst h2
    have : ¬ (e.k = k' ∧ e.g = g') := fun x => h x.1
    simp [this]
   ·simp [h2]
theorem castD {w : World} {Z : Nat → Nat → Prop} {y : Value} {t t' : Ty} {xs : List (U t)} {ys : List (U t')} (h : Dec.cast t t' xs = some ys) (hy : RD w Z y (.sl t xs)) : RD w Z y (.sl t' ys) := by
 have := Dec.cast_ok t t' xs ys h
 have e : D.sl t xs = D.sl t' ys := by
  have h2 : (fun p : (t : Ty) × List (U t) => D.sl p.1 p.2) ⟨t, xs⟩ = (fun p : (t : Ty) × List (U t) => D.sl p.1 p.2) ⟨t', ys⟩ := by rw [this]
  exact h2
 rw [← e]; exact hy
theorem sz_tb : sz tb = 1 := by
 have h1 := Enc.len tb (ofB 0)
 rw [Enc.encB] at h1
 simpa using h1.symm
def srcL (A : Ar) (kd : TK) (p : PV) (t : Ty) : Option (List (U t)) := match kd, p with
 | .slice _, .d (.sl t2 ys) => Dec.cast t2 t ys
 | .slice _, .os _ _ t2 ys => Dec.cast t2 t ys
 | .slice _, .d (.v (.slice none 0 0)) => some []
 | .string, .d (.v (.string b)) => Dec.cast tb t (A.s2b b)
 | _, _ => none
theorem Aqt {w : World} {Z : Nat → Nat → Prop} (b : ByteArray) : Rows w Z tb (std.s2b b) (byteCells b) := by
 refine ⟨by rw [byteCells_length, sz_tb, Nat.mul_one]; simp [std], fun j i x d hx hd => ?_⟩
 simp only [std, List.getElem?_map] at hx
 cases hq : b.data.toList[j]? with
 | none => simp [hq] at hx
 | some c =>
  simp [hq] at hx; subst hx
  rw [Enc.encB] at hd
  cases i with
  | zero =>
   simp at hd; subst hd
   refine ⟨.int .u8 c.toNat, ?_, ?_⟩
   ·rw [sz_tb, Nat.mul_one, Nat.add_zero]
    simp only [byteCells, List.getElem?_map, hq]
    rfl
   ·rw [Enc.toOf]; exact .v _
  | succ i => simp at hd
theorem Atq {P : Program} {T : TypeId} {r : TR} (hT : TOk P T r) {p : PV} {t : Ty} {ys : List (U t)} (h : srcL std r.k p t = some ys) {μ : Nmap} {w : World} {Z : Nat → Nat → Prop} {y : Value} (hy : RP μ w Z y p) :
  ∃ news, Src P (sz t) T y ys.length news w ∧ Rows w Z t ys news := by
 obtain ⟨i, d, _, h2, _, _, _, h5⟩ := hT
 unfold srcL at h
 split at h
 ·rename_i e t2 ys2 hk
  rw [hk] at h5
  obtain rfl := KOk.slice h5
  have hd : RD w Z y (.sl t ys) := castD h (by cases hy with | d _ _ h => exact h)
  obtain ⟨a, cap, news, rfl, h6, h7, h8⟩ := hd.rows
  exact ⟨news, Src.of_rows h2 h6.1 h7 (by
   rcases h8 with ⟨h9, h10⟩ | h8
   ·exact .inl ⟨h9, by simp [h10]⟩
   ·exact .inr h8), h6⟩
 ·rename_i e k' g' t2 ys2 hk
  rw [hk] at h5
  obtain rfl := KOk.slice h5
  have hd : RD w Z y (.sl t ys) := castD h hy.os_sl
  obtain ⟨a, cap, news, rfl, h6, h7, h8⟩ := hd.rows
  exact ⟨news, Src.of_rows h2 h6.1 h7 (by
   rcases h8 with ⟨h9, h10⟩ | h8
   ·exact .inl ⟨h9, by simp [h10]⟩
   ·exact .inr h8), h6⟩
 ·rename_i e hk
  rw [hk] at h5
  obtain rfl := KOk.slice h5
  simp at h; subst h
  rw [hy.val]
  exact ⟨[], Src.ofNil w h2 0, ⟨by simp, fun j i x d hx => by simp at hx⟩⟩
 ·rename_i b hk
  rw [hk] at h5
  obtain rfl := KOk.string h5
  rw [hy.val]
  have hs := Dec.cast_ok tb t _ _ h
  cases hs
  refine ⟨byteCells b, ?_, Aqt b⟩
  have := Src.ofString (P := P) w h2 b
  rw [sz_tb]
  have hl : (std.s2b b).length = b.size := by simp [std]
  rw [hl]; exact this
 ·cases h
def opApp (C : Ctx) (A : Ar) (ow c : Bool) (s : St) (dst : Option Nat) (T T2 : TypeId) (x y : Operand) (k : PV → List En → Prop) : Prop :=
 match ow, dst, C.ti T, C.ti T2 with
 | true, some d, some ⟨.slice e, _, _, _⟩, some r2 => match C.ti e, C.ety e with
  | some r, some te => strip c (opd C s.env x) fun p => strip c (opd C s.env y) fun q => match p with
   | .os kk g t xs => match find s.sto kk, srcL A r2.k q t with
    | some (g', .tok TT t' n), some ys => vc c (g' = g) ∧ (TT = e) ∧ vc c (n = A.nlen t xs) ∧ (sz t' = sz t) ∧ (r.size = sz t) ∧ vc c (A.appOk t r.bytes xs ys) ∧
      k (.os d s.gen t (A.app t xs ys)) (⟨d, s.gen, .tok e t (A.nlen t (A.app t xs ys))⟩ :: remk s.sto kk)
    | _, _ => False
   | .d (.v (.slice none 0 0)) => match srcL A r2.k q te with
    | some ys => vc c (A.appOk te r.bytes [] ys) ∧ k (.os d s.gen te (A.app te [] ys)) (⟨d, s.gen, .tok e te (A.nlen te (A.app te [] ys))⟩ :: s.sto)
    | none => False
   | _ => False
  | _, _ => False
 | _, _, _, _ => False
theorem opApp_ok {C : Ctx} {A : Ar} (hA : A = std) (hC : C.OK) {o : Oper} {ow c : Bool} {s : St} {T T2 : TypeId} {x y : Operand} (ho : o.op = .call { callee := .builtin .append, args := #[x, y], argTypes := #[T, T2] }) :
  Snd C o ow c s (opApp C A ow c s o.dst T T2 x y) := by
 subst hA
 intro k h0
 have hrun : ∀ (w : World) (ρ : Operand → Value), (execOp ρ o).run C.P w = ((Builtin.append_ #[T, T2] o.type #[ρ x, ρ y]).run C.P w).andThen fun v w => .ok (.value v) w := by
  intro w ρ
  simp [execOp, ho, resolve, invoke, builtin]
 have hmx : x ∈ o.op.operands := by simp [ho, Op.operands, Call.operands]
 have hmy : y ∈ o.op.operands := by simp [ho, Op.operands, Call.operands]
 unfold opApp at h0
 split at h0
 ·rename_i d e _ _ _ r2 hd hT hT2
  split at h0
  ·rename_i r te hr hte
   obtain ⟨r', hr', hsz⟩ := hC.ety e te hte
   rw [hr] at hr'; obtain rfl := Option.some.inj hr'
   obtain ⟨p, hpu, h', hp⟩ := Acz h0
   obtain ⟨q, h, hq⟩ := Aac (μ := fun _ _ => none) (w := default) (Z := fun _ _ => False) h'
   clear h0 h'
   obtain ⟨_, _, _, h2, _, _, _, h5⟩ := hC.ti T _ hT
   obtain rfl := KOk.slice h5
   have hT2' := hC.ti T2 _ hT2
   obtain ⟨i', d', hi', _, hs', hby', ⟨z, hz', hzc⟩, hkr⟩ := hC.ti e r hr
   split at h
   ·rename_i kk g t xs
    split at h
    ·rename_i g' TT t' n ys hf hys
     obtain ⟨hg, hTT, hn, hst, hrs, hok, h⟩ := h
     rw [hTT] at hf
     refine ⟨_, _, h, fun hc => ⟨fun k' g'' => if k' = kk then den s.sto k' g'' else none, single d s.gen (.tok e t (xs ++ ys).length), ?_, ?_, ?_, ?_, fun h => by simp [foot, ho] at h⟩, fun h => by cases h⟩
     ·intro μ w Z ρ _ hx hw hfr
      obtain rfl := Aae hg hc
      obtain rfl := Aae hn hc
      obtain ⟨hb1, hb2⟩ : (xs.length + ys.length) * r.bytes ≤ 140737488355328 ∧ xs.length + ys.length ≤ 140737488355328 := Aae hok hc
      obtain ⟨news, h6, h7⟩ := Atq hT2' hys (hq μ w Z _ hc (hx y hmy))
      have hzs : z.cells.size = sz t := by
       have h1 : z.cells.toList.length = z.cells.size := by simp
       rw [← h1, hzc, hby'.2.1, hrs]
      have h8 := hp μ w Z _ hc (hx x hmx)
      have hent := hw.ent kk g' (.tok e t' (std.nlen t xs)) (by simp [Aa6 hf])
      have hX : (ρ x = .slice none 0 0 ∧ xs = []) ∨ ∃ b cap cs, ρ x = .slice (some ⟨b, 0, none⟩) xs.length cap ∧ w.heap[b]? = some (.cells cs e (0, 0)) ∧ xs.length ≤ cap ∧ cap * sz t ≤ cs.size ∧ RD w Z (ρ x) (.sl t xs) ∧
        (∀ o, xs.length * sz t ≤ o → ¬ Z b o) ∧ ∃ k g c, (fun k' g'' => if k' = kk then den s.sto k' g'' else none : Mem) k g = some c ∧ μ k g = some (some b) := by
       generalize hxe : ρ x = X at h8 ⊢
       generalize hpe : PV.os kk g' t xs = pp at h8
       cases h8 <;> simp at hpe
       case osN k0 g0 t0 h9 =>
        obtain ⟨rfl, rfl, rfl, h10⟩ := hpe
        simp at h10; exact .inl ⟨rfl, h10⟩
       case os k0 g0 t0 xs0 b n0 cap m T0 hμ hrd hn hcap hsh hm =>
        obtain ⟨rfl, rfl, rfl, h10⟩ := hpe
        simp at h10; subst h10
        rcases hent with ⟨h11, _⟩ | ⟨b', cs, h11, h12, h13⟩
        ·rw [hμ] at h11; cases h11
        ·rw [hμ] at h11; obtain rfl := Option.some.inj (Option.some.inj h11)
         subst hn
         simp only [World.shape?, h12, Option.some.injEq, Prod.mk.injEq] at hsh
         refine .inr ⟨b, cap, cs, rfl, h12, hcap, by rw [hsh.2]; exact hm, hrd, fun o ho => h13 o (by rw [hst]; exact ho), kk, g', .tok e t' (std.nlen t xs), by simp [Aa6 hf], hμ⟩
      obtain ⟨val, w', y', Z', h9, h10, h11, h12⟩ := A09 (P := C.P) (ty := o.type) h2 hi' hz' (t := t) (by rw [hs', hrs]) hzs hw.zlt (hfr d hd) h6 h7 hX (by rw [hby'.1]; exact hb1) hb2
      refine ⟨val, w', _, Z', .inl ?_, h10, h11, h12, Aec o.dst hd⟩
      rw [hrun, h9]; rfl
     ·intro k1 g1 c1 h1
      simp only at h1
      split at h1
      ·exact h1
      ·cases h1
     ·funext k1 g1
      rw [den_cons]
      simp only [mput, den_remk, emp]
      cases hs1 : single d s.gen (.tok e t (std.nlen t (std.app t xs ys))) k1 g1 with
      | some c1 =>
       have h9 : single d s.gen (.tok e t (xs ++ ys).length) k1 g1 = some c1 := hs1
       rw [h9]
      | none =>
       have : single d s.gen (.tok e t (xs ++ ys).length) k1 g1 = none := hs1
       simp only [this]
       by_cases hk : k1 = kk
       ·subst hk
        simp
        cases den s.sto k1 g1 <;> simp
       ·simp [hk]
     ·intro k1 g1 h1
      simp only [foot, ho, ← hpu, keyOf, hd]
      simp only [single] at h1
      split at h1
      ·rename_i h2; simp [h2]
      ·split at h1
       ·rename_i h2; simp [h2.1]
       ·simp at h1
    ·exact h.elim
   ·split at h
    ·rename_i ys hys
     obtain ⟨hok, h⟩ := h
     refine ⟨_, _, h, fun hc => ⟨emp, single d s.gen (.tok e te ([] ++ ys).length), ?_, fun _ _ _ h => by simp [emp] at h, den_cons _ _, fun k g h => by
      simp only [emp, single] at h
      split at h
      ·rename_i h1; simp [foot, ho, hd, h1.1]
      ·simp at h, fun h => by simp [foot, ho] at h⟩, fun h => by cases h⟩
     intro μ w Z ρ _ hx hw hfr
     obtain ⟨hb1, hb2⟩ : (([] : List (U te)).length + ys.length) * r.bytes ≤ 140737488355328 ∧ ([] : List (U te)).length + ys.length ≤ 140737488355328 := Aae hok hc
     obtain ⟨news, h6, h7⟩ := Atq hT2' hys (hq μ w Z _ hc (hx y hmy))
     have hzs : z.cells.size = sz te := by
      have h1 : z.cells.toList.length = z.cells.size := by simp
      rw [← h1, hzc, hby'.2.1, hsz]
     have h8 := (hp μ w Z _ hc (hx x hmx)).val
     obtain ⟨val, w', y', Z', h9, h10, h11, h12⟩ := A09 (P := C.P) (ty := o.type) (fp := emp) (xs := []) h2 hi' hz' (t := te) (by rw [hs', hsz]) hzs hw.zlt (hfr d hd) h6 h7 (.inl ⟨h8, rfl⟩) (by rw [hby'.1]; exact hb1) hb2
     refine ⟨val, w', _, Z', .inl ?_, h10, h11, h12, Aec o.dst hd⟩
     rw [hrun, h9]; rfl
    ·exact h.elim
   ·exact h.elim
  ·exact h0.elim
 ·exact h0.elim
end Go.PL
namespace Go.PL
set_option linter.unusedSimpArgs false
set_option linter.unusedVariables false
set_option linter.unusedSectionVars false
open Tys (Ty U)
open Enc (sz enc dflt tb ofB toB)
open Dec (dec dok)
open Go.Lib
variable [Tys] [Enc] [Dec]
def opS2B (C : Ctx) (A : Ar) (c : Bool) (s : St) (S T : TypeId) (x : Operand) (k : PV → List En → Prop) : Prop :=
 match C.ti S, C.ti T with
 | some ⟨.string, _, _, _⟩, some ⟨.slice e, _, _, _⟩ => match C.ti e with
  | some ⟨.int .u8, _, _, _⟩ => strip c (opd C s.env x) fun p => match p with
   | .d (.v (.string b)) => k (.d (.sl tb (A.s2b b))) s.sto
   | _ => False
  | _ => False
 | _, _ => False
theorem grown_bytes (w : World) (e : TypeId) (b : ByteArray) : Grown w (bytesWorld w e b) (.cells (bytesCells w e b) e ((bytesCells w e b).size, (bytesCells w e b).size + 1)) := by
 refine ⟨?_, by unfold bytesWorld World.freeze; split <;> rfl, by unfold bytesWorld World.freeze; split <;> rfl⟩
 apply Array.ext_getElem?
 intro i
 rw [Array.getElem?_push]
 by_cases h : i = w.heap.size
 ·subst h; simp [bytesWorld_at_new]
 ·rw [if_neg h]
  rcases Nat.lt_or_ge i w.heap.size with h1 | h1
  ·exact bytesWorld_at_old w e b i h1
  ·rw [Array.getElem?_eq_none (by rw [bytesWorld_size]; omega), Array.getElem?_eq_none h1]
theorem A3k {C : Ctx} {A : Ar} (hA : A = std) (hC : C.OK) {o : Oper} {ow c : Bool} {s : St} {S T : TypeId} {x : Operand} (ho : o.op = .convert S T x) : Snd C o ow c s (opS2B C A c s S T x) := by
 subst hA
 intro k h0
 unfold opS2B at h0
 split at h0
 ·rename_i e _ _ _ hS hT
  split at h0
  ·rename_i he
   obtain ⟨p, h, hp⟩ := Aac (μ := fun _ _ => none) (w := default) (Z := fun _ _ => False) h0
   clear h0
   split at h
   ·rename_i b
    obtain ⟨_, _, _, h2, _, _, _, h5⟩ := hC.ti S _ hS
    obtain rfl := KOk.string h5
    obtain ⟨_, _, _, h3, _, _, _, h6⟩ := hC.ti T _ hT
    obtain rfl := KOk.slice h6
    obtain ⟨_, _, _, h4, _, _, _, h7⟩ := hC.ti e _ he
    obtain rfl := KOk.int h7
    refine ⟨_, _, h, fun hc => ⟨emp, emp, ?_, fun _ _ _ h => by simp [emp] at h, (Ala _).symm, fun k g h => by simp [emp] at h, fun _ => rfl⟩, fun _ => rfl⟩
    intro μ w Z ρ hg hx hw hf
    have h1 := (hp μ w Z _ hc (hx x (by simp [ho, Op.operands]))).val
    have hr := Go.Lib.run_convert_string_bytes (P := C.P) w S T e b h2 h3 h4
    have hge : b.size ≤ grownCap w b.size 0 e := grownCap_ge w b.size 0 e
    have hl : (std.s2b b).length = b.size := by simp [std]
    obtain ⟨h8, h9, h10⟩ := Ava (t := tb) (xs := std.s2b b) (cap := grownCap w b.size 0 e) (grown_bytes w e b) hw (by rw [hl]; exact hge) (by
     intro j i y d hy hd
     obtain ⟨v, h11, h12⟩ := (Aqt (w := w) (Z := Z) b).2 j i y d hy hd
     refine ⟨v, ?_, h12⟩
     have hlt : j * sz tb + i < b.size := by
      have : j * sz tb + i < (byteCells b).length := by
       rcases Nat.lt_or_ge (j * sz tb + i) (byteCells b).length with h | h
       ·exact h
       ·rw [List.getElem?_eq_none h] at h11; cases h11
      rwa [byteCells_length] at this
     have hlt' : j * sz tb + i < b.data.size := hlt
     rw [bytesCells, Array.getElem?_append_left (by simpa using hlt')]
     simp only [byteCells, List.getElem?_map] at h11
     rw [Array.getElem?_map]
     simpa using h11)
    rw [hl] at h8
    refine ⟨_, _, _, _, .inl ?_, by rw [hl]; exact h8, h9, h10, fun _ _ _ => rfl⟩
    simp only [execOp, ho, h1, Sem.run_bind]
    rw [hr]; rfl
   ·exact h.elim
  ·exact h0.elim
 ·exact h0.elim
def opB2S (C : Ctx) (A : Ar) (c : Bool) (s : St) (S T : TypeId) (x : Operand) (k : PV → List En → Prop) : Prop :=
 match C.ti S, C.ti T with
 | some ⟨.slice e, _, _, _⟩, some ⟨.string, _, _, _⟩ => match C.ti e with
  | some ⟨.int .u8, _, _, _⟩ => strip c (opd C s.env x) fun p => match p with
   | .d (.sl t xs) => match Dec.cast t tb xs with
    | some bs => k (st (A.b2s bs)) s.sto
    | none => False
   | .os _ _ t xs => match Dec.cast t tb xs with
    | some bs => k (st (A.b2s bs)) s.sto
    | none => False
   | .d (.v (.slice none 0 0)) => k (st (A.b2s [])) s.sto
   | _ => False
  | _ => False
 | _, _ => False
theorem A4u {P : Program} {w : World} {Z : Nat → Nat → Prop} {S T e : TypeId} (h2 : P.underlying S = some (.slice e)) (h3 : P.underlying T = some .string) (h4 : P.underlying e = some (.int .u8)) {y : Value} {bs : List (U tb)}
  (hy : RD w Z y (.sl tb bs)) : (convert S T y).run P w = .ok (.string (std.b2s bs)) w := by
 obtain ⟨a, cap, news, rfl, h6, h7, h8⟩ := hy.rows
 have hnews : ∀ j, j < bs.length → news[j]? = some (.int .u8 ((bs.map fun x => ((toB x).toNat : Int)).getD j 0)) := by
  intro j hj
  have hx : bs[j]? = some bs[j] := List.getElem?_eq_getElem hj
  have hd : (enc tb bs[j])[0]? = some (D.v (.int .u8 ((toB bs[j]).toNat : Int))) := by rw [Enc.encB]; rfl
  obtain ⟨v, h9, h10⟩ := h6.2 j 0 _ _ hx hd
  rw [sz_tb, Nat.mul_one, Nat.add_zero] at h9
  cases h10
  rw [h9]
  simp [List.getD, hx]
 have hb : std.b2s bs = strOfNums (bs.map fun x => ((toB x).toNat : Int)) := by
  simp only [std, strOfNums, List.map_map]
  congr 2
  apply List.map_congr_left
  intro x _
  simp
 rcases h8 with ⟨h9, rfl⟩ | ⟨b, off, rfl, hcell⟩
 ·cases a with
  | none =>
   rw [run_convert_bytes_nil (P := P) w S e h2 h4 _ _ T h3, hb]
   rfl
  | some a =>
   have : (loadCells a 0).run P w = .ok (([] : List Int).map (Value.int .u8)).toArray w := rfl
   rw [run_convert_bytes_string w S T e _ _ cap h2 h4 h3]
   have := run_bytesToString (P := P) w a 0 cap [] this
   simp only [List.length_nil] at this ⊢
   rw [this, hb]
   rfl
 ·have := run_convert_bytes_arg (P := P) w S e h2 h4 b off bs.length cap (bs.map fun x => ((toB x).toNat : Int)) (by simp) (fun i hi => hcell i _ (hnews i hi)) T h3
  rw [this, hb]
theorem A3l {C : Ctx} {A : Ar} (hA : A = std) (hC : C.OK) {o : Oper} {ow c : Bool} {s : St} {S T : TypeId} {x : Operand} (ho : o.op = .convert S T x) : Snd C o ow c s (opB2S C A c s S T x) := by
 subst hA
 intro k h0
 unfold opB2S at h0
 split at h0
 ·rename_i e _ _ _ _ _ _ hS hT
  split at h0
  ·rename_i he
   obtain ⟨p, h, hp⟩ := Aac (μ := fun _ _ => none) (w := default) (Z := fun _ _ => False) h0
   clear h0
   obtain ⟨_, _, _, h2, _, _, _, h5⟩ := hC.ti S _ hS
   obtain rfl := KOk.slice h5
   obtain ⟨_, _, _, h3, _, _, _, h6⟩ := hC.ti T _ hT
   obtain rfl := KOk.string h6
   obtain ⟨_, _, _, h4, _, _, _, h7⟩ := hC.ti e _ he
   obtain rfl := KOk.int h7
   have key : ∀ (bs : List (U tb)), (∀ μ w Z y, c = true → RP μ w Z y (opd C s.env x) → RD w Z y (.sl tb bs)) → c = true → OpR C o s (st (std.b2s bs)) s.sto := by
    intro bs hx' hc
    refine opR_val fun μ w Z ρ hx => ⟨_, ?_, RP.ofVal ..⟩
    have := A4u (P := C.P) h2 h3 h4 (hx' μ w Z _ hc (hx x (by simp [ho, Op.operands])))
    simp [execOp, ho, this]
   split at h
   ·rename_i t xs
    split at h
    ·rename_i bs hbs
     exact ⟨_, _, h, key bs fun μ w Z y hc hy => castD hbs (by have := hp μ w Z y hc hy; cases this with | d _ _ h => exact h), fun _ => rfl⟩
    ·exact h.elim
   ·rename_i k' g' t xs
    split at h
    ·rename_i bs hbs
     exact ⟨_, _, h, key bs fun μ w Z y hc hy => castD hbs (hp μ w Z y hc hy).os_sl, fun _ => rfl⟩
    ·exact h.elim
   ·exact ⟨_, _, h, key [] fun μ w Z y hc hy => by rw [(hp μ w Z y hc hy).val]; exact .nil _ _ _, fun _ => rfl⟩
   ·exact h.elim
  ·exact h0.elim
 ·exact h0.elim
def opMM (C : Ctx) (A : Ar) (c : Bool) (s : St) (mx : Bool) (x y : Operand) (k : PV → List En → Prop) : Prop :=
 strip c (opd C s.env x) fun p => strip c (opd C s.env y) fun q => match p, q with
 | .d (.v (.int ka a)), .d (.v (.int kb b)) => k (it ka (match mx with | true => A.mx a b | false => A.mn a b)) s.sto
 | _, _ => False
theorem A3m {C : Ctx} {A : Ar} (hA : A = std) {o : Oper} {ow c : Bool} {s : St} {x y : Operand} {ts : Array TypeId} (ho : o.op = .call { callee := .builtin .min, args := #[x, y], argTypes := ts }) : Snd C o ow c s (opMM C A c s false x y) := by
 subst hA
 intro k h0
 obtain ⟨p, h', hp⟩ := Aac (μ := fun _ _ => none) (w := default) (Z := fun _ _ => False) h0
 obtain ⟨q, h, hq⟩ := Aac (μ := fun _ _ => none) (w := default) (Z := fun _ _ => False) h'
 clear h0 h'
 split at h
 ·rename_i ka a kb b
  refine ⟨_, _, h, fun hc => opR_val fun μ w Z ρ hx => ?_, fun _ => rfl⟩
  have h1 := (hp μ w Z _ hc (hx x (by simp [ho, Op.operands, Call.operands]))).val
  have h2 := (hq μ w Z _ hc (hx y (by simp [ho, Op.operands, Call.operands]))).val
  refine ⟨.int ka (min a b), ?_, RP.ofVal ..⟩
  have : (if b < a then b else a) = min a b := by omega
  simp [execOp, ho, resolve, invoke, builtin, Builtin.min_, Builtin.min2, h1, h2, this]
 ·exact h.elim
theorem A3n {C : Ctx} {A : Ar} (hA : A = std) {o : Oper} {ow c : Bool} {s : St} {x y : Operand} {ts : Array TypeId} (ho : o.op = .call { callee := .builtin .max, args := #[x, y], argTypes := ts }) : Snd C o ow c s (opMM C A c s true x y) := by
 subst hA
 intro k h0
 obtain ⟨p, h', hp⟩ := Aac (μ := fun _ _ => none) (w := default) (Z := fun _ _ => False) h0
 obtain ⟨q, h, hq⟩ := Aac (μ := fun _ _ => none) (w := default) (Z := fun _ _ => False) h'
 clear h0 h'
 split at h
 ·rename_i ka a kb b
  refine ⟨_, _, h, fun hc => opR_val fun μ w Z ρ hx => ?_, fun _ => rfl⟩
  have h1 := (hp μ w Z _ hc (hx x (by simp [ho, Op.operands, Call.operands]))).val
  have h2 := (hq μ w Z _ hc (hx y (by simp [ho, Op.operands, Call.operands]))).val
  refine ⟨.int ka (max a b), ?_, RP.ofVal ..⟩
  have : (if a < b then b else a) = max a b := by omega
  have : (if b > a then b else a) = max a b := by omega
  simp [execOp, ho, resolve, invoke, builtin, Builtin.max_, Builtin.max2, h1, h2]
  omega
 ·exact h.elim
def opS2S (C : Ctx) (c : Bool) (s : St) (S T : TypeId) (x : Operand) (k : PV → List En → Prop) : Prop :=
 match C.ti S, C.ti T with
 | some _, some ⟨.string, _, _, _⟩ => strip c (opd C s.env x) fun p => match p with
  | .d (.v (.string b)) => k (st b) s.sto
  | _ => False
 | _, _ => False
theorem A3o {C : Ctx} (hC : C.OK) {o : Oper} {ow c : Bool} {s : St} {S T : TypeId} {x : Operand} (ho : o.op = .convert S T x) : Snd C o ow c s (opS2S C c s S T x) := by
 intro k h0
 unfold opS2S at h0
 split at h0
 ·rename_i hS hT
  obtain ⟨p, h, hp⟩ := Aac (μ := fun _ _ => none) (w := default) (Z := fun _ _ => False) h0
  clear h0
  split at h
  ·rename_i b
   obtain ⟨_, d, _, h2, _, _, _, h5⟩ := hC.ti S _ hS
   obtain ⟨_, _, _, h3, _, _, _, h6⟩ := hC.ti T _ hT
   obtain rfl := KOk.string h6
   refine ⟨_, _, h, fun hc => opR_val fun μ w Z ρ hx => ?_, fun _ => rfl⟩
   have h1 := (hp μ w Z _ hc (hx x (by simp [ho, Op.operands]))).val
   refine ⟨_, ?_, RP.ofVal ..⟩
   cases d <;> simp [execOp, ho, h1, convert, und h2, und h3]
  ·exact h.elim
 ·exact h0.elim
end Go.PL
namespace Go.PL
set_option linter.unusedSimpArgs false
set_option linter.unusedVariables false
set_option linter.unusedSectionVars false
open Tys (Ty U)
open Enc (sz enc dflt tb ofB toB)
open Dec (dec dok)
variable [Tys] [Enc] [Dec]
def isConst : Operand → Bool
 | .const _ => true
 | _ => false
def refEq (tk : TK) (p q : PV) (cst : Bool) (c : Bool) (k : Bool → Prop) : Prop := match tk, p, q with
 | .ptr _, .d (.v (.pointer none)), .d (.v (.pointer none)) => k true
 | .ptr _, .bx _ _ _, .d (.v (.pointer none)) => k false
 | .ptr _, .d (.v (.pointer none)), .bx _ _ _ => k false
 | .ptr e, .bx a b o, .bx a' b' o' => (a = a') ∧ vc c (b = b') ∧ (o = o') ∧ k true
 | .iface, .d (.v .nilIface), .d (.v .nilIface) => (cst = true) ∧ k true
 | .iface, .d (.ifc _ _), .d (.v .nilIface) => k false
 | .iface, .d (.v .nilIface), .d (.ifc _ _) => k false
 | .func, .d (.v .nilFunc), .d (.v .nilFunc) => k true
 | .func, .fn _ _ _, .d (.v .nilFunc) => k false
 | .func, .d (.v (.func _ _ _)), .d (.v .nilFunc) => k false
 | .map _ _, .d (.v (.map none)), .d (.v (.map none)) => k true
 | .map _ _, .mp _ _, .d (.v (.map none)) => k false
 | _, _, _ => False
theorem Atr {P : Program} {t : TypeId} {x y : Value} {w : World} {b : Bool} (h : ∀ d, (Op.equalIn (d + 1) t x y).run P w = .ok b w) : (Op.equal t x y).run P w = .ok b w := by
 unfold Op.equal
 exact h 9999
theorem Avb {P : Program} {X Y : Operand} {t : TypeId} {w : World} (h : (isConst X || isConst Y) = true) (op : BinOp) : (eqGuard op t X Y .nilIface .nilIface).run P w = .ok () w := by
 unfold eqGuard
 cases op <;> cases X <;> cases Y <;> simp [isConst] at h ⊢
theorem A3p {C : Ctx} (hC : C.OK) {t : TypeId} {r : TR} (ht : C.ti t = some r) {p q : PV} {X Y : Operand} {c : Bool} {k : Bool → Prop} (hp : ∀ e, r.k = .ptr e → ∃ re, C.ti e = some re) (h : refEq r.k p q (isConst X || isConst Y) c k) :
  ∃ b, k b ∧ (c = true → ∀ (μ : Nmap) (w : World) (Z : Nat → Nat → Prop) (x y : Value), RP μ w Z x p → RP μ w Z y q → (do eqGuard .eql t X Y x y; binOp .eql t x y : Sem Value).run C.P w = .ok (.bool b) w ∧ (do eqGuard .neq t X Y x y; binOp .neq t x y : Sem Value).run C.P w = .ok (.bool (!b)) w) := by
 obtain ⟨i, d, hi, hu, _, _, _, hk⟩ := hC.ti t r ht
 have both : ∀ {w : World} {x y : Value} {b : Bool}, (∀ d, (Op.equalIn (d + 1) t x y).run C.P w = .ok b w) → (eqGuard .eql t X Y x y).run C.P w = .ok () w → (eqGuard .neq t X Y x y).run C.P w = .ok () w →
   (binOp .eql t x y = do pure (.bool (← Op.equal t x y))) → (binOp .neq t x y = do pure (.bool (!(← Op.equal t x y)))) →
   (do eqGuard .eql t X Y x y; binOp .eql t x y : Sem Value).run C.P w = .ok (.bool b) w ∧ (do eqGuard .neq t X Y x y; binOp .neq t x y : Sem Value).run C.P w = .ok (.bool (!b)) w := by
  intro w x y b h1 h2 h3 h4 h5
  have h6 := Atr h1
  exact ⟨by rw [Sem.run_bind, h2, h4]; simp [h6], by rw [Sem.run_bind, h3, h5]; simp [h6]⟩
 unfold refEq at h
 split at h
 all_goals try exact h.elim
 ·rename_i heq; rw [heq] at hk; obtain rfl := KOk.ptr hk
  refine ⟨_, h, fun hc μ w Z x y hx hy => ?_⟩
  rw [hx.val, hy.val]
  exact both (fun d => by simp [Op.equalIn, und hu]) (by simp [eqGuard]) (by simp [eqGuard]) rfl rfl
 ·rename_i heq; rw [heq] at hk; obtain rfl := KOk.ptr hk
  refine ⟨_, h, fun hc μ w Z x y hx hy => ?_⟩
  rw [hy.val]
  cases hx with
  | bx _ _ _ b hb => exact both (fun d => by simp [Op.equalIn, und hu]) (by simp [eqGuard]) (by simp [eqGuard]) rfl rfl
 ·rename_i heq; rw [heq] at hk; obtain rfl := KOk.ptr hk
  refine ⟨_, h, fun hc μ w Z x y hx hy => ?_⟩
  rw [hx.val]
  cases hy with
  | bx _ _ _ b hb => exact both (fun d => by simp [Op.equalIn, und hu]) (by simp [eqGuard]) (by simp [eqGuard]) rfl rfl
 ·rename_i e a b o a' b' o' heq
  obtain ⟨rfl, h2, rfl, h⟩ := h
  obtain ⟨re, hre⟩ := hp e heq
  rw [heq] at hk; obtain rfl := KOk.ptr hk
  obtain ⟨ie, de, hie, _⟩ := hC.ti e re hre
  refine ⟨_, h, fun hc μ w Z x y hx hy => ?_⟩
  obtain rfl := Aae h2 hc
  cases hx with
  | bx _ _ _ b1 hb =>
   cases hy with
   | bx _ _ _ b2 hb2 =>
    rw [hb] at hb2; obtain rfl := Option.some.inj (Option.some.inj hb2)
    exact both (fun d => by simp [Op.equalIn, und hu, szOf hie, run_sameAddr_same]) (by simp [eqGuard]) (by simp [eqGuard]) rfl rfl
 ·rename_i heq; rw [heq] at hk; obtain ⟨ms, rfl⟩ := KOk.iface hk
  obtain ⟨hcst, h⟩ := h
  refine ⟨_, h, fun hc μ w Z x y hx hy => ?_⟩
  rw [hx.val, hy.val]
  exact both (fun d => by simp [Op.equalIn, und hu]) (Avb hcst .eql) (Avb hcst .neq) rfl rfl
 ·rename_i heq; rw [heq] at hk; obtain ⟨ms, rfl⟩ := KOk.iface hk
  refine ⟨_, h, fun hc μ w Z x y hx hy => ?_⟩
  rw [hy.val]
  cases hx with
  | d _ _ hx => cases hx with
   | ifc => exact both (fun d => by simp [Op.equalIn, und hu]) (by simp [eqGuard]) (by simp [eqGuard]) rfl rfl
 ·rename_i heq; rw [heq] at hk; obtain ⟨ms, rfl⟩ := KOk.iface hk
  refine ⟨_, h, fun hc μ w Z x y hx hy => ?_⟩
  rw [hx.val]
  cases hy with
  | d _ _ hx => cases hx with
   | ifc => exact both (fun d => by simp [Op.equalIn, und hu]) (by simp [eqGuard]) (by simp [eqGuard]) rfl rfl
 ·rename_i heq; rw [heq] at hk; obtain ⟨_, _, _, rfl⟩ := KOk.func hk
  refine ⟨_, h, fun hc μ w Z x y hx hy => ?_⟩
  rw [hx.val, hy.val]
  exact both (fun d => by simp [Op.equalIn, und hu]) (by simp [eqGuard]) (by simp [eqGuard]) rfl rfl
 ·rename_i heq; rw [heq] at hk; obtain ⟨_, _, _, rfl⟩ := KOk.func hk
  refine ⟨_, h, fun hc μ w Z x y hx hy => ?_⟩
  rw [hy.val]
  cases hx with
  | fn => exact both (fun d => by simp [Op.equalIn, und hu]) (by simp [eqGuard]) (by simp [eqGuard]) rfl rfl
 ·rename_i heq; rw [heq] at hk; obtain ⟨_, _, _, rfl⟩ := KOk.func hk
  refine ⟨_, h, fun hc μ w Z x y hx hy => ?_⟩
  rw [hx.val, hy.val]
  exact both (fun d => by simp [Op.equalIn, und hu]) (by simp [eqGuard]) (by simp [eqGuard]) rfl rfl
 ·rename_i heq; rw [heq] at hk; obtain rfl := KOk.map hk
  refine ⟨_, h, fun hc μ w Z x y hx hy => ?_⟩
  rw [hx.val, hy.val]
  exact both (fun d => by simp [Op.equalIn, und hu]) (by simp [eqGuard]) (by simp [eqGuard]) rfl rfl
 ·rename_i heq; rw [heq] at hk; obtain rfl := KOk.map hk
  refine ⟨_, h, fun hc μ w Z x y hx hy => ?_⟩
  rw [hy.val]
  cases hx with
  | mp _ _ b hb => exact both (fun d => by simp [Op.equalIn, und hu]) (by simp [eqGuard]) (by simp [eqGuard]) rfl rfl
def eqK (op : BinOp) (k : PV → List En → Prop) (sto : List En) (b : Bool) : Prop := match op with
 | .eql => k (bl b) sto
 | .neq => k (bl (match b with | true => false | false => true)) sto
 | _ => False
def eq1 (C : Ctx) (A : Ar) (t : TypeId) (p q : Option PV) : Option Bool := match C.ti t, p, q with
 | some ⟨.int _, _, _, _⟩, some (.d (.v (.int .i64 a))), some (.d (.v (.int .i64 b))) => some (A.cmp .eql a b)
 | some ⟨.string, _, _, _⟩, some (.d (.v (.string a))), some (.d (.v (.string b))) => some (A.scmp .eql a b)
 | some ⟨.bool, _, _, _⟩, some (.d (.v (.bool a))), some (.d (.v (.bool b))) => some (A.eqb a b)
 | _, _, _ => none
def eqFs (C : Ctx) (A : Ar) : List (Nat × TypeId) → List PV → List PV → Option Bool
 | [], _, _ => some true
 | (o, t) :: r, ps, qs => match eq1 C A t ps[o]? qs[o]?, eqFs C A r ps qs with
  | some a, some b => some (A.and a b)
  | _, _ => none
theorem A5e {C : Ctx} {A : Ar} (hA : A = std) (hC : C.OK) {t : TypeId} {p q : Option PV} {b : Bool} (h : eq1 C A t p q = some b) : ∃ p' q', p = some p' ∧ q = some q' ∧ (∃ d, C.P.underlying t = some d ∧ ((∃ k, d = .int k) ∨ d = .bool ∨ d = .string)) ∧
  ∀ (d : Nat) (μ : Nmap) (w : World) (Z : Nat → Nat → Prop) (x y : Value), RP μ w Z x p' → RP μ w Z y q' → (Op.equalIn (d + 1) t x y).run C.P w = .ok b w := by
 subst hA
 unfold eq1 at h
 split at h
 ·rename_i k _ _ _ a c hT
  obtain ⟨_, d, _, h2, _, _, _, h5⟩ := hC.ti t _ hT
  obtain rfl : d = .int k := by cases d <;> simp_all [KOk]
  refine ⟨_, _, rfl, rfl, ⟨_, h2, .inl ⟨_, rfl⟩⟩, fun d μ w Z x y hx hy => ?_⟩
  rw [hx.val, hy.val]
  cases h
  simp [Op.equalIn, und h2]
  rfl
 ·rename_i _ _ _ a c hT
  obtain ⟨_, d, _, h2, _, _, _, h5⟩ := hC.ti t _ hT
  obtain rfl := KOk.string h5
  refine ⟨_, _, rfl, rfl, ⟨_, h2, .inr (.inr rfl)⟩, fun d μ w Z x y hx hy => ?_⟩
  rw [hx.val, hy.val, run_equalIn_string w d t _ _ h2]
  cases h; rfl
 ·rename_i _ _ _ a c hT
  obtain ⟨_, d, _, h2, _, _, _, h5⟩ := hC.ti t _ hT
  obtain rfl := KOk.bool h5
  refine ⟨_, _, rfl, rfl, ⟨_, h2, .inr (.inl rfl)⟩, fun d μ w Z x y hx hy => ?_⟩
  rw [hx.val, hy.val, run_equalIn_bool' w d t _ _ h2]
  cases h; rfl
 ·cases h
theorem A1a {C : Ctx} {A : Ar} (hA : A = std) (hC : C.OK) {ps qs : List PV} {vs us : List Value} {μ : Nmap} {w : World} {Z : Nat → Nat → Prop} (hl : vs.length = ps.length) (hm : us.length = qs.length)
  (h1 : ∀ (i : Nat) (x : Value) (p : PV), vs[i]? = some x → ps[i]? = some p → RP μ w Z x p) (h2 : ∀ (i : Nat) (x : Value) (p : PV), us[i]? = some x → qs[i]? = some p → RP μ w Z x p) (d : Nat) :
  ∀ (F : List Field) (b : Bool), (F.all fun f => f.name != "_") = true → eqFs C A (F.map fun f => (f.offset, f.type)) ps qs = some b → (Op.eqFields (d + 1) vs.toArray us.toArray F).run C.P w = .ok b w
 | [], b, _, h => by simp only [List.map_nil, eqFs] at h; cases h; rfl
 | f :: F, b, hn, h => by
  simp only [List.map_cons, eqFs] at h
  simp only [List.all_cons, Bool.and_eq_true] at hn
  split at h
  ·rename_i a c ha hc
   obtain ⟨p, q, hp, hq, ⟨dd, hu, hk⟩, he⟩ := A5e hA hC ha
   have ih := A1a hA hC hl hm h1 h2 d F c hn.2 hc
   have at' : ∀ {ls : List Value} {rs : List PV} {p : PV}, ls.length = rs.length → rs[f.offset]? = some p → ∃ v, ls[f.offset]? = some v := by
    intro ls rs p hl hp
    have hlt := (List.getElem?_eq_some_iff.1 hp).1
    exact ⟨_, List.getElem?_eq_getElem (by omega)⟩
   obtain ⟨x, hx⟩ := at' hl hp
   obtain ⟨y, hy⟩ := at' hm hq
   have hpl : C.P.plainKey f.type = true := by
    unfold Program.plainKey
    rw [hu]
    rcases hk with ⟨k, rfl⟩ | rfl | rfl <;> rfl
   have hne : f.name ≠ "_" := by simpa using hn.1
   subst hA
   cases h
   unfold Op.eqFields
   rw [if_pos hne]
   simp only [Sem.run_bind, run_part_plain w hpl (show vs.toArray[f.offset]? = some x by simpa using hx), run_part_plain w hpl (show us.toArray[f.offset]? = some y by simpa using hy), Result.andThen_ok, he d μ w Z x y (h1 _ _ _ hx hp) (h2 _ _ _ hy hq)]
   cases a with
   | false => rfl
   | true => simp; exact ih
  ·cases h
def opEq (C : Ctx) (A : Ar) (c : Bool) (s : St) (op : BinOp) (T : TypeId) (x y : Operand) (k : PV → List En → Prop) : Prop := match C.ti T with
 | some ⟨.int _, _, _, _⟩ | some ⟨.string, _, _, _⟩ => opBin C A c s op x y k
 | some ⟨.bool, _, _, _⟩ => strip c (opd C s.env x) fun p => strip c (opd C s.env y) fun q => match p, q with
  | .d (.v (.bool a)), .d (.v (.bool b)) => match op with
   | .eql => k (bl (A.eqb a b)) s.sto
   | .neq => k (bl (A.not (A.eqb a b))) s.sto
   | _ => False
  | _, _ => False
 | some ⟨.ptr e, _, _, _⟩ => match C.ti e with
  | some _ => strip c (opd C s.env x) fun p => strip c (opd C s.env y) fun q => refEq (.ptr e) p q (isConst x || isConst y) c fun b => eqK op k s.sto b
  | none => False
 | some ⟨.struct fs, _, _, _⟩ => (C.eqt T = true) ∧ strip c (opd C s.env x) fun p => strip c (opd C s.env y) fun q => match p, q with
  | .ag ps, .ag qs => match eqFs C A fs ps qs with
   | some b => match op with
    | .eql => k (bl b) s.sto
    | .neq => k (bl (A.not b)) s.sto
    | _ => False
   | none => False
  | _, _ => False
 | some ⟨tk, _, _, _⟩ => strip c (opd C s.env x) fun p => strip c (opd C s.env y) fun q => match tk with
  | .iface | .func | .map _ _ => refEq tk p q (isConst x || isConst y) c fun b => eqK op k s.sto b
  | _ => False
 | none => False
theorem A1b {C : Ctx} {A : Ar} (hA : A = std) (hC : C.OK) {o : Oper} {ow c : Bool} {s : St} {op : BinOp} {T T' : TypeId} {x y : Operand} (ho : o.op = .binOp op T x y T') : Snd C o ow c s (opEq C A c s op T x y) := by
 intro k h
 have he : ∀ ρ, execOp ρ o = (do let r ← (do eqGuard op T x y (ρ x) (ρ y); binOp op T (ρ x) (ρ y) : Sem Value); pure (Next.value r)) := fun ρ => by simp only [execOp, ho]
 have hmx : x ∈ o.op.operands := by simp [ho, Op.operands]
 have hmy : y ∈ o.op.operands := by simp [ho, Op.operands]
 have refs : ∀ (tk : TK) (r : TR) (p q : PV), C.ti T = some r → r.k = tk → (∀ e, tk = .ptr e → ∃ re, C.ti e = some re) → (∀ μ w Z x', c = true → RP μ w Z x' (opd C s.env x) → RP μ w Z x' p) → (∀ μ w Z x', c = true → RP μ w Z x' (opd C s.env y) → RP μ w Z x' q) →
   refEq tk p q (isConst x || isConst y) c (eqK op k s.sto) → ∃ v sto', k v sto' ∧ (c = true → OpR C o s v sto') ∧ (ow = false → sto' = s.sto) := by
  intro tk r p q ht hk hpe hp hq h
  subst hk
  obtain ⟨b, hkb, hb⟩ := A3p hC ht hpe h
  cases op
  case eql =>
   refine ⟨_, _, hkb, fun hc => opR_quiet fun μ w Z ρ hg hx => ?_, fun _ => rfl⟩
   obtain ⟨h1, _⟩ := hb hc μ w Z (ρ x) (ρ y) (hp μ w Z _ hc (hx x hmx)) (hq μ w Z _ hc (hx y hmy))
   exact ⟨.bool b, by rw [he, Sem.run_bind, h1]; rfl, RP.ofVal ..⟩
  case neq =>
   refine ⟨_, _, hkb, fun hc => opR_quiet fun μ w Z ρ hg hx => ?_, fun _ => rfl⟩
   obtain ⟨_, h1⟩ := hb hc μ w Z (ρ x) (ρ y) (hp μ w Z _ hc (hx x hmx)) (hq μ w Z _ hc (hx y hmy))
   refine ⟨.bool (!b), by rw [he, Sem.run_bind, h1]; rfl, ?_⟩
   cases b <;> exact RP.ofVal ..
  all_goals exact hkb.elim
 unfold opEq at h
 split at h
 ·exact Ato hA ho k h
 ·exact Ato hA ho k h
 ·rename_i hT
  obtain ⟨p, h', hp⟩ := Aac (μ := fun _ _ => none) (w := default) (Z := fun _ _ => False) h
  clear h
  obtain ⟨q, h, hq⟩ := Aac (μ := fun _ _ => none) (w := default) (Z := fun _ _ => False) h'
  clear h'
  obtain ⟨i, d, hi, hu, _, _, _, hk⟩ := hC.ti T _ hT
  obtain rfl := KOk.bool hk
  subst hA
  split at h
  ·rename_i a b
   have h3 : ∀ w, (Op.equal T (.bool a) (.bool b)).run C.P w = .ok (a == b) w := fun w => Atr fun d => by simp [Op.equalIn, und hu]
   cases op
   case eql =>
    refine ⟨_, _, h, fun hc => opR_quiet fun μ w Z ρ hg hx => ?_, fun _ => rfl⟩
    have h1 := (hp μ w Z _ hc (hx x hmx)).val
    have h2 := (hq μ w Z _ hc (hx y hmy)).val
    exact ⟨.bool (a == b), by rw [he, h1, h2]; simp [eqGuard, binOp, h3], RP.ofVal ..⟩
   case neq =>
    refine ⟨_, _, h, fun hc => opR_quiet fun μ w Z ρ hg hx => ?_, fun _ => rfl⟩
    have h1 := (hp μ w Z _ hc (hx x hmx)).val
    have h2 := (hq μ w Z _ hc (hx y hmy)).val
    exact ⟨.bool (!(a == b)), by rw [he, h1, h2]; simp [eqGuard, binOp, h3], RP.ofVal ..⟩
   all_goals exact h.elim
  ·exact h.elim
 ·rename_i e _ _ _ hT
  split at h
  ·rename_i re hre
   obtain ⟨p, h', hp⟩ := Aac (μ := fun _ _ => none) (w := default) (Z := fun _ _ => False) h
   clear h
   obtain ⟨q, h, hq⟩ := Aac (μ := fun _ _ => none) (w := default) (Z := fun _ _ => False) h'
   clear h'
   exact refs _ _ p q hT rfl (fun e' h' => by cases h'; exact ⟨re, hre⟩) hp hq h
  ·exact h.elim
 ·rename_i fs _ _ _ hT
  obtain ⟨heq, h0⟩ := h
  obtain ⟨hst, hgd, hnm⟩ := hC.eqt T heq
  obtain ⟨p, h', hp⟩ := Aac (μ := fun _ _ => none) (w := default) (Z := fun _ _ => False) h0
  clear h0
  obtain ⟨q, h, hq⟩ := Aac (μ := fun _ _ => none) (w := default) (Z := fun _ _ => False) h'
  clear h'
  split at h
  ·rename_i ps qs
   split at h
   ·rename_i b hb
    obtain ⟨i, d, hi, hu, _, _, _, hk⟩ := hC.ti T _ hT
    obtain ⟨F, rfl, hF⟩ : ∃ F, d = .struct F ∧ F.toList.map (fun f => (f.offset, f.type)) = fs := by cases d <;> simp_all [KOk]
    have hfo : C.P.underlying T = some (.struct (C.P.fieldsOf T)) := by simp [Program.fieldsOf, hu]
    have hfe : C.P.fieldsOf T = F := by simp [Program.fieldsOf, hu]
    rw [← hF] at hb
    have run : ∀ (μ : Nmap) (w : World) (Z : Nat → Nat → Prop) (ρ : Operand → Value), c = true → (∀ z ∈ o.op.operands, RP μ w Z (ρ z) (opd C s.env z)) → ∃ xs ys, ρ x = .agg xs ∧ ρ y = .agg ys ∧ (Op.equalIn 10000 T (.agg xs) (.agg ys)).run C.P w = .ok b w := by
     intro μ w Z ρ hc hx
     have h1 := hp μ w Z _ hc (hx x hmx)
     have h2 := hq μ w Z _ hc (hx y hmy)
     generalize hx1 : ρ x = X at h1
     generalize hy1 : ρ y = Y at h2
     cases h1 with
     | ag _ vs hl h3 =>
      cases h2 with
      | ag _ us hm h4 =>
       refine ⟨_, _, rfl, rfl, ?_⟩
       rw [run_equalIn_struct w 9999 T _ _ hfo hst, hfe]
       exact A1a hA hC hl hm h3 h4 9998 F.toList b (hnm F hu) hb
    cases op
    case eql =>
     refine ⟨_, _, h, fun hc => opR_quiet fun μ w Z ρ hg hx => ?_, fun _ => rfl⟩
     obtain ⟨xs, ys, h1, h2, h3⟩ := run μ w Z ρ hc hx
     exact ⟨.bool b, by rw [he, h1, h2, Sem.run_bind, Sem.run_bind, run_eqGuard_agg w .eql T x y xs ys hgd]; simp only [Result.andThen_ok, run_eql_struct, h3]; rfl, RP.ofVal ..⟩
    case neq =>
     refine ⟨_, _, h, fun hc => opR_quiet fun μ w Z ρ hg hx => ?_, fun _ => rfl⟩
     obtain ⟨xs, ys, h1, h2, h3⟩ := run μ w Z ρ hc hx
     refine ⟨.bool (!b), by rw [he, h1, h2, Sem.run_bind, Sem.run_bind, run_eqGuard_agg w .neq T x y xs ys hgd]; simp only [Result.andThen_ok, run_neq_struct, h3]; rfl, ?_⟩
     subst hA; exact RP.ofVal ..
    all_goals exact h.elim
   ·exact h.elim
  ·exact h.elim
 ·rename_i tk _ _ _ _ _ _ _ hT
  obtain ⟨p, h', hp⟩ := Aac (μ := fun _ _ => none) (w := default) (Z := fun _ _ => False) h
  clear h
  obtain ⟨q, h, hq⟩ := Aac (μ := fun _ _ => none) (w := default) (Z := fun _ _ => False) h'
  clear h'
  split at h
  ·exact refs _ _ p q hT rfl (fun e' h' => by cases h') hp hq h
  ·exact refs _ _ p q hT rfl (fun e' h' => by cases h') hp hq h
  ·exact refs _ _ p q hT rfl (fun e' h' => by cases h') hp hq h
  ·exact h.elim
 ·exact h.elim
/-! ### pointers turned about -/
theorem single_den {s : St} {kk g : Nat} {cl : Cell} (hf : find s.sto kk = some (g, cl)) : ∀ k1 g1 c1, single kk g cl k1 g1 = some c1 → den s.sto k1 g1 = some c1 := by
 intro k1 g1 c1 h1
 simp only [single] at h1
 split at h1 <;> simp at h1
 rename_i h2
 obtain ⟨rfl, rfl⟩ := h2
 subst h1
 exact Aa6 hf
theorem Asx {s : St} {kk g : Nat} {cl : Cell} (hf : find s.sto kk = some (g, cl)) : den s.sto = mput (den s.sto) (single kk g cl) (single kk g cl) := by
 funext k1 g1
 simp only [mput]
 cases h : single kk g cl k1 g1 with
 | some c1 => exact single_den hf _ _ _ h
 | none => simp
theorem An3 {C : Ctx} {o : Oper} {s : St} {v : PV} {kk g : Nat} {cl : Cell} (hf : find s.sto kk = some (g, cl)) (hft : kk ∈ (foot C s.env s.sto o).1)
  (h : ∀ (μ : Nmap) (w : World) (Z : Nat → Nat → Prop) (ρ : Operand → Value), GI C μ w Z → (∀ x ∈ o.op.operands, RP μ w Z (ρ x) (opd C s.env x)) → EntOK μ w Z kk g cl → ∃ val, (execOp ρ o).run C.P w = .ok (.value val) w ∧ RP μ w Z val v) : OpR C o s v s.sto := by
 refine ⟨single kk g cl, single kk g cl, Ahx fun μ w Z ρ hg hx hw => h μ w Z ρ hg hx (hw.ent _ _ _ (by simp [single])), single_den hf, Asx hf, fun k1 g1 h1 => ?_, fun _ => rfl⟩
 simp only [single, or_self] at h1
 split at h1
 ·rename_i h2; rw [h2.1]; exact hft
 ·exact absurd rfl h1
def opPtrConv (C : Ctx) (c : Bool) (s : St) (S T : TypeId) (x : Operand) (k : PV → List En → Prop) : Prop := match C.ti S, C.ti T with
 | some ⟨.ptr e, _, _, _⟩, some ⟨.uns, _, _, _⟩ => match C.ti e with
  | some r => (r.size ≠ 0) ∧ strip c (opd C s.env x) fun p => match p with
   | .bx kk g o => match find s.sto kk with
    | some (g', .box _ vs) => vc c (g' = g) ∧ (o < vs.length) ∧ k (.bx kk g o) s.sto
    | _ => False
   | _ => False
  | none => False
 | some ⟨.uns, _, _, _⟩, some ⟨.ptr u, _, _, _⟩ => match C.ti u with
  | some r => (C.lies u = true) ∧ strip c (opd C s.env x) fun p => match p with
   | .bx kk g 0 => match find s.sto kk with
    | some (g', .box TT vs) => vc c (g' = g) ∧ (TT = u) ∧ (vs.length = r.size) ∧ k (.bx kk g 0) s.sto
    | _ => False
   | _ => False
  | none => False
 | _, _ => False
theorem Apd {C : Ctx} (hC : C.OK) {o : Oper} {ow c : Bool} {s : St} {S T : TypeId} {x : Operand} (ho : o.op = .convert S T x) : Snd C o ow c s (opPtrConv C c s S T x) := by
 intro k h
 have hmx : x ∈ o.op.operands := by simp [ho, Op.operands]
 unfold opPtrConv at h
 split at h
 ·rename_i e _ _ _ _ _ _ hS hT
  obtain ⟨_, _, _, hu, _, _, _, hk⟩ := hC.ti S _ hS
  obtain rfl := KOk.ptr hk
  obtain ⟨_, _, _, hu2, _, _, _, hk2⟩ := hC.ti T _ hT
  obtain rfl := KOk.uns hk2
  split at h
  ·rename_i r hr
   obtain ⟨hs, h⟩ := h
   obtain ⟨ie, _, hie, _, hsz, _⟩ := hC.ti e r hr
   obtain ⟨p, hpu, h, hp⟩ := Acz h
   split at h
   ·rename_i kk g off
    split at h
    ·rename_i g' TT vs hf
     obtain ⟨hg, hlt, h⟩ := h
     refine ⟨_, _, h, fun hc => An3 hf (by simp [foot, ho, ← hpu, keyOf]) fun μ w Z ρ _ hx hent => ?_, fun _ => rfl⟩
     obtain rfl := Aae hg hc
     obtain ⟨b, cs, h2, h3, h4, _⟩ := hent
     have h1 := hp μ w Z _ hc (hx x hmx)
     generalize hy : ρ x = y at h1
     cases h1 with
     | bx _ _ _ b' h5 =>
      rw [h2] at h5; obtain rfl := Option.some.inj (Option.some.inj h5)
      have hlen : cs.toList.length = vs.length := h4.1
      have := Lib.run_to_unsafe (P := C.P) w (e := TT) (cells := cs.size) ⟨b, off, none⟩ hu hu2 hie (by rw [hsz]; exact hs) (by simp [World.shape?, h3]) (by simp at hlen; show off < cs.size; omega)
      exact ⟨_, by simp [execOp, ho, hy, this], .bx _ _ _ _ h2⟩
    ·exact h.elim
   ·exact h.elim
  ·exact h.elim
 ·rename_i u _ _ _ hS hT
  obtain ⟨_, _, _, hu, _, _, _, hk⟩ := hC.ti S _ hS
  obtain rfl := KOk.uns hk
  obtain ⟨_, _, _, hu2, _, _, _, hk2⟩ := hC.ti T _ hT
  obtain rfl := KOk.ptr hk2
  split at h
  ·rename_i r hr
   obtain ⟨hl, h⟩ := h
   obtain ⟨r', hr', hlies⟩ := hC.lies u hl
   rw [hr] at hr'; obtain rfl := Option.some.inj hr'
   obtain ⟨ie, _, hie, _, hsz, _⟩ := hC.ti u r hr
   obtain ⟨p, hpu, h, hp⟩ := Acz h
   split at h
   ·rename_i kk g
    split at h
    ·rename_i g' TT vs hf
     obtain ⟨hg, rfl, hlen', h⟩ := h
     refine ⟨_, _, h, fun hc => An3 hf (by simp [foot, ho, ← hpu, keyOf]) fun μ w Z ρ _ hx hent => ?_, fun _ => rfl⟩
     obtain rfl := Aae hg hc
     obtain ⟨b, cs, h2, h3, h4, _⟩ := hent
     have h1 := hp μ w Z _ hc (hx x hmx)
     generalize hy : ρ x = y at h1
     cases h1 with
     | bx _ _ _ b' h5 =>
      rw [h2] at h5; obtain rfl := Option.some.inj (Option.some.inj h5)
      have hlen : cs.toList.length = vs.length := h4.1
      have hcs : cs.size = r.size := by rw [← hlen', ← hlen]; simp
      have := Lib.run_from_unsafe (P := C.P) w (e := TT) (cells := cs.size) ⟨b, 0, none⟩ hu hu2 hie (by simp [World.shape?, h3]) (by rw [hcs]; exact hlies)
      exact ⟨_, by simp [execOp, ho, hy, this], .bx _ _ _ _ h2⟩
    ·exact h.elim
   ·exact h.elim
  ·exact h.elim
 ·exact h.elim
end Go.PL
namespace Go.PL
set_option linter.unusedSimpArgs false
set_option linter.unusedVariables false
set_option linter.unusedSectionVars false
open Tys (Ty U)
open Enc (sz enc dflt tb ofB toB)
open Dec (dec dok)
variable [Tys] [Enc] [Dec]
def keyOK : TK → Value → Bool
 | .int .i64, .int .i64 _ => true
 | .string, .string _ => true
 | _, _ => false
def keyEq (A : Ar) : Value → Value → Bool
 | .int _ a, .int _ b => A.cmp .eql a b
 | .string a, .string b => A.scmp .eql a b
 | _, _ => false
def An4 (tk : TK) : List (Value × PV) → Bool
 | [] => true
 | e :: r => keyOK tk e.1 && An4 tk r
def Azb (r : TR) : PV := match r.k.agg with
 | true => .ag (r.zero.map fun v => .d (.v v))
 | false => match r.zero with
  | [z] => .d (.v z)
  | _ => .any
def lookC (A : Ar) (key : Value) (es : List (Value × PV)) (z : PV) (k : PV → Bool → Prop) : Prop := match es with
 | [] => k z false
 | (x, p) :: r => match keyEq A key x with
  | true => k p true
  | false => lookC A key r z k
structure KeysOK (tk : TK) (es : List (Value × PV)) : Prop where
 h : An4 tk es = true
def LeQ (q p : PV) : Prop := ∀ μ w Z x, RP μ w Z x q → RP μ w Z x p
inductive LookK (A : Ar) (key : Value) (es : List (Value × PV)) (z : PV) (k : PV → Bool → Prop) : Prop where
 | each (h : lookC A key es z k)
 | one (p : PV) (ok : Bool) (h : lookC A key es z fun q b => LeQ q p ∧ b = ok) (hk : k p ok)
def Ats (C : Ctx) (A : Ar) (c : Bool) (s : St) (T : TypeId) (x i : Operand) (ok : Bool) (k : PV → List En → Prop) : Prop := match C.ti T with
 | some ⟨.map kt et, _, _, _⟩ => match C.ti kt, C.ti et with
  | some rk, some re => strip c (opd C s.env x) fun p => strip c (opd C s.env i) fun q => match p, q with
   | .mp kk g, .d (.v key) => match find s.sto kk with
    | some (g', .map es) => vc c (g' = g) ∧ (keyOK rk.k key = true) ∧ KeysOK rk.k es ∧ LookK A key es (Azb re) fun v b => match ok with
     | true => k (.tu [v, bl b]) s.sto
     | false => k v s.sto
    | _ => False
   | _, _ => False
  | _, _ => False
 | _ => False
theorem A1c {P : Program} {t : TypeId} {r : TR} (h : TOk P t r) (w : World) : ∃ v, (zeroValue t).run P w = .ok v w ∧ ∀ μ Z, RP μ w Z v (Azb r) := by
 obtain ⟨i, d, hi, hu, _, ⟨_, _, hz⟩, _, hk⟩ := h
 refine ⟨zeroV r, by simp [zeroValue, typeInfo, hi, hz], fun μ Z => ?_⟩
 unfold Azb zeroV
 cases r.k.agg with
 | true =>
  have := RPs.vals μ w Z r.zero
  exact .ag _ _ this.1 this.2
 | false =>
  simp only
  match r.zero with
  | [z] => exact RP.ofVal ..
  | [] => exact .any _
  | _ :: _ :: _ => exact .any _
theorem run_checkKey {P : Program} {t : TypeId} {r : TR} (h : TOk P t r) {key : Value} (hk : keyOK r.k key = true) (e : Bool) (w : World) : (Instr.checkKey e 10000 t key).run P w = .ok () w := by
 obtain ⟨i, d, hi, hu, _, _, _, hK⟩ := h
 have gen : ∀ n, (Instr.checkKey e (n + 1) t key).run P w = .ok () w := by
  intro n
  generalize r.k = tk at hk hK
  unfold keyOK at hk
  split at hk
  ·obtain rfl := KOk.int hK
   simp [Instr.checkKey, und hu]
  ·obtain rfl := KOk.string hK
   simp [Instr.checkKey, und hu]
  ·cases hk
 exact gen 9999
theorem Asy {A : Ar} (hA : A = std) {d : TypeDesc} {tk : TK} (hK : KOk d tk) {a b : Value} (ha : keyOK tk a = true) (hb : keyOK tk b = true) : Instr.sameNow d a b = some (keyEq A a b) := by
 subst hA
 match tk, a, b, ha, hb, hK with
 | .int .i64, .int .i64 x, .int .i64 y, _, _, hK =>
  obtain rfl := KOk.int hK
  simp [Instr.sameNow, keyEq, std, Apb]
 | .string, .string x, .string y, _, _, hK =>
  obtain rfl := KOk.string hK
  simp only [Instr.sameNow, keyEq, std, Axa]
  rw [beq_toListBytes]
theorem Aox {A : Ar} (hA : A = std) {d : TypeDesc} {tk : TK} (hK : KOk d tk) {key : Value} (hk : keyOK tk key = true) {z : PV} {k : PV → Bool → Prop} : ∀ (es : List (Value × PV)), An4 tk es = true → lookC A key es z k →
  ∃ v b, k v b ∧ ∀ (ms : List MapEntry) (i : Nat), ms.length = es.length → (∀ (j : Nat) (e : MapEntry) (x : Value) (p : PV), ms[j]? = some e → es[j]? = some (x, p) → e.key = x) →
   (b = true ∧ ∃ j e, ms[j]? = some e ∧ es[j]? = some (e.key, v) ∧ Instr.findNow d key ms i = some (some (i + j, e.val))) ∨ (b = false ∧ v = z ∧ Instr.findNow d key ms i = some none)
 | [], _, h => ⟨z, false, h, fun ms i hl _ => .inr ⟨rfl, rfl, by cases ms with | nil => rfl | cons => simp at hl⟩⟩
 | (x, p) :: es, hes, h => by
  simp only [An4, Bool.and_eq_true] at hes
  have hs := Asy hA hK hk hes.1
  simp only [lookC] at h
  split at h
  ·rename_i hb
   refine ⟨p, true, h, fun ms i hl hm => ?_⟩
   match ms, hl with
   | m :: ms, hl =>
    have hkey := hm 0 m x p rfl rfl
    refine .inl ⟨rfl, 0, m, rfl, by simp [hkey], ?_⟩
    rw [← hkey] at hs hb
    simp [Instr.findNow, hs, hb]
  ·rename_i hb
   obtain ⟨v, b, h1, h2⟩ := Aox hA hK hk es hes.2 h
   refine ⟨v, b, h1, fun ms i hl hm => ?_⟩
   match ms, hl with
   | m :: ms, hl =>
    have hkey := hm 0 m x p rfl rfl
    rw [← hkey] at hs hb
    rcases h2 ms (i + 1) (by simpa using hl) (fun j e x p h1 h2 => hm (j + 1) e x p (by simpa using h1) (by simpa using h2)) with ⟨h3, j, e, h4, h5, h6⟩ | ⟨h3, h4, h5⟩
    ·exact .inl ⟨h3, j + 1, e, by simpa using h4, by simpa using h5, by simp [Instr.findNow, hs, hb, h6]; omega⟩
    ·exact .inr ⟨h3, h4, by simp [Instr.findNow, hs, hb, h5]⟩
theorem Axd {C : Ctx} {A : Ar} (hA : A = std) (hC : C.OK) {o : Oper} {ow c : Bool} {s : St} {T : TypeId} {x i : Operand} {ok : Bool} (ho : o.op = .lookup T x i ok) : Snd C o ow c s (Ats C A c s T x i ok) := by
 intro k h
 have hmx : x ∈ o.op.operands := by simp [ho, Op.operands]
 have hmi : i ∈ o.op.operands := by simp [ho, Op.operands]
 unfold Ats at h
 split at h
 ·rename_i kt et _ _ _ hT
  obtain ⟨_, _, _, hu, _, _, _, hk⟩ := hC.ti T _ hT
  obtain rfl := KOk.map hk
  split at h
  ·rename_i rk re hrk hre
   obtain ⟨p, hpu, h', hp⟩ := Acz h
   clear h
   obtain ⟨q, h, hq⟩ := Aac (μ := fun _ _ => none) (w := default) (Z := fun _ _ => False) h'
   clear h'
   split at h
   ·rename_i kk g key
    split at h
    ·rename_i g' es hf
     obtain ⟨hg, hkk, hke, h⟩ := h
     have hTk := hC.ti kt rk hrk
     have hTe := hC.ti et re hre
     obtain ⟨_, dk, _, huk, _, _, _, hKk⟩ := id hTk
     obtain ⟨v0, b, v, hkv, himp, hfind⟩ : ∃ v0 b v, (match ok with | true => k (.tu [v, bl b]) s.sto | false => k v s.sto) ∧ LeQ v0 v ∧ ∀ (ms : List MapEntry) (i : Nat), ms.length = es.length → (∀ (j : Nat) (e : MapEntry) (x : Value) (p : PV), ms[j]? = some e → es[j]? = some (x, p) → e.key = x) →
       (b = true ∧ ∃ j e, ms[j]? = some e ∧ es[j]? = some (e.key, v0) ∧ Instr.findNow dk key ms i = some (some (i + j, e.val))) ∨ (b = false ∧ v0 = Azb re ∧ Instr.findNow dk key ms i = some none) := by
      cases h with
      | each h =>
       obtain ⟨v, b, h1, h2⟩ := Aox hA hKk hkk es hke.h h
       exact ⟨v, b, v, h1, fun _ _ _ _ h => h, h2⟩
      | one p okk h hk =>
       obtain ⟨v, b, ⟨h1, rfl⟩, h2⟩ := Aox hA hKk hkk es hke.h h
       exact ⟨v, b, p, hk, h1, h2⟩
     have hft : kk ∈ (foot C s.env s.sto o).1 := by simp [foot, ho, ← hpu, keyOf]
     -- a run
     have run : ∀ (μ : Nmap) (w : World) (Z : Nat → Nat → Prop) (ρ : Operand → Value), c = true → (∀ x ∈ o.op.operands, RP μ w Z (ρ x) (opd C s.env x)) → EntOK μ w Z kk g' (.map es) →
       ∃ val, RP μ w Z val v ∧ (execOp ρ o).run C.P w = .ok (.value (if ok then .tuple #[val, .bool b] else val)) w := by
      intro μ w Z ρ hc hx hent
      obtain rfl := Aae hg hc
      obtain ⟨bm, ms, h1, h2, ⟨h3, h4⟩, h5⟩ := hent
      have hp1 := hp μ w Z _ hc (hx x hmx)
      have hq1 := (hq μ w Z _ hc (hx i hmi)).val
      generalize hy : ρ x = y at hp1
      cases hp1 with
      | mp _ _ bm' h6 =>
       rw [h1] at h6; obtain rfl := Option.some.inj (Option.some.inj h6)
       have hck := run_checkKey hTk hkk ms.isEmpty w
       have hget : (getObj bm).run C.P w = .ok (.map ms ms.size) w := by
        simp [getObj, Sem.run, h2]
       obtain ⟨z0, hz0, hzr⟩ := A1c hTe w
       rcases hfind ms.toList 0 (by simpa using h3) (fun j e x p he hp => (h4 j e x p (by simpa using he) hp).1) with ⟨rfl, j, e, h7, h8, h9⟩ | ⟨rfl, rfl, h9⟩
       ·refine ⟨e.val, himp _ _ _ _ (h4 j e e.key v0 (by simpa using h7) h8).2.2, ?_⟩
        simp [execOp, ho, hy, hq1, Instr.lookup, und hu, hget, hck, Instr.findKey, und huk, h9]
       ·refine ⟨z0, himp _ _ _ _ (hzr μ Z), ?_⟩
        simp [execOp, ho, hy, hq1, Instr.lookup, und hu, hget, hck, Instr.findKey, und huk, h9, hz0]
     cases ok with
     | true =>
      refine ⟨_, _, hkv, fun hc => An3 hf hft fun μ w Z ρ _ hx hent => ?_, fun _ => rfl⟩
      obtain ⟨val, r1, r2⟩ := run μ w Z ρ hc hx hent
      refine ⟨_, r2, ?_⟩
      refine .tu [v, bl b] [val, .bool b] rfl fun n y q hy hq => ?_
      match n, hy, hq with
      | 0, hy, hq => cases hy; cases hq; exact r1
      | 1, hy, hq => cases hy; cases hq; exact RP.ofVal ..
      | n + 2, hy, hq => simp at hy
     | false =>
      refine ⟨_, _, hkv, fun hc => An3 hf hft fun μ w Z ρ _ hx hent => ?_, fun _ => rfl⟩
      obtain ⟨val, r1, r2⟩ := run μ w Z ρ hc hx hent
      exact ⟨_, r2, r1⟩
    ·exact h.elim
   ·exact h.elim
  ·exact h.elim
 ·exact h.elim
def opMakeMap (C : Ctx) (ow : Bool) (s : St) (dst : Option Nat) (r : Option Operand) (k : PV → List En → Prop) : Prop := match ow, dst, r with
 | true, some d, none => k (.mp d s.gen) (⟨d, s.gen, .map []⟩ :: s.sto)
 | _, _, _ => False
theorem Avc {C : Ctx} {o : Oper} {ow c : Bool} {s : St} {T : TypeId} {r : Option Operand} (ho : o.op = .makeMap T r) : Snd C o ow c s (opMakeMap C ow s o.dst r) := by
 intro k h
 unfold opMakeMap at h
 split at h
 ·rename_i d hd
  refine ⟨_, _, h, fun hc => ⟨emp, single d s.gen (.map []), ?_, fun _ _ _ h => by simp [emp] at h, den_cons _ _, fun k g h => by
   simp only [emp, single] at h
   split at h
   ·rename_i h1; simp [foot, ho, hd, h1.1]
   ·simp at h, fun h => by simp [foot, ho] at h⟩, fun h => by cases h⟩
  intro μ w Z ρ hg hx hw hf
  have hgr : Grown w (w.alloc (.map #[] 0)) (.map #[] 0) := ⟨rfl, rfl, rfl⟩
  have hone : ∀ k g c, single d s.gen (.map [] : Cell) k g = some c → k = d ∧ g = s.gen ∧ c = .map [] := by
   intro k g c h1
   simp only [single] at h1
   split at h1 <;> simp at h1
   rename_i h3
   exact ⟨h3.1, h3.2, h1.symm⟩
  have ha : Adv μ emp Z w (mset μ d s.gen (some w.heap.size)) (single d s.gen (.map [])) Z (w.alloc (.map #[] 0)) := Ajv hgr hw.zlt (Af1 (hf d hd)) (fun _ _ h => h) (fun _ _ h => .inl h) (by
   intro k g c b h1 h2
   obtain ⟨rfl, rfl, rfl⟩ := hone k g c h1
   rw [Aau] at h2
   exact (Option.some.inj (Option.some.inj h2)).symm)
  refine ⟨.map (some w.heap.size), w.alloc (.map #[] 0), mset μ d s.gen (some w.heap.size), Z, .inl ?_, .mp _ _ _ (Aau ..), ⟨fun k g c h1 => ?_, fun k g k' g' c c' b h1 h2 _ _ => ?_, fun b o h => Nat.lt_of_lt_of_le (hw.zlt b o h) ha.size⟩, ha, Aec o.dst hd⟩
  ·simp [execOp, ho, Instr.makeMap, newObj]
   rfl
  ·obtain ⟨rfl, rfl, rfl⟩ := hone k g c h1
   exact ⟨w.heap.size, #[], Aau .., hgr.new, ⟨rfl, fun i e x p he => by simp at he⟩, fun o h => absurd (hw.zlt _ o h) (by omega)⟩
  ·obtain ⟨rfl, rfl, _⟩ := hone k g c h1
   obtain ⟨rfl, rfl, _⟩ := hone k' g' c' h2
   exact ⟨rfl, rfl⟩
 ·exact h.elim
def Avd (A : Ar) (c : Bool) (key : Value) : List (Value × PV) → Prop
 | [] => True
 | (x, _) :: r => vc c (keyEq A key x = false) ∧ Avd A c key r
def Att (C : Ctx) (A : Ar) (c ow : Bool) (s : St) (T : TypeId) (x i y : Operand) (k : PV → List En → Prop) : Prop := match ow, C.ti T with
 | true, some ⟨.map kt et, _, _, _⟩ => match C.ti kt with
  | some rk => strip c (opd C s.env x) fun p => strip c (opd C s.env i) fun q => strip c (opd C s.env y) fun v => match p, q with
   | .mp kk g, .d (.v key) => match find s.sto kk with
    | some (g', .map es) => vc c (g' = g) ∧ (keyOK rk.k key = true) ∧ (An4 rk.k es = true) ∧ Avd A c key es ∧ k .any (setc s.sto kk (.map (es ++ [(key, v)])))
    | _ => False
   | _, _ => False
  | _ => False
 | _, _ => False
theorem Aqu {A : Ar} (hA : A = std) {d : TypeDesc} {tk : TK} (hK : KOk d tk) {key : Value} (hk : keyOK tk key = true) {c : Bool} (hc : c = true) : ∀ (es : List (Value × PV)) (ms : List MapEntry) (i : Nat), An4 tk es = true → Avd A c key es → ms.length = es.length →
  (∀ (j : Nat) (e : MapEntry) (x : Value) (p : PV), ms[j]? = some e → es[j]? = some (x, p) → e.key = x) → Instr.findNow d key ms i = some none
 | [], [], i, _, _, _, _ => rfl
 | (x, p) :: es, m :: ms, i, hes, hf, hl, hm => by
  simp only [An4, Bool.and_eq_true] at hes
  have hkey := hm 0 m x p rfl rfl
  have hs := Asy hA hK hk hes.1
  rw [Aae hf.1 hc, ← hkey] at hs
  simp [Instr.findNow, hs, Aqu hA hK hk hc es ms (i + 1) hes.2 hf.2 (by simpa using hl) (fun j e x p h1 h2 => hm (j + 1) e x p (by simpa using h1) (by simpa using h2))]
 | [], _ :: _, _, _, _, hl, _ => by simp at hl
 | _ :: _, [], _, _, _, hl, _ => by simp at hl
theorem Axe {C : Ctx} {A : Ar} (hA : A = std) (hC : C.OK) {o : Oper} {ow c : Bool} {s : St} {T : TypeId} {x i y : Operand} (ho : o.op = .insert T x i y) : Snd C o ow c s (Att C A c ow s T x i y) := by
 intro k h
 have hmx : x ∈ o.op.operands := by simp [ho, Op.operands]
 have hmi : i ∈ o.op.operands := by simp [ho, Op.operands]
 have hmy : y ∈ o.op.operands := by simp [ho, Op.operands]
 unfold Att at h
 split at h
 ·rename_i kt et _ _ _ hT
  obtain ⟨_, _, _, hu, _, _, _, hk⟩ := hC.ti T _ hT
  obtain rfl := KOk.map hk
  split at h
  ·rename_i rk hrk
   obtain ⟨p, hpu, h', hp⟩ := Acz h
   clear h
   obtain ⟨q, h, hq⟩ := Aac (μ := fun _ _ => none) (w := default) (Z := fun _ _ => False) h'
   clear h'
   obtain ⟨v, h', hv⟩ := Aac (μ := fun _ _ => none) (w := default) (Z := fun _ _ => False) h
   clear h
   split at h'
   ·rename_i kk g key
    split at h'
    ·rename_i g' es hf
     obtain ⟨hg, hkk, hke, hfr, h⟩ := h'
     have hTk := hC.ti kt rk hrk
     obtain ⟨_, dk, _, huk, _, _, _, hKk⟩ := id hTk
     refine ⟨_, _, h, fun hc => ⟨single kk g' (.map es), single kk g' (.map (es ++ [(key, v)])), ?_, single_den hf, Aka _ hf, fun k1 g1 h1 => ?_, fun h => by simp [foot, ho] at h⟩, fun h => by cases h⟩
     ·intro μ w Z ρ _ hx hw _
      obtain rfl := Aae hg hc
      obtain ⟨bm, ms, h1, h2, ⟨h3, h4⟩, h5⟩ := hw.ent kk g' (.map es) (by simp [single])
      have hp1 := hp μ w Z _ hc (hx x hmx)
      have hq1 := (hq μ w Z _ hc (hx i hmi)).val
      have hv1 := hv μ w Z _ hc (hx y hmy)
      generalize hy : ρ x = yy at hp1
      cases hp1 with
      | mp _ _ bm' h6 =>
       rw [h1] at h6; obtain rfl := Option.some.inj (Option.some.inj h6)
       have hck := run_checkKey hTk hkk false w
       have hget : (getObj bm).run C.P w = .ok (.map ms ms.size) w := by simp [getObj, Sem.run, h2]
       have hfn := Aqu hA hKk hkk hc es ms.toList 0 hke hfr (by simpa using h3) (fun j e x p he hp => (h4 j e x p (by simpa using he) hp).1)
       have hblt : bm < w.heap.size := EntOK.lt (c := .map es) ⟨bm, ms, h1, h2, ⟨h3, h4⟩, h5⟩ h1
       let w' : World := { w with heap := w.heap.setIfInBounds bm (.map (ms.push { key, val := ρ y, born := ms.size }) (ms.size + 1)) }
       have hother : ∀ b, b ≠ bm → w'.heap[b]? = w.heap[b]? := fun b hb => by
        simp only [w', Array.getElem?_setIfInBounds]
        rw [if_neg (fun e => hb e.symm)]
       have hself : w'.heap[bm]? = some (.map (ms.push { key, val := ρ y, born := ms.size }) (ms.size + 1)) := by
        simp [w', Array.getElem?_setIfInBounds, hblt]
       have hone : ∀ (cl : Cell) k1 g1 c1, single kk g' cl k1 g1 = some c1 → k1 = kk ∧ g1 = g' ∧ c1 = cl := by
        intro cl k1 g1 c1 h1
        simp only [single] at h1
        split at h1 <;> simp at h1
        rename_i h3
        exact ⟨h3.1, h3.2, h1.symm⟩
       have ha : Adv μ (single kk g' (.map es)) Z w μ (single kk g' (.map (es ++ [(key, v)]))) Z w' := by
        refine ⟨fun _ _ _ h => h, fun _ _ h => h, fun b o hz => ?_, fun b s hs => ?_, by simp [w'], fun b hb hn => hother b (fun e => hn kk g' (.map es) (by simp [single]) (by rw [e]; exact h1)), fun _ _ h => .inl h, fun k1 g1 c1 b h7 h8 => ?_, rfl, rfl⟩
        ·have hb : b ≠ bm := fun e => h5 o (by rw [← e]; exact hz)
         simp only [World.cell?, hother b hb]
        ·by_cases hb : b = bm
         ·subst hb; simp [World.shape?, h2] at hs
         ·simp only [World.shape?, hother b hb]; exact hs
        ·obtain ⟨rfl, rfl, rfl⟩ := hone _ _ _ _ h7
         exact .inr ⟨k1, g1, .map es, by simp [single], h8⟩
       refine ⟨undef, w', μ, Z, .inr ⟨?_, rfl⟩, .any _, ⟨fun k1 g1 c1 h7 => ?_, fun k1 g1 k2 g2 c1 c2 b h7 h8 _ _ => ?_, fun b o hz => by have := hw.zlt b o hz; simpa [w'] using this⟩, ha, fun _ _ _ => rfl⟩
       ·simp [execOp, ho, hy, hq1, Instr.mapUpdate, und hu, hget, hck, Instr.findKey, und huk, hfn, setObj, Sem.run, h2, w']
       ·obtain ⟨rfl, rfl, rfl⟩ := hone _ _ _ _ h7
        refine ⟨bm, ms.push { key := key, val := ρ y, born := ms.size }, h1, by rw [hself]; simp, ⟨by simp [h3], fun j e x p he hp' => ?_⟩, h5⟩
        rw [Array.getElem?_push] at he
        rw [List.getElem?_append] at hp'
        split at he
        ·rename_i hj
         cases he
         rw [if_neg (by omega)] at hp'
         have e0 : j - es.length = 0 := by omega
         rw [e0] at hp'
         simp only [List.getElem?_cons_zero] at hp'
         cases hp'
         exact ⟨rfl, hj.symm, hv1.adv ha⟩
        ·rename_i hj
         have hjl : j < ms.size := by
          rcases Nat.lt_or_ge j ms.size with h | h
          ·exact h
          ·rw [Array.getElem?_eq_none h] at he; cases he
         rw [if_pos (by omega)] at hp'
         obtain ⟨a1, a2, a3⟩ := h4 j e x p he hp'
         exact ⟨a1, a2, a3.adv ha⟩
       ·obtain ⟨rfl, rfl, _⟩ := hone _ _ _ _ h7
        obtain ⟨rfl, rfl, _⟩ := hone _ _ _ _ h8
        exact ⟨rfl, rfl⟩
     ·simp only [foot, ho, ← hpu, keyOf]
      simp only [single] at h1
      split at h1
      ·rename_i h2; simp [h2.1]
      ·simp at h1
    ·exact h'.elim
   ·exact h'.elim
  ·exact h.elim
 ·exact h.elim
structure FreshK (A : Ar) (c : Bool) (key : Value) (es : List (Value × PV)) : Prop where
 h : Avd A c key es
def Axf (C : Ctx) (A : Ar) (c ow : Bool) (s : St) (T : TypeId) (x i y : Operand) (k : PV → List En → Prop) : Prop := match ow, C.ti T with
 | true, some ⟨.map kt et, _, _, _⟩ => match C.ti kt with
  | some rk => strip c (opd C s.env x) fun p => strip c (opd C s.env i) fun q => strip c (opd C s.env y) fun v => match p, q with
   | .mp kk g, .d (.v key) => match find s.sto kk with
    | some (g', .map es) => vc c (g' = g) ∧ (keyOK rk.k key = true) ∧ KeysOK rk.k es ∧ FreshK A c key es ∧ k .any (setc s.sto kk (.map (A.snoc es key v)))
    | _ => False
   | _, _ => False
  | _ => False
 | _, _ => False
theorem Asf {C : Ctx} {A : Ar} (hA : A = std) (hC : C.OK) {o : Oper} {ow c : Bool} {s : St} {T : TypeId} {x i y : Operand} (ho : o.op = .mapUpdate T x i y) : Snd C o ow c s (Axf C A c ow s T x i y) := by
 subst hA
 have hA : std = std := rfl
 intro k h
 have hmx : x ∈ o.op.operands := by simp [ho, Op.operands]
 have hmi : i ∈ o.op.operands := by simp [ho, Op.operands]
 have hmy : y ∈ o.op.operands := by simp [ho, Op.operands]
 unfold Axf at h
 split at h
 ·rename_i kt et _ _ _ hT
  obtain ⟨_, _, _, hu, _, _, _, hk⟩ := hC.ti T _ hT
  obtain rfl := KOk.map hk
  split at h
  ·rename_i rk hrk
   obtain ⟨p, hpu, h', hp⟩ := Acz h
   clear h
   obtain ⟨q, h, hq⟩ := Aac (μ := fun _ _ => none) (w := default) (Z := fun _ _ => False) h'
   clear h'
   obtain ⟨v, h', hv⟩ := Aac (μ := fun _ _ => none) (w := default) (Z := fun _ _ => False) h
   clear h
   split at h'
   ·rename_i kk g key
    split at h'
    ·rename_i g' es hf
     obtain ⟨hg, hkk, hke, hfr, h⟩ := h'
     have hTk := hC.ti kt rk hrk
     obtain ⟨_, dk, _, huk, _, _, _, hKk⟩ := id hTk
     refine ⟨_, _, h, fun hc => ⟨single kk g' (.map es), single kk g' (.map (es ++ [(key, v)])), ?_, single_den hf, Aka _ hf, fun k1 g1 h1 => ?_, fun h => by simp [foot, ho] at h⟩, fun h => by cases h⟩
     ·intro μ w Z ρ _ hx hw _
      obtain rfl := Aae hg hc
      obtain ⟨bm, ms, h1, h2, ⟨h3, h4⟩, h5⟩ := hw.ent kk g' (.map es) (by simp [single])
      have hp1 := hp μ w Z _ hc (hx x hmx)
      have hq1 := (hq μ w Z _ hc (hx i hmi)).val
      have hv1 := hv μ w Z _ hc (hx y hmy)
      generalize hy : ρ x = yy at hp1
      cases hp1 with
      | mp _ _ bm' h6 =>
       rw [h1] at h6; obtain rfl := Option.some.inj (Option.some.inj h6)
       have hck := run_checkKey hTk hkk false w
       have hget : (getObj bm).run C.P w = .ok (.map ms ms.size) w := by simp [getObj, Sem.run, h2]
       have hfn := Aqu hA hKk hkk hc es ms.toList 0 hke.h hfr.h (by simpa using h3) (fun j e x p he hp => (h4 j e x p (by simpa using he) hp).1)
       have hblt : bm < w.heap.size := EntOK.lt (c := .map es) ⟨bm, ms, h1, h2, ⟨h3, h4⟩, h5⟩ h1
       let w' : World := { w with heap := w.heap.setIfInBounds bm (.map (ms.push { key, val := ρ y, born := ms.size }) (ms.size + 1)) }
       have hother : ∀ b, b ≠ bm → w'.heap[b]? = w.heap[b]? := fun b hb => by
        simp only [w', Array.getElem?_setIfInBounds]
        rw [if_neg (fun e => hb e.symm)]
       have hself : w'.heap[bm]? = some (.map (ms.push { key, val := ρ y, born := ms.size }) (ms.size + 1)) := by
        simp [w', Array.getElem?_setIfInBounds, hblt]
       have hone : ∀ (cl : Cell) k1 g1 c1, single kk g' cl k1 g1 = some c1 → k1 = kk ∧ g1 = g' ∧ c1 = cl := by
        intro cl k1 g1 c1 h1
        simp only [single] at h1
        split at h1 <;> simp at h1
        rename_i h3
        exact ⟨h3.1, h3.2, h1.symm⟩
       have ha : Adv μ (single kk g' (.map es)) Z w μ (single kk g' (.map (es ++ [(key, v)]))) Z w' := by
        refine ⟨fun _ _ _ h => h, fun _ _ h => h, fun b o hz => ?_, fun b s hs => ?_, by simp [w'], fun b hb hn => hother b (fun e => hn kk g' (.map es) (by simp [single]) (by rw [e]; exact h1)), fun _ _ h => .inl h, fun k1 g1 c1 b h7 h8 => ?_, rfl, rfl⟩
        ·have hb : b ≠ bm := fun e => h5 o (by rw [← e]; exact hz)
         simp only [World.cell?, hother b hb]
        ·by_cases hb : b = bm
         ·subst hb; simp [World.shape?, h2] at hs
         ·simp only [World.shape?, hother b hb]; exact hs
        ·obtain ⟨rfl, rfl, rfl⟩ := hone _ _ _ _ h7
         exact .inr ⟨k1, g1, .map es, by simp [single], h8⟩
       refine ⟨undef, w', μ, Z, .inr ⟨?_, rfl⟩, .any _, ⟨fun k1 g1 c1 h7 => ?_, fun k1 g1 k2 g2 c1 c2 b h7 h8 _ _ => ?_, fun b o hz => by have := hw.zlt b o hz; simpa [w'] using this⟩, ha, fun _ _ _ => rfl⟩
       ·simp [execOp, ho, hy, hq1, Instr.mapUpdate, und hu, hget, hck, Instr.findKey, und huk, hfn, setObj, Sem.run, h2, w']
       ·obtain ⟨rfl, rfl, rfl⟩ := hone _ _ _ _ h7
        refine ⟨bm, ms.push { key := key, val := ρ y, born := ms.size }, h1, by rw [hself]; simp, ⟨by simp [h3], fun j e x p he hp' => ?_⟩, h5⟩
        rw [Array.getElem?_push] at he
        rw [List.getElem?_append] at hp'
        split at he
        ·rename_i hj
         cases he
         rw [if_neg (by omega)] at hp'
         have e0 : j - es.length = 0 := by omega
         rw [e0] at hp'
         simp only [List.getElem?_cons_zero] at hp'
         cases hp'
         exact ⟨rfl, hj.symm, hv1.adv ha⟩
        ·rename_i hj
         have hjl : j < ms.size := by
          rcases Nat.lt_or_ge j ms.size with h | h
          ·exact h
          ·rw [Array.getElem?_eq_none h] at he; cases he
         rw [if_pos (by omega)] at hp'
         obtain ⟨a1, a2, a3⟩ := h4 j e x p he hp'
         exact ⟨a1, a2, a3.adv ha⟩
       ·obtain ⟨rfl, rfl, _⟩ := hone _ _ _ _ h7
        obtain ⟨rfl, rfl, _⟩ := hone _ _ _ _ h8
        exact ⟨rfl, rfl⟩
     ·simp only [foot, ho, ← hpu, keyOf]
      simp only [single] at h1
      split at h1
      ·rename_i h2; simp [h2.1]
      ·simp at h1
    ·exact h'.elim
   ·exact h'.elim
  ·exact h.elim
 ·exact h.elim
end Go.PL
namespace Go.PL
set_option linter.unusedSimpArgs false
set_option linter.unusedVariables false
set_option linter.unusedSectionVars false
open Tys (Ty U)
open Enc (sz enc dflt tb ofB toB)
open Dec (dec dok)
variable [Tys] [Enc] [Dec]
open Go.ChangeMaps (setBlock)
def opFieldV (C : Ctx) (c : Bool) (s : St) (T : TypeId) (x : Operand) (f : Nat) (k : PV → List En → Prop) : Prop := match C.ti T with
 | some ⟨.struct fs, _, _, _⟩ => match fs[f]? with
  | some (off, t) => match C.ti t with
   | some r => strip c (opd C s.env x) fun p => match p with
    | .ag vs => match r.k.agg with
     | true => (off + r.size ≤ vs.length) ∧ k (.ag ((vs.drop off).take r.size)) s.sto
     | false => match vs[off]? with
      | some q => k q s.sto
      | none => False
    | _ => False
   | none => False
  | none => False
 | _ => False
theorem Axg {C : Ctx} (hC : C.OK) {o : Oper} {ow c : Bool} {s : St} {T : TypeId} {x : Operand} {f : Nat} (ho : o.op = .field T x f) : Snd C o ow c s (opFieldV C c s T x f) := by
 intro k h
 unfold opFieldV at h
 split at h
 ·rename_i fs _ _ _ hT
  split at h
  ·rename_i off t hf
   split at h
   ·rename_i r hr
    obtain ⟨p, h, hp⟩ := Aac (μ := fun _ _ => none) (w := default) (Z := fun _ _ => False) h
    obtain ⟨_, d, _, h2, _, _, _, h5⟩ := hC.ti T _ hT
    obtain ⟨F, rfl, hF⟩ := KOk.struct h5
    have hfd : ∃ fd, F[f]? = some fd ∧ fd.offset = off ∧ fd.type = t := by
     rw [← hF, List.getElem?_map] at hf
     rw [← Array.getElem?_toList]
     cases hq : F.toList[f]? with
     | none => rw [hq] at hf; cases hf
     | some fd => rw [hq] at hf; cases hf; exact ⟨fd, rfl, rfl, rfl⟩
    obtain ⟨fd, h6, rfl, rfl⟩ := hfd
    obtain ⟨i, _, h8, _, h9, _⟩ := id (hC.ti _ r hr)
    split at h
    ·rename_i vs
     split at h
     ·rename_i ha
      refine ⟨_, _, h.2, fun hc => opR_val fun μ w Z ρ hx => ?_, fun _ => rfl⟩
      have h1 := hp μ w Z _ hc (hx x (by simp [ho, Op.operands]))
      generalize hy : ρ x = y at h1
      cases h1 with
      | ag _ us hl hh =>
       refine ⟨.agg (us.toArray.extract fd.offset (fd.offset + r.size)), ?_, ?_⟩
       ·simp [execOp, ho, hy, Instr.field, und h2, h6, asAgg, part, Aju (hC.ti _ r hr), ha, szOf h8, h9]
       ·have e : us.toArray.extract fd.offset (fd.offset + r.size) = ((us.drop fd.offset).take r.size).toArray := by
         apply Array.ext'
         simp [Array.toList_extract, List.extract_eq_take_drop]
        rw [e]
        refine .ag _ _ (by simp [hl]) fun j v q hv hq => ?_
        rw [List.getElem?_take, List.getElem?_drop] at hv hq
        split at hv
        ·rename_i hj
         rw [if_pos hj] at hq
         exact hh _ v q hv hq
        ·cases hv
     ·rename_i ha
      split at h
      ·rename_i q hq
       refine ⟨_, _, h, fun hc => opR_val fun μ w Z ρ hx => ?_, fun _ => rfl⟩
       have h1 := hp μ w Z _ hc (hx x (by simp [ho, Op.operands]))
       generalize hy : ρ x = y at h1
       cases h1 with
       | ag _ us hl hh =>
        have hlt : fd.offset < us.length := by
         rw [hl]
         rcases Nat.lt_or_ge fd.offset vs.length with h | h
         ·exact h
         ·rw [List.getElem?_eq_none h] at hq; cases hq
        refine ⟨us[fd.offset], ?_, hh _ _ q (List.getElem?_eq_getElem hlt) hq⟩
        simp [execOp, ho, hy, Instr.field, und h2, h6, asAgg, part, Aju (hC.ti _ r hr), ha, hlt]
      ·exact h.elim
    ·exact h.elim
   ·exact h.elim
  ·exact h.elim
 ·exact h.elim
/-! ### going over a map -/
def opRange (C : Ctx) (ow c : Bool) (s : St) (dst : Option Nat) (T : TypeId) (x : Operand) (k : PV → List En → Prop) : Prop := match ow, dst, C.ti T with
 | true, some d, some ⟨.map _ _, _, _, _⟩ => strip c (opd C s.env x) fun p => match p with
  | .mp mk g => match find s.sto mk with
   | some (g', .map es) => vc c (g' = g) ∧ k (.bx d s.gen 0) (⟨d, s.gen, .iter mk g' es.length es.length []⟩ :: s.sto)
   | _ => False
  | _ => False
 | _, _, _ => False
theorem A0a {C : Ctx} (hC : C.OK) {o : Oper} {ow c : Bool} {s : St} {T : TypeId} {x : Operand} (ho : o.op = .range T x) : Snd C o ow c s (opRange C ow c s o.dst T x) := by
 intro k h
 unfold opRange at h
 split at h
 ·rename_i d _ _ _ _ _ hd hT
  obtain ⟨p, hpu, h, hp⟩ := Acz h
  split at h
  ·rename_i mk g
   split at h
   ·rename_i g' es hf
    obtain ⟨hg, h⟩ := h
    let it : Cell := .iter mk g' es.length es.length []
    refine ⟨_, _, h, fun hc => ⟨single mk g' (.map es), mput (single mk g' (.map es)) emp (single d s.gen it), ?_, single_den hf, ?_, ?_, fun h => by simp [foot, ho] at h⟩, fun h => by cases h⟩
    ·intro μ w Z ρ _ hx hw hfr
     obtain rfl := Aae hg hc
     have h1 := hp μ w Z _ hc (hx x (by simp [ho, Op.operands]))
     obtain ⟨b, ms, h2, h3, ⟨h4, h5⟩, h6⟩ := hw.ent mk g' (.map es) (by simp [single])
     obtain ⟨_, dd, _, h7, _, _, _, h8⟩ := hC.ti T _ hT
     obtain rfl := KOk.map h8
     generalize hxe : ρ x = y at h1
     cases h1 with
     | mp _ _ b' hb =>
      rw [h2] at hb; obtain rfl := Option.some.inj (Option.some.inj hb)
      have hrun := run_range_map (P := C.P) w T _ _ b ms ms.size h7 h3
      have hgr : Grown w (w.alloc (.mapIter (some b) ms.size #[] ms.size)) (.mapIter (some b) ms.size #[] ms.size) := ⟨rfl, rfl, rfl⟩
      have hone : ∀ k g c, single d s.gen it k g = some c → k = d ∧ g = s.gen ∧ c = it := by
       intro k g c h1
       simp only [single] at h1
       split at h1 <;> simp at h1
       rename_i h3
       exact ⟨h3.1, h3.2, h1.symm⟩
      have hemp : WR μ emp Z w := ⟨fun k g c h => by simp [emp] at h, fun k g k' g' c c' b h => by simp [emp] at h, hw.zlt⟩
      have ha : Adv μ emp Z w (mset μ d s.gen (some w.heap.size)) (single d s.gen it) Z (w.alloc (.mapIter (some b) ms.size #[] ms.size)) := Ajv hgr hw.zlt (Af1 (hfr d hd)) (fun _ _ h => h) (fun _ _ h => .inl h) (by
       intro k g c b h1 h2
       obtain ⟨rfl, rfl, rfl⟩ := hone k g c h1
       rw [Aau] at h2
       exact (Option.some.inj (Option.some.inj h2)).symm)
      have hwr : WR (mset μ d s.gen (some w.heap.size)) (single d s.gen it) Z (w.alloc (.mapIter (some b) ms.size #[] ms.size)) := by
       refine ⟨fun k g c h1 => ?_, fun k g k' g' c c' b h1 h2 _ _ => ?_, fun b o h => Nat.lt_of_lt_of_le (hw.zlt b o h) ha.size⟩
       ·obtain ⟨rfl, rfl, rfl⟩ := hone k g c h1
        refine ⟨w.heap.size, b, Aau .., ⟨Af1 (hfr _ hd) _ _ _ h2, ?_⟩, fun o h => absurd (hw.zlt _ o h) (by omega)⟩
        rw [hgr.new, h4]; rfl
       ·obtain ⟨rfl, rfl, _⟩ := hone k g c h1
        obtain ⟨rfl, rfl, _⟩ := hone k' g' c' h2
        exact ⟨rfl, rfl⟩
      obtain ⟨h9, h10⟩ := Amq hw (fun k g c h => by simp [emp] at h) hwr ha
      refine ⟨_, _, _, Z, .inl ?_, .bx _ _ _ _ (Aau ..), h9, h10, Aec o.dst hd⟩
      simp only [execOp, ho, hxe, Sem.run_bind, hrun]; rfl
    ·rw [den_cons]
     funext k1 g1
     simp only [mput, emp, single]
     by_cases e1 : k1 = d ∧ g1 = s.gen
     ·simp [e1, it]
     ·by_cases e2 : k1 = mk ∧ g1 = g'
      ·obtain ⟨rfl, rfl⟩ := e2
       simp only [e1, if_false]
       simp [Aa6 hf]
      ·simp [e1, e2]
    ·intro k1 g1 h1
     have hm : mk ∈ keyOf (unc (opd C s.env x)) := by rw [← hpu]; simp [keyOf]
     simp only [foot, ho, hd, Option.toList, List.mem_append, List.mem_singleton]
     simp only [mput, emp, single] at h1
     by_cases e1 : k1 = d ∧ g1 = s.gen
     ·exact .inl e1.1
     ·by_cases e2 : k1 = mk ∧ g1 = g'
      ·exact .inr (by rw [e2.1]; exact hm)
      ·simp [e1, e2] at h1
   ·exact h.elim
  ·exact h.elim
 ·exact h.elim
def A1d (C : Ctx) (c : Bool) (s : St) (x : Operand) (k : PV → List En → Prop) : Prop :=
 strip c (opd C s.env x) fun p => match p with
 | .bx ki gi 0 => match find s.sto ki with
  | some (gi', .iter mk mg _ stepped (j :: _)) => match find s.sto mk with
   | some (mg', .map es) => match es[j]? with
    | some (y, q) => vc c (gi' = gi) ∧ vc c (mg' = mg) ∧ vc c (stepped = es.length) ∧ k (.tu [.d (.v y), q]) s.sto
    | none => False
   | _ => False
  | _ => False
 | _ => False
theorem A1e {C : Ctx} {o : Oper} {s : St} {v : PV} {k1 g1 k2 g2 : Nat} {c1 c2 : Cell} (hf1 : find s.sto k1 = some (g1, c1)) (hf2 : find s.sto k2 = some (g2, c2)) (hft1 : k1 ∈ (foot C s.env s.sto o).1) (hft2 : k2 ∈ (foot C s.env s.sto o).1)
  (h : ∀ (μ : Nmap) (w : World) (Z : Nat → Nat → Prop) (ρ : Operand → Value), GI C μ w Z → (∀ x ∈ o.op.operands, RP μ w Z (ρ x) (opd C s.env x)) → EntOK μ w Z k1 g1 c1 → EntOK μ w Z k2 g2 c2 → ∃ val, (execOp ρ o).run C.P w = .ok (.value val) w ∧ RP μ w Z val v) : OpR C o s v s.sto := by
 let fp : Mem := fun k g => if k = k1 ∧ g = g1 then some c1 else single k2 g2 c2 k g
 have hden : ∀ k g c, fp k g = some c → den s.sto k g = some c := by
  intro k g c hh
  simp only [fp] at hh
  split at hh
  ·rename_i e; obtain ⟨rfl, rfl⟩ := e; cases hh; exact Aa6 hf1
  ·exact single_den hf2 k g c hh
 refine ⟨fp, fp, Ahx fun μ w Z ρ hg hx hw => h μ w Z ρ hg hx (hw.ent _ _ _ (by simp [fp])) ?_, hden, ?_, fun k g hh => ?_, fun _ => rfl⟩
 ·by_cases e : k2 = k1 ∧ g2 = g1
  ·obtain ⟨rfl, rfl⟩ := e
   rw [hf1] at hf2; cases hf2
   exact hw.ent _ _ _ (by simp [fp])
  ·exact hw.ent _ _ _ (by simp [fp, e, single])
 ·funext k g
  simp only [mput]
  cases hq : fp k g with
  | none => simp
  | some c => exact hden k g c hq
 ·simp only [or_self] at hh
  simp only [fp, single] at hh
  split at hh
  ·rename_i e; rw [e.1]; exact hft1
  ·split at hh
   ·rename_i e; rw [e.1]; exact hft2
   ·exact absurd rfl hh
theorem opEntry_ok {C : Ctx} (hC : C.OK) {o : Oper} {ow c : Bool} {s : St} {x : Operand} (ho : o.op = .entry x) : Snd C o ow c s (A1d C c s x) := by
 intro k h
 obtain ⟨p, hpu, h, hp⟩ := Acz h
 split at h
 ·rename_i ki gi
  split at h
  ·rename_i gi' mk mg since stepped j seen hf1
   split at h
   ·rename_i mg' es hf2
    split at h
    ·rename_i y q hj
     obtain ⟨hg1, hg2, hst, hk⟩ := h
     have hfoot : (foot C s.env s.sto o).1 = [ki, mk] := by simp [foot, ho, ← hpu, keyOf, hf1]
     refine ⟨_, _, hk, fun hc => A1e hf1 hf2 (by simp [hfoot]) (by simp [hfoot]) fun μ w Z ρ _ hx he1 he2 => ?_, fun _ => rfl⟩
     obtain rfl := Aae hg1 hc
     obtain rfl := Aae hg2 hc
     obtain rfl := Aae hst hc
     have h1 := hp μ w Z _ hc (hx x (by simp [ho, Op.operands]))
     obtain ⟨b, bm, a1, ⟨a2, a3⟩, _⟩ := he1
     obtain ⟨bm', ms, b1, b2, ⟨b3, b4⟩, _⟩ := he2
     rw [a2] at b1; obtain rfl := Option.some.inj (Option.some.inj b1)
     generalize hxe : ρ x = z at h1
     cases h1 with
     | bx _ _ _ b' hb =>
      rw [a1] at hb; obtain rfl := Option.some.inj (Option.some.inj hb)
      have hlt : j < ms.size := by
       rw [b3]
       rcases Nat.lt_or_ge j es.length with h | h
       ·exact h
       ·rw [List.getElem?_eq_none h] at hj; cases hj
      have hms : ms[j]? = some ms[j] := Array.getElem?_eq_getElem hlt
      obtain ⟨c1, c2, c3⟩ := b4 j ms[j] y q hms hj
      have hnd : (ms.toList.map (·.born)).Nodup := by
       have : ms.toList.map (·.born) = List.range ms.size := by
        apply List.ext_getElem?
        intro i
        rw [List.getElem?_map]
        rcases Nat.lt_or_ge i ms.size with hi | hi
        ·have hi' : i < es.length := by omega
         obtain ⟨_, d2, _⟩ := b4 i ms[i] es[i].1 es[i].2 (Array.getElem?_eq_getElem hi) (by rw [List.getElem?_eq_getElem hi'])
         rw [Array.getElem?_toList, Array.getElem?_eq_getElem hi]
         simp [d2, hi]
        ·rw [Array.getElem?_toList, Array.getElem?_eq_none hi, List.getElem?_eq_none (by simpa using hi)]; rfl
       rw [this]; exact List.nodup_range
      have e3 : (j :: seen).reverse.toArray = (seen.reverse.toArray).push ms[j].born := by simp [c2]
      rw [e3, ← b3] at a3
      have hrun := run_entry_at (P := C.P) w b bm since seen.reverse.toArray ms ms.size ms[j] a3 b2 (by simp) hnd
      refine ⟨.tuple #[ms[j].key, ms[j].val], ?_, ?_⟩
      ·simp only [execOp, ho, hxe, Sem.run_bind, hrun]; rfl
      ·refine .tu _ [ms[j].key, ms[j].val] rfl fun i v p hv hp => ?_
       match i, hv, hp with
       | 0, hv, hp => cases hv; cases hp; rw [c1]; exact RP.ofVal ..
       | 1, hv, hp => cases hv; cases hp; exact c3
       | i + 2, hv, hp => simp at hv
    ·exact h.elim
   ·exact h.elim
  ·exact h.elim
 ·exact h.elim
end Go.PL
namespace Go.PL
set_option linter.unusedSimpArgs false
set_option linter.unusedVariables false
set_option linter.unusedSectionVars false
open Tys (Ty U)
open Enc (sz enc dflt tb ofB toB)
open Dec (dec dok)
variable [Tys] [Enc] [Dec]
def Aa7 : Nmap := fun _ _ => none
def bare : PV → Bool
 | .d _ | .ip _ | .any | .nz => true
 | .fn _ l m => bares l && bares m
 | .ag l | .tu l => bares l
 | .cond _ p => bare p
 | _ => false
 where bares : List PV → Bool
 | [] => true
 | p :: r => bare p && bares r
theorem Akx : ∀ {l : List PV}, bare.bares l = true → ∀ (i : Nat) (p : PV), l[i]? = some p → bare p = true
 | [], _, i, p, h => by simp at h
 | q :: r, hb, i, p, h => by
  simp only [bare.bares, Bool.and_eq_true] at hb
  cases i with
  | zero => simp at h; subst h; exact hb.1
  | succ i => exact Akx hb.2 i p (by simpa using h)
theorem RP.bare {μ μ' : Nmap} {w : World} {Z : Nat → Nat → Prop} {x : Value} {p : PV} (h : RP μ w Z x p) (hb : bare p = true) : RP μ' w Z x p := by
 induction h with
 | d x d h => exact .d x d h
 | bx => simp [Go.PL.bare] at hb
 | ip ds b off vs h => exact .ip ds b off vs h
 | osN => simp [Go.PL.bare] at hb
 | os => simp [Go.PL.bare] at hb
 | fn f first cap vs us hl hm h h' ih ih' =>
  simp only [Go.PL.bare, Bool.and_eq_true] at hb
  exact .fn f first cap vs us hl hm (fun i x p hx hp => ih i x p hx hp (Akx hb.1 i p hp)) (fun i x p hx hp => ih' i x p hx hp (Akx hb.2 i p hp))
 | ag ps vs hl h ih => exact .ag ps vs hl fun i x p hx hp => ih i x p hx hp (Akx hb i p hp)
 | tu ps vs hl h ih => exact .tu ps vs hl fun i x p hx hp => ih i x p hx hp (Akx hb i p hp)
 | mp => simp [Go.PL.bare] at hb
 | cond c x p h h' ih => exact .cond c x p (fun hc => ih hc hb) h'
 | ms => simp [Go.PL.bare] at hb
 | msE => simp [Go.PL.bare] at hb
 | nz a => exact .nz a
 | ep => simp [Go.PL.bare] at hb
 | npN => simp [Go.PL.bare] at hb
 | np => simp [Go.PL.bare] at hb
 | any x => exact .any x
theorem GIat.bare {μ μ' : Nmap} {w : World} {Z : Nat → Nat → Prop} {g : Nat} {ds : List D} (h : GIat μ w Z g ds) (_ : true = true) : GIat μ' w Z g ds := ⟨h.rp.bare rfl, h.shp⟩
theorem RPs.bare {μ μ' : Nmap} {w : World} {Z : Nat → Nat → Prop} {xs : List Value} {ps : List PV} (h : RPs μ w Z xs ps) (hb : bare.bares ps = true) : RPs μ' w Z xs ps :=
 ⟨h.1, fun i x p hx hp => (h.2 i x p hx hp).bare (Akx hb i p hp)⟩
def ZLt (Z : Nat → Nat → Prop) (w : World) : Prop := ∀ b o, Z b o → b < w.heap.size
def Azc (P : Program) (f : Nat) (vals : Array Value) (w : World) (R : Ending → World → Prop) : Prop :=
 ((callFunc f vals).run P w = .ok (.enter f vals) w ∧ Calls P f vals w R) ∨ ∃ v w', (callFunc f vals).run P w = .ok (.value v) w' ∧ R (.returned v) w'
structure PFun (C : Ctx) (f : Nat) (args : List PV) (r : PV) : Prop where
 run : ∀ (w : World) (Z : Nat → Nat → Prop) (vals : List Value), RPs Aa7 w Z vals args → GI C Aa7 w Z → ZLt Z w →
  Azc C.P f vals.toArray w fun e w' => ∃ v Z', e = .returned v ∧ RP Aa7 w' Z' v r ∧ ZLt Z' w' ∧ Adv Aa7 emp Z w Aa7 emp Z' w'
def LeD (x y : D) : Prop := match x, y with
 | .v (.int k n), .v (.int k' n') => k = k' ∧ n = n'
 | .v (.bool a), .v (.bool b) => a = b
 | .v (.string a), .v (.string b) => a = b
 | .v (.slice none 0 0), .sl t ys => ys = []
 | .sl t xs, .sl t' ys => (⟨t, xs⟩ : (t : Ty) × List (U t)) = ⟨t', ys⟩
 | x, y => x = y
theorem LeD.rd {x y : D} (h : LeD x y) {w : World} {Z : Nat → Nat → Prop} {v : Value} (hv : RD w Z v x) : RD w Z v y := by
 unfold LeD at h
 split at h
 ·obtain ⟨rfl, rfl⟩ := h; exact hv
 ·subst h; exact hv
 ·subst h; exact hv
 ·subst h; cases hv; exact .nil _ _ _
 ·rename_i t xs t' ys
  have e : D.sl t xs = D.sl t' ys := by
   have h2 : (fun p : (t : Ty) × List (U t) => D.sl p.1 p.2) ⟨t, xs⟩ = (fun p : (t : Ty) × List (U t) => D.sl p.1 p.2) ⟨t', ys⟩ := by rw [h]
   exact h2
  rw [← e]; exact hv
 ·subst h; exact hv
def LeP : PV → PV → Prop
 | _, .any => True
 | .d x, .d y => LeD x y
 | .os _ _ t xs, .d y => LeD (.sl t xs) y
 | .d x, .fn g fs cs => x = .v (.func g #[] #[]) ∧ fs = [] ∧ cs = []
 | .d x, .np _ _ => x = .v (.pointer none)
 | .bx k g o, .np k' g' => k = k' ∧ g = g' ∧ o = 0
 | .ag l, .ag m => LePs l m
 | .tu l, .tu m => LePs l m
 | p, q => p = q
 where LePs : List PV → List PV → Prop
 | [], [] => True
 | p :: l, q :: m => LeP p q ∧ LePs l m
 | _, _ => False
mutual
theorem LeP.rp {μ : Nmap} {w : World} {Z : Nat → Nat → Prop} : ∀ (p q : PV), LeP p q → ∀ v, RP μ w Z v p → RP μ w Z v q
 | p, .any, _, v, _ => .any v
 | .d x, .d y, h, v, hv => by
  simp only [LeP] at h
  cases hv with
  | d _ _ hd => exact .d _ _ (LeD.rd h hd)
 | .d x, .fn g fs cs, h, v, hv => by
  simp only [LeP] at h
  obtain ⟨rfl, rfl, rfl⟩ := h
  have := hv.val
  subst this
  exact .fn g [] [] [] [] rfl rfl (fun i x p hx => by simp at hx) (fun i x p hx => by simp at hx)
 | .os k g t xs, .d y, h, v, hv => by
  simp only [LeP] at h
  exact .d _ _ (LeD.rd h hv.os_sl)
 | .ag l, .ag m, h, v, hv => by
  simp only [LeP] at h
  cases hv with
  | ag _ vs hl hh => exact .ag _ _ (by rw [hl]; exact LePs.len l m h) fun i x q hx hq => LePs.rp l m h vs hl hh i x q hx hq
 | .tu l, .tu m, h, v, hv => by
  simp only [LeP] at h
  cases hv with
  | tu _ vs hl hh => exact .tu _ _ (by rw [hl]; exact LePs.len l m h) fun i x q hx hq => LePs.rp l m h vs hl hh i x q hx hq
 | .d x, .bx .., h, v, hv | .d x, .ip .., h, v, hv | .d x, .os .., h, v, hv | .d x, .ag .., h, v, hv | .d x, .tu .., h, v, hv | .d x, .mp .., h, v, hv | .d x, .cond .., h, v, hv | .d x, .ms .., h, v, hv | .d x, .ep .., h, v, hv | .d x, .nz, h, v, hv => by simp [LeP] at h
 | .os k g t xs, .bx .., h, v, hv | .os k g t xs, .ip .., h, v, hv | .os k g t xs, .fn .., h, v, hv | .os k g t xs, .ag .., h, v, hv | .os k g t xs, .tu .., h, v, hv | .os k g t xs, .mp .., h, v, hv | .os k g t xs, .cond .., h, v, hv | .os k g t xs, .ms .., h, v, hv | .os k g t xs, .ep .., h, v, hv | .os k g t xs, .nz, h, v, hv | .os k g t xs, .np .., h, v, hv => by simp [LeP] at h
 | .os k g t xs, .os .., h, v, hv => by rw [← (show _ = _ from h)]; exact hv
 | .ag l, .d _, h, v, hv | .ag l, .bx .., h, v, hv | .ag l, .ip .., h, v, hv | .ag l, .os .., h, v, hv | .ag l, .fn .., h, v, hv | .ag l, .tu .., h, v, hv | .ag l, .mp .., h, v, hv | .ag l, .cond .., h, v, hv | .ag l, .ms .., h, v, hv | .ag l, .ep .., h, v, hv | .ag l, .nz, h, v, hv | .ag l, .np .., h, v, hv => by simp [LeP] at h
 | .tu l, .d _, h, v, hv | .tu l, .bx .., h, v, hv | .tu l, .ip .., h, v, hv | .tu l, .os .., h, v, hv | .tu l, .fn .., h, v, hv | .tu l, .ag .., h, v, hv | .tu l, .mp .., h, v, hv | .tu l, .cond .., h, v, hv | .tu l, .ms .., h, v, hv | .tu l, .ep .., h, v, hv | .tu l, .nz, h, v, hv | .tu l, .np .., h, v, hv => by simp [LeP] at h
 | .bx .., .d _, h, v, hv | .bx .., .bx .., h, v, hv | .bx .., .ip .., h, v, hv | .bx .., .os .., h, v, hv | .bx .., .fn .., h, v, hv | .bx .., .ag .., h, v, hv | .bx .., .tu .., h, v, hv | .bx .., .mp .., h, v, hv | .bx .., .cond .., h, v, hv | .bx .., .ms .., h, v, hv | .bx .., .ep .., h, v, hv | .bx .., .nz, h, v, hv => by rw [← (show _ = _ from h)]; exact hv
 | .ip .., .d _, h, v, hv | .ip .., .bx .., h, v, hv | .ip .., .ip .., h, v, hv | .ip .., .os .., h, v, hv | .ip .., .fn .., h, v, hv | .ip .., .ag .., h, v, hv | .ip .., .tu .., h, v, hv | .ip .., .mp .., h, v, hv | .ip .., .cond .., h, v, hv | .ip .., .ms .., h, v, hv | .ip .., .ep .., h, v, hv | .ip .., .nz, h, v, hv | .ip .., .np .., h, v, hv => by rw [← (show _ = _ from h)]; exact hv
 | .fn .., .d _, h, v, hv | .fn .., .bx .., h, v, hv | .fn .., .ip .., h, v, hv | .fn .., .os .., h, v, hv | .fn .., .fn .., h, v, hv | .fn .., .ag .., h, v, hv | .fn .., .tu .., h, v, hv | .fn .., .mp .., h, v, hv | .fn .., .cond .., h, v, hv | .fn .., .ms .., h, v, hv | .fn .., .ep .., h, v, hv | .fn .., .nz, h, v, hv | .fn .., .np .., h, v, hv => by rw [← (show _ = _ from h)]; exact hv
 | .mp .., .d _, h, v, hv | .mp .., .bx .., h, v, hv | .mp .., .ip .., h, v, hv | .mp .., .os .., h, v, hv | .mp .., .fn .., h, v, hv | .mp .., .ag .., h, v, hv | .mp .., .tu .., h, v, hv | .mp .., .mp .., h, v, hv | .mp .., .cond .., h, v, hv | .mp .., .ms .., h, v, hv | .mp .., .ep .., h, v, hv | .mp .., .nz, h, v, hv | .mp .., .np .., h, v, hv => by rw [← (show _ = _ from h)]; exact hv
 | .cond .., .d _, h, v, hv | .cond .., .bx .., h, v, hv | .cond .., .ip .., h, v, hv | .cond .., .os .., h, v, hv | .cond .., .fn .., h, v, hv | .cond .., .ag .., h, v, hv | .cond .., .tu .., h, v, hv | .cond .., .mp .., h, v, hv | .cond .., .cond .., h, v, hv | .cond .., .ms .., h, v, hv | .cond .., .ep .., h, v, hv | .cond .., .nz, h, v, hv | .cond .., .np .., h, v, hv => by rw [← (show _ = _ from h)]; exact hv
 | .any, .d _, h, v, hv | .any, .bx .., h, v, hv | .any, .ip .., h, v, hv | .any, .os .., h, v, hv | .any, .fn .., h, v, hv | .any, .ag .., h, v, hv | .any, .tu .., h, v, hv | .any, .mp .., h, v, hv | .any, .cond .., h, v, hv | .any, .ms .., h, v, hv | .any, .ep .., h, v, hv | .any, .nz, h, v, hv | .any, .np .., h, v, hv => by rw [← (show _ = _ from h)]; exact hv
 | .ms .., .d _, h, v, hv | .ms .., .bx .., h, v, hv | .ms .., .ip .., h, v, hv | .ms .., .os .., h, v, hv | .ms .., .fn .., h, v, hv | .ms .., .ag .., h, v, hv | .ms .., .tu .., h, v, hv | .ms .., .mp .., h, v, hv | .ms .., .cond .., h, v, hv | .ms .., .ms .., h, v, hv | .ms .., .ep .., h, v, hv | .ms .., .nz, h, v, hv | .ms .., .np .., h, v, hv => by rw [← (show _ = _ from h)]; exact hv
 | .ep .., .d _, h, v, hv | .ep .., .bx .., h, v, hv | .ep .., .ip .., h, v, hv | .ep .., .os .., h, v, hv | .ep .., .fn .., h, v, hv | .ep .., .ag .., h, v, hv | .ep .., .tu .., h, v, hv | .ep .., .mp .., h, v, hv | .ep .., .cond .., h, v, hv | .ep .., .ms .., h, v, hv | .ep .., .ep .., h, v, hv | .ep .., .nz, h, v, hv | .ep .., .np .., h, v, hv => by rw [← (show _ = _ from h)]; exact hv
 | .nz, .d _, h, v, hv | .nz, .bx .., h, v, hv | .nz, .ip .., h, v, hv | .nz, .os .., h, v, hv | .nz, .fn .., h, v, hv | .nz, .ag .., h, v, hv | .nz, .tu .., h, v, hv | .nz, .mp .., h, v, hv | .nz, .cond .., h, v, hv | .nz, .ms .., h, v, hv | .nz, .ep .., h, v, hv | .nz, .nz, h, v, hv | .nz, .np .., h, v, hv => by rw [← (show _ = _ from h)]; exact hv
 | .np .., .d _, h, v, hv | .np .., .bx .., h, v, hv | .np .., .ip .., h, v, hv | .np .., .os .., h, v, hv | .np .., .fn .., h, v, hv | .np .., .ag .., h, v, hv | .np .., .tu .., h, v, hv | .np .., .mp .., h, v, hv | .np .., .cond .., h, v, hv | .np .., .ms .., h, v, hv | .np .., .ep .., h, v, hv | .np .., .nz, h, v, hv | .np .., .np .., h, v, hv => by rw [← (show _ = _ from h)]; exact hv
 | .d x, .np k g, h, v, hv => by
  simp only [LeP] at h
  subst h
  rw [hv.val]; exact .npN _ _
 | .bx k g o, .np k' g', h, v, hv => by
  simp only [LeP] at h
  obtain ⟨rfl, rfl, rfl⟩ := h
  cases hv with
  | bx _ _ _ b h => exact .np _ _ b h
theorem LePs.len : ∀ (l m : List PV), LeP.LePs l m → l.length = m.length
 | [], [], _ => rfl
 | p :: l, q :: m, h => by simp only [LeP.LePs] at h; simp [LePs.len l m h.2]
 | [], q :: m, h => by simp [LeP.LePs] at h
 | p :: l, [], h => by simp [LeP.LePs] at h
theorem LePs.rp {μ : Nmap} {w : World} {Z : Nat → Nat → Prop} : ∀ (l m : List PV), LeP.LePs l m → ∀ (vs : List Value), vs.length = l.length → (∀ (i : Nat) (x : Value) (p : PV), vs[i]? = some x → l[i]? = some p → RP μ w Z x p) →
  ∀ (i : Nat) (x : Value) (q : PV), vs[i]? = some x → m[i]? = some q → RP μ w Z x q
 | [], [], _, vs, hl, hh, i, x, q, hx, hq => by simp at hq
 | p :: l, q' :: m, h, v :: vs, hl, hh, i, x, q, hx, hq => by
  simp only [LeP.LePs] at h
  cases i with
  | zero => simp at hx hq; subst hx; subst hq; exact LeP.rp p q' h.1 v (hh 0 v p rfl rfl)
  | succ i => exact LePs.rp l m h.2 vs (by simpa using hl) (fun i x p hx hp => hh (i + 1) x p (by simpa using hx) (by simpa using hp)) i x q (by simpa using hx) (by simpa using hq)
 | p :: l, q' :: m, h, [], hl, hh, i, x, q, hx, hq => by simp at hl
 | [], q' :: m, h, vs, hl, hh, i, x, q, hx, hq => by simp [LeP.LePs] at h
 | p :: l, [], h, vs, hl, hh, i, x, q, hx, hq => by simp [LeP.LePs] at h
end
inductive PFunV (C : Ctx) : PV → List PV → PV → Prop where
 | fn (f : Nat) (first cap args : List PV) (r : PV) (h : PFun C f (first ++ args ++ cap) r) : PFunV C (.fn (.func f) first cap) args r
 | val (f : Nat) (args : List PV) (r : PV) (h : PFun C f args r) : PFunV C (.d (.v (.func (.func f) #[] #[]))) args r
/-! ### contracts with memory: names put for names -/
def ren (f : Nat → Nat → Option (Nat × Nat)) : PV → PV
 | .bx k g o => match f k g with
  | some (k', g') => .bx k' g' o
  | none => .any
 | .os k g t xs => match f k g with
  | some (k', g') => .os k' g' t xs
  | none => .d (.sl t xs)
 | .mp k g => match f k g with
  | some (k', g') => .mp k' g'
  | none => .any
 | .fn h l m => .fn h (rens l) (rens m)
 | .ag l => .ag (rens l)
 | .tu l => .tu (rens l)
 | .cond c p => .cond c (ren f p)
 | .d d => .d d
 | .ip ds => .ip ds
 | .ms k g t lo n => match f k g with
  | some (k', g') => .ms k' g' t lo n
  | none => .any
 | .ep k g t i o => match f k g with
  | some (k', g') => .ep k' g' t i o
  | none => .any
 | .nz => .nz
 | .np k g => match f k g with
  | some (k', g') => .np k' g'
  | none => .any
 | .any => .any
 where rens : List PV → List PV
 | [] => []
 | p :: r => ren f p :: rens r
def rok (f : Nat → Nat → Option (Nat × Nat)) : PV → Bool
 | .bx k g _ | .os k g _ _ | .mp k g | .ms k g _ _ _ | .ep k g _ _ _ | .np k g => (f k g).isSome
 | .fn _ l m => roks l && roks m
 | .ag l | .tu l => roks l
 | .cond _ p => rok f p
 | _ => true
 where roks : List PV → Bool
 | [] => true
 | p :: r => rok f p && roks r
theorem rens_eq (f : Nat → Nat → Option (Nat × Nat)) : ∀ l, ren.rens f l = l.map (ren f)
 | [] => rfl
 | p :: r => by simp [ren.rens, rens_eq f r]
theorem Ald {f : Nat → Nat → Option (Nat × Nat)} : ∀ {l : List PV}, rok.roks f l = true → ∀ (i : Nat) (p : PV), l[i]? = some p → rok f p = true
 | [], _, i, p, h => by simp at h
 | q :: r, hb, i, p, h => by
  simp only [rok.roks, Bool.and_eq_true] at hb
  cases i with
  | zero => simp at h; subst h; exact hb.1
  | succ i => exact Ald hb.2 i p (by simpa using h)
theorem RP.ren {f : Nat → Nat → Option (Nat × Nat)} {μ μ' : Nmap} {w : World} {Z : Nat → Nat → Prop} {x : Value} {p : PV} (hf : ∀ k g k' g' y, f k g = some (k', g') → μ k g = some y → μ' k' g' = some y) (h : RP μ w Z x p) :
  RP μ' w Z x (Go.PL.ren f p) := by
 induction h with
 | d x d h => exact .d x d h
 | bx k g off b h =>
  simp only [Go.PL.ren]
  cases hn : f k g with
  | none => exact .any _
  | some n => exact .bx _ _ off b (hf _ _ _ _ _ hn h)
 | ip ds b off vs h => exact .ip ds b off vs h
 | osN k g t h =>
  simp only [Go.PL.ren]
  cases hn : f k g with
  | none => exact .d _ _ (.nil _ _ _)
  | some n => exact .osN _ _ t (hf _ _ _ _ _ hn h)
 | os k g t xs b n cap m T h hr hn hc hs hm =>
  simp only [Go.PL.ren]
  cases hn' : f k g with
  | none => exact .d _ _ hr
  | some n' => exact .os _ _ t xs b n cap m T (hf _ _ _ _ _ hn' h) hr hn hc hs hm
 | fn g first cap vs us hl hm h h' ih ih' =>
  simp only [Go.PL.ren, rens_eq]
  refine .fn g _ _ vs us (by simpa using hl) (by simpa using hm) (fun i x p hx hp => ?_) (fun i x p hx hp => ?_)
  ·rw [List.getElem?_map] at hp
   cases hq : first[i]? with
   | none => rw [hq] at hp; cases hp
   | some q => rw [hq] at hp; cases hp; exact ih i x q hx hq
  ·rw [List.getElem?_map] at hp
   cases hq : cap[i]? with
   | none => rw [hq] at hp; cases hp
   | some q => rw [hq] at hp; cases hp; exact ih' i x q hx hq
 | ag ps vs hl h ih =>
  simp only [Go.PL.ren, rens_eq]
  refine .ag _ vs (by simpa using hl) fun i x p hx hp => ?_
  rw [List.getElem?_map] at hp
  cases hq : ps[i]? with
  | none => rw [hq] at hp; cases hp
  | some q => rw [hq] at hp; cases hp; exact ih i x q hx hq
 | tu ps vs hl h ih =>
  simp only [Go.PL.ren, rens_eq]
  refine .tu _ vs (by simpa using hl) fun i x p hx hp => ?_
  rw [List.getElem?_map] at hp
  cases hq : ps[i]? with
  | none => rw [hq] at hp; cases hp
  | some q => rw [hq] at hp; cases hp; exact ih i x q hx hq
 | mp k g b h =>
  simp only [Go.PL.ren]
  cases hn : f k g with
  | none => exact .any _
  | some n => exact .mp _ _ b (hf _ _ _ _ _ hn h)
 | cond c x p h h' ih => exact .cond c x _ ih h'
 | ms k g t lo n b cap h h0 h1 hc T m hs hm =>
  simp only [Go.PL.ren]
  cases hn : f k g with
  | none => exact .any _
  | some n => exact .ms _ _ t lo _ b cap (hf _ _ _ _ _ hn h) h0 h1 hc T m hs hm
 | msE k g t lo n a h1 =>
  simp only [Go.PL.ren]
  cases hn : f k g with
  | none => exact .any _
  | some n => exact .msE _ _ t lo _ a h1
 | nz a => exact .nz a
 | npN k g =>
  simp only [Go.PL.ren]
  cases hn : f k g with
  | none => exact .any _
  | some n => exact .npN _ _
 | np k g b h =>
  simp only [Go.PL.ren]
  cases hn : f k g with
  | none => exact .any _
  | some n => exact .np _ _ b (hf _ _ _ _ _ hn h)
 | ep k g t i off b h h0 =>
  simp only [Go.PL.ren]
  cases hn : f k g with
  | none => exact .any _
  | some n => exact .ep _ _ t i off b (hf _ _ _ _ _ hn h) h0
 | any x => exact .any x
theorem RP.unren {f : Nat → Nat → Option (Nat × Nat)} {μ μ' : Nmap} {w : World} {Z : Nat → Nat → Prop} (hf : ∀ k g k' g' y, f k g = some (k', g') → μ' k' g' = some y → μ k g = some y) {x : Value} {q : PV} (h : RP μ' w Z x q) :
  ∀ p, rok f p = true → Go.PL.ren f p = q → RP μ w Z x p := by
 have some_of : ∀ {k g}, (f k g).isSome = true → ∃ n, f k g = some n := fun h => Option.isSome_iff_exists.1 h
 induction h with
 | d x d h =>
  intro p hk hq
  cases p <;> simp only [Go.PL.ren, rok] at hk hq <;> try cases hq
  ·exact .d _ _ h
  ·obtain ⟨n, hn⟩ := some_of hk; rw [hn] at hq; cases hq
  ·obtain ⟨n, hn⟩ := some_of hk; rw [hn] at hq; cases hq
  ·obtain ⟨n, hn⟩ := some_of hk; rw [hn] at hq; cases hq
  ·obtain ⟨n, hn⟩ := some_of hk; rw [hn] at hq; cases hq
  ·obtain ⟨n, hn⟩ := some_of hk; rw [hn] at hq; cases hq
  ·obtain ⟨n, hn⟩ := some_of hk; rw [hn] at hq; cases hq
 | bx k g off b h =>
  intro p hk hq
  cases p <;> simp only [Go.PL.ren, rok] at hk hq <;> try cases hq
  ·obtain ⟨n, hn⟩ := some_of hk; rw [hn] at hq; cases hq; exact .bx _ _ _ _ (hf _ _ _ _ _ hn h)
  ·obtain ⟨n, hn⟩ := some_of hk; rw [hn] at hq; cases hq
  ·obtain ⟨n, hn⟩ := some_of hk; rw [hn] at hq; cases hq
  ·obtain ⟨n, hn⟩ := some_of hk; rw [hn] at hq; cases hq
  ·obtain ⟨n, hn⟩ := some_of hk; rw [hn] at hq; cases hq
  ·obtain ⟨n, hn⟩ := some_of hk; rw [hn] at hq; cases hq
 | ip ds b off vs h =>
  intro p hk hq
  cases p <;> simp only [Go.PL.ren, rok] at hk hq <;> try cases hq
  ·obtain ⟨n, hn⟩ := some_of hk; rw [hn] at hq; cases hq
  ·exact .ip _ _ _ _ h
  ·obtain ⟨n, hn⟩ := some_of hk; rw [hn] at hq; cases hq
  ·obtain ⟨n, hn⟩ := some_of hk; rw [hn] at hq; cases hq
  ·obtain ⟨n, hn⟩ := some_of hk; rw [hn] at hq; cases hq
  ·obtain ⟨n, hn⟩ := some_of hk; rw [hn] at hq; cases hq
  ·obtain ⟨n, hn⟩ := some_of hk; rw [hn] at hq; cases hq
 | osN k g t h =>
  intro p hk hq
  cases p <;> simp only [Go.PL.ren, rok] at hk hq <;> try cases hq
  ·obtain ⟨n, hn⟩ := some_of hk; rw [hn] at hq; cases hq
  ·obtain ⟨n, hn⟩ := some_of hk; rw [hn] at hq; cases hq; exact .osN _ _ _ (hf _ _ _ _ _ hn h)
  ·obtain ⟨n, hn⟩ := some_of hk; rw [hn] at hq; cases hq
  ·obtain ⟨n, hn⟩ := some_of hk; rw [hn] at hq; cases hq
  ·obtain ⟨n, hn⟩ := some_of hk; rw [hn] at hq; cases hq
  ·obtain ⟨n, hn⟩ := some_of hk; rw [hn] at hq; cases hq
 | os k g t xs b n cap m T h hr hn hc hs hm =>
  intro p hk hq
  cases p <;> simp only [Go.PL.ren, rok] at hk hq <;> try cases hq
  ·obtain ⟨n, hn⟩ := some_of hk; rw [hn] at hq; cases hq
  ·obtain ⟨n', hn'⟩ := some_of hk; rw [hn'] at hq; cases hq; exact .os _ _ _ _ b n cap m T (hf _ _ _ _ _ hn' h) hr hn hc hs hm
  ·obtain ⟨n, hn⟩ := some_of hk; rw [hn] at hq; cases hq
  ·obtain ⟨n, hn⟩ := some_of hk; rw [hn] at hq; cases hq
  ·obtain ⟨n, hn⟩ := some_of hk; rw [hn] at hq; cases hq
  ·obtain ⟨n, hn⟩ := some_of hk; rw [hn] at hq; cases hq
 | fn g first cap vs us hl hm h h' ih ih' =>
  intro p hk hq
  cases p <;> simp only [Go.PL.ren, rok] at hk hq <;> try cases hq
  ·obtain ⟨n, hn⟩ := some_of hk; rw [hn] at hq; cases hq
  ·obtain ⟨n, hn⟩ := some_of hk; rw [hn] at hq; cases hq
  ·rename_i l m
   simp only [Bool.and_eq_true] at hk
   simp only [rens_eq] at *
   refine .fn _ _ _ vs us (by simpa using hl) (by simpa using hm) (fun i x p hx hp => ih i x (Go.PL.ren f p) hx (by rw [List.getElem?_map, hp]; rfl) p (Ald hk.1 i p hp) rfl) (fun i x p hx hp => ih' i x (Go.PL.ren f p) hx (by rw [List.getElem?_map, hp]; rfl) p (Ald hk.2 i p hp) rfl)
  ·obtain ⟨n, hn⟩ := some_of hk; rw [hn] at hq; cases hq
  ·obtain ⟨n, hn⟩ := some_of hk; rw [hn] at hq; cases hq
  ·obtain ⟨n, hn⟩ := some_of hk; rw [hn] at hq; cases hq
  ·obtain ⟨n, hn⟩ := some_of hk; rw [hn] at hq; cases hq
 | ag ps vs hl h ih =>
  intro p hk hq
  cases p <;> simp only [Go.PL.ren, rok] at hk hq <;> try cases hq
  ·obtain ⟨n, hn⟩ := some_of hk; rw [hn] at hq; cases hq
  ·obtain ⟨n, hn⟩ := some_of hk; rw [hn] at hq; cases hq
  ·simp only [rens_eq] at *
   exact .ag _ vs (by simpa using hl) fun i x p hx hp => ih i x (Go.PL.ren f p) hx (by rw [List.getElem?_map, hp]; rfl) p (Ald hk i p hp) rfl
  ·obtain ⟨n, hn⟩ := some_of hk; rw [hn] at hq; cases hq
  ·obtain ⟨n, hn⟩ := some_of hk; rw [hn] at hq; cases hq
  ·obtain ⟨n, hn⟩ := some_of hk; rw [hn] at hq; cases hq
  ·obtain ⟨n, hn⟩ := some_of hk; rw [hn] at hq; cases hq
 | tu ps vs hl h ih =>
  intro p hk hq
  cases p <;> simp only [Go.PL.ren, rok] at hk hq <;> try cases hq
  ·obtain ⟨n, hn⟩ := some_of hk; rw [hn] at hq; cases hq
  ·obtain ⟨n, hn⟩ := some_of hk; rw [hn] at hq; cases hq
  ·simp only [rens_eq] at *
   exact .tu _ vs (by simpa using hl) fun i x p hx hp => ih i x (Go.PL.ren f p) hx (by rw [List.getElem?_map, hp]; rfl) p (Ald hk i p hp) rfl
  ·obtain ⟨n, hn⟩ := some_of hk; rw [hn] at hq; cases hq
  ·obtain ⟨n, hn⟩ := some_of hk; rw [hn] at hq; cases hq
  ·obtain ⟨n, hn⟩ := some_of hk; rw [hn] at hq; cases hq
  ·obtain ⟨n, hn⟩ := some_of hk; rw [hn] at hq; cases hq
 | mp k g b h =>
  intro p hk hq
  cases p <;> simp only [Go.PL.ren, rok] at hk hq <;> try cases hq
  ·obtain ⟨n, hn⟩ := some_of hk; rw [hn] at hq; cases hq
  ·obtain ⟨n, hn⟩ := some_of hk; rw [hn] at hq; cases hq
  ·obtain ⟨n, hn⟩ := some_of hk; rw [hn] at hq; cases hq; exact .mp _ _ _ (hf _ _ _ _ _ hn h)
  ·obtain ⟨n, hn⟩ := some_of hk; rw [hn] at hq; cases hq
  ·obtain ⟨n, hn⟩ := some_of hk; rw [hn] at hq; cases hq
  ·obtain ⟨n, hn⟩ := some_of hk; rw [hn] at hq; cases hq
 | cond c x p h h' ih =>
  intro p hk hq
  cases p <;> simp only [Go.PL.ren, rok] at hk hq <;> try cases hq
  ·obtain ⟨n, hn⟩ := some_of hk; rw [hn] at hq; cases hq
  ·obtain ⟨n, hn⟩ := some_of hk; rw [hn] at hq; cases hq
  ·obtain ⟨n, hn⟩ := some_of hk; rw [hn] at hq; cases hq
  ·exact .cond _ _ _ (fun hc => ih hc _ hk rfl) h'
  ·obtain ⟨n, hn⟩ := some_of hk; rw [hn] at hq; cases hq
  ·obtain ⟨n, hn⟩ := some_of hk; rw [hn] at hq; cases hq
  ·obtain ⟨n, hn⟩ := some_of hk; rw [hn] at hq; cases hq
 | any x =>
  intro p hk hq
  cases p <;> simp only [Go.PL.ren, rok] at hk hq <;> try cases hq
  ·obtain ⟨n, hn⟩ := some_of hk; rw [hn] at hq; cases hq
  ·obtain ⟨n, hn⟩ := some_of hk; rw [hn] at hq; cases hq
  ·obtain ⟨n, hn⟩ := some_of hk; rw [hn] at hq; cases hq
  ·obtain ⟨n, hn⟩ := some_of hk; rw [hn] at hq; cases hq
  ·obtain ⟨n, hn⟩ := some_of hk; rw [hn] at hq; cases hq
  ·obtain ⟨n, hn⟩ := some_of hk; rw [hn] at hq; cases hq
  ·exact .any _
 | ms k g t lo n b cap h h0 h1 hc T m hs hm =>
  intro p hk hq
  cases p <;> simp only [Go.PL.ren, rok] at hk hq <;> try cases hq
  ·obtain ⟨n, hn⟩ := some_of hk; rw [hn] at hq; cases hq
  ·obtain ⟨n, hn⟩ := some_of hk; rw [hn] at hq; cases hq
  ·obtain ⟨n, hn⟩ := some_of hk; rw [hn] at hq; cases hq
  ·obtain ⟨n, hn⟩ := some_of hk; rw [hn] at hq; cases hq; exact .ms _ _ _ _ _ b cap (hf _ _ _ _ _ hn h) h0 h1 hc T m hs hm
  ·obtain ⟨n, hn⟩ := some_of hk; rw [hn] at hq; cases hq
  ·obtain ⟨n, hn⟩ := some_of hk; rw [hn] at hq; cases hq
 | msE k g t lo n a h1 =>
  intro p hk hq
  cases p <;> simp only [Go.PL.ren, rok] at hk hq <;> try cases hq
  ·obtain ⟨n, hn⟩ := some_of hk; rw [hn] at hq; cases hq
  ·obtain ⟨n, hn⟩ := some_of hk; rw [hn] at hq; cases hq
  ·obtain ⟨n, hn⟩ := some_of hk; rw [hn] at hq; cases hq
  ·obtain ⟨n, hn⟩ := some_of hk; rw [hn] at hq; cases hq; exact .msE _ _ _ _ _ a h1
  ·obtain ⟨n, hn⟩ := some_of hk; rw [hn] at hq; cases hq
  ·obtain ⟨n, hn⟩ := some_of hk; rw [hn] at hq; cases hq
 | nz a =>
  intro p hk hq
  cases p <;> simp only [Go.PL.ren, rok] at hk hq <;> try cases hq
  ·obtain ⟨n, hn⟩ := some_of hk; rw [hn] at hq; cases hq
  ·obtain ⟨n, hn⟩ := some_of hk; rw [hn] at hq; cases hq
  ·obtain ⟨n, hn⟩ := some_of hk; rw [hn] at hq; cases hq
  ·obtain ⟨n, hn⟩ := some_of hk; rw [hn] at hq; cases hq
  ·obtain ⟨n, hn⟩ := some_of hk; rw [hn] at hq; cases hq
  ·exact .nz a
  ·obtain ⟨n, hn⟩ := some_of hk; rw [hn] at hq; cases hq
 | ep k g t i off b h h0 =>
  intro p hk hq
  cases p <;> simp only [Go.PL.ren, rok] at hk hq <;> try cases hq
  ·obtain ⟨n, hn⟩ := some_of hk; rw [hn] at hq; cases hq
  ·obtain ⟨n, hn⟩ := some_of hk; rw [hn] at hq; cases hq
  ·obtain ⟨n, hn⟩ := some_of hk; rw [hn] at hq; cases hq
  ·obtain ⟨n, hn⟩ := some_of hk; rw [hn] at hq; cases hq
  ·obtain ⟨n, hn⟩ := some_of hk; rw [hn] at hq; cases hq; exact .ep _ _ _ _ _ b (hf _ _ _ _ _ hn h) h0
  ·obtain ⟨n, hn⟩ := some_of hk; rw [hn] at hq; cases hq
 | npN k g =>
  intro p hk hq
  cases p <;> simp only [Go.PL.ren, rok] at hk hq <;> try cases hq
  ·obtain ⟨n, hn⟩ := some_of hk; rw [hn] at hq; cases hq
  ·obtain ⟨n, hn⟩ := some_of hk; rw [hn] at hq; cases hq
  ·obtain ⟨n, hn⟩ := some_of hk; rw [hn] at hq; cases hq
  ·obtain ⟨n, hn⟩ := some_of hk; rw [hn] at hq; cases hq
  ·obtain ⟨n, hn⟩ := some_of hk; rw [hn] at hq; cases hq
  ·obtain ⟨n, hn⟩ := some_of hk; rw [hn] at hq; cases hq; exact .npN _ _
 | np k g b h =>
  intro p hk hq
  cases p <;> simp only [Go.PL.ren, rok] at hk hq <;> try cases hq
  ·obtain ⟨n, hn⟩ := some_of hk; rw [hn] at hq; cases hq
  ·obtain ⟨n, hn⟩ := some_of hk; rw [hn] at hq; cases hq
  ·obtain ⟨n, hn⟩ := some_of hk; rw [hn] at hq; cases hq
  ·obtain ⟨n, hn⟩ := some_of hk; rw [hn] at hq; cases hq
  ·obtain ⟨n, hn⟩ := some_of hk; rw [hn] at hq; cases hq
  ·obtain ⟨n, hn⟩ := some_of hk; rw [hn] at hq; cases hq; exact .np _ _ b (hf _ _ _ _ _ hn h)
def renC (f : Nat → Nat → Option (Nat × Nat)) : Cell → Cell
 | .box T vs => .box T (ren.rens f vs)
 | .map es => .map (renM es)
 | c => c
 where renM : List (Value × PV) → List (Value × PV)
 | [] => []
 | (x, p) :: r => (x, ren f p) :: renM r
def rokC (f : Nat → Nat → Option (Nat × Nat)) : Cell → Bool
 | .box _ vs => rok.roks f vs
 | .map es => rokM es
 | .tok _ _ _ => true
 | .iter _ _ _ _ _ => false
 | .froz _ _ => true
 | .arr _ _ _ => true
 where rokM : List (Value × PV) → Bool
 | [] => true
 | (_, p) :: r => rok f p && rokM r
theorem Aqv (f : Nat → Nat → Option (Nat × Nat)) : ∀ l, renC.renM f l = l.map fun a => (a.1, ren f a.2)
 | [] => rfl
 | (x, p) :: r => by simp [renC.renM, Aqv f r]
theorem Azd {f : Nat → Nat → Option (Nat × Nat)} : ∀ {l : List (Value × PV)}, rokC.rokM f l = true → ∀ (i : Nat) (x : Value) (p : PV), l[i]? = some (x, p) → rok f p = true
 | [], _, i, x, p, h => by simp at h
 | (y, q) :: r, hb, i, x, p, h => by
  simp only [rokC.rokM, Bool.and_eq_true] at hb
  cases i with
  | zero => simp at h; obtain ⟨rfl, rfl⟩ := h; exact hb.1
  | succ i => exact Azd hb.2 i x p (by simpa using h)
structure PFunM (C : Ctx) (f : Nat) (args : List PV) (sto : List En) (r : PV) (sto' : List En) : Prop where
 run : ∀ (μ : Nmap) (w : World) (Z : Nat → Nat → Prop) (vals : List Value), RPs μ w Z vals args → WR μ (den sto) Z w → GI C μ w Z → (∀ k g, 1 ≤ g → μ k g = none) →
  Azc C.P f vals.toArray w fun e w' => ∃ v μ' Z', e = .returned v ∧ RP μ' w' Z' v r ∧ WR μ' (den sto') Z' w' ∧ Adv μ (den sto) Z w μ' (den sto') Z' w'
def lk (l : List (Nat × Nat)) (i k : Nat) : Option (Nat × Nat) := match l with
 | [] => none
 | x :: r => if i = k then some x else lk r (i + 1) k
theorem Axh : ∀ {l : List (Nat × Nat)} {i k : Nat} {n : Nat × Nat}, lk l i k = some n → ∃ j, l[j]? = some n ∧ k = i + j
 | [], i, k, n, h => by simp [lk] at h
 | x :: r, i, k, n, h => by
  simp only [lk] at h
  split at h
  ·rename_i e; cases h; exact ⟨0, rfl, by omega⟩
  ·obtain ⟨j, h1, h2⟩ := Axh h
   exact ⟨j + 1, by simpa using h1, by omega⟩
theorem lk_of : ∀ {l : List (Nat × Nat)} {i j : Nat} {n : Nat × Nat}, l[j]? = some n → lk l i (i + j) = some n
 | [], i, j, n, h => by simp at h
 | x :: r, i, j, n, h => by
  simp only [lk]
  cases j with
  | zero => simp at h; simp [h]
  | succ j =>
   have : ¬ i = i + (j + 1) := by omega
   rw [if_neg this]
   have e : i + (j + 1) = i + 1 + j := by omega
   rw [e]; exact lk_of (by simpa using h)
def cin (l : List (Nat × Nat)) (k g : Nat) : Option (Nat × Nat) := match g with
 | 0 => lk l 1000 k
 | _ => none
def nn (d k : Nat) : Option Nat := if k = 2000 then some d else if k = 2001 then some (d + 65536) else if k = 2002 then some (d + 131072) else if k = 2003 then some (d + 196608) else none
def cout (l : List (Nat × Nat)) (d gen : Nat) (k g : Nat) : Option (Nat × Nat) := match g with
 | 0 => lk l 1000 k
 | 1 => match nn d k with
  | some n => some (n, gen)
  | none => none
 | _ => none
def LeMs : List (Value × PV) → List (Value × PV) → Prop
 | [], [] => True
 | (x, p) :: l, (y, q) :: m => (x = y) ∧ LeP p q ∧ LeMs l m
 | _, _ => False
structure LeMap (l m : List (Value × PV)) : Prop where
 h : LeMs l m
def LeC : Cell → Cell → Prop
 | .box T vs, .box T' us => (T = T') ∧ LeP.LePs vs us
 | .tok T t n, .tok T' t' n' => (T = T') ∧ (sz t = sz t') ∧ n = n'
 | .map es, .map es' => LeMap es es'
 | .iter a b c d e, .iter a' b' c' d' e' => (a = a') ∧ (b = b') ∧ (c = c') ∧ (d = d') ∧ e = e'
 | .froz T ds, .froz T' ds' => (T = T') ∧ ds = ds'
 | .arr T t xs, .arr T' t' ys => (T = T') ∧ (⟨t, xs⟩ : (t : Ty) × List (U t)) = ⟨t', ys⟩
 | _, _ => False
def InOK (sto0 : List En) (f : Nat → Nat → Option (Nat × Nat)) : List (Nat × Nat) → List En → Nat → Prop
 | [], [], _ => True
 | (k, g) :: l, e :: sto, i => (e.k = 1000 + i) ∧ (e.g = 0) ∧ (rokC f e.c = true) ∧ (match find sto0 k with
  | some (g', c') => (g' = g) ∧ LeC c' (renC f e.c)
  | none => False) ∧ InOK sto0 f l sto (i + 1)
 | _, _, _ => False
def outOK (f : Nat → Nat → Option (Nat × Nat)) (n : Nat) : List En → Bool
 | [] => true
 | e :: r => rokC f e.c && (f e.k e.g).isSome && !((r.map (·.k)).contains e.k) && outOK f n r
def outE (f : Nat → Nat → Option (Nat × Nat)) : List En → List En
 | [] => []
 | e :: r => match f e.k e.g with
  | some (k, g) => ⟨k, g, renC f e.c⟩ :: outE f r
  | none => outE f r
def dels (ks : List Nat) : List En → List En
 | [] => []
 | e :: r => match ks.contains e.k with
  | true => dels ks r
  | false => e :: dels ks r
theorem LeMs.at : ∀ {es fs : List (Value × PV)}, LeMs es fs → es.length = fs.length ∧ ∀ (i : Nat) (x : Value) (q : PV), fs[i]? = some (x, q) → ∃ p, es[i]? = some (x, p) ∧ LeP p q
 | [], [], _ => ⟨rfl, fun i x q h => by simp at h⟩
 | (x, p) :: l, (y, q) :: m, h => by
  obtain ⟨rfl, h2, h3⟩ := h
  obtain ⟨h4, h5⟩ := LeMs.at h3
  refine ⟨by simp [h4], fun i z r hr => ?_⟩
  cases i with
  | zero => simp at hr; obtain ⟨rfl, rfl⟩ := hr; exact ⟨p, rfl, h2⟩
  | succ i => simpa using h5 i z r (by simpa using hr)
 | [], _ :: _, h => h.elim
 | _ :: _, [], h => h.elim
theorem LeC.ent {μ : Nmap} {w : World} {Z : Nat → Nat → Prop} {k g : Nat} {c c' : Cell} (h : LeC c c') (he : EntOK μ w Z k g c) : EntOK μ w Z k g c' := by
 cases c <;> cases c' <;> simp only [LeC] at h
 ·obtain ⟨rfl, h⟩ := h
  obtain ⟨b, cs, h1, h2, h3, h4⟩ := he
  exact ⟨b, cs, h1, h2, ⟨by rw [h3.1]; exact LePs.len _ _ h, fun i x p hx hp => LePs.rp _ _ h _ h3.1 h3.2 i x p hx hp⟩, h4⟩
 ·obtain ⟨rfl, h1, rfl⟩ := h
  simp only [EntOK] at he ⊢
  rw [← h1]; exact he
 ·obtain ⟨b, ms, h1, h2, ⟨h3, h4⟩, h5⟩ := he
  obtain ⟨h6, h7⟩ := LeMs.at h.h
  refine ⟨b, ms, h1, h2, ⟨by rw [h3, h6], fun i e x q hx hq => ?_⟩, h5⟩
  obtain ⟨p, hp, hle⟩ := h7 i x q hq
  obtain ⟨a1, a2, a3⟩ := h4 i e x p hx hp
  exact ⟨a1, a2, LeP.rp _ _ hle _ a3⟩
 ·obtain ⟨rfl, rfl, rfl, rfl, rfl⟩ := h
  exact he
 ·obtain ⟨rfl, rfl⟩ := h
  exact he
 ·rename_i T t xs T' t' ys
  obtain ⟨rfl, h⟩ := h
  have e : Cell.arr T t xs = Cell.arr T t' ys := by
   have h2 : (fun p : (t : Ty) × List (U t) => Cell.arr T p.1 p.2) ⟨t, xs⟩ = (fun p : (t : Ty) × List (U t) => Cell.arr T p.1 p.2) ⟨t', ys⟩ := by rw [h]
   exact h2
  rw [← e]; exact he
theorem EntOK.ren {f : Nat → Nat → Option (Nat × Nat)} {μ μ' : Nmap} {w : World} {Z : Nat → Nat → Prop} {k g k' g' : Nat} {c : Cell} (hf : ∀ k g k' g' y, f k g = some (k', g') → μ k g = some y → μ' k' g' = some y) (hn : f k g = some (k', g'))
  (hok : rokC f c = true) (h : EntOK μ w Z k g c) : EntOK μ' w Z k' g' (renC f c) := by
 cases c with
 | box T vs =>
  obtain ⟨b, cs, h1, h2, h3, h4⟩ := h
  refine ⟨b, cs, hf _ _ _ _ _ hn h1, h2, ⟨by simp [rens_eq]; simpa using h3.1, fun i x p hx hp => ?_⟩, h4⟩
  rw [rens_eq, List.getElem?_map] at hp
  cases hq : vs[i]? with
  | none => rw [hq] at hp; cases hp
  | some q => rw [hq] at hp; cases hp; exact (h3.2 i x q hx hq).ren hf
 | tok T t n =>
  rcases h with ⟨h1, h2⟩ | ⟨b, cs, h1, h2⟩
  ·exact .inl ⟨hf _ _ _ _ _ hn h1, h2⟩
  ·exact .inr ⟨b, cs, hf _ _ _ _ _ hn h1, h2⟩
 | map es =>
  obtain ⟨b, ms, h1, h2, ⟨h3, h4⟩, h5⟩ := h
  refine ⟨b, ms, hf _ _ _ _ _ hn h1, h2, ⟨by rw [Aqv]; simpa using h3, fun i e x p he hp => ?_⟩, h5⟩
  rw [Aqv, List.getElem?_map] at hp
  cases hq : es[i]? with
  | none => rw [hq] at hp; cases hp
  | some q =>
   rw [hq] at hp; cases hp
   obtain ⟨a1, a2, a3⟩ := h4 i e q.1 q.2 he hq
   exact ⟨a1, a2, a3.ren hf⟩
 | iter => simp [rokC] at hok
 | arr T t xs =>
  rcases h with ⟨h1, h2⟩ | ⟨b, cs, h1, h2⟩
  ·exact .inl ⟨hf _ _ _ _ _ hn h1, h2⟩
  ·exact .inr ⟨b, cs, hf _ _ _ _ _ hn h1, h2⟩
 | froz T ds =>
  obtain ⟨b, vs, h1, h2⟩ := h
  exact ⟨b, vs, hf _ _ _ _ _ hn h1, h2⟩
theorem EntOK.unren {f : Nat → Nat → Option (Nat × Nat)} {μ μ' : Nmap} {w : World} {Z : Nat → Nat → Prop} {k g k' g' : Nat} {c : Cell} (hf : ∀ k g k' g' y, f k g = some (k', g') → μ' k' g' = some y → μ k g = some y) (hn : f k g = some (k', g'))
  (hok : rokC f c = true) (h : EntOK μ' w Z k' g' (renC f c)) : EntOK μ w Z k g c := by
 cases c with
 | box T vs =>
  obtain ⟨b, cs, h1, h2, h3, h4⟩ := h
  refine ⟨b, cs, hf _ _ _ _ _ hn h1, h2, ⟨by have := h3.1; simpa [rens_eq] using this, fun i x p hx hp => ?_⟩, h4⟩
  exact (h3.2 i x (Go.PL.ren f p) hx (by rw [rens_eq, List.getElem?_map, hp]; rfl)).unren hf p (Ald hok i p hp) rfl
 | tok T t n =>
  rcases h with ⟨h1, h2⟩ | ⟨b, cs, h1, h2⟩
  ·exact .inl ⟨hf _ _ _ _ _ hn h1, h2⟩
  ·exact .inr ⟨b, cs, hf _ _ _ _ _ hn h1, h2⟩
 | map es =>
  obtain ⟨b, ms, h1, h2, ⟨h3, h4⟩, h5⟩ := h
  refine ⟨b, ms, hf _ _ _ _ _ hn h1, h2, ⟨by rw [Aqv] at h3; simpa using h3, fun i e x p he hp => ?_⟩, h5⟩
  obtain ⟨a1, a2, a3⟩ := h4 i e x (Go.PL.ren f p) he (by rw [Aqv, List.getElem?_map, hp]; rfl)
  exact ⟨a1, a2, a3.unren hf p (Azd hok i x p hp) rfl⟩
 | iter => simp [rokC] at hok
 | arr T t xs =>
  rcases h with ⟨h1, h2⟩ | ⟨b, cs, h1, h2⟩
  ·exact .inl ⟨hf _ _ _ _ _ hn h1, h2⟩
  ·exact .inr ⟨b, cs, hf _ _ _ _ _ hn h1, h2⟩
 | froz T ds =>
  obtain ⟨b, vs, h1, h2⟩ := h
  exact ⟨b, vs, hf _ _ _ _ _ hn h1, h2⟩
theorem InOK.at {sto0 : List En} {f : Nat → Nat → Option (Nat × Nat)} : ∀ {l : List (Nat × Nat)} {sto : List En} {i : Nat}, InOK sto0 f l sto i → ∀ k g c, den sto k g = some c →
  g = 0 ∧ rokC f c = true ∧ ∃ j k' g' c', k = 1000 + (i + j) ∧ l[j]? = some (k', g') ∧ find sto0 k' = some (g', c') ∧ LeC c' (renC f c)
 | [], [], i, _, k, g, c, hc => by simp [den] at hc
 | (k1, g1) :: l, e :: sto, i, h, k, g, c, hc => by
  obtain ⟨h1, h2, h3, h4, h5⟩ := h
  simp only [den] at hc
  split at hc
  ·rename_i he
   cases hc
   split at h4
   ·rename_i g' c' hfi
    obtain ⟨rfl, h4⟩ := h4
    exact ⟨by omega, h3, 0, k1, g', c', by omega, rfl, hfi, h4⟩
   ·exact h4.elim
  ·obtain ⟨h7, h8, j, k', g', c', h6, h9, h10⟩ := InOK.at h5 k g c hc
   exact ⟨h7, h8, j + 1, k', g', c', by omega, by simpa using h9, h10⟩
 | [], _ :: _, _, h, _, _, _, _ => h.elim
 | _ :: _, [], _, h, _, _, _, _ => h.elim
theorem Ap3 {f : Nat → Nat → Option (Nat × Nat)} : ∀ {l : List En} {k' g' : Nat} {c' : Cell}, den (outE f l) k' g' = some c' → ∃ k g c, (∃ e ∈ l, e.k = k ∧ e.g = g ∧ e.c = c) ∧ f k g = some (k', g') ∧ c' = renC f c
 | [], k', g', c', h => by simp [outE, den] at h
 | e :: r, k', g', c', h => by
  simp only [outE] at h
  split at h
  ·rename_i k1 g1 hf
   simp only [den] at h
   split at h
   ·rename_i he
    obtain ⟨rfl, rfl⟩ := he
    cases h
    exact ⟨e.k, e.g, e.c, ⟨e, by simp, rfl, rfl, rfl⟩, hf, rfl⟩
   ·obtain ⟨k, g, c, ⟨e', h1, h2⟩, h3⟩ := Ap3 h
    exact ⟨k, g, c, ⟨e', by simp [h1], h2⟩, h3⟩
  ·obtain ⟨k, g, c, ⟨e', h1, h2⟩, h3⟩ := Ap3 h
   exact ⟨k, g, c, ⟨e', by simp [h1], h2⟩, h3⟩
theorem outOK.mem {f : Nat → Nat → Option (Nat × Nat)} {n : Nat} : ∀ {l : List En}, outOK f n l = true → ∀ e ∈ l, rokC f e.c = true ∧ den l e.k e.g = some e.c
 | [], _, e, he => by cases he
 | x :: r, h, e, he => by
  simp only [outOK, Bool.and_eq_true, Bool.not_eq_true'] at h
  obtain ⟨⟨⟨h0, h1⟩, h3⟩, h4⟩ := h
  rcases List.mem_cons.1 he with rfl | he
  ·exact ⟨h0, by simp [den]⟩
  ·obtain ⟨h00, h7⟩ := outOK.mem h4 e he
   refine ⟨h00, ?_⟩
   simp only [den]
   have : ¬ (x.k = e.k ∧ x.g = e.g) := by
    rintro ⟨h8, _⟩
    have : (r.map (·.k)).contains x.k = true := by
     simp only [List.contains_iff_mem, List.mem_map]
     exact ⟨e, he, h8.symm⟩
    rw [this] at h3; cases h3
   rw [if_neg this]; exact h7
theorem den_dels (ks : List Nat) : ∀ (l : List En) (k g : Nat), den (dels ks l) k g = if ks.contains k then none else den l k g
 | [], k, g => by simp [dels, den]
 | e :: r, k, g => by
  simp only [dels]
  split
  ·rename_i h
   rw [den_dels ks r k g]
   simp only [den]
   by_cases he : e.k = k ∧ e.g = g
   ·obtain ⟨rfl, rfl⟩ := he
    have h' : e.k ∈ ks := by simpa using h
    simp [h']
   ·rw [if_neg he]
  ·rename_i h
   simp only [den]
   rw [den_dels ks r k g]
   by_cases he : e.k = k ∧ e.g = g
   ·obtain ⟨rfl, rfl⟩ := he
    rw [if_pos ⟨rfl, rfl⟩, if_neg (by simpa using h), if_pos ⟨rfl, rfl⟩]
   ·rw [if_neg he, if_neg he]
theorem A1f (l m : List En) (k g : Nat) : den (l ++ m) k g = match den l k g with | some c => some c | none => den m k g := by
 induction l with
 | nil => rfl
 | cons e r ih =>
  simp only [List.cons_append, den]
  split
  ·rfl
  ·exact ih
def exact : PV → Bool
 | .d (.v _) => true
 | .ag l | .tu l => exacts l
 | _ => false
 where exacts : List PV → Bool
 | [] => true
 | p :: r => exact p && exacts r
def nodupB : List Nat → Bool
 | [] => true
 | x :: l => !l.contains x && nodupB l
theorem Ajx : ∀ {l : List Nat}, nodupB l = true → l.Nodup
 | [], _ => List.nodup_nil
 | x :: l, h => by
  simp only [nodupB, Bool.and_eq_true] at h
  exact List.nodup_cons.2 ⟨by simpa using h.1, Ajx h.2⟩
def wk : PV → PV
 | .os _ _ t xs => .d (.sl t xs)
 | p => p
def wks : List PV → List PV
 | [] => []
 | p :: r => wk p :: wks r
theorem A1g : ∀ l : List PV, wks l = l.map wk
 | [] => rfl
 | p :: r => by simp [wks, A1g r]
theorem wk_ok {μ : Nmap} {w : World} {Z : Nat → Nat → Prop} {x : Value} {p : PV} (h : RP μ w Z x p) : RP μ w Z x (wk p) := by
 cases p <;> simp only [wk] <;> first | exact h | exact .d _ _ h.os_sl
theorem Aze {μ : Nmap} {w : World} {Z : Nat → Nat → Prop} {xs : List Value} {ps : List PV} (h : RPs μ w Z xs ps) : RPs μ w Z xs (wks ps) := by
 refine ⟨by rw [A1g]; simpa using h.1, fun i x p hx hp => ?_⟩
 rw [A1g, List.getElem?_map] at hp
 obtain ⟨q, hq, rfl⟩ := Option.map_eq_some_iff.1 hp
 exact wk_ok (h.2 i x q hx hq)
inductive CallK (C : Ctx) (c ow : Bool) (s : St) (dst : Option Nat) (fl : List Nat × Bool) (f : Nat) (argsW args : List PV) (k : PV → List En → Prop) : Prop where
 | mk (r : PV) (hb : bare.bares argsW = true) (h : c = true → PFun C f argsW r) (hk : k r s.sto)
 | le (args' : List PV) (r : PV) (hb : bare.bares args' = true) (hle : c = true → LeP.LePs argsW args') (h : c = true → PFun C f args' r) (hk : k r s.sto)
 | mem (d : Nat) (hd : dst = some d) (how : ow = true) (l : List (Nat × Nat)) (pa : List PV) (sto : List En) (r : PV) (sto' : List En) (h : c = true → PFunM C f pa sto r sto') (ha : rok.roks (cin l) pa = true)
   (hle : c = true → LeP.LePs args (ren.rens (cin l) pa)) (hi : InOK s.sto (cin l) l sto 0) (ho : outOK (cout l d s.gen) l.length sto' = true) (hnd : (nodupB (l.map (·.1)) && Nat.ble l.length 64 && !fl.2 && (subs d ++ l.map (·.1)).all (fl.1.contains ·)) = true)
   (hk : k (ren (cout l d s.gen) r) (outE (cout l d s.gen) sto' ++ dels (l.map (·.1)) s.sto))
inductive CallV (C : Ctx) (c : Bool) (fv : PV) (args : List PV) (k : PV → Prop) : Prop where
 | mk (r : PV) (hb : bare.bares (wks args) = true) (h : c = true → PFunV C fv (wks args) r) (hk : k r)
 | le (args' : List PV) (r : PV) (hb : bare.bares args' = true) (hle : c = true → LeP.LePs (wks args) args') (h : c = true → PFunV C fv args' r) (hk : k r)
def args (C : Ctx) (c : Bool) (s : St) : List Operand → (List PV → Prop) → Prop
 | [], k => k []
 | x :: r, k => strip c (opd C s.env x) fun p => args C c s r fun l => k (p :: l)
theorem Atu {C : Ctx} {c : Bool} {s : St} : ∀ (l : List Operand) (k : List PV → Prop), args C c s l k →
  ∃ ps, k ps ∧ ∀ μ w Z (ρ : Operand → Value), c = true → (∀ x ∈ l, RP μ w Z (ρ x) (opd C s.env x)) → RPs μ w Z (l.map ρ) ps
 | [], k, h => ⟨[], h, fun μ w Z ρ _ _ => ⟨rfl, fun i x p hx => by simp at hx⟩⟩
 | x :: r, k, h0 => by
  obtain ⟨p, h, hp⟩ := Aac (μ := fun _ _ => none) (w := default) (Z := fun _ _ => False) h0
  clear h0
  obtain ⟨ps, h1, h2⟩ := Atu r _ h
  refine ⟨_, h1, fun μ w Z ρ hc hx => ?_⟩
  obtain ⟨h3, h4⟩ := h2 μ w Z ρ hc (fun y hy => hx y (by simp [hy]))
  refine ⟨by simpa using h3, fun i y q hy hq => ?_⟩
  cases i with
  | zero =>
   simp at hy hq; subst hy; subst hq
   exact hp μ w Z _ hc (hx x (by simp))
  | succ i => exact h4 i y q (by simpa using hy) (by simpa using hq)
end Go.PL
namespace Go.PL
set_option linter.unusedSimpArgs false
set_option linter.unusedVariables false
set_option linter.unusedSectionVars false
open Tys (Ty U)
open Enc (sz enc dflt tb ofB toB)
open Dec (dec dok)
variable [Tys] [Enc] [Dec]
def Fq (ro : Option Nat) : Fence := { fn := fun _ => True, depth := none, alive := false, round := ro }
theorem A3q (ro : Option Nat) {o : Oper} {ρ : Operand → Value} {P : Program} {w w' : World} {n : Next} (h : (execOp ρ o).run P w = .ok n w') (hn : ∀ d, n ≠ .defer d) : (o.semAt ro ρ).run P w = .ok n w' := by
 rw [Oper.semAt_eq ro ρ o, h]
 intro c hc
 simp only [execOp, hc, Sem.run_bind] at h
 cases h1 : (resolve ρ c o.type).run P w with
 | ok d w1 => rw [h1] at h; simp at h; exact hn d h.1.symm
 | halt x w1 => rw [h1] at h; cases h
theorem Ale {ro : Option Nat} {o : Oper} {a : Act} {P : Program} {w w' : World} {n : Next} {K : Act → World → Prop} {Q : Exit → Act → World → Prop} (h : (execOp a.eval o).run P w = .ok n w') (hn : ∀ d, n ≠ .defer d)
  (hu : o.uponIn (Fq ro) 0 P a K Q (.ok n w')) : o.wpIn (Fq ro) 0 P a w K Q := ⟨fun _ _ => trivial, by rw [show (Fq ro).round = ro from rfl, A3q ro h hn]; exact hu⟩
def dn (d : Option Nat) (k : Nat) : Prop := d = some (k % 65536)
def Fr (d : Option Nat) (μ : Nmap) (gen : Nat) : Prop := ∀ x, d = some x → x < 65536 ∧ ∀ k, k % 65536 = x → μ k gen = none
def TripW (C : Ctx) (o : Oper) (gen : Nat) (e : Operand → PV) (fp fp' : Mem) (v : PV) : Prop :=
 ∀ (μ : Nmap) (w : World) (Z : Nat → Nat → Prop) (a : Act), GI C μ w Z → (∀ x ∈ o.op.operands, RP μ w Z (a.eval x) (e x)) → WR μ fp Z w → Fr o.dst μ gen →
  ∀ (ro : Option Nat) (K : Act → World → Prop) (Q : Exit → Act → World → Prop),
   (∀ val w' μ' Z', RP μ' w' Z' val v → WR μ' fp' Z' w' → Adv μ fp Z w μ' fp' Z' w' → (∀ k g, ¬ (dn o.dst k ∧ g = gen) → μ' k g = μ k g) → K (a.put o.dst val) w') → o.wpIn (Fq ro) 0 C.P a w K Q
theorem Trip.w {C : Ctx} {o : Oper} {gen : Nat} {e : Operand → PV} {fp fp' : Mem} {v : PV} (h : Trip C o gen e fp fp' v) : TripW C o gen e fp fp' v := by
 intro μ w Z a hg hx hw hf ro K Q hk
 obtain ⟨val, w', μ', Z', hr, h1, h2, h3, h4⟩ := h μ w Z a.eval hg hx hw (fun d hd => (hf d hd).2 d (Nat.mod_eq_of_lt (hf d hd).1))
 have := hk val w' μ' Z' h1 h2 h3 (fun k g hn => h4 k g fun ⟨e, e'⟩ => hn ⟨by unfold dn; rw [Nat.mod_eq_of_lt (hf k e).1]; exact e, e'⟩)
 rcases hr with hr | ⟨hr, rfl⟩
 ·exact Ale hr (fun _ h => by cases h) this
 ·exact Ale hr (fun _ h => by cases h) this
def OpW (C : Ctx) (o : Oper) (s : St) (v : PV) (sto' : List En) : Prop :=
 ∃ fp fp', TripW C o s.gen (opd C s.env) fp fp' v ∧ (∀ k g c, fp k g = some c → den s.sto k g = some c) ∧ den sto' = mput (den s.sto) fp fp' ∧
  (∀ k g, fp k g ≠ none ∨ fp' k g ≠ none → k ∈ (foot C s.env s.sto o).1) ∧ ((foot C s.env s.sto o).2 = true → fp = fp')
theorem OpR.w {C : Ctx} {o : Oper} {s : St} {v : PV} {sto' : List En} (h : OpR C o s v sto') : OpW C o s v sto' :=
 let ⟨fp, fp', h1, h2, h3, h4⟩ := h; ⟨fp, fp', h1.w, h2, h3, h4⟩
def SndW (C : Ctx) (o : Oper) (ow c : Bool) (s : St) (ev : (PV → List En → Prop) → Prop) : Prop :=
 ∀ k, ev k → ∃ v sto', k v sto' ∧ (c = true → OpW C o s v sto') ∧ (ow = false → sto' = s.sto)
theorem Snd.w {C : Ctx} {o : Oper} {ow c : Bool} {s : St} {ev : (PV → List En → Prop) → Prop} (h : Snd C o ow c s ev) : SndW C o ow c s ev := fun k hk =>
 let ⟨v, sto', h1, h2, h3⟩ := h k hk; ⟨v, sto', h1, fun hc => (h2 hc).w, h3⟩
/-! ### calls -/
def callF (C : Ctx) (c ow : Bool) (s : St) (o : Oper) (f : Nat) (l : List Operand) (k : PV → List En → Prop) : Prop :=
 args C c s l fun ps => CallK C c ow s o.dst (foot C s.env s.sto o) f (wks ps) ps k
theorem callF_run {ro : Option Nat} {C : Ctx} {o : Oper} {a : Act} {f : Nat} {vals : List Value} {w : World} {K : Act → World → Prop} {Q : Exit → Act → World → Prop} {R : Ending → World → Prop}
  (he : execOp a.eval o = callFunc f vals.toArray) (h : Azc C.P f vals.toArray w R) (hk : ∀ e w', R e w' → ∃ v, e = .returned v ∧ K (a.put o.dst v) w') : o.wpIn (Fq ro) 0 C.P a w K Q := by
 rcases h with ⟨h1, h2⟩ | ⟨v, w', h1, h2⟩
 ·refine Ale (he ▸ h1) (fun _ h => by cases h) ?_
  rw [Oper.uponIn_enter]
  refine ⟨fun h => (by cases h), (show CallsIn Fence.wide (0 - 1) C.P f vals.toArray w _ from callsIn_wide.2 (h2.mono fun e w' hr => ?_))⟩
  obtain ⟨v, rfl, hv⟩ := hk e w' hr
  exact hv
 ·obtain ⟨v', hv, hk'⟩ := hk _ _ h2
  cases hv
  exact Ale (n := .value v) (he ▸ h1) (fun _ h => by cases h) hk'
theorem A1h {C : Ctx} {o : Oper} {gen f : Nat} {e : Operand → PV} {ps : List PV} {r : PV} {vals : Act → List Value} (he : ∀ a : Act, (∀ μ w Z, (∀ x ∈ o.op.operands, RP μ w Z (a.eval x) (e x)) → execOp a.eval o = callFunc f (vals a).toArray))
  (hv : ∀ μ w Z (a : Act), (∀ x ∈ o.op.operands, RP μ w Z (a.eval x) (e x)) → RPs Aa7 w Z (vals a) ps) (hf : PFun C f ps r) : TripW C o gen e emp emp r := by
 intro μ w Z a hg hx hw hfr ro K Q hk
 refine callF_run (he a μ w Z hx) (hf.run w Z (vals a) (hv μ w Z a hx) (fun g ds h => (hg g ds h).bare rfl) hw.zlt) ?_
 rintro e' w' ⟨v, Z', rfl, h1, h2, h3⟩
 refine ⟨v, rfl, hk v w' μ Z' (h1.mono (fun k g y h => by simp [Aa7] at h) (fun _ _ h => h) (fun _ _ _ => rfl) (fun _ _ h => h)) ⟨fun k g c h => by simp [emp] at h, fun k g k' g' c c' b h => by simp [emp] at h, h2⟩ ?_ (fun _ _ _ => rfl)⟩
 exact ⟨fun _ _ _ h => h, h3.z, h3.cell, h3.shp, h3.size, fun b hb _ => h3.frame b hb (fun k g c h => by simp [emp] at h), fun b o h => by
  rcases h3.znew b o h with h | h | ⟨k, g, c, h, _⟩
  ·exact .inl h
  ·exact .inr (.inl h)
  ·simp [emp] at h, fun k g c b h => by simp [emp] at h, h3.os, h3.out⟩
theorem An5 {C : Ctx} {o : Oper} {s : St} {f : Nat} {ps : List PV} {r : PV} {vals : Act → List Value} (he : ∀ a : Act, (∀ μ w Z, (∀ x ∈ o.op.operands, RP μ w Z (a.eval x) (opd C s.env x)) → execOp a.eval o = callFunc f (vals a).toArray))
  (hv : ∀ μ w Z (a : Act), (∀ x ∈ o.op.operands, RP μ w Z (a.eval x) (opd C s.env x)) → RPs Aa7 w Z (vals a) ps) (hf : PFun C f ps r) : OpW C o s r s.sto :=
 ⟨emp, emp, A1h he hv hf, fun _ _ _ h => by simp [emp] at h, (Ala _).symm, fun k g h => by simp [emp] at h, fun _ => rfl⟩
theorem InOK.named {sto0 : List En} {f : Nat → Nat → Option (Nat × Nat)} : ∀ {l : List (Nat × Nat)} {sto : List En} {i : Nat}, InOK sto0 f l sto i → ∀ (j : Nat) (k' g' : Nat), l[j]? = some (k', g') → ∃ c', find sto0 k' = some (g', c')
 | [], [], _, _, j, k', g', hj => by simp at hj
 | (k1, g1) :: l, e :: sto, i, h, j, k', g', hj => by
  obtain ⟨h1, h2, h3, h4, h5⟩ := h
  cases j with
  | zero =>
   simp at hj
   obtain ⟨rfl, rfl⟩ := hj
   split at h4
   ·rename_i g' c' hfi
    obtain ⟨rfl, h4⟩ := h4
    exact ⟨c', hfi⟩
   ·exact h4.elim
  | succ j => exact InOK.named h5 j k' g' (by simpa using hj)
 | [], _ :: _, _, h, _, _, _, _ => h.elim
 | _ :: _, [], _, h, _, _, _, _ => h.elim
theorem Atv {l : List (Nat × Nat)} {k g k' g' : Nat} (h : cin l k g = some (k', g')) : g = 0 ∧ ∃ j, l[j]? = some (k', g') ∧ k = 1000 + j := by
 unfold cin at h
 split at h
 ·exact ⟨rfl, Axh h⟩
 ·cases h
theorem A4i {l : List (Nat × Nat)} {j k' g' : Nat} (h : l[j]? = some (k', g')) : cin l (1000 + j) 0 = some (k', g') := lk_of h
theorem A4v {d k n : Nat} (h : nn d k = some n) : ∃ j, j < 4 ∧ k = 2000 + j ∧ n = d + 65536 * j ∧ n ∈ subs d := by
 unfold nn at h
 split at h
 ·rename_i e; exact ⟨0, by omega, by omega, by have := Option.some.inj h; omega, by rw [← Option.some.inj h]; exact List.mem_of_getElem? (i := 0) rfl⟩
 split at h
 ·rename_i e; exact ⟨1, by omega, by omega, by have := Option.some.inj h; omega, by rw [← Option.some.inj h]; exact List.mem_of_getElem? (i := 1) rfl⟩
 split at h
 ·rename_i e; exact ⟨2, by omega, by omega, by have := Option.some.inj h; omega, by rw [← Option.some.inj h]; exact List.mem_of_getElem? (i := 2) rfl⟩
 split at h
 ·rename_i e; exact ⟨3, by omega, by omega, by have := Option.some.inj h; omega, by rw [← Option.some.inj h]; exact List.mem_of_getElem? (i := 3) rfl⟩
 ·cases h
theorem cout_some {l : List (Nat × Nat)} {d gen k g k' g' : Nat} (h : cout l d gen k g = some (k', g')) : (g = 1 ∧ g' = gen ∧ ∃ j, j < 4 ∧ k = 2000 + j ∧ k' = d + 65536 * j ∧ k' ∈ subs d) ∨ (g = 0 ∧ ∃ j, l[j]? = some (k', g') ∧ k = 1000 + j) := by
 unfold cout at h
 split at h
 ·exact .inr ⟨rfl, Axh h⟩
 ·split at h
  ·rename_i n hn
   have h1 := congrArg Prod.fst (Option.some.inj h)
   have h2 := congrArg Prod.snd (Option.some.inj h)
   simp only at h1 h2
   rw [h1] at hn
   exact .inl ⟨rfl, h2.symm, A4v hn⟩
  ·cases h
 ·cases h
theorem A3r {C : Ctx} {o : Oper} {s : St} {d f : Nat} {l : List (Nat × Nat)} {pa : List PV} {sto : List En} {r : PV} {sto' : List En} {vals : Act → List Value} (hd : o.dst = some d)
  (he : ∀ a : Act, (∀ μ w Z, (∀ x ∈ o.op.operands, RP μ w Z (a.eval x) (opd C s.env x)) → execOp a.eval o = callFunc f (vals a).toArray))
  (hv : ∀ μ w Z (a : Act), (∀ x ∈ o.op.operands, RP μ w Z (a.eval x) (opd C s.env x)) → RPs μ w Z (vals a) (ren.rens (cin l) pa)) (hf : PFunM C f pa sto r sto') (ha : rok.roks (cin l) pa = true)
  (hi : InOK s.sto (cin l) l sto 0) (ho : outOK (cout l d s.gen) l.length sto' = true) (hnd : (l.map (·.1)).Nodup) (hlen : l.length ≤ 64) :
  TripW C o s.gen (opd C s.env) (fun k g => if (l.map (·.1)).contains k then den s.sto k g else none) (den (outE (cout l d s.gen) sto')) (ren (cout l d s.gen) r) := by
 intro μc w Z a hg hx hw hfr ro K Q hk
 obtain ⟨hd65, hfree⟩ := hfr d hd
 -- the call's names
 let μ : Nmap := fun k g => match cin l k g with
  | some (k', g') => μc k' g'
  | none => none
 have hμ : ∀ {k g k' g'}, cin l k g = some (k', g') → μ k g = μc k' g' := fun h => by simp only [μ, h]
 have hback : ∀ k g k' g' y, cin l k g = some (k', g') → μc k' g' = some y → μ k g = some y := fun k g k' g' y h hy => by rw [hμ h]; exact hy
 have hkey : ∀ {j k' g' : Nat}, l[j]? = some (k', g') → (l.map (·.1)).contains k' = true := by
  intro j k' g' hj
  simp only [List.contains_iff_mem, List.mem_map]
  exact ⟨_, List.mem_of_getElem? hj, rfl⟩
 -- an entry of the call's memory is one of the caller's
 have hent : ∀ k g c, den sto k g = some c → ∃ k' g' c', cin l k g = some (k', g') ∧ den s.sto k' g' = some c' ∧ LeC c' (renC (cin l) c) ∧ rokC (cin l) c = true ∧ (l.map (·.1)).contains k' = true := by
  intro k g c hc
  obtain ⟨rfl, h3, j, k', g', c', rfl, h4, h5, h6⟩ := hi.at k g c hc
  have e : 1000 + (0 + j) = 1000 + j := by omega
  exact ⟨k', g', c', by rw [e]; exact A4i h4, Aa6 h5, h6, h3, hkey h4⟩
 have hfp : ∀ {k' g' c'}, (l.map (·.1)).contains k' = true → den s.sto k' g' = some c' → (fun k g => if (l.map (·.1)).contains k then den s.sto k g else none : Mem) k' g' = some c' := by
  intro k' g' c' h1 h2; simp only; rw [if_pos h1]; exact h2
 have hW : WR μ (den sto) Z w := by
  refine ⟨fun k g c hc => ?_, fun k g k2 g2 c c2 b hc hc2 hb hb2 => ?_, hw.zlt⟩
  ·obtain ⟨k', g', c', h1, h2, h3, h4, h5⟩ := hent k g c hc
   exact EntOK.unren hback h1 h4 (h3.ent (hw.ent k' g' c' (hfp h5 h2)))
  ·obtain ⟨k', g', c', h1, h2, h3, h4, h5⟩ := hent k g c hc
   obtain ⟨k2', g2', c2', j1, j2, j3, j4, j5⟩ := hent k2 g2 c2 hc2
   rw [hμ h1] at hb
   rw [hμ j1] at hb2
   obtain ⟨rfl, rfl⟩ := hw.dis k' g' k2' g2' c' c2' b (hfp h5 h2) (hfp j5 j2) hb hb2
   obtain ⟨rfl, i1, a3, rfl⟩ := Atv h1
   obtain ⟨rfl, i2, b3, rfl⟩ := Atv j1
   have e : i1 = i2 := by
    have n1 : (l.map (·.1))[i1]? = some k' := by rw [List.getElem?_map, a3]; rfl
    have n2 : (l.map (·.1))[i2]? = some k' := by rw [List.getElem?_map, b3]; rfl
    have lt1 := (List.getElem?_eq_some_iff.1 n1).1
    exact (List.getElem?_inj lt1 hnd).1 (n1.trans n2.symm)
   exact ⟨by rw [e], rfl⟩
 have hargs : RPs μ w Z (vals a) pa := by
  have h1 := hv μc w Z a hx
  refine ⟨by rw [h1.1, rens_eq]; simp, fun i x p hxi hp => ?_⟩
  exact (h1.2 i x (ren (cin l) p) hxi (by rw [rens_eq, List.getElem?_map, hp]; rfl)).unren hback p (Ald ha i p hp) rfl
 have hnone : ∀ k g, 1 ≤ g → μ k g = none := by
  intro k g h
  simp only [μ]
  cases hc : cin l k g with
  | none => rfl
  | some n => obtain ⟨a1, _⟩ := Atv (k' := n.1) (g' := n.2) hc; omega
 refine callF_run (he a μc w Z hx) (hf.run μ w Z (vals a) hargs hW (fun g ds h => (hg g ds h).bare rfl) hnone) ?_
 rintro e' w' ⟨v, μ', Z', rfl, h1, h2, h3⟩
 -- the caller's names behind the call
 let μ2 : Nmap := fun k g => if k % 65536 = d ∧ g = s.gen then μ' (2000 + k / 65536) 1 else μc k g
 have hold : ∀ k g, ¬ (k % 65536 = d ∧ g = s.gen) → μ2 k g = μc k g := fun k g h => by simp only [μ2, if_neg h]
 have hmono : ∀ k g y, μc k g = some y → μ2 k g = some y := by
  intro k g y hy
  rw [hold k g]
  ·exact hy
  ·rintro ⟨h4, rfl⟩; rw [hfree k h4] at hy; cases hy
 have hren : ∀ k g k' g' y, cout l d s.gen k g = some (k', g') → μ' k g = some y → μ2 k' g' = some y := by
  intro k g k' g' y hc hy
  rcases cout_some hc with ⟨rfl, eg, j, hj4, rfl, ek, _⟩ | ⟨rfl, j, h6, rfl⟩
  ·rw [ek, eg]
   have e1 : (d + 65536 * j) % 65536 = d := by omega
   have e2 : 2000 + (d + 65536 * j) / 65536 = 2000 + j := by omega
   simp only [μ2, e1, e2, and_self, if_true]; exact hy
  ·obtain ⟨c', hc'⟩ := hi.named _ _ _ h6
   obtain ⟨y0, hy0⟩ := (hw.ent k' g' c' (hfp (hkey h6) (Aa6 hc'))).name
   have h7 := h3.mu _ 0 y0 (hback _ _ _ _ _ (A4i h6) hy0)
   rw [hy] at h7; cases h7
   exact hmono _ _ _ hy0
 have hpost : ∀ k' g' c', den (outE (cout l d s.gen) sto') k' g' = some c' → ∃ k g c, den sto' k g = some c ∧ (cout l d s.gen k g = some (k', g') ∧ rokC (cout l d s.gen) c = true) ∧ c' = renC (cout l d s.gen) c ∧ ∀ y, μ2 k' g' = some y → μ' k g = some y := by
  intro k' g' c' hc'
  obtain ⟨k, g, c, ⟨e, hem, rfl, rfl, rfl⟩, h5, h6⟩ := Ap3 hc'
  obtain ⟨h00, h7⟩ := outOK.mem ho e hem
  refine ⟨e.k, e.g, e.c, h7, ⟨h5, h00⟩, h6, fun y hy => ?_⟩
  obtain ⟨y0, hy0⟩ := (h2.ent _ _ _ h7).name
  have := hren _ _ _ _ _ h5 hy0
  rw [hy] at this; cases this; exact hy0
 refine ⟨v, rfl, hk v w' μ2 Z' (h1.ren hren) ⟨fun k' g' c' hc' => ?_, fun k1 g1 k2 g2 c1 c2 b hc1 hc2 hb1 hb2 => ?_, h2.zlt⟩ ?_ (fun k g hn => hold k g fun ⟨h4, h5⟩ => hn ⟨by unfold dn; rw [hd, h4], h5⟩)⟩
 ·obtain ⟨k, g, c, h4, ⟨h5, h00⟩, rfl, _⟩ := hpost k' g' c' hc'
  exact (h2.ent _ _ _ h4).ren hren h5 h00
 ·obtain ⟨k, g, c, h4, ⟨h5, _⟩, rfl, h6⟩ := hpost _ _ _ hc1
  obtain ⟨k', g', c', j4, ⟨j5, _⟩, rfl, j6⟩ := hpost _ _ _ hc2
  obtain ⟨rfl, rfl⟩ := h2.dis _ _ _ _ _ _ b h4 j4 (h6 _ hb1) (j6 _ hb2)
  rw [h5] at j5; cases j5; exact ⟨rfl, rfl⟩
 ·refine ⟨hmono, h3.z, h3.cell, h3.shp, h3.size, fun b hb hn => h3.frame b hb fun k g c hc hμk => ?_, fun b o' hz => ?_, fun k' g' c' b hc' hb => ?_, h3.os, h3.out⟩
  ·obtain ⟨k', g', c', a1, a2, _, _, a5⟩ := hent k g c hc
   rw [hμ a1] at hμk
   exact hn k' g' c' (hfp a5 a2) hμk
  ·rcases h3.znew b o' hz with h | h | ⟨k, g, c, hc, hμk⟩
   ·exact .inl h
   ·exact .inr (.inl h)
   ·obtain ⟨k', g', c', a1, a2, _, _, a5⟩ := hent k g c hc
    rw [hμ a1] at hμk
    exact .inr (.inr ⟨k', g', c', hfp a5 a2, hμk⟩)
  ·obtain ⟨k, g, c, h4, ⟨h5, _⟩, rfl, h6⟩ := hpost _ _ _ hc'
   rcases h3.own k g c b h4 (h6 _ hb) with h | ⟨k0, g0, c0, hc0, hμ0⟩
   ·exact .inl h
   ·obtain ⟨k', g', c', a1, a2, _, _, a5⟩ := hent k0 g0 c0 hc0
    rw [hμ a1] at hμ0
    exact .inr ⟨k', g', c', hfp a5 a2, hμ0⟩
theorem A1i {C : Ctx} {o : Oper} {s : St} {d f : Nat} {l : List (Nat × Nat)} {pa : List PV} {sto : List En} {r : PV} {sto' : List En} {vals : Act → List Value} (hd : o.dst = some d)
  (he : ∀ a : Act, (∀ μ w Z, (∀ x ∈ o.op.operands, RP μ w Z (a.eval x) (opd C s.env x)) → execOp a.eval o = callFunc f (vals a).toArray))
  (hv : ∀ μ w Z (a : Act), (∀ x ∈ o.op.operands, RP μ w Z (a.eval x) (opd C s.env x)) → RPs μ w Z (vals a) (ren.rens (cin l) pa)) (hf : PFunM C f pa sto r sto') (ha : rok.roks (cin l) pa = true)
  (hi : InOK s.sto (cin l) l sto 0) (ho : outOK (cout l d s.gen) l.length sto' = true) (hnd : (nodupB (l.map (·.1)) && Nat.ble l.length 64 && !(foot C s.env s.sto o).2 && (subs d ++ l.map (·.1)).all ((foot C s.env s.sto o).1.contains ·)) = true) :
  OpW C o s (ren (cout l d s.gen) r) (outE (cout l d s.gen) sto' ++ dels (l.map (·.1)) s.sto) := by
 simp only [Bool.and_eq_true, Nat.ble_eq, Bool.not_eq_true'] at hnd
 obtain ⟨⟨⟨n1, n2⟩, n3⟩, n4⟩ := hnd
 have n5 : ∀ k, k ∈ subs d ++ l.map (·.1) → k ∈ (foot C s.env s.sto o).1 := fun k hk => by
  have := List.all_eq_true.1 n4 k hk
  simpa using this
 refine ⟨_, _, A3r hd he hv hf ha hi ho (Ajx n1) n2, fun k g c h => ?_, ?_, fun k g h => ?_, fun h => by rw [n3] at h; cases h⟩
 ·split at h
  ·exact h
  ·cases h
 ·funext k g
  rw [A1f, den_dels]
  simp only [mput]
  cases h1 : den (outE (cout l d s.gen) sto') k g with
  | some c => rfl
  | none =>
   simp only
   split
   ·cases h2 : den s.sto k g <;> simp [h2]
   ·simp
 ·rcases h with h | h
  ·split at h
   ·rename_i hk
    exact n5 k (by rw [List.mem_append]; exact .inr (by simpa using hk))
   ·exact absurd rfl h
  ·cases h1 : den (outE (cout l d s.gen) sto') k g with
   | none => exact absurd h1 h
   | some c =>
    obtain ⟨k0, g0, c0, ⟨e, hem, rfl, rfl, rfl⟩, h5, h6⟩ := Ap3 h1
    rcases cout_some h5 with ⟨_, _, j, _, _, _, hmem⟩ | ⟨_, j, h9, _⟩
    ·exact n5 _ (List.mem_append.2 (.inl hmem))
    ·exact n5 _ (List.mem_append.2 (.inr (List.mem_map.2 ⟨_, List.mem_of_getElem? h9, rfl⟩)))
theorem callF_ok {C : Ctx} {o : Oper} {ow c : Bool} {s : St} {f : Nat} {l : Array Operand} {ts : Array TypeId} (ho : o.op = .call { callee := .value (.func f), args := l, argTypes := ts }) : SndW C o ow c s (callF C c ow s o f l.toList) := by
 intro k h
 obtain ⟨ps, h, hps⟩ := Atu _ _ h
 have hmem : ∀ x ∈ l.toList, x ∈ o.op.operands := by
  intro x hx
  have : x ∈ l := by simpa using hx
  simp [ho, Op.operands, Call.operands, this]
 have he : ∀ a : Act, (∀ (μ : Nmap) (w : World) (Z : Nat → Nat → Prop), (∀ x ∈ o.op.operands, RP μ w Z (a.eval x) (opd C s.env x)) → execOp a.eval o = callFunc f (l.toList.map a.eval).toArray) := by
  intro a μ w Z _
  simp only [execOp, ho, resolve, Act.eval, Deferred.ofValue, pure, bind, Sem.bind, invoke]
  congr 1
  simp
  exact Array.toArray_map_toList _ _
 have hvw : c = true → ∀ μ w Z (a : Act), (∀ x ∈ o.op.operands, RP μ w Z (a.eval x) (opd C s.env x)) → RPs μ w Z (l.toList.map a.eval) (wks ps) := fun hc μ w Z a hx =>
  Aze (hps μ w Z a.eval hc (fun x hx' => hx x (hmem x hx')))
 have hvl : ∀ (ps' : List PV), c = true → LeP.LePs (wks ps) ps' → ∀ μ w Z (a : Act), (∀ x ∈ o.op.operands, RP μ w Z (a.eval x) (opd C s.env x)) → RPs μ w Z (l.toList.map a.eval) ps' := by
  intro ps' hc hle μ w Z a hx
  have h1 := hvw hc μ w Z a hx
  exact ⟨by rw [h1.1]; exact LePs.len _ _ hle, fun i x p hx hp => LePs.rp _ _ hle _ h1.1 h1.2 i x p hx hp⟩
 have hv : ∀ (ps' : List PV), c = true → LeP.LePs ps ps' → ∀ μ w Z (a : Act), (∀ x ∈ o.op.operands, RP μ w Z (a.eval x) (opd C s.env x)) → RPs μ w Z (l.toList.map a.eval) ps' := by
  intro ps' hc hle μ w Z a hx
  have h1 := hps μ w Z a.eval hc (fun x hx' => hx x (hmem x hx'))
  exact ⟨by rw [h1.1]; exact LePs.len _ _ hle, fun i x p hx hp => LePs.rp _ _ hle _ h1.1 h1.2 i x p hx hp⟩
 have hv0 : c = true → ∀ μ w Z (a : Act), (∀ x ∈ o.op.operands, RP μ w Z (a.eval x) (opd C s.env x)) → RPs μ w Z (l.toList.map a.eval) ps := fun hc μ w Z a hx =>
  (hps μ w Z a.eval hc (fun x hx' => hx x (hmem x hx')))
 cases h with
 | mk r hb hf hk => exact ⟨r, _, hk, fun hc => An5 he (fun μ w Z a hx => (hvw hc μ w Z a hx).bare hb) (hf hc), fun _ => rfl⟩
 | le ps' r hb hle hf hk => exact ⟨r, _, hk, fun hc => An5 he (fun μ w Z a hx => (hvl ps' hc (hle hc) μ w Z a hx).bare hb) (hf hc), fun _ => rfl⟩
 | mem d hd how ll pa sto r sto' hf ha hle hi ho' hnd hk =>
  exact ⟨_, _, hk, fun hc => A1i hd he (hv _ hc (hle hc)) (hf hc) ha hi ho' hnd, fun h => by rw [how] at h; cases h⟩
def callV (C : Ctx) (c ow : Bool) (s : St) (o : Oper) (x : Operand) (l : List Operand) (k : PV → List En → Prop) : Prop :=
 strip c (opd C s.env x) fun fv => match fv with
  | .fn (.func f) first cap => args C c s l fun ps => CallK C c ow s o.dst (foot C s.env s.sto o) f (first ++ (wks ps ++ cap)) (first ++ (ps ++ cap)) k
  | fv => (bare fv = true) ∧ args C c s l fun ps => CallV C c fv ps fun r => k r s.sto
def Asz (l : List Operand) (x : Operand) (a : Act) : List Value := match a.eval x with
 | .func _ vs us => vs.toList ++ (l.map a.eval ++ us.toList)
 | _ => []
theorem A1j {C : Ctx} {o : Oper} {ow c : Bool} {s : St} {x : Operand} {l : Array Operand} {ts : Array TypeId} (ho : o.op = .call { callee := .value x, args := l, argTypes := ts }) {f : Nat} {first cap ps : List PV}
  (hfv : ∀ μ w Z v, c = true → RP μ w Z v (opd C s.env x) → RP μ w Z v (.fn (.func f) first cap)) (hps : ∀ μ w Z (ρ : Operand → Value), c = true → (∀ x ∈ l.toList, RP μ w Z (ρ x) (opd C s.env x)) → RPs μ w Z (l.toList.map ρ) ps)
  {k : PV → List En → Prop} (h : CallK C c ow s o.dst (foot C s.env s.sto o) f (first ++ (wks ps ++ cap)) (first ++ (ps ++ cap)) k) : ∃ v sto', k v sto' ∧ (c = true → OpW C o s v sto') ∧ (ow = false → sto' = s.sto) := by
 have hmx : x ∈ o.op.operands := by simp [ho, Op.operands, Call.operands]
 have hmem : ∀ y ∈ l.toList, y ∈ o.op.operands := by
  intro y hy
  have : y ∈ l := by simpa using hy
  simp [ho, Op.operands, Call.operands, this]
 have he : c = true → ∀ a : Act, (∀ (μ : Nmap) (w : World) (Z : Nat → Nat → Prop), (∀ x ∈ o.op.operands, RP μ w Z (a.eval x) (opd C s.env x)) → execOp a.eval o = callFunc f (Asz l.toList x a).toArray) := by
  intro hc a μ w Z hx
  have h1 := hfv μ w Z _ hc (hx x hmx)
  generalize hxe : a.eval x = y at h1
  cases h1 with
  | fn _ _ _ vs us hl hm h2 h3 =>
   simp only [execOp, ho, resolve, hxe, Deferred.ofValue, pure, bind, Sem.bind, invoke, Asz]
   congr 1
   apply Array.ext'
   simp
 have hvg : ∀ ps : List PV, (∀ μ w Z (ρ : Operand → Value), c = true → (∀ x ∈ l.toList, RP μ w Z (ρ x) (opd C s.env x)) → RPs μ w Z (l.toList.map ρ) ps) → c = true → ∀ μ w Z (a : Act), (∀ x ∈ o.op.operands, RP μ w Z (a.eval x) (opd C s.env x)) → RPs μ w Z (Asz l.toList x a) (first ++ (ps ++ cap)) := by
  intro ps hps hc μ w Z a hx
  have hv' := hps μ w Z a.eval hc (fun y hy => hx y (hmem y hy))
  have h1 := hfv μ w Z _ hc (hx x hmx)
  generalize hxe : a.eval x = y at h1
  cases h1 with
  | fn _ _ _ vs us hl hm h2 h3 =>
   simp only [Asz, hxe]
   refine ⟨by simp [hl, hm, ← hv'.1], fun i x p hx hp => ?_⟩
   replace hx : (vs ++ (l.toList.map a.eval ++ us))[i]? = some x := hx
   rw [List.getElem?_append] at hx hp
   rw [← hl] at hp
   by_cases h4 : i < vs.length
   ·simp only [h4, if_true] at hx hp
    exact h2 i x p hx hp
   ·simp only [h4, if_false] at hx hp
    rw [List.getElem?_append] at hx hp
    rw [← hv'.1] at hp
    by_cases h5 : i - vs.length < (l.toList.map a.eval).length
    ·simp only [h5, if_true] at hx hp
     exact hv'.2 _ x p hx hp
    ·simp only [h5, if_false] at hx hp
     exact h3 _ x p hx hp
 have hv0 := hvg ps hps
 have hvw := hvg (wks ps) (fun μ w Z ρ hc hx => Aze (hps μ w Z ρ hc hx))
 have hvl : ∀ (ps' : List PV), c = true → LeP.LePs (first ++ (wks ps ++ cap)) ps' → ∀ μ w Z (a : Act), (∀ x ∈ o.op.operands, RP μ w Z (a.eval x) (opd C s.env x)) → RPs μ w Z (Asz l.toList x a) ps' := by
  intro ps' hc hle μ w Z a hx
  have h1 := hvw hc μ w Z a hx
  exact ⟨by rw [h1.1]; exact LePs.len _ _ hle, fun i x p hx hp => LePs.rp _ _ hle _ h1.1 h1.2 i x p hx hp⟩
 have hv : ∀ (ps' : List PV), c = true → LeP.LePs (first ++ (ps ++ cap)) ps' → ∀ μ w Z (a : Act), (∀ x ∈ o.op.operands, RP μ w Z (a.eval x) (opd C s.env x)) → RPs μ w Z (Asz l.toList x a) ps' := by
  intro ps' hc hle μ w Z a hx
  have h1 := hv0 hc μ w Z a hx
  exact ⟨by rw [h1.1]; exact LePs.len _ _ hle, fun i x p hx hp => LePs.rp _ _ hle _ h1.1 h1.2 i x p hx hp⟩
 cases h with
 | mk r hb hf hk => exact ⟨r, _, hk, fun hc => An5 (he hc) (fun μ w Z a hx => (hvw hc μ w Z a hx).bare hb) (hf hc), fun _ => rfl⟩
 | le ps' r hb hle hf hk => exact ⟨r, _, hk, fun hc => An5 (he hc) (fun μ w Z a hx => (hvl ps' hc (hle hc) μ w Z a hx).bare hb) (hf hc), fun _ => rfl⟩
 | mem d hd how ll pa sto r sto' hf ha hle hi ho' hnd hk =>
  exact ⟨_, _, hk, fun hc => A1i hd (he hc) (hv _ hc (hle hc)) (hf hc) ha hi ho' hnd, fun h => by rw [how] at h; cases h⟩
theorem callV_ok {C : Ctx} {o : Oper} {ow c : Bool} {s : St} {x : Operand} {l : Array Operand} {ts : Array TypeId} (ho : o.op = .call { callee := .value x, args := l, argTypes := ts }) : SndW C o ow c s (callV C c ow s o x l.toList) := by
 intro k h0
 obtain ⟨fv, h, hfv⟩ := Aac (μ := fun _ _ => none) (w := default) (Z := fun _ _ => False) h0
 clear h0
 split at h
 ·obtain ⟨ps, h, hps⟩ := Atu _ _ h
  exact A1j ho hfv hps h
 obtain ⟨hbf, h⟩ := h
 obtain ⟨ps, h, hps⟩ := Atu _ _ h
 have hmx : x ∈ o.op.operands := by simp [ho, Op.operands, Call.operands]
 have hmem : ∀ y ∈ l.toList, y ∈ o.op.operands := by
  intro y hy
  have : y ∈ l := by simpa using hy
  simp [ho, Op.operands, Call.operands, this]
 have key : ∀ (ps' : List PV) (r : PV), c = true → (∀ μ w Z (a : Act), (∀ x ∈ o.op.operands, RP μ w Z (a.eval x) (opd C s.env x)) → RPs Aa7 w Z (l.toList.map a.eval) ps') → PFunV C fv ps' r → OpW C o s r s.sto := by
  intro ps' r hc hv hf
  cases hf with
  | fn f first cap _ _ hf =>
   refine ⟨emp, emp, ?_, fun _ _ _ h => by simp [emp] at h, (Ala _).symm, fun k g h => by simp [emp] at h, fun _ => rfl⟩
   intro μ w Z a hg hx hw hfr ro K Q hk
   have h1 := (hfv μ w Z _ hc (hx x hmx)).bare (μ' := Aa7) hbf
   generalize hxe : a.eval x = y at h1
   cases h1 with
   | fn _ _ _ vs us hl hm h2 h3 =>
    have hv' := hv μ w Z a hx
    have hall : RPs Aa7 w Z (vs ++ l.toList.map a.eval ++ us) (first ++ ps' ++ cap) := by
     refine ⟨by simp [hl, hm, ← hv'.1], fun i x p hx hp => ?_⟩
     rw [List.append_assoc] at hx hp
     rw [List.getElem?_append] at hx hp
     rw [← hl] at hp
     by_cases h4 : i < vs.length
     ·simp only [h4, if_true] at hx hp
      exact h2 i x p hx hp
     ·simp only [h4, if_false] at hx hp
      rw [List.getElem?_append] at hx hp
      rw [← hv'.1] at hp
      by_cases h5 : i - vs.length < (l.toList.map a.eval).length
      ·simp only [h5, if_true] at hx hp
       exact hv'.2 _ x p hx hp
      ·simp only [h5, if_false] at hx hp
       exact h3 _ x p hx hp
    have he : execOp a.eval o = callFunc f (vs ++ l.toList.map a.eval ++ us).toArray := by
     simp only [execOp, ho, resolve, hxe, Deferred.ofValue, pure, bind, Sem.bind, invoke]
     congr 1
     apply Array.ext'
     simp
    refine callF_run he (hf.run w Z _ hall (fun g ds h => (hg g ds h).bare rfl) hw.zlt) ?_
    rintro e' w' ⟨v, Z', rfl, h1, h2, h3⟩
    refine ⟨v, rfl, hk v w' μ Z' (h1.mono (fun k g y h => by simp [Aa7] at h) (fun _ _ h => h) (fun _ _ _ => rfl) (fun _ _ h => h)) ⟨fun k g c h => by simp [emp] at h, fun k g k' g' c c' b h => by simp [emp] at h, h2⟩ ?_ (fun _ _ _ => rfl)⟩
    exact ⟨fun _ _ _ h => h, h3.z, h3.cell, h3.shp, h3.size, fun b hb _ => h3.frame b hb (fun k g c h => by simp [emp] at h), fun b o h => by
     rcases h3.znew b o h with h | h | ⟨k, g, c, h, _⟩
     ·exact .inl h
     ·exact .inr (.inl h)
     ·simp [emp] at h, fun k g c b h => by simp [emp] at h, h3.os, h3.out⟩
  | val f _ _ hf =>
   refine An5 (f := f) (vals := fun a => l.toList.map a.eval) (fun a μ w Z hx => ?_) hv hf
   have h1 := (hfv μ w Z _ hc (hx x hmx)).val
   simp only [execOp, ho, resolve, h1, Deferred.ofValue, pure, bind, Sem.bind, invoke]
   congr 1
   apply Array.ext'
   simp
 have hv0 : ∀ ps', bare.bares ps' = true → (c = true → LeP.LePs (wks ps) ps') → c = true → ∀ μ w Z (a : Act), (∀ x ∈ o.op.operands, RP μ w Z (a.eval x) (opd C s.env x)) → RPs Aa7 w Z (l.toList.map a.eval) ps' := fun ps' hb hle hc μ w Z a hx => by
  have h1 := Aze (hps μ w Z a.eval hc (fun x hx' => hx x (hmem x hx')))
  exact RPs.bare (μ := μ) ⟨by rw [h1.1]; exact LePs.len _ _ (hle hc), fun i x p hx hp => LePs.rp _ _ (hle hc) _ h1.1 h1.2 i x p hx hp⟩ hb
 have hv1 : bare.bares (wks ps) = true → c = true → ∀ μ w Z (a : Act), (∀ x ∈ o.op.operands, RP μ w Z (a.eval x) (opd C s.env x)) → RPs Aa7 w Z (l.toList.map a.eval) (wks ps) := fun hb hc μ w Z a hx =>
  (Aze (hps μ w Z a.eval hc (fun x hx' => hx x (hmem x hx')))).bare (μ' := Aa7) hb
 cases h with
 | mk r hb hf hk => exact ⟨r, _, hk, fun hc => key (wks ps) r hc (hv1 hb hc) (hf hc), fun _ => rfl⟩
 | le ps' r hb hle hf hk => exact ⟨r, _, hk, fun hc => key ps' r hc (hv0 ps' hb hle hc) (hf hc), fun _ => rfl⟩
end Go.PL
