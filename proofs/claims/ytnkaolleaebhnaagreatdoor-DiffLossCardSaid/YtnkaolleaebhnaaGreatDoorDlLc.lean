/- Texts of this claim: plain laws of what the program's functions compute. No condition of their own. -/
import Derived.Test.YtnkaolleaebhnaaGreatDoorDlLb
import Derived.Scope
import Derived.IntWalk
import Derived.Laws.Strings
import Derived.KernelRfl
namespace Go.PL
set_option linter.unusedSimpArgs false
set_option linter.unusedVariables false
set_option linter.unusedSectionVars false
open Tys (Ty U)
open Enc (sz enc dflt tb ofB toB)
open Dec (dec dok)
variable [Tys] [Enc] [Dec]
theorem A1k {P : Program} {T : TypeId} {r : TR} (hT : TOk P T r) {ds : List D} {k : PV → List En → Prop} {sto : List En} (h : Aqr r ds k sto) :
  ∃ q, k q sto ∧ ∀ (μ : Nmap) (w : World) (Z : Nat → Nat → Prop) (b off : Nat) (vs : Nat → Value), (∀ i d, ds[i]? = some d → w.cell? ⟨b, off + i, none⟩ = some (vs i) ∧ RD w Z (vs i) d) →
   ∃ v, (loadVar T ⟨b, off, none⟩).run P w = .ok v w ∧ RP μ w Z v q := by
 unfold Aqr at h
 split at h
 ·rename_i ha
  refine ⟨_, h.2, fun μ w Z b off vs hh => ?_⟩
  have hcs : ∀ (j : Nat) (v : Value), ((List.range r.size).map vs)[j]? = some v → w.cell? ⟨b, off + j, none⟩ = some v := by
   intro j v hv
   rw [List.getElem?_map] at hv
   rcases Nat.lt_or_ge j r.size with h2 | h2
   ·rw [List.getElem?_range h2] at hv
    simp at hv; subst hv
    have h3 : j < ds.length := Nat.lt_of_lt_of_le h2 h.1
    exact (hh j ds[j] (List.getElem?_eq_getElem h3)).1
   ·rw [List.getElem?_eq_none (by simpa using h2)] at hv; cases hv
  refine ⟨_, Ahy hT w b off _ hcs ha (by simp), ?_⟩
  refine .ag _ _ (by have := h.1; simp; omega) fun i x q hx hq => ?_
  rw [List.getElem?_map] at hx hq
  rcases Nat.lt_or_ge i r.size with h2 | h2
  ·rw [List.getElem?_range h2] at hx
   have h3 : i < ds.length := Nat.lt_of_lt_of_le h2 h.1
   rw [List.getElem?_take, if_pos h2, List.getElem?_eq_getElem h3] at hq
   simp at hx hq; subst hx; subst hq
   exact un_ok (hh i ds[i] (List.getElem?_eq_getElem h3)).2
  ·rw [List.getElem?_eq_none (by simpa using h2)] at hx; cases hx
 ·rename_i ha
  split at h
  ·rename_i q rest
   refine ⟨_, h, fun μ w Z b off vs hh => ?_⟩
   obtain ⟨h2, h4⟩ := hh 0 q rfl
   exact ⟨_, Alb hT w b off _ h2 ha, un_ok h4⟩
  ·exact h.elim
def opIdxAM (C : Ctx) (A : Ar) (c : Bool) (s : St) (T : TypeId) (x i : Operand) (k : PV → List En → Prop) : Prop :=
 match C.ti T with
 | some ⟨.slice e, _, _, _⟩ => match C.ti e with
  | some r => strip c (opd C s.env i) fun q => match q with
   | .d (.v (.int _ n)) => strip c (opd C s.env x) fun p => match p with
    | .ms kk g t lo m => (r.size = sz t) ∧ vc c (A.inb n m) ∧ k (.ep kk g t (A.pl lo n) 0) s.sto
    | _ => False
   | _ => False
  | none => False
 | _ => False
theorem opIdxAM_ok {C : Ctx} {A : Ar} (hA : A = std) (hC : C.OK) {o : Oper} {ow c : Bool} {s : St} {T : TypeId} {x i : Operand} (ho : o.op = .indexAddr T x i) : Snd C o ow c s (opIdxAM C A c s T x i) := by
 subst hA
 intro k h
 unfold opIdxAM at h
 split at h
 ·rename_i e _ _ _ hT
  split at h
  ·rename_i r hr
   obtain ⟨q, h, hq⟩ := Aac (μ := fun _ _ => none) (w := default) (Z := fun _ _ => False) h
   split at h
   ·rename_i kk n
    obtain ⟨p, h, hp⟩ := Aac (μ := fun _ _ => none) (w := default) (Z := fun _ _ => False) h
    obtain ⟨_, d, _, h2, _, _, _, h5⟩ := hC.ti T _ hT
    obtain rfl := KOk.slice h5
    obtain ⟨i', d', h6, _, h7, _⟩ := hC.ti e r hr
    split at h
    ·rename_i k' g' t lo m
     obtain ⟨hsz, hv, h⟩ := h
     refine ⟨_, _, h, fun hc => opR_quiet fun μ w Z ρ hg hx => ?_, fun _ => rfl⟩
     obtain ⟨h8, h9⟩ : 0 ≤ n ∧ n < m := Aae hv hc
     have h1 : ρ i = .int kk n := (hq μ w Z _ hc (hx i (by simp [ho, Op.operands]))).val
     have h10 := hp μ w Z _ hc (hx x (by simp [ho, Op.operands]))
     generalize hxe : ρ x = X at h10
     cases h10 with
     | ms _ _ _ _ _ b cap hb hlo hm hcap _ _ _ _ =>
      refine ⟨.pointer (some ⟨b, (lo + n).toNat * sz t + 0, none⟩), ?_, .ep _ _ _ _ 0 b hb (by show 0 ≤ lo + n; omega)⟩
      have e1 : (lo + n).toNat * sz t = lo.toNat * sz t + n.toNat * sz t := by rw [← Nat.add_mul]; congr 1; omega
      have h11 : ¬ max m 0 ≤ n := by omega
      simp [execOp, ho, h1, hxe, Instr.indexAt, asIntOf, und h2, h8, h9, h11, szOf h6, addr_add, h7, hsz, e1]
     | msE _ _ _ _ _ _ h1' => omega
    ·exact h.elim
   ·exact h.elim
  ·exact h.elim
 ·exact h.elim
def opFieldE (C : Ctx) (c : Bool) (s : St) (T : TypeId) (x : Operand) (f : Nat) (k : PV → List En → Prop) : Prop :=
 match C.ti T with
 | some ⟨.struct fs, _, _, _⟩ => match fs[f]? with
  | some (off, ft) => match C.ti ft with
   | some r => (r.size ≠ 0) ∧ strip c (opd C s.env x) fun p => match p with
    | .ep kk g t i o => k (.ep kk g t i (o + off)) s.sto
    | _ => False
   | none => False
  | none => False
 | _ => False
theorem opFieldE_ok {C : Ctx} (hC : C.OK) {o : Oper} {ow c : Bool} {s : St} {T : TypeId} {x : Operand} {f : Nat} (ho : o.op = .fieldAddr T x f) : Snd C o ow c s (opFieldE C c s T x f) := by
 intro k h
 unfold opFieldE at h
 split at h
 ·rename_i fs _ _ _ hT
  split at h
  ·rename_i off ft hf
   split at h
   ·rename_i r hr
    obtain ⟨h0, h⟩ := h
    obtain ⟨p, h, hp⟩ := Aac (μ := fun _ _ => none) (w := default) (Z := fun _ _ => False) h
    obtain ⟨i, d, _, h2, _, _, _, h5⟩ := hC.ti T _ hT
    obtain ⟨F, rfl, hF⟩ := KOk.struct h5
    obtain ⟨i', d', h6, _, h7, _⟩ := hC.ti ft r hr
    have hfi : ∃ g, F[f]? = some g ∧ g.offset = off ∧ g.type = ft := by
     rw [← hF, List.getElem?_map] at hf
     cases hq : F.toList[f]? with
     | none => rw [hq] at hf; simp at hf
     | some g => rw [hq] at hf; simp at hf; exact ⟨g, by simpa using hq, hf.1, hf.2⟩
    obtain ⟨fl, hfl, rfl, rfl⟩ := hfi
    split at h
    ·rename_i kk g t ii o'
     refine ⟨_, _, h, fun hc => opR_quiet fun μ w Z ρ hg hx => ?_, fun _ => rfl⟩
     have h1 := hp μ w Z _ hc (hx x (by simp [ho, Op.operands]))
     generalize hy : ρ x = y at h1
     cases h1 with
     | ep _ _ _ _ _ b hb hi =>
      refine ⟨.pointer (some ⟨b, ii.toNat * sz t + (o' + fl.offset), none⟩), ?_, .ep _ _ _ _ _ b hb hi⟩
      have h8 : ¬ (i'.size = 0) := by rw [h7]; exact h0
      simp [execOp, ho, hy, Instr.fieldAt, Instr.sureAddr, und h2, hfl, fieldPlace, szOf h6, h8, addr_add, Nat.add_assoc]
    ·exact h.elim
   ·exact h.elim
  ·exact h.elim
 ·exact h.elim
theorem A1l {w : World} {Z : Nat → Nat → Prop} {b : Nat} {cs : Array Value} {T : TypeId} {t : Ty} {xs : List (U t)} (hh : w.heap[b]? = some (.cells cs T (0, 0))) (ha : ArrAt w Z t xs cs) {i : Int} (h0 : 0 ≤ i) (h1 : i < xs.length) (off : Nat) :
  ∀ (j : Nat) (d : D), ((enc t (xs.getD i.toNat (dflt t))).drop off)[j]? = some d → w.cell? ⟨b, i.toNat * sz t + off + j, none⟩ = some ((cs[i.toNat * sz t + off + j]?).getD undef) ∧ RD w Z ((cs[i.toNat * sz t + off + j]?).getD undef) d := by
 intro j d hd
 rw [List.getElem?_drop] at hd
 have hlt : i.toNat < xs.length := by omega
 have h4 : xs[i.toNat]? = some (xs.getD i.toNat (dflt t)) := by
  rw [List.getD_eq_getElem?_getD, List.getElem?_eq_getElem hlt]; rfl
 obtain ⟨v, h5, h6⟩ := ha i.toNat (off + j) _ d h4 hd
 rw [Nat.add_assoc]
 rw [cell_of_row w b _ cs T _ hh, h5]
 exact ⟨rfl, h6⟩
def opLoadE (C : Ctx) (A : Ar) (c : Bool) (s : St) (T : TypeId) (x : Operand) (k : PV → List En → Prop) : Prop :=
 match C.ti T with
 | none => False
 | some r => strip c (opd C s.env x) fun p => match p with
  | .ep kk g t i off => match find s.sto kk with
   | some (g', .arr TT t' xs) => vc c (g' = g) ∧ (sz t = sz t') ∧ vc c (A.inb i (A.len t' xs)) ∧ Aqr r ((enc t' (A.get t' xs i)).drop off) k s.sto
   | _ => False
  | _ => False
theorem opLoadE_ok {C : Ctx} {A : Ar} (hA : A = std) (hC : C.OK) {o : Oper} {ow c : Bool} {s : St} {T : TypeId} {x : Operand} (ho : o.op = .load T x) : Snd C o ow c s (opLoadE C A c s T x) := by
 subst hA
 intro k h0
 unfold opLoadE at h0
 split at h0
 ·exact h0.elim
 ·rename_i r hr
  obtain ⟨p, hpu, h, hp⟩ := Acz h0
  clear h0
  split at h
  ·rename_i kk g t i off
   split at h
   ·rename_i g' TT t' xs hf
    obtain ⟨hg, hst, hi, h⟩ := h
    obtain ⟨q, hq, hl⟩ := A1k (hC.ti T r hr) h
    refine ⟨_, _, hq, fun hc => ?_, fun _ => rfl⟩
    obtain rfl := Aae hg hc
    obtain ⟨h1, h2⟩ : 0 ≤ i ∧ i < xs.length := Aae hi hc
    refine An3 hf (by simp [foot, ho, ← hpu, keyOf]) fun μ w Z ρ _ hx hent => ?_
    have h3 := hp μ w Z _ hc (hx x (by simp [ho, Op.operands]))
    generalize hxe : ρ x = X at h3
    cases h3 with
    | ep _ _ _ _ _ b hb _ =>
     rcases hent with ⟨h4, _⟩ | ⟨b', cs, h4, h5, h6, _⟩
     ·rw [hb] at h4; cases h4
     ·rw [hb] at h4; obtain rfl := Option.some.inj (Option.some.inj h4)
      rw [hst] at hxe
      obtain ⟨v, h7, h8⟩ := hl μ w Z b (i.toNat * sz t' + off) _ (A1l h5 h6 h1 h2 off)
      refine ⟨v, ?_, h8⟩
      simp [execOp, ho, hxe, Instr.loadAt, Instr.sureAddr, h7]
   ·exact h.elim
  ·exact h.elim
theorem Axi {μ : Nmap} {Z : Nat → Nat → Prop} {w : World} {k g b off : Nat} {T : TypeId} {t : Ty} {xs : List (U t)} {i : Nat} {x' : U t} {ys : List Value} {ds : List D} (hw : WR μ (single k g (.arr T t xs)) Z w) (hb : μ k g = some (some b)) (hi : i < xs.length)
  (hl : ys.length = ds.length) (hy : ∀ (j : Nat) (y : Value) (d : D), ys[j]? = some y → ds[j]? = some d → RD w Z y d) (hoff : off + ds.length ≤ sz t)
  (hd : ∀ (w : World) (Z : Nat → Nat → Prop) (q : Nat) (y : Value) (d d' : D), (splice (enc t (xs.getD i (dflt t))) off ds)[q]? = some d → (enc t x')[q]? = some d' → RD w Z y d → RD w Z y d') :
  ∃ cs, w.heap[b]? = some (.cells cs T (0, 0)) ∧ i * sz t + off + ys.length ≤ cs.size ∧ WR μ (single k g (.arr T t (xs.set i x'))) Z (w.setRow b (splice cs.toList (i * sz t + off) ys).toArray) ∧
   Adv μ (single k g (.arr T t xs)) Z w μ (single k g (.arr T t (xs.set i x'))) Z (w.setRow b (splice cs.toList (i * sz t + off) ys).toArray) := by
 rcases hw.ent k g _ (by simp [single]; rfl) with ⟨h1, _⟩ | ⟨b', cs, h1, h2, h3, h4⟩
 ·rw [hb] at h1; cases h1
 rw [hb] at h1; obtain rfl := Option.some.inj (Option.some.inj h1)
 have hx : xs[i]? = some xs[i] := List.getElem?_eq_getElem hi
 have hxd : xs.getD i (dflt t) = xs[i] := by rw [List.getD_eq_getElem?_getD, hx]; rfl
 have hpos := Enc.pos t
 have hroom : i * sz t + sz t ≤ cs.size := by
  have hd0 : (enc t xs[i])[sz t - 1]? = some ((enc t xs[i])[sz t - 1]'(by rw [Enc.len]; omega)) := List.getElem?_eq_getElem _
  obtain ⟨v, h5, _⟩ := h3 i (sz t - 1) _ _ hx hd0
  have := (Array.getElem?_eq_some_iff.1 h5).1
  omega
 have hle : i * sz t + off + ys.length ≤ cs.size := by omega
 have hsl : (splice cs.toList (i * sz t + off) ys).length = cs.size := by rw [Ad7 _ _ _ (by simp; omega)]; simp
 have hsame := setRow_heap w b cs (splice cs.toList (i * sz t + off) ys).toArray T (0, 0) h2
 have ha : Adv μ (single k g (.arr T t xs)) Z w μ (single k g (.arr T t (xs.set i x'))) Z (w.setRow b (splice cs.toList (i * sz t + off) ys).toArray) := by
  refine ⟨fun _ _ _ h => h, fun _ _ h => h, ?_, ?_, by simp, ?_, fun _ _ h => .inl h, ?_, rfl, rfl⟩
  ·intro b' o hz
   have hne : b' ≠ b := by intro e; subst e; exact h4 o hz
   exact cell_setRow_other w b _ ⟨b', o, none⟩ hne
  ·intro b' s hs
   by_cases hne : b' = b
   ·subst hne
    simp only [World.shape?, h2] at hs
    simp only [World.shape?, hsame]
    rw [← hs]; simp [hsl]
   ·simp only [World.shape?, setRow_other w b b' _ hne]; exact hs
  ·intro b' _ hn
   have hne : b' ≠ b := by intro e; subst e; exact hn k g (.arr T t xs) (by simp [single]) hb
   exact setRow_other w b b' _ hne
  ·intro k' g' c b' h5 h6
   simp only [single] at h5
   split at h5 <;> simp at h5
   rename_i h7
   obtain ⟨rfl, rfl⟩ := h7
   exact .inr ⟨k', g', .arr T t xs, by simp [single], h6⟩
 refine ⟨cs, h2, hle, ⟨?_, ?_, fun b o h => by simpa using hw.zlt b o h⟩, ha⟩
 ·intro k' g' c h
  simp only [single] at h
  split at h <;> simp at h
  rename_i h7
  obtain ⟨rfl, rfl⟩ := h7
  subst h
  refine .inr ⟨b, _, hb, hsame, ?_, h4⟩
  intro j q x d hxj hdq
  have hq : q < sz t := by
   rcases Nat.lt_or_ge q (sz t) with h | h
   ·exact h
   ·rw [List.getElem?_eq_none (by rw [Enc.len]; exact h)] at hdq; cases hdq
  have hsp : ∀ p, (splice cs.toList (i * sz t + off) ys).toArray[p]? = if i * sz t + off ≤ p ∧ p < i * sz t + off + ys.length then ys[p - (i * sz t + off)]? else cs[p]? := by
   intro p
   simp only [splice, List.getElem?_toArray]
   have hlen : (cs.toList.take (i * sz t + off)).length = i * sz t + off := by simp; omega
   by_cases hp1 : p < i * sz t + off
   ·rw [if_neg (by omega), List.getElem?_append_left (by rw [List.length_append, hlen]; omega), List.getElem?_append_left (by rw [hlen]; exact hp1), List.getElem?_take, if_pos hp1]; simp
   ·by_cases hp2 : p < i * sz t + off + ys.length
    ·rw [if_pos ⟨by omega, hp2⟩, List.getElem?_append_left (by rw [List.length_append, hlen]; omega), List.getElem?_append_right (by rw [hlen]; omega), hlen]
    ·rw [if_neg (by omega), List.getElem?_append_right (by rw [List.length_append, hlen]; omega), List.length_append, hlen, List.getElem?_drop]
     have : i * sz t + off + ys.length + (p - (i * sz t + off + ys.length)) = p := by omega
     rw [this]; simp
  have up : ∀ {v : Value} {d : D}, RD w Z v d → RD (w.setRow b (splice cs.toList (i * sz t + off) ys).toArray) Z v d := fun h => h.mono ha.z ha.cell
  by_cases hji : j = i
  ·subst hji
   rw [List.getElem?_set_self hi] at hxj
   obtain rfl := Option.some.inj hxj
   rw [hsp]
   have hel : (enc t xs[j]).length = sz t := Enc.len _ _
   by_cases hin : off ≤ q ∧ q < off + ys.length
   ·rw [if_pos (by omega)]
    have hlt : q - off < ys.length := by omega
    have e1 : j * sz t + q - (j * sz t + off) = q - off := by omega
    rw [e1, List.getElem?_eq_getElem hlt]
    refine ⟨_, rfl, ?_⟩
    have hlt' : q - off < ds.length := by omega
    refine up (hd _ _ q _ ds[q - off] d ?_ hdq (hy _ _ _ (List.getElem?_eq_getElem hlt) (List.getElem?_eq_getElem hlt')))
    rw [hxd]
    simp only [splice]
    have hlen : ((enc t xs[j]).take off).length = off := by rw [List.length_take, hel]; omega
    rw [List.getElem?_append_left (by rw [List.length_append, hlen]; omega), List.getElem?_append_right (by rw [hlen]; omega), hlen, List.getElem?_eq_getElem hlt']
   ·rw [if_neg (by omega)]
    have hdo : (enc t xs[j])[q]? = some ((enc t xs[j])[q]'(by rw [hel]; exact hq)) := List.getElem?_eq_getElem _
    obtain ⟨v, h5, h6⟩ := h3 j q _ _ hx hdo
    refine ⟨v, h5, up (hd _ _ q _ _ d ?_ hdq h6)⟩
    rw [hxd]
    simp only [splice]
    have hlen : ((enc t xs[j]).take off).length = off := by rw [List.length_take, hel]; omega
    by_cases hq1 : q < off
    ·rw [List.getElem?_append_left (by rw [List.length_append, hlen]; omega), List.getElem?_append_left (by rw [hlen]; exact hq1), List.getElem?_take, if_pos hq1]; exact hdo
    ·rw [List.getElem?_append_right (by rw [List.length_append, hlen]; omega), List.length_append, hlen, List.getElem?_drop]
     have : off + ds.length + (q - (off + ds.length)) = q := by omega
     rw [this]; exact hdo
  ·rw [List.getElem?_set_ne (fun e => hji e.symm)] at hxj
   obtain ⟨v, h5, h6⟩ := h3 j q x d hxj hdq
   refine ⟨v, ?_, up h6⟩
   rw [hsp, if_neg]
   ·exact h5
   ·rintro ⟨h7, h8⟩
    rcases Nat.lt_or_gt_of_ne hji with h9 | h9
    ·have : (j + 1) * sz t ≤ i * sz t := Nat.mul_le_mul_right _ h9
     rw [Nat.add_mul] at this; omega
    ·have : (i + 1) * sz t ≤ j * sz t := Nat.mul_le_mul_right _ h9
     rw [Nat.add_mul] at this; omega
 ·intro k1 g1 k2 g2 c c' b' h5 h6 _ _
  simp only [single] at h5 h6
  split at h5 <;> simp at h5
  split at h6 <;> simp at h6
  rename_i h7 h8
  exact ⟨h7.1.trans h8.1.symm, h7.2.trans h8.2.symm⟩
def opStoreE (C : Ctx) (A : Ar) (ow c : Bool) (s : St) (T : TypeId) (x y : Operand) (k : PV → List En → Prop) : Prop :=
 match ow, C.ti T with
 | true, some r => strip c (opd C s.env x) fun p => strip c (opd C s.env y) fun q => match p, flat q with
  | .ep kk g t i off, some vs => match find s.sto kk, dnD.dnDs vs with
   | some (g', .arr TT t' xs), some ds => vc c (g' = g) ∧ (sz t = sz t') ∧ (vs.length = r.size) ∧ (off + vs.length ≤ sz t') ∧ vc c (A.inb i (A.len t' xs)) ∧ (match dec A.u8 t' (splice (enc t' (A.get t' xs i)) off ds) with
    | some x' => vc c (dok A.u8ok t' (splice (enc t' (A.get t' xs i)) off ds)) ∧ k .any (setc s.sto kk (.arr TT t' (A.set t' xs i x')))
    | none => False)
   | _, _ => False
  | _, _ => False
 | _, _ => False
theorem opStoreE_ok {C : Ctx} {A : Ar} (hA : A = std) (hC : C.OK) {o : Oper} {ow c : Bool} {s : St} {T : TypeId} {x y : Operand} (ho : o.op = .store T x y) : Snd C o ow c s (opStoreE C A ow c s T x y) := by
 subst hA
 intro k h0
 unfold opStoreE at h0
 split at h0
 ·rename_i r hr
  obtain ⟨p, hpu, h, hp⟩ := Acz h0
  obtain ⟨q, h, hq⟩ := Aac (μ := fun _ _ => none) (w := default) (Z := fun _ _ => False) h
  clear h0
  split at h
  ·rename_i kk g t i off vs hv _
   split at h
   ·rename_i g' TT t' xs ds hf hds
    obtain ⟨hg, hst, hl, hoff, hi, h⟩ := h
    split at h
    ·rename_i x' hx'
     obtain ⟨hok, h⟩ := h
     refine ⟨_, _, h, fun hc => ⟨single kk g' (.arr TT t' xs), single kk g' (.arr TT t' (xs.set i.toNat x')), ?_, ?_, Aka _ hf, ?_, fun h => by simp [foot, ho] at h⟩, fun h => by cases h⟩
     ·intro μ w Z ρ _ hx hw _
      obtain rfl := Aae hg hc
      obtain ⟨hi1, hi2⟩ : 0 ≤ i ∧ i < xs.length := Aae hi hc
      have h1 := hp μ w Z _ hc (hx x (by simp [ho, Op.operands]))
      obtain ⟨h2, h3⟩ := Aqq hv (hq μ w Z _ hc (hx y (by simp [ho, Op.operands])))
      obtain ⟨hdl, hdat⟩ := Aow hds
      generalize hxe : ρ x = a at h1
      cases h1 with
      | ep _ _ _ _ _ b hb _ =>
       have hlen : (ρ y).cells.toList.length = vs.length := h2.1
       obtain ⟨hdec, hdec2⟩ : (splice (enc t' (xs.getD i.toNat (dflt t'))) off ds).length = sz t' ∧ True := ⟨by rw [Ad7 _ _ _ (by rw [Enc.len]; omega), Enc.len], trivial⟩
       have hdo := (Dec.dec_ok t' _ x' hx').2 (Aae hok hc)
       obtain ⟨cs, h4, h5, h6, h7⟩ := Axi (off := off) (i := i.toNat) (x' := x') (ys := (ρ y).cells.toList) (ds := ds) hw hb (by omega) (by rw [hlen, hdl]) (fun j y' d hy' hd' => by
        have hj : j < vs.length := by rw [hdl]; exact (List.getElem?_eq_some_iff.1 hd').1
        exact A05 (h2.2 j y' vs[j] hy' (List.getElem?_eq_getElem hj)) d (hdat j _ d (List.getElem?_eq_getElem hj) hd')) (by omega) (fun w Z q y' d d' h8 h9 h10 => hdo w Z q y' d d' h8 h9 h10)
       obtain ⟨ii, _, h8, _, h9, _⟩ := hC.ti T r hr
       have hsc := run_storeCells_at C.P b (i.toNat * sz t' + off) TT (ρ y).cells.toList 0 cs w h4 (by omega) h3
       refine ⟨undef, _, μ, Z, .inr ⟨?_, rfl⟩, .any _, h6, h7, fun _ _ _ => rfl⟩
       have hsz : ¬ ((ρ y).cells.size ≠ ii.size) := by rw [h9, ← hl, ← hlen]; simp
       simp only [Nat.add_zero] at hsc
       simp at hsz
       rw [hst] at hxe
       simp [execOp, ho, hxe, Instr.storeAt, Instr.sureAddr, storeVar, szOf h8, hsz]
       simp [hsc, splice]
     ·intro k1 g1 c1 h1
      simp only [single] at h1
      split at h1 <;> simp at h1
      rename_i h2
      obtain ⟨rfl, rfl⟩ := h2
      subst h1
      exact Aa6 hf
     ·intro k1 g1 h1
      simp only [foot, ho, ← hpu, keyOf]
      simp only [single] at h1
      split at h1
      ·rename_i h2; simp [h2.1]
      ·simp at h1
    ·exact h.elim
   ·exact h.elim
  ·exact h.elim
 ·exact h0.elim
def A1m (C : Ctx) (A : Ar) (c : Bool) (s : St) (T : TypeId) (x : Operand) (k : PV → List En → Prop) : Prop :=
 match C.ti T with
 | some ⟨.slice _, _, _, _⟩ => strip c (opd C s.env x) fun p => match p with
  | .ms _ _ _ _ n => k (it .i64 n) s.sto
  | _ => False
 | _ => False
theorem opLenM_ok {C : Ctx} {A : Ar} (hC : C.OK) {o : Oper} {ow c : Bool} {s : St} {T : TypeId} {x : Operand} (ho : o.op = .call { callee := .builtin .len, args := #[x], argTypes := #[T] }) :
  Snd C o ow c s (A1m C A c s T x) := by
 intro k h
 have hrun : ∀ (w : World) (ρ : Operand → Value), (execOp ρ o).run C.P w = ((Builtin.len_ #[T] o.type #[ρ x]).run C.P w).andThen fun v w => .ok (.value v) w := by
  intro w ρ
  simp [execOp, ho, resolve, invoke, builtin]
 have hmem : x ∈ o.op.operands := by simp [ho, Op.operands, Call.operands]
 unfold A1m at h
 split at h
 ·rename_i e _ _ _ hT
  obtain ⟨_, d, _, h2, _, _, _, h5⟩ := hC.ti T _ hT
  obtain rfl := KOk.slice h5
  obtain ⟨p, h, hp⟩ := Aac (μ := fun _ _ => none) (w := default) (Z := fun _ _ => False) h
  split at h
  ·rename_i k' g' t lo n
   refine ⟨_, _, h, fun hc => opR_val fun μ w Z ρ hx => ?_, fun _ => rfl⟩
   have h1 := hp μ w Z _ hc (hx x hmem)
   generalize hxe : ρ x = X at h1
   cases h1 with
   | ms _ _ _ _ _ b cap _ _ hn _ _ _ _ _ =>
    refine ⟨.int .i64 n, by rw [hrun]; simp [Builtin.len_, und h2, hxe, goInt]; omega, RP.ofVal ..⟩
   | msE _ _ _ _ _ _ hn =>
    subst hn
    exact ⟨.int .i64 0, by rw [hrun]; simp [Builtin.len_, und h2, hxe]; rfl, RP.ofVal ..⟩
  ·exact h.elim
 ·exact h.elim
def opCutM (C : Ctx) (A : Ar) (c : Bool) (s : St) (T : TypeId) (x : Operand) (lo hi : Option Operand) (k : PV → List En → Prop) : Prop :=
 match C.ti T with
 | some ⟨.slice e, _, _, _⟩ => match C.ti e with
  | some r => strip c (opd C s.env x) fun p => match p with
   | .ms kk g t o n => bnd C c s lo 0 fun l => bnd C c s hi n fun h => (r.size = sz t) ∧ vc c (A.subOk l h n) ∧ k (.ms kk g t (A.pl o l) (A.mi h l)) s.sto
   | _ => False
  | none => False
 | _ => False
theorem opCutM_ok {C : Ctx} {A : Ar} (hA : A = std) (hC : C.OK) {o : Oper} {ow c : Bool} {s : St} {T : TypeId} {x : Operand} {lo hi : Option Operand} (ho : o.op = .slice T x lo hi none) :
  Snd C o ow c s (opCutM C A c s T x lo hi) := by
 subst hA
 intro k h0
 unfold opCutM at h0
 have hmx : x ∈ o.op.operands := by simp [ho, Op.operands]
 have hml : ∀ y, lo = some y → y ∈ o.op.operands := by intro y hy; simp [ho, Op.operands, hy]
 have hmh : ∀ y, hi = some y → y ∈ o.op.operands := by intro y hy; simp [ho, Op.operands, hy]
 split at h0
 ·rename_i e _ _ _ hT
  split at h0
  ·rename_i r hr
   obtain ⟨i, d, hi1, h2, _, _, hz, h5⟩ := hC.ti T _ hT
   obtain rfl := KOk.slice h5
   obtain ⟨i', d', h6, _, h7, _⟩ := hC.ti e r hr
   obtain ⟨p, h, hp⟩ := Aac (μ := fun _ _ => none) (w := default) (Z := fun _ _ => False) h0
   clear h0
   split at h
   ·rename_i kk g t of' n
    obtain ⟨l, h, hl1, hl2⟩ := Apc h
    obtain ⟨u, h, hu1, hu2⟩ := Apc h
    refine ⟨_, _, h.2.2, fun hc => opR_val fun μ w Z ρ hx => ?_, fun _ => rfl⟩
    obtain ⟨ha, hb, hcc⟩ : 0 ≤ l ∧ l ≤ u ∧ u ≤ n := Aae h.2.1 hc
    have hrd := hp μ w Z _ hc (hx x hmx)
    have hsb : ∀ (len cap : Nat), (len : Int) = n → len ≤ cap → (Instr.sliceBounds true len cap (lo.map ρ) (hi.map ρ) none).run C.P w = .ok (l.toNat, u.toNat, cap) w := by
     intro len cap hn hcap
     exact run_sliceBounds (P := C.P) (w := w) (isS := true) (len := len) (cap := cap) (lo := lo.map ρ) (hi := hi.map ρ) (l := l) (h := u)
      (fun e => hl1 (by cases lo <;> simp_all)) (fun v e => by
       cases hlo : lo with
       | none => simp [hlo] at e
       | some y => simp [hlo] at e; subst e; exact hl2 y hlo μ w Z _ hc (hx y (hml y hlo)))
      (fun e => by have := hu1 (by cases hi <;> simp_all); rw [this, hn]) (fun v e => by
       cases hhi : hi with
       | none => simp [hhi] at e
       | some y => simp [hhi] at e; subst e; exact hu2 y hhi μ w Z _ hc (hx y (hmh y hhi))) ha hb (by omega) hcap
    have hsz := h.1
    generalize hxe : ρ x = X at hrd
    cases hrd with
    | ms _ _ _ _ _ b cap hbb hlo0 hn0 hcap TT m hsh hm =>
     have hs := hsb n.toNat cap (by omega) hcap
     by_cases hcl : cap = l.toNat
     ·refine ⟨.slice (some ⟨b, of'.toNat * sz t, none⟩) 0 0, ?_, .msE _ _ _ _ _ _ (by show u - l = 0; omega)⟩
      have hu : u.toNat = l.toNat := by omega
      subst hcl
      rw [hu] at hs
      simp [execOp, ho, hxe, Instr.sliceAt, Instr.slice, und h2, hs, szOf h6, h7, hsz]
     ·have e1 : (of' + l).toNat * sz t = of'.toNat * sz t + l.toNat * sz t := by rw [← Nat.add_mul]; congr 1; omega
      have e2 : (u - l).toNat = u.toNat - l.toNat := by omega
      have := RP.ms (μ := μ) (w := w) (Z := Z) kk g t (of' + l) (u - l) b (cap - l.toNat) hbb (by omega) (by omega) (by omega) TT m hsh (by
       have e3 : (of' + l).toNat + (cap - l.toNat) = of'.toNat + cap := by omega
       rw [e3]; exact hm)
      rw [e1, e2] at this
      refine ⟨_, ?_, this⟩
      simp [execOp, ho, hxe, Instr.sliceAt, Instr.slice, und h2, hs, szOf h6, h7, hsz, hcl, addr_add]
    | msE _ _ _ _ _ a hn0 =>
     have hs := hsb 0 0 (by omega) (Nat.zero_le _)
     have hu : u.toNat = 0 := by omega
     have hl0 : l.toNat = 0 := by omega
     refine ⟨_, ?_, .msE _ _ _ _ _ a (by show u - l = 0; omega)⟩
     simp [execOp, ho, hxe, Instr.sliceAt, Instr.slice, und h2, hs, szOf h6, h7, hsz, hu, hl0]
   ·exact h.elim
  ·exact h0.elim
 ·exact h0.elim
end Go.PL
namespace Go.PL
set_option linter.unusedSimpArgs false
set_option linter.unusedVariables false
set_option linter.unusedSectionVars false
open Tys (Ty U)
open Enc (sz enc dflt tb ofB toB)
open Dec (dec dok)
variable [Tys] [Enc] [Dec]
theorem Azf {P : Program} {T tx e ty : TypeId} {i : TypeInfo} {z : Value} (hT : P.underlying T = some (.slice e)) (hi : P.info? e = some i) (hz : i.zero = some z) {t : Ty} (hs : i.size = sz t) (hzs : z.cells.size = sz t)
  {μ : Nmap} {fp : Mem} {Z : Nat → Nat → Prop} {w : World} (hzl : ∀ b o, Z b o → b < w.heap.size) {d gen : Nat} (hf : μ d gen = none) {X y : Value} {xs ys : List (U t)} {news : List Value} (hsrc : Src P (sz t) tx y ys.length news w) (hnews : Rows w Z t ys news)
  (hX : (∃ a, X = .slice a 0 0 ∧ xs = []) ∨ ∃ b cap cs, X = .slice (some ⟨b, 0, none⟩) xs.length cap ∧ w.heap[b]? = some (.cells cs e (0, 0)) ∧ xs.length ≤ cap ∧ cap * sz t ≤ cs.size ∧ ArrAt w Z t xs cs ∧
   (∀ o, ¬ Z b o) ∧ ∃ k g c, fp k g = some c ∧ μ k g = some (some b))
  (hb : (xs.length + ys.length) * i.bytes ≤ 140737488355328) (h63 : xs.length + ys.length ≤ 140737488355328) :
  ∃ val w' y', (Builtin.append_ #[T, tx] ty #[X, y]).run P w = .ok val w' ∧ RP (mset μ d gen y') w' Z val (.ms d gen t 0 ((xs ++ ys).length : Int)) ∧ WR (mset μ d gen y') (single d gen (.arr e t (xs ++ ys))) Z w' ∧
   Adv μ fp Z w (mset μ d gen y') (single d gen (.arr e t (xs ++ ys))) Z w' := by
 have hlen : (xs ++ ys).length = xs.length + ys.length := by simp
 -- a new row
 have grow : ∀ (olds : List Value) (sCap : Nat), sCap < xs.length + ys.length → Rows w Z t xs olds → (∃ a, X = .slice a xs.length sCap) →
   (Builtin.firstCells i.size xs.length X).run P w.drew = .ok olds.toArray w.drew →
   ∃ val w' y', (Builtin.append_ #[T, tx] ty #[X, y]).run P w = .ok val w' ∧ RP (mset μ d gen y') w' Z val (.ms d gen t 0 ((xs ++ ys).length : Int)) ∧ WR (mset μ d gen y') (single d gen (.arr e t (xs ++ ys))) Z w' ∧
    Adv μ fp Z w (mset μ d gen y') (single d gen (.arr e t (xs ++ ys))) Z w' := by
  intro olds sCap hlt hold hXs' hfc
  obtain ⟨a, rfl⟩ := hXs'
  have hr := run_append_grow_src (P := P) w T tx ty e i z hT hi hz a xs.length sCap olds hfc y ys.length news (by rw [hs]; exact hsrc) hlt (by omega) (growslice_fits hlt hb)
  have hge := grownCap_ge w (xs.length + ys.length) sCap e
  generalize grownCap w (xs.length + ys.length) sCap e = nc at hr hge
  have hgr : Grown w (w.drew.alloc (.cells ((olds ++ news).toArray ++ Builtin.zeroCells z.cells (nc - (xs.length + ys.length))) e)) (.cells ((olds ++ news).toArray ++ Builtin.zeroCells z.cells (nc - (xs.length + ys.length))) e (0, 0)) := ⟨rfl, rfl, rfl⟩
  obtain ⟨h1, h2, h3⟩ := new_arr (d := d) (gen := gen) (t := t) (xs := xs ++ ys) (cap := nc) (μ := μ) (Z := Z) hgr ⟨fun k g c h => by simp [emp] at h, fun k g k' g' c c' b h => by simp [emp] at h, hzl⟩ hf (by omega) (by
   simp only [Array.size_append, List.size_toArray, List.length_append, size_zeroCells, hzs, hold.1, hnews.1, ← Nat.add_mul]
   apply Nat.le_of_eq; congr 1; omega) (by
   intro j q x dd hx hd
   have hq : q < sz t := by
    rcases Nat.lt_or_ge q (sz t) with h | h
    ·exact h
    ·rw [List.getElem?_eq_none (by rw [Enc.len]; exact h)] at hd; cases hd
   have hin : ∀ (l : Nat) v, (olds ++ news)[l]? = some v → ((olds ++ news).toArray ++ Builtin.zeroCells z.cells (nc - (xs.length + ys.length)))[l]? = some v := by
    intro l v hv
    have hlt : l < (olds ++ news).length := by
     rcases Nat.lt_or_ge l (olds ++ news).length with h | h
     ·exact h
     ·rw [List.getElem?_eq_none h] at hv; cases hv
    rw [Array.getElem?_append_left (by simpa using hlt)]
    simpa using hv
   rw [List.getElem?_append] at hx
   split at hx
   ·rename_i hj
    obtain ⟨v, h4, h5⟩ := hold.2 j q x dd hx hd
    refine ⟨v, hin _ v ?_, h5⟩
    rw [List.getElem?_append_left]
    ·exact h4
    ·rcases Nat.lt_or_ge (j * sz t + q) olds.length with h | h
     ·exact h
     ·rw [List.getElem?_eq_none h] at h4; cases h4
   ·rename_i hj
    obtain ⟨v, h4, h5⟩ := hnews.2 (j - xs.length) q x dd hx hd
    refine ⟨v, hin _ v ?_, h5⟩
    have e1 : j * sz t = xs.length * sz t + (j - xs.length) * sz t := by rw [← Nat.add_mul]; congr 1; omega
    rw [List.getElem?_append_right (by rw [hold.1]; omega), hold.1]
    have e2 : j * sz t + q - xs.length * sz t = (j - xs.length) * sz t + q := by omega
    rw [e2]; exact h4)
  have hr' : (Builtin.append_ #[T, tx] ty #[.slice a xs.length sCap, y]).run P w = .ok (.slice (some ⟨w.heap.size, 0, none⟩) (xs ++ ys).length nc)
    (w.drew.alloc (.cells ((olds ++ news).toArray ++ Builtin.zeroCells z.cells (nc - (xs.length + ys.length))) e)) := by rw [hlen]; exact hr
  exact ⟨_, _, some w.heap.size, hr', h1, h2, h3.of_emp⟩
 rcases hX with ⟨a, rfl, rfl⟩ | ⟨b, cap, cs, rfl, hh, hnc, hcc, hat, hnz, k0, g0, c0, hfp, hμb⟩
 ·by_cases hm : ys.length = 0
  ·have hys : ys = [] := List.eq_nil_of_length_eq_zero hm
   subst hys
   have hn : news = [] := List.eq_nil_of_length_eq_zero (by simpa using hnews.1)
   subst hn
   have ha : Adv μ fp Z w (mset μ d gen none) (single d gen (.arr e t ([] : List (U t)))) Z w := by
    refine ⟨Af1 hf, fun _ _ h => h, fun _ _ _ => rfl, fun _ _ h => h, Nat.le_refl _, fun _ _ _ => rfl, fun _ _ h => .inl h, ?_, rfl, rfl⟩
    intro k g c b' h1 h2
    obtain ⟨rfl, rfl, _⟩ := Abt h1
    rw [Aau] at h2; cases h2
   refine ⟨.slice a 0 0, w, none, ?_, .msE _ _ _ _ _ a (by simp), ⟨?_, ?_, hzl⟩, ha⟩
   ·have hcl := hsrc.cells
    have hle := hsrc.len
    simp only [List.length_nil] at hcl hle
    have hgc : (grownCap w 0 0 e) = grownCap w 0 0 e := rfl
    rcases hsrc.kind with ⟨e', hk⟩ | hk <;> cases a <;>
     simp [Builtin.append_, und hT, und hk, szOf hi, hle, hcl, hs, storeCells]
   ·intro k g c h
    obtain ⟨rfl, rfl, rfl⟩ := Abt h
    exact .inl ⟨Aau .., rfl⟩
   ·intro k g k' g' c c' b' h1 h2 h3 _
    obtain ⟨rfl, rfl, _⟩ := Abt h1
    rw [Aau] at h3; cases h3
  ·exact grow [] 0 (by simp; omega) ⟨by simp, fun j i x d hx => by simp at hx⟩ ⟨a, rfl⟩ (by cases a <;> simp [Builtin.firstCells, loadCells, loadCellsFrom])
 ·have hpos := Enc.pos t
  by_cases hroom : xs.length + ys.length ≤ cap
  ·-- in place
   have hfit : xs.length * sz t + news.length ≤ cs.size := by
    rw [hnews.1, ← Nat.add_mul]
    exact Nat.le_trans (Nat.mul_le_mul_right _ hroom) hcc
   have hcell : ∀ j, j < news.length → (w.cell? ⟨b, 0 + xs.length * i.size + j, none⟩).isSome = true := by
    intro j hj
    rw [hs, Nat.zero_add, cell_of_row w b _ cs e _ hh]
    have : xs.length * sz t + j < cs.size := by omega
    simp [this]
   have hr := run_append_room_src (P := P) w T tx ty e i hT hi b 0 xs.length cap y ys.length news (by rw [hs]; exact hsrc) hroom hcell (fun j _ => frozen_of_row w b _ cs e hh)
   rw [hs, Nat.zero_add] at hr hcell
   obtain ⟨cs', hh', hsz'⟩ := Alc b e news (xs.length * sz t) w cs hh
   have hout : ∀ b' o, (b' = b → o < xs.length * sz t) → (w.setCells b (xs.length * sz t) news).cell? ⟨b', o, none⟩ = w.cell? ⟨b', o, none⟩ := by
    intro b' o h
    exact World.cell?_setCells_out b news _ w ⟨b', o, none⟩ (fun h1 _ => .inl (h h1))
   have hzout : ∀ b' o, Z b' o → (b' = b → o < xs.length * sz t) := by
    intro b' o hz he
    subst he
    exact absurd hz (hnz o)
   have ha : Adv μ fp Z w (mset μ d gen (some b)) (single d gen (.arr e t (xs ++ ys))) Z (w.setCells b (xs.length * sz t) news) := by
    refine ⟨Af1 hf, fun _ _ h => h, fun b' o h => hout b' o (hzout b' o h), ?_, by rw [setCells_size]; exact Nat.le_refl _, ?_, fun _ _ h => .inl h, ?_, (Ajw ..).1, (Ajw ..).2⟩
    ·intro b' s hsh
     by_cases he : b' = b
     ·subst he
      simp only [World.shape?, hh] at hsh
      simp only [World.shape?, hh', hsz']; exact hsh
     ·simp only [World.shape?, setCells_other b news _ w b' he]; exact hsh
    ·intro b' _ hn
     have he : b' ≠ b := by intro e; subst e; exact hn _ _ _ hfp hμb
     exact setCells_other b news _ w b' he
    ·intro k g c b' h1 h2
     obtain ⟨rfl, rfl, _⟩ := Abt h1
     rw [Aau] at h2
     obtain rfl := Option.some.inj (Option.some.inj h2)
     exact .inr ⟨k0, g0, c0, hfp, hμb⟩
   refine ⟨_, _, some b, hr, ?_, ⟨?_, ?_, fun b' o h => by rw [setCells_size]; exact hzl b' o h⟩, ha⟩
   ·have := RP.ms (μ := mset μ d gen (some b)) (w := w.setCells b (xs.length * sz t) news) (Z := Z) d gen t 0 ((xs ++ ys).length : Int) b cap (Aau ..) (Int.le_refl _) (by omega) (by simp; omega) e cs'.size (by simp [World.shape?, hh']) (by rw [hsz']; simpa using hcc)
    rw [hlen] at this ⊢
    have e1 : ((xs.length + ys.length : Nat) : Int).toNat = xs.length + ys.length := by omega
    rw [e1] at this
    simpa using this
   ·intro k g c h
    obtain ⟨rfl, rfl, rfl⟩ := Abt h
    refine .inr ⟨b, cs', Aau .., hh', ?_, hnz⟩
    intro j q x dd hx hd
    have hq : q < sz t := by
     rcases Nat.lt_or_ge q (sz t) with h | h
     ·exact h
     ·rw [List.getElem?_eq_none (by rw [Enc.len]; exact h)] at hd; cases hd
    have hcs' : ∀ p, cs'[p]? = (w.setCells b (xs.length * sz t) news).cell? ⟨b, p, none⟩ := fun p => (cell_of_row _ b p cs' e _ hh').symm
    have hcs : ∀ p, cs[p]? = w.cell? ⟨b, p, none⟩ := fun p => (cell_of_row w b p cs e _ hh).symm
    rw [List.getElem?_append] at hx
    split at hx
    ·rename_i hj
     obtain ⟨v, h4, h5⟩ := hat j q x dd hx hd
     have hlt : j * sz t + q < xs.length * sz t := by
      have : (j + 1) * sz t ≤ xs.length * sz t := Nat.mul_le_mul_right _ hj
      rw [Nat.add_mul] at this; omega
     exact ⟨v, by rw [hcs', hout b _ (fun _ => hlt), ← hcs]; exact h4, h5.mono ha.z ha.cell⟩
    ·rename_i hj
     obtain ⟨v, h4, h5⟩ := hnews.2 (j - xs.length) q x dd hx hd
     have e1 : j * sz t = xs.length * sz t + (j - xs.length) * sz t := by rw [← Nat.add_mul]; congr 1; omega
     have hpl : (j - xs.length) * sz t + q < news.length := by
      rcases Nat.lt_or_ge ((j - xs.length) * sz t + q) news.length with h | h
      ·exact h
      ·rw [List.getElem?_eq_none h] at h4; cases h4
     refine ⟨v, ?_, h5.mono ha.z ha.cell⟩
     rw [hcs', e1, Nat.add_assoc, World.cell?_setCells_in b news _ w (fun l hl => hcell l hl) _ hpl]
     rw [List.getElem?_eq_getElem hpl] at h4; exact h4
   ·intro k g k' g' c c' b' h1 h2 _ _
    obtain ⟨rfl, rfl, _⟩ := Abt h1
    obtain ⟨rfl, rfl, _⟩ := Abt h2
    exact ⟨rfl, rfl⟩
  ·have hxc : xs.length * sz t ≤ cs.size := Nat.le_trans (Nat.mul_le_mul_right _ hnc) hcc
   have hol : (cs.toList.take (xs.length * sz t)).length = xs.length * sz t := by simp; omega
   have hget : ∀ p, p < xs.length * sz t → (cs.toList.take (xs.length * sz t))[p]? = cs[p]? := by
    intro p hp
    rw [List.getElem?_take, if_pos hp]; simp
   refine grow (cs.toList.take (xs.length * sz t)) cap (by omega) ⟨hol, fun j q x dd hx hd => ?_⟩ ⟨_, rfl⟩ ?_
   ·obtain ⟨v, h4, h5⟩ := hat j q x dd hx hd
    have hj : j < xs.length := (List.getElem?_eq_some_iff.1 hx).1
    have hq : q < sz t := by
     rcases Nat.lt_or_ge q (sz t) with h | h
     ·exact h
     ·rw [List.getElem?_eq_none (by rw [Enc.len]; exact h)] at hd; cases hd
    have hlt : j * sz t + q < xs.length * sz t := by
     have : (j + 1) * sz t ≤ xs.length * sz t := Nat.mul_le_mul_right _ hj
     rw [Nat.add_mul] at this; omega
    exact ⟨v, by rw [hget _ hlt]; exact h4, h5⟩
   ·exact run_firstCells_some (P := P) w.drew i.size xs.length ⟨b, 0, none⟩ xs.length cap _ (by rw [hs]; exact hol) (fun j v hv => by
     rw [addr_add, Nat.zero_add]
     have hj : j < xs.length * sz t := by rw [← hol]; exact (List.getElem?_eq_some_iff.1 hv).1
     rw [hget j hj] at hv
     have := cell_of_row w b j cs e _ hh
     rw [← this] at hv; exact hv)
def Azg (C : Ctx) (A : Ar) (ow c : Bool) (s : St) (dst : Option Nat) (T T2 : TypeId) (x y : Operand) (k : PV → List En → Prop) : Prop :=
 match ow, dst, C.ti T, C.ti T2 with
 | true, some d, some ⟨.slice e, _, _, _⟩, some r2 => match C.ti e, C.ety e with
  | some r, some te => strip c (opd C s.env x) fun p => strip c (opd C s.env y) fun q => match p with
   | .ms kk g t lo n => match find s.sto kk with
    | some (g', .arr TT t' xs) => match srcL A r2.k q t' with
     | some ys => vc c (g' = g) ∧ (TT = e) ∧ vc c (lo = 0) ∧ vc c (n = A.len t' xs) ∧ (sz t' = sz t) ∧ (r.size = sz t') ∧ vc c (A.appOk t' r.bytes xs ys) ∧
      k (.ms d s.gen t' 0 (A.len t' (A.app t' xs ys))) (⟨d, s.gen, .arr e t' (A.app t' xs ys)⟩ :: remk s.sto kk)
     | none => False
    | _ => False
   | .d (.v (.slice none 0 0)) => match srcL A r2.k q te with
    | some ys => vc c (A.appOk te r.bytes [] ys) ∧ k (.ms d s.gen te 0 (A.len te ys)) (⟨d, s.gen, .arr e te ys⟩ :: s.sto)
    | none => False
   | .nz => match srcL A r2.k q te with
    | some ys => vc c (A.appOk te r.bytes [] ys) ∧ k (.ms d s.gen te 0 (A.len te ys)) (⟨d, s.gen, .arr e te ys⟩ :: s.sto)
    | none => False
   | _ => False
  | _, _ => False
 | _, _, _, _ => False
theorem opAppM_ok {C : Ctx} {A : Ar} (hA : A = std) (hC : C.OK) {o : Oper} {ow c : Bool} {s : St} {T T2 : TypeId} {x y : Operand} (ho : o.op = .call { callee := .builtin .append, args := #[x, y], argTypes := #[T, T2] }) :
  Snd C o ow c s (Azg C A ow c s o.dst T T2 x y) := by
 subst hA
 intro k h0
 have hrun : ∀ (w : World) (ρ : Operand → Value), (execOp ρ o).run C.P w = ((Builtin.append_ #[T, T2] o.type #[ρ x, ρ y]).run C.P w).andThen fun v w => .ok (.value v) w := by
  intro w ρ
  simp [execOp, ho, resolve, invoke, builtin]
 have hmx : x ∈ o.op.operands := by simp [ho, Op.operands, Call.operands]
 have hmy : y ∈ o.op.operands := by simp [ho, Op.operands, Call.operands]
 unfold Azg at h0
 split at h0
 ·rename_i d e _ _ _ r2 hd hT hT2
  split at h0
  ·rename_i r te hr hte
   obtain ⟨r', hr', hsz⟩ := hC.ety e te hte
   rw [hr] at hr'; obtain rfl := Option.some.inj hr'
   obtain ⟨p, hpu, h', hp⟩ := Acz h0
   obtain ⟨q, h, hq⟩ := Aac (μ := fun _ _ => none) (w := default) (Z := fun _ _ => False) h'
   clear h0 h'
   obtain ⟨_, _, _, h2, _, _, _, h5⟩ := hC.ti T _ hT
   obtain rfl := KOk.slice h5
   have hT2' := hC.ti T2 _ hT2
   obtain ⟨i', d', hi', _, hs', hby', ⟨z, hz', hzc⟩, hkr⟩ := hC.ti e r hr
   have fresh : ∀ (ys : List (U te)), (∀ μ w Z y', c = true → RP μ w Z y' p → ∃ a, y' = .slice a 0 0) → srcL std r2.k q te = some ys → vc c (std.appOk te r.bytes [] ys) → c = true →
     OpR C o s (.ms d s.gen te 0 (std.len te ys)) (⟨d, s.gen, .arr e te ys⟩ :: s.sto) := by
    intro ys hpx hys hok hc
    refine ⟨emp, single d s.gen (.arr e te ys), ?_, fun _ _ _ h => by simp [emp] at h, den_cons _ _, fun k g h => by
      simp only [emp, single] at h
      split at h
      ·rename_i h1; simp [foot, ho, hd, h1.1]
      ·simp at h, fun h => by simp [foot, ho] at h⟩
    intro μ w Z ρ _ hx hw hfr
    obtain ⟨hb1, hb2⟩ : (([] : List (U te)).length + ys.length) * r.bytes ≤ 140737488355328 ∧ ([] : List (U te)).length + ys.length ≤ 140737488355328 := Aae hok hc
    obtain ⟨news, h6, h7⟩ := Atq hT2' hys (hq μ w Z _ hc (hx y hmy))
    have hzs : z.cells.size = sz te := by
     have h1 : z.cells.toList.length = z.cells.size := by simp
     rw [← h1, hzc, hby'.2.1, hsz]
    obtain ⟨a, h8⟩ := hpx μ w Z _ hc (hp μ w Z _ hc (hx x hmx))
    obtain ⟨val, w', y', h9, h10, h11, h12⟩ := Azf (P := C.P) (ty := o.type) (fp := emp) (xs := []) h2 hi' hz' (t := te) (by rw [hs', hsz]) hzs hw.zlt (hfr d hd) h6 h7 (.inl ⟨a, h8, rfl⟩) (by rw [hby'.1]; exact hb1) hb2
    exact ⟨val, w', _, Z, .inl (by rw [hrun, h9]; rfl), h10, h11, h12, Aec o.dst hd⟩
   split at h
   ·rename_i kk g t lo n
    split at h
    ·rename_i g' TT t' xs hf
     split at h
     ·rename_i ys hys
      obtain ⟨hg, hTT, hlo, hn, hst, hrs, hok, h⟩ := h
      subst hTT
      refine ⟨_, _, h, fun hc => ⟨fun k' g'' => if k' = kk then den s.sto k' g'' else none, single d s.gen (.arr TT t' (xs ++ ys)), ?_, ?_, ?_, ?_, fun h => by simp [foot, ho] at h⟩, fun h => by cases h⟩
      ·intro μ w Z ρ _ hx hw hfr
       obtain rfl := Aae hg hc
       obtain rfl := Aae hlo hc
       obtain ⟨hb1, hb2⟩ : (xs.length + ys.length) * r.bytes ≤ 140737488355328 ∧ xs.length + ys.length ≤ 140737488355328 := Aae hok hc
       have hn' : n = (xs.length : Int) := Aae hn hc
       obtain ⟨news, h6, h7⟩ := Atq hT2' hys (hq μ w Z _ hc (hx y hmy))
       have hzs : z.cells.size = sz t' := by
        have h1 : z.cells.toList.length = z.cells.size := by simp
        rw [← h1, hzc, hby'.2.1, hrs]
       have h8 := hp μ w Z _ hc (hx x hmx)
       have hent := hw.ent kk g' (.arr TT t' xs) (by simp [Aa6 hf])
       have hX : (∃ a, ρ x = .slice a 0 0 ∧ xs = []) ∨ ∃ b cap cs, ρ x = .slice (some ⟨b, 0, none⟩) xs.length cap ∧ w.heap[b]? = some (.cells cs TT (0, 0)) ∧ xs.length ≤ cap ∧ cap * sz t' ≤ cs.size ∧ ArrAt w Z t' xs cs ∧
         (∀ o, ¬ Z b o) ∧ ∃ k g c, (fun k' g'' => if k' = kk then den s.sto k' g'' else none : Mem) k g = some c ∧ μ k g = some (some b) := by
        generalize hxe : ρ x = X at h8 ⊢
        cases h8 with
        | ms _ _ _ _ _ b cap hb _ _ hcap T' m hsh hm =>
         rcases hent with ⟨h11, _⟩ | ⟨b', cs, h11, h12, h13, h14⟩
         ·rw [hb] at h11; cases h11
         ·rw [hb] at h11; obtain rfl := Option.some.inj (Option.some.inj h11)
          simp only [World.shape?, h12, Option.some.injEq, Prod.mk.injEq] at hsh
          have e1 : n.toNat = xs.length := by omega
          refine .inr ⟨b, cap, cs, by simp [e1], h12, by omega, ?_, h13, h14, kk, g', .arr TT t' xs, by simp [Aa6 hf], hb⟩
          rw [hsh.2, hst]; simpa using hm
        | msE _ _ _ _ _ a hn0 =>
         exact .inl ⟨a, rfl, List.eq_nil_of_length_eq_zero (by omega)⟩
       obtain ⟨val, w', y', h9, h10, h11, h12⟩ := Azf (P := C.P) (ty := o.type) h2 hi' hz' (t := t') (by rw [hs', hrs]) hzs hw.zlt (hfr d hd) h6 h7 hX (by rw [hby'.1]; exact hb1) hb2
       exact ⟨val, w', _, Z, .inl (by rw [hrun, h9]; rfl), h10, h11, h12, Aec o.dst hd⟩
      ·intro k1 g1 c1 h1
       simp only at h1
       split at h1
       ·exact h1
       ·cases h1
      ·funext k1 g1
       rw [den_cons]
       simp only [mput, den_remk, emp]
       cases hs1 : single d s.gen (.arr TT t' (std.app t' xs ys)) k1 g1 with
       | some c1 =>
        have h9 : single d s.gen (.arr TT t' (xs ++ ys)) k1 g1 = some c1 := hs1
        rw [h9]
       | none =>
        have : single d s.gen (.arr TT t' (xs ++ ys)) k1 g1 = none := hs1
        simp only [this]
        by_cases hk : k1 = kk
        ·subst hk
         simp
         cases den s.sto k1 g1 <;> simp
        ·simp [hk]
      ·intro k1 g1 h1
       simp only [foot, ho, ← hpu, keyOf, hd]
       simp only [single] at h1
       split at h1
       ·rename_i h2; simp [h2]
       ·split at h1
        ·rename_i h2; simp [h2.1]
        ·simp at h1
     ·exact h.elim
    ·exact h.elim
   ·split at h
    ·rename_i ys hys
     exact ⟨_, _, h.2, fun hc => fresh ys (fun μ w Z y' _ hy => ⟨none, hy.val⟩) hys h.1 hc, fun h => by cases h⟩
    ·exact h.elim
   ·split at h
    ·rename_i ys hys
     exact ⟨_, _, h.2, fun hc => fresh ys (fun μ w Z y' _ hy => by cases hy with | nz a => exact ⟨a, rfl⟩) hys h.1 hc, fun h => by cases h⟩
    ·exact h.elim
   ·exact h.elim
  ·exact h0.elim
 ·exact h0.elim
theorem Atw {μ : Nmap} {Z : Nat → Nat → Prop} {w : World} {k g b : Nat} {T : TypeId} {t : Ty} {xs : List (U t)} {lo : Nat} {ys : List (U t)} {zs : List Value} (hw : WR μ (single k g (.arr T t xs)) Z w) (hb : μ k g = some (some b)) (hi : lo + ys.length ≤ xs.length)
  (hl : zs.length = ys.length * sz t) (hz : ∀ (j q : Nat) (x : U t) (d : D), ys[j]? = some x → (enc t x)[q]? = some d → ∃ v, zs[j * sz t + q]? = some v ∧ RD w Z v d) :
  ∃ cs, w.heap[b]? = some (.cells cs T (0, 0)) ∧ lo * sz t + zs.length ≤ cs.size ∧ WR μ (single k g (.arr T t (xs.take lo ++ ys ++ xs.drop (lo + ys.length)))) Z (w.setRow b (splice cs.toList (lo * sz t) zs).toArray) ∧
   Adv μ (single k g (.arr T t xs)) Z w μ (single k g (.arr T t (xs.take lo ++ ys ++ xs.drop (lo + ys.length)))) Z (w.setRow b (splice cs.toList (lo * sz t) zs).toArray) := by
 rcases hw.ent k g _ (by simp [single]; rfl) with ⟨h1, _⟩ | ⟨b', cs, h1, h2, h3, h4⟩
 ·rw [hb] at h1; cases h1
 rw [hb] at h1; obtain rfl := Option.some.inj (Option.some.inj h1)
 have hpos := Enc.pos t
 have hroom : xs.length * sz t ≤ cs.size := by
  rcases Nat.eq_zero_or_pos xs.length with h0 | h0
  ·rw [h0]; simp
  ·have hx : xs[xs.length - 1]? = some (xs[xs.length - 1]'(by omega)) := List.getElem?_eq_getElem _
   have hd0 : (enc t (xs[xs.length - 1]'(by omega)))[sz t - 1]? = some ((enc t (xs[xs.length - 1]'(by omega)))[sz t - 1]'(by rw [Enc.len]; omega)) := List.getElem?_eq_getElem _
   obtain ⟨v, h5, _⟩ := h3 (xs.length - 1) (sz t - 1) _ _ hx hd0
   have h6 := (Array.getElem?_eq_some_iff.1 h5).1
   have h7 : (xs.length - 1 + 1) * sz t = (xs.length - 1) * sz t + sz t := by rw [Nat.add_mul, Nat.one_mul]
   have h8 : xs.length - 1 + 1 = xs.length := by omega
   rw [h8] at h7; omega
 have hle : lo * sz t + zs.length ≤ cs.size := by
  rw [hl, ← Nat.add_mul]
  exact Nat.le_trans (Nat.mul_le_mul_right _ hi) hroom
 have hsl : (splice cs.toList (lo * sz t) zs).length = cs.size := by rw [Ad7 _ _ _ (by simp; omega)]; simp
 have hsame := setRow_heap w b cs (splice cs.toList (lo * sz t) zs).toArray T (0, 0) h2
 have ha : Adv μ (single k g (.arr T t xs)) Z w μ (single k g (.arr T t (xs.take lo ++ ys ++ xs.drop (lo + ys.length)))) Z (w.setRow b (splice cs.toList (lo * sz t) zs).toArray) := by
  refine ⟨fun _ _ _ h => h, fun _ _ h => h, ?_, ?_, by simp, ?_, fun _ _ h => .inl h, ?_, rfl, rfl⟩
  ·intro b' o hz
   have hne : b' ≠ b := by intro e; subst e; exact h4 o hz
   exact cell_setRow_other w b _ ⟨b', o, none⟩ hne
  ·intro b' s hs
   by_cases hne : b' = b
   ·subst hne
    simp only [World.shape?, h2] at hs
    simp only [World.shape?, hsame]
    rw [← hs]; simp [hsl]
   ·simp only [World.shape?, setRow_other w b b' _ hne]; exact hs
  ·intro b' _ hn
   have hne : b' ≠ b := by intro e; subst e; exact hn k g (.arr T t xs) (by simp [single]) hb
   exact setRow_other w b b' _ hne
  ·intro k' g' c b' h5 h6
   obtain ⟨rfl, rfl, _⟩ := Abt h5
   exact .inr ⟨k', g', .arr T t xs, by simp [single], h6⟩
 refine ⟨cs, h2, hle, ⟨?_, ?_, fun b o h => by simpa using hw.zlt b o h⟩, ha⟩
 ·intro k' g' c h
  obtain ⟨rfl, rfl, rfl⟩ := Abt h
  refine .inr ⟨b, _, hb, hsame, ?_, h4⟩
  intro j q x d hxj hdq
  have hq : q < sz t := by
   rcases Nat.lt_or_ge q (sz t) with h | h
   ·exact h
   ·rw [List.getElem?_eq_none (by rw [Enc.len]; exact h)] at hdq; cases hdq
  have hsp : ∀ p, (splice cs.toList (lo * sz t) zs).toArray[p]? = if lo * sz t ≤ p ∧ p < lo * sz t + zs.length then zs[p - lo * sz t]? else cs[p]? := by
   intro p
   simp only [splice, List.getElem?_toArray]
   have hlen : (cs.toList.take (lo * sz t)).length = lo * sz t := by simp; omega
   by_cases hp1 : p < lo * sz t
   ·rw [if_neg (by omega), List.getElem?_append_left (by rw [List.length_append, hlen]; omega), List.getElem?_append_left (by rw [hlen]; exact hp1), List.getElem?_take, if_pos hp1]; simp
   ·by_cases hp2 : p < lo * sz t + zs.length
    ·rw [if_pos ⟨by omega, hp2⟩, List.getElem?_append_left (by rw [List.length_append, hlen]; omega), List.getElem?_append_right (by rw [hlen]; omega), hlen]
    ·rw [if_neg (by omega), List.getElem?_append_right (by rw [List.length_append, hlen]; omega), List.length_append, hlen, List.getElem?_drop]
     have : lo * sz t + zs.length + (p - (lo * sz t + zs.length)) = p := by omega
     rw [this]; simp
  have up : ∀ {v : Value} {d : D}, RD w Z v d → RD (w.setRow b (splice cs.toList (lo * sz t) zs).toArray) Z v d := fun h => h.mono ha.z ha.cell
  have hlt : (xs.take lo).length = lo := by simp; omega
  have old : ∀ (hx : xs[j]? = some x), (j < lo ∨ lo + ys.length ≤ j) → ∃ v, (splice cs.toList (lo * sz t) zs).toArray[j * sz t + q]? = some v ∧ RD (w.setRow b (splice cs.toList (lo * sz t) zs).toArray) Z v d := by
   intro hx hj
   obtain ⟨v, h5, h6⟩ := h3 j q x d hx hdq
   refine ⟨v, ?_, up h6⟩
   rw [hsp, if_neg]
   ·exact h5
   ·rintro ⟨h7, h8⟩
    rw [hl] at h8
    rcases hj with hj | hj
    ·have : (j + 1) * sz t ≤ lo * sz t := Nat.mul_le_mul_right _ hj
     rw [Nat.add_mul] at this; omega
    ·have : (lo + ys.length) * sz t ≤ j * sz t := Nat.mul_le_mul_right _ hj
     rw [Nat.add_mul] at this; omega
  rw [List.append_assoc, List.getElem?_append, hlt] at hxj
  split at hxj
  ·rename_i hj
   rw [List.getElem?_take, if_pos hj] at hxj
   exact old hxj (.inl hj)
  ·rename_i hj
   rw [List.getElem?_append] at hxj
   split at hxj
   ·rename_i hj2
    obtain ⟨v, h5, h6⟩ := hz (j - lo) q x d hxj hdq
    have e1 : j * sz t = lo * sz t + (j - lo) * sz t := by rw [← Nat.add_mul]; congr 1; omega
    have h7 : (j - lo) * sz t + q < zs.length := (List.getElem?_eq_some_iff.1 h5).1
    refine ⟨v, ?_, up h6⟩
    rw [hsp, if_pos (by omega), ← h5]; congr 1; omega
   ·rename_i hj2
    rw [List.getElem?_drop] at hxj
    have : lo + ys.length + (j - lo - ys.length) = j := by omega
    rw [this] at hxj
    exact old hxj (.inr (by omega))
 ·intro k1 g1 k2 g2 c c' b' h5 h6 _ _
  obtain ⟨rfl, rfl, _⟩ := Abt h5
  obtain ⟨rfl, rfl, _⟩ := Abt h6
  exact ⟨rfl, rfl⟩
theorem Atx (z : Array Value) (n j q : Nat) (hj : j < n) (hq : q < z.size) : (Builtin.zeroCells z n).toList[j * z.size + q]? = z[q]? := by
 have h1 : j * z.size + q < n * z.size := by
  have : (j + 1) * z.size ≤ n * z.size := Nat.mul_le_mul_right _ hj
  rw [Nat.add_mul] at this; omega
 have h2 : (j * z.size + q) % z.size = q := by rw [Nat.mul_comm, Nat.mul_add_mod, Nat.mod_eq_of_lt hq]
 simp [Builtin.zeroCells, h1, h2, hq]
def Axj (C : Ctx) (A : Ar) (ow c : Bool) (s : St) (T : TypeId) (x : Operand) (k : PV → List En → Prop) : Prop :=
 match ow, C.ti T with
 | true, some ⟨.slice e, _, _, _⟩ => match C.ti e with
  | some r => strip c (opd C s.env x) fun p => match p with
   | .ms kk g t lo n => match find s.sto kk with
    | some (g', .arr TT t' xs) => match dec A.u8 t' (r.zero.map D.v) with
     | some z => vc c (g' = g) ∧ (sz t = sz t') ∧ (r.size = sz t') ∧ vc c (dok A.u8ok t' (r.zero.map D.v)) ∧ vc c (A.subOk lo (A.pl lo n) (A.len t' xs)) ∧ k .any (setc s.sto kk (.arr TT t' (A.fill t' xs lo n z)))
     | none => False
    | _ => False
   | _ => False
  | none => False
 | _, _ => False
theorem A0b {C : Ctx} {A : Ar} (hA : A = std) (hC : C.OK) {o : Oper} {ow c : Bool} {s : St} {T : TypeId} {x : Operand} (ho : o.op = .call { callee := .builtin .clear, args := #[x], argTypes := #[T] }) :
  Snd C o ow c s (Axj C A ow c s T x) := by
 subst hA
 intro k h0
 have hrun : ∀ (w : World) (ρ : Operand → Value), (execOp ρ o).run C.P w = ((Builtin.clear_ #[T] o.type #[ρ x]).run C.P w).andThen fun v w => .ok (.value v) w := by
  intro w ρ
  simp [execOp, ho, resolve, invoke, builtin]
 have hmem : x ∈ o.op.operands := by simp [ho, Op.operands, Call.operands]
 unfold Axj at h0
 split at h0
 ·rename_i e _ _ _ hT
  split at h0
  ·rename_i r hr
   obtain ⟨p, hpu, h, hp⟩ := Acz h0
   clear h0
   obtain ⟨_, _, _, h2, _, _, _, h5⟩ := hC.ti T _ hT
   obtain rfl := KOk.slice h5
   obtain ⟨i', d', hi', _, hs', hby', ⟨z0, hz', hzc⟩, _⟩ := hC.ti e r hr
   split at h
   ·rename_i kk g t lo n
    split at h
    ·rename_i g' TT t' xs hf
     split at h
     ·rename_i z hz
      obtain ⟨hg, hst, hrs, hdk, hin, h⟩ := h
      refine ⟨_, _, h, fun hc => ⟨single kk g' (.arr TT t' xs), single kk g' (.arr TT t' (xs.take lo.toNat ++ List.replicate n.toNat z ++ xs.drop (lo.toNat + n.toNat))), ?_, ?_, Aka _ hf, ?_, fun h => by simp [foot, ho] at h⟩, fun h => by cases h⟩
      ·intro μ w Z ρ _ hx hw _
       obtain rfl := Aae hg hc
       obtain ⟨a1, a2, a3⟩ : 0 ≤ lo ∧ lo ≤ lo + n ∧ lo + n ≤ xs.length := Aae hin hc
       have h1 := hp μ w Z _ hc (hx x hmem)
       obtain ⟨hdl, hdec⟩ := Dec.dec_ok t' _ z hz
       have hdec' := hdec (Aae hdk hc)
       have hzs : z0.cells.size = sz t' := by
        have h1 : z0.cells.toList.length = z0.cells.size := by simp
        rw [← h1, hzc, hby'.2.1, hrs]
       have hzz : ∀ (j q : Nat) (d : D), j < n.toNat → (enc t' z)[q]? = some d → ∃ v, (Builtin.zeroCells z0.cells n.toNat).toList[j * sz t' + q]? = some v ∧ ∀ w Z, RD w Z v d := by
        intro j q d hj hd
        have hq : q < sz t' := by
         rcases Nat.lt_or_ge q (sz t') with h | h
         ·exact h
         ·rw [List.getElem?_eq_none (by rw [Enc.len]; exact h)] at hd; cases hd
        have h3 := Atx z0.cells n.toNat j q hj (by rw [hzs]; exact hq)
        rw [hzs] at h3
        have hq' : q < r.zero.length := by rw [hby'.2.1, hrs]; exact hq
        have h4 : z0.cells[q]? = some r.zero[q] := by
         have : z0.cells.toList[q]? = some r.zero[q] := by rw [hzc]; exact List.getElem?_eq_getElem hq'
         simpa using this
        refine ⟨r.zero[q], by rw [h3, h4], fun w Z => hdec' w Z q _ (.v r.zero[q]) d ?_ hd (.v _)⟩
        rw [List.getElem?_map, List.getElem?_eq_getElem hq']; rfl
       generalize hxe : ρ x = X at h1
       cases h1 with
       | ms _ _ _ _ _ b cap hb h0 hn hcap _ _ _ _ =>
        obtain ⟨cs, h4, h5, h6, h7⟩ := Atw (lo := lo.toNat) (ys := List.replicate n.toNat z) (zs := (Builtin.zeroCells z0.cells n.toNat).toList) hw hb (by simp; omega) (by simp [size_zeroCells, hzs]) (fun j q x d hx hd => by
         rw [List.getElem?_replicate] at hx
         split at hx <;> cases hx
         rename_i hj
         obtain ⟨v, a4, a5⟩ := hzz j q d hj hd
         exact ⟨v, a4, a5 _ _⟩)
        rw [List.length_replicate] at h6 h7
        rw [hst] at hxe
        by_cases hn0 : n.toNat = 0
        ·refine ⟨.tuple #[], w, μ, Z, .inl ?_, .any _, ?_, ?_, fun _ _ _ => rfl⟩
         ·rw [hrun]; simp [Builtin.clear_, und h2, hxe, hn0]
         ·have e1 : (splice cs.toList (lo.toNat * sz t') (Builtin.zeroCells z0.cells n.toNat).toList).toArray = cs := by
           simp [splice, hn0, Builtin.zeroCells]
          rw [hn0]
          have e2 : xs.take lo.toNat ++ List.replicate 0 z ++ xs.drop (lo.toNat + 0) = xs := by simp
          rw [e2]; exact hw
         ·rw [hn0]
          have e2 : xs.take lo.toNat ++ List.replicate 0 z ++ xs.drop (lo.toNat + 0) = xs := by simp
          rw [e2]; exact .refl
        ·have hsc := run_storeCells_at C.P b (lo.toNat * sz t') TT (Builtin.zeroCells z0.cells n.toNat).toList 0 cs w h4 (by omega) (by
          intro v hv
          obtain ⟨m, hm⟩ := List.mem_iff_getElem?.1 hv
          have hml := (List.getElem?_eq_some_iff.1 hm).1
          simp only [Array.length_toList, size_zeroCells, hzs] at hml
          have hpos := Enc.pos t'
          have hdm : m = m / sz t' * sz t' + m % sz t' := by rw [Nat.mul_comm]; exact (Nat.div_add_mod m (sz t')).symm
          have hj : m / sz t' < n.toNat := by rw [Nat.div_lt_iff_lt_mul hpos]; exact hml
          have hq := Nat.mod_lt m hpos
          have hd : (enc t' z)[m % sz t']? = some ((enc t' z)[m % sz t']'(by rw [Enc.len]; exact hq)) := List.getElem?_eq_getElem _
          obtain ⟨v', h8, h9⟩ := hzz _ _ _ hj hd
          rw [← hdm] at h8
          rw [h8] at hm; obtain rfl := Option.some.inj hm
          have hmem' := List.mem_of_getElem? hd
          exact (h9 w Z).one (Enc.one t' z _ hmem') (Enc.agF t' z _ hmem') (Enc.arF t' z _ hmem'))
         simp only [Nat.add_zero] at hsc
         refine ⟨.tuple #[], _, μ, Z, .inl ?_, .any _, h6, h7, fun _ _ _ => rfl⟩
         rw [hrun]
         obtain ⟨m, hm⟩ : ∃ m, n.toNat = m + 1 := ⟨n.toNat - 1, by omega⟩
         rw [hm] at hxe hsc ⊢
         simp [Builtin.clear_, und h2, hxe, zeroValue, typeInfo, hi', hz', hsc, splice]
       | msE _ _ _ _ _ a hn0 =>
        subst hn0
        refine ⟨.tuple #[], w, μ, Z, .inl ?_, .any _, ?_, ?_, fun _ _ _ => rfl⟩
        ·rw [hrun]; cases a <;> simp [Builtin.clear_, und h2, hxe]
        ·simpa using hw
        ·simp; exact .refl
      ·intro k1 g1 c1 h1
       obtain ⟨rfl, rfl, rfl⟩ := Abt h1
       exact Aa6 hf
      ·intro k1 g1 h1
       simp only [foot, ho, ← hpu, keyOf]
       simp only [single] at h1
       split at h1
       ·rename_i h2; simp [h2.1]
       ·simp at h1
     ·exact h.elim
    ·exact h.elim
   ·exact h.elim
  ·exact h0.elim
 ·exact h0.elim
def A1n (C : Ctx) (A : Ar) (ow c : Bool) (s : St) (o : Oper) (x : Operand) (k : PV → List En → Prop) : Prop := match ow, o.dst, x with
 | true, some d, .const (.slice none 0 0) => match C.fz (d + 65536), C.fz (d + 131072), C.ti o.type with
  | true, _, some ⟨.slice e, _, _, _⟩ => match C.ety e with
   | some te => k (.ms d s.gen te 0 0) (⟨d, s.gen, .arr e te []⟩ :: s.sto)
   | none => False
  | false, true, some ⟨.slice e, _, _, _⟩ => match C.ety e with
   | some te => k (.os d s.gen te []) (⟨d, s.gen, .tok e te (A.nlen te [])⟩ :: s.sto)
   | none => False
  | _, _, _ => Ay7 C c s x k
 | _, _, _ => Ay7 C c s x k
theorem opNone_ok {C : Ctx} {A : Ar} (hA : A = std) {o : Oper} {ow c : Bool} {s : St} {x : Operand} (ho : o.op = .assign x) : Snd C o ow c s (A1n C A ow c s o x) := by
 subst hA
 intro k h
 have mk : ∀ (d : Nat) (v : PV) (cl : Cell), o.dst = some d → x = .const (.slice none 0 0) → (C.fz (d + 65536) = true ∨ C.fz (d + 131072) = true) → (∀ μ w Z, μ d s.gen = some none → RP μ w Z (.slice none 0 0) v) → (∀ μ w Z, μ d s.gen = some none → EntOK μ w Z d s.gen cl) →
   OpR C o s v (⟨d, s.gen, cl⟩ :: s.sto) := by
  intro d v cl hd hx hfz hv hc
  subst hx
  refine ⟨emp, single d s.gen cl, ?_, fun _ _ _ h => by simp [emp] at h, den_cons _ _, fun k g h => ?_, fun h => ?_⟩
  ·intro μ w Z ρ _ hx hw hf
   have hf' := hf d hd
   have hρ : ρ (.const (.slice none 0 0)) = .slice none 0 0 := by
    have := hx (.const (.slice none 0 0)) (by simp [ho, Op.operands])
    exact this.val
   refine ⟨.slice none 0 0, w, mset μ d s.gen none, Z, .inl ?_, hv _ _ _ (Aau ..), ⟨fun k g c h => ?_, fun k g k' g' c c' b h1 h2 h3 _ => ?_, hw.zlt⟩, ?_, Aec o.dst hd⟩
   ·simp [execOp, ho, hρ]
   ·obtain ⟨rfl, rfl, rfl⟩ := Abt h
    exact hc _ _ _ (Aau ..)
   ·obtain ⟨rfl, rfl, _⟩ := Abt h1
    rw [Aau] at h3; cases h3
   ·refine ⟨Af1 hf', fun _ _ h => h, fun _ _ _ => rfl, fun _ _ h => h, Nat.le_refl _, fun _ _ _ => rfl, fun _ _ h => .inl h, ?_, rfl, rfl⟩
    intro k g c b' h1 h2
    obtain ⟨rfl, rfl, _⟩ := Abt h1
    rw [Aau] at h2; cases h2
  ·simp only [emp, single] at h
   split at h
   ·rename_i h1
    simp only [foot, ho, hd]
    rcases hfz with h2 | h2 <;> rw [h2]
    ·simp [h1.1]
    ·cases C.fz (d + 65536) <;> simp [h1.1]
   ·simp at h
  ·simp only [foot, ho, hd] at h
   rcases hfz with h2 | h2 <;> rw [h2] at h
   ·simp at h
   ·cases h3 : C.fz (d + 65536) <;> rw [h3] at h <;> simp at h
 unfold A1n at h
 split at h
 ·rename_i d hd
  split at h
  ·rename_i e _ _ _ hfz hT
   split at h
   ·rename_i te hte
    exact ⟨_, _, h, fun _ => mk d _ _ hd rfl (.inl hfz) (fun _ _ _ _ => .msE _ _ _ _ _ none rfl) (fun _ _ _ hm => .inl ⟨hm, rfl⟩), fun h => by cases h⟩
   ·exact h.elim
  ·rename_i e _ _ _ _ hfz hT
   split at h
   ·rename_i te hte
    exact ⟨_, _, h, fun _ => mk d _ _ hd rfl (.inr hfz) (fun _ _ _ hm => .osN _ _ _ hm) (fun _ _ _ hm => .inl ⟨hm, rfl⟩), fun h => by cases h⟩
   ·exact h.elim
  ·exact (opMove_ok (.inr ho)) k h
 ·exact (opMove_ok (.inr ho)) k h
def osAt (C : Ctx) (T : TypeId) : List (Nat × TypeId × Ty) := match C.ti T with
 | some ⟨.slice e, _, _, _⟩ => match C.ety e with
  | some te => [(0, e, te)]
  | none => []
 | some ⟨.struct fs, _, _, _⟩ => fs.filterMap fun a => match C.ti a.2 with
  | some ⟨.slice e, _, _, _⟩ => match C.ety e with
   | some te => some (a.1, e, te)
   | none => none
  | _ => none
 | _ => []
def Aqw (A : Ar) (d gen : Nat) : List (Nat × TypeId × Ty) → Nat → List PV → List PV
 | [], _, vs => vs
 | (o, _, te) :: r, j, vs => Aqw A d gen r (j + 1) (vs.set o (.os (d + 65536 * j) gen te []))
def osEns (A : Ar) (d gen : Nat) : List (Nat × TypeId × Ty) → Nat → List En
 | [], _ => []
 | (_, e, te) :: r, j => ⟨d + 65536 * j, gen, .tok e te (A.nlen te [])⟩ :: osEns A d gen r (j + 1)
def osOK (zs : List Value) : List (Nat × TypeId × Ty) → Prop
 | [] => True
 | (o, _, _) :: r => (match zs[o]? with
  | some (.slice none 0 0) => True
  | _ => False) ∧ osOK zs r
theorem osEns_mem {A : Ar} {d gen : Nat} : ∀ {l : List (Nat × TypeId × Ty)} {j : Nat} {k g : Nat} {c : Cell}, den (osEns A d gen l j) k g = some c → g = gen ∧ (∃ i, i < l.length ∧ k = d + 65536 * (j + i)) ∧ ∃ e te, c = .tok e te (A.nlen te [])
 | [], j, k, g, c, h => by simp [osEns, den] at h
 | (o, e, te) :: r, j, k, g, c, h => by
  simp only [osEns, den] at h
  split at h
  ·rename_i h1
   cases h
   exact ⟨h1.2.symm, ⟨0, by simp, by simpa using h1.1.symm⟩, e, te, rfl⟩
  ·obtain ⟨h1, ⟨i, hi, hk⟩, h2⟩ := osEns_mem h
   exact ⟨h1, ⟨i + 1, by simpa using hi, by rw [hk]; congr 1; omega⟩, h2⟩
theorem As0 {A : Ar} {d gen : Nat} {μ : Nmap} {w : World} {Z : Nat → Nat → Prop} {zs : List Value} : ∀ (l : List (Nat × TypeId × Ty)) (j : Nat) (vs : List PV), osOK zs l → (∀ i, i < l.length → μ (d + 65536 * (j + i)) gen = some none) → RPs μ w Z zs vs → RPs μ w Z zs (Aqw A d gen l j vs)
 | [], j, vs, _, _, h => h
 | (o, e, te) :: r, j, vs, hok, hm, h => by
  obtain ⟨h1, h2⟩ := hok
  simp only [Aqw]
  refine As0 r (j + 1) _ h2 (fun i hi => ?_) ⟨by rw [List.length_set]; exact h.1, fun i x p hx hp => ?_⟩
  ·have := hm (i + 1) (by simpa using hi)
   have e1 : j + 1 + i = j + (i + 1) := by omega
   rw [e1]; exact this
  ·by_cases hio : o = i
   ·subst hio
    rw [hx] at h1
    have hlt : o < vs.length := by rw [← h.1]; exact (List.getElem?_eq_some_iff.1 hx).1
    rw [List.getElem?_set_self hlt] at hp
    cases hp
    split at h1
    ·rename_i h3
     cases h3
     exact .osN _ _ _ (by simpa using hm 0 (by simp))
    ·exact h1.elim
   ·rw [List.getElem?_set_ne hio] at hp
    exact h.2 i x p hx hp
def opAlloc' (C : Ctx) (A : Ar) (ow : Bool) (s : St) (dst : Option Nat) (T : TypeId) (k : PV → List En → Prop) : Prop := match ow, dst with
 | true, some d => match C.fz (d + 131072) with
  | true => match C.ti T with
   | some r => ((osAt C T).length ≤ 3) ∧ osOK r.zero (osAt C T) ∧ k (.bx d s.gen 0) (⟨d, s.gen, .box T (Aqw A d s.gen (osAt C T) 1 (r.zero.map fun v => .d (.v v)))⟩ :: (osEns A d s.gen (osAt C T) 1 ++ s.sto))
   | none => False
  | false => opAlloc C ow s dst T k
 | _, _ => opAlloc C ow s dst T k
theorem opAlloc'_ok {C : Ctx} {A : Ar} (hA : A = std) (hC : C.OK) {o : Oper} {ow c : Bool} {s : St} {T : TypeId} (ho : o.op = .alloc T) : SndW C o ow c s (opAlloc' C A ow s o.dst T) := by
 subst hA
 intro k h
 unfold opAlloc' at h
 split at h
 ·rename_i d hd
  split at h
  ·rename_i hfz
   split at h
   ·rename_i r hr
    obtain ⟨hlen, hok, h⟩ := h
    generalize hl : osAt C T = l at hlen hok h
    generalize hens : osEns std d s.gen l 1 = ens at h
    generalize hcl : Aqw std d s.gen l 1 (r.zero.map fun v => .d (.v v)) = cl at h
    refine ⟨_, _, h, fun hc => ⟨emp, den (⟨d, s.gen, .box T cl⟩ :: ens), ?_, fun _ _ _ h => by simp [emp] at h, ?_, fun k g hk => ?_, fun h => by simp [foot, ho] at h⟩, fun h => by cases h⟩
    ·intro μ w Z a hg hx hw hfr ro K Q hK
     obtain ⟨hd6, hfr⟩ := hfr d hd
     obtain ⟨i, _, h1, _, _, _, ⟨z, hz, hzc⟩, _⟩ := hC.ti T r hr
     let w1 := w.alloc (.cells z.cells T)
     have hgr : Grown w w1 (.cells r.zero.toArray T (0, 0)) := ⟨by rw [← hzc, Array.toArray_toList]; rfl, rfl, rfl⟩
     let μ' : Nmap := fun k g => if k = d ∧ g = s.gen then some (some w.heap.size) else if g = s.gen ∧ ∃ i, i < l.length ∧ k = d + 65536 * (1 + i) then some none else μ k g
     have hmod : ∀ i, (d + 65536 * (1 + i)) % 65536 = d := by intro i; omega
     have hmono : ∀ k g y, μ k g = some y → μ' k g = some y := by
      intro k g y hy
      simp only [μ']
      split
      ·rename_i h2; rw [h2.1, h2.2, hfr d (by omega)] at hy; cases hy
      ·split
       ·rename_i h2
        obtain ⟨rfl, j, hj, rfl⟩ := h2
        rw [hfr _ (hmod j)] at hy; cases hy
       ·exact hy
     have hnm : ∀ i, i < l.length → μ' (d + 65536 * (1 + i)) s.gen = some none := by
      intro i hi
      simp only [μ']
      rw [if_neg (by omega), if_pos ⟨trivial, i, hi, rfl⟩]
     have hd0 : μ' d s.gen = some (some w.heap.size) := by simp [μ']
     have hden : ∀ k g c, den (⟨d, s.gen, .box T cl⟩ :: ens) k g = some c → (k = d ∧ g = s.gen ∧ c = .box T cl) ∨ (g = s.gen ∧ (∃ i, i < l.length ∧ k = d + 65536 * (1 + i)) ∧ ∃ e te, c = .tok e te (std.nlen te [])) := by
      intro k g c hc
      simp only [den] at hc
      split at hc
      ·rename_i h2; cases hc; exact .inl ⟨h2.1.symm, h2.2.symm, rfl⟩
      ·rw [← hens] at hc; exact .inr (osEns_mem hc)
     have ha : Adv μ emp Z w μ' (den (⟨d, s.gen, .box T cl⟩ :: ens)) Z w1 := Ajv hgr hw.zlt hmono (fun _ _ h => h) (fun _ _ h => .inl h) (by
      intro k g c b h2 h3
      rcases hden k g c h2 with ⟨rfl, rfl, _⟩ | ⟨rfl, ⟨j, hj, rfl⟩, _⟩
      ·rw [hd0] at h3; exact (Option.some.inj (Option.some.inj h3)).symm
      ·rw [hnm j hj] at h3; cases h3)
     have hrun : (execOp a.eval o).run C.P w = .ok (.value (.pointer (some ⟨w.heap.size, 0, none⟩))) w1 := by
      simp [execOp, ho, Instr.alloc, zeroValue, typeInfo, h1, hz, newVar, newRow, w1]
     refine Ale hrun (fun _ h => by cases h) ?_
     rw [Oper.uponIn_value]
     refine hK _ _ μ' Z (.bx _ _ _ _ hd0) ⟨fun k g c hc => ?_, fun k g k' g' c c' b h1 h2 h3 h4 => ?_, fun b o h => Nat.lt_of_lt_of_le (hw.zlt b o h) ha.size⟩ ha (fun k g hn => ?_)
     ·rcases hden k g c hc with ⟨rfl, rfl, rfl⟩ | ⟨rfl, ⟨j, hj, rfl⟩, e, te, rfl⟩
      ·refine ⟨w.heap.size, r.zero.toArray, hd0, hgr.new, ?_, fun o hz => absurd (hw.zlt _ o hz) (by omega)⟩
       rw [← hcl]
       exact As0 l 1 _ hok (fun i hi => hnm i hi) (by simpa using RPs.vals μ' w1 Z r.zero)
      ·exact .inl ⟨hnm j hj, rfl⟩
     ·rcases hden k g c h1 with ⟨rfl, rfl, _⟩ | ⟨rfl, ⟨j, hj, rfl⟩, _⟩
      ·rcases hden k' g' c' h2 with ⟨rfl, rfl, _⟩ | ⟨rfl, ⟨j, hj, rfl⟩, _⟩
       ·exact ⟨rfl, rfl⟩
       ·rw [hnm j hj] at h4; cases h4
      ·rw [hnm j hj] at h3; cases h3
     ·simp only [μ']
      rw [if_neg, if_neg]
      ·rintro ⟨rfl, j, hj, rfl⟩
       exact hn ⟨by unfold dn; rw [hd, hmod j], rfl⟩
      ·rintro ⟨rfl, rfl⟩
       exact hn ⟨by unfold dn; rw [hd, Nat.mod_eq_of_lt hd6], rfl⟩
    ·rw [← List.cons_append]
     funext k g
     rw [A1f]
     simp only [mput, emp]
     cases den (⟨d, s.gen, .box T cl⟩ :: ens) k g <;> rfl
    ·rcases hk with hk | hk
     ·simp [emp] at hk
     ·simp only [den] at hk
      have hin : k ∈ subs d := by
       split at hk
       ·rename_i h2; rw [← h2.1]; simp [subs]
       ·rw [← hens] at hk
        cases hc : den (osEns std d s.gen l 1) k g with
        | none => rw [hc] at hk; exact absurd rfl hk
        | some c =>
         obtain ⟨_, ⟨i, hi, rfl⟩, _⟩ := osEns_mem hc
         have : i = 0 ∨ i = 1 ∨ i = 2 := by omega
         rcases this with rfl | rfl | rfl <;> simp [subs]
      simp only [foot, ho, hd]
      simpa using hin
   ·exact h.elim
  ·exact (Ast hC ho).w k h
 ·exact (Ast hC ho).w k h
/-! ### one operation, by what it is handed -/
def opLoad' (C : Ctx) (A : Ar) (c : Bool) (s : St) (T : TypeId) (x : Operand) (k : PV → List En → Prop) : Prop := match unc (opd C s.env x) with
 | .ep _ _ _ _ _ => opLoadE C A c s T x k
 | _ => opLoad C c s T x k
theorem opLoad'_ok {C : Ctx} {A : Ar} (hA : A = std) (hC : C.OK) {o : Oper} {ow c : Bool} {s : St} {T : TypeId} {x : Operand} (ho : o.op = .load T x) : Snd C o ow c s (opLoad' C A c s T x) := by
 intro k h
 unfold opLoad' at h
 split at h
 ·exact opLoadE_ok hA hC ho k h
 ·exact opLoad_ok hC ho k h
def opStore' (C : Ctx) (A : Ar) (ow c : Bool) (s : St) (T : TypeId) (x y : Operand) (k : PV → List En → Prop) : Prop := match unc (opd C s.env x) with
 | .ep _ _ _ _ _ => opStoreE C A ow c s T x y k
 | _ => opStore C ow c s T x y k
theorem opStore'_ok {C : Ctx} {A : Ar} (hA : A = std) (hC : C.OK) {o : Oper} {ow c : Bool} {s : St} {T : TypeId} {x y : Operand} (ho : o.op = .store T x y) : Snd C o ow c s (opStore' C A ow c s T x y) := by
 intro k h
 unfold opStore' at h
 split at h
 ·exact opStoreE_ok hA hC ho k h
 ·exact opStore_ok hC ho k h
def opField' (C : Ctx) (c : Bool) (s : St) (T : TypeId) (x : Operand) (f : Nat) (k : PV → List En → Prop) : Prop := match unc (opd C s.env x) with
 | .ep _ _ _ _ _ => opFieldE C c s T x f k
 | _ => opField C c s T x f k
theorem Axk {C : Ctx} (hC : C.OK) {o : Oper} {ow c : Bool} {s : St} {T : TypeId} {x : Operand} {f : Nat} (ho : o.op = .fieldAddr T x f) : Snd C o ow c s (opField' C c s T x f) := by
 intro k h
 unfold opField' at h
 split at h
 ·exact opFieldE_ok hC ho k h
 ·exact opField_ok hC ho k h
def opIdxA' (C : Ctx) (A : Ar) (c : Bool) (s : St) (T : TypeId) (x i : Operand) (k : PV → List En → Prop) : Prop := match unc (opd C s.env x) with
 | .ms _ _ _ _ _ => opIdxAM C A c s T x i k
 | _ => opIdxA C A c s T x i k
theorem opIdxA'_ok {C : Ctx} {A : Ar} (hA : A = std) (hC : C.OK) {o : Oper} {ow c : Bool} {s : St} {T : TypeId} {x i : Operand} (ho : o.op = .indexAddr T x i) : Snd C o ow c s (opIdxA' C A c s T x i) := by
 intro k h
 unfold opIdxA' at h
 split at h
 ·exact opIdxAM_ok hA hC ho k h
 ·exact opIdxA_ok hA hC ho k h
def opCut' (C : Ctx) (A : Ar) (c : Bool) (s : St) (T : TypeId) (x : Operand) (lo hi : Option Operand) (k : PV → List En → Prop) : Prop := match unc (opd C s.env x) with
 | .ms _ _ _ _ _ => opCutM C A c s T x lo hi k
 | _ => opCut C A c s T x lo hi k
theorem opCut'_ok {C : Ctx} {A : Ar} (hA : A = std) (hC : C.OK) {o : Oper} {ow c : Bool} {s : St} {T : TypeId} {x : Operand} {lo hi : Option Operand} (ho : o.op = .slice T x lo hi none) : Snd C o ow c s (opCut' C A c s T x lo hi) := by
 intro k h
 unfold opCut' at h
 split at h
 ·exact opCutM_ok hA hC ho k h
 ·exact opCut_ok hA hC ho k h
def opLen' (C : Ctx) (A : Ar) (c : Bool) (s : St) (T : TypeId) (x : Operand) (k : PV → List En → Prop) : Prop := match unc (opd C s.env x) with
 | .ms _ _ _ _ _ => A1m C A c s T x k
 | _ => opLen C A c s T x k
theorem A1o {C : Ctx} {A : Ar} (hA : A = std) (hC : C.OK) {o : Oper} {ow c : Bool} {s : St} {T : TypeId} {x : Operand} (ho : o.op = .call { callee := .builtin .len, args := #[x], argTypes := #[T] }) : Snd C o ow c s (opLen' C A c s T x) := by
 intro k h
 unfold opLen' at h
 split at h
 ·exact opLenM_ok hC ho k h
 ·exact opLen_ok hA hC ho k h
def opApp' (C : Ctx) (A : Ar) (ow c : Bool) (s : St) (dst : Option Nat) (T T2 : TypeId) (x y : Operand) (k : PV → List En → Prop) : Prop := match unc (opd C s.env x), dst with
 | .ms _ _ _ _ _, _ => Azg C A ow c s dst T T2 x y k
 | _, some d => match C.fz (d + 65536) with
  | true => Azg C A ow c s dst T T2 x y k
  | false => opApp C A ow c s dst T T2 x y k
 | _, none => opApp C A ow c s dst T T2 x y k
theorem A1p {C : Ctx} {A : Ar} (hA : A = std) (hC : C.OK) {o : Oper} {ow c : Bool} {s : St} {T T2 : TypeId} {x y : Operand} (ho : o.op = .call { callee := .builtin .append, args := #[x, y], argTypes := #[T, T2] }) : Snd C o ow c s (opApp' C A ow c s o.dst T T2 x y) := by
 intro k h
 unfold opApp' at h
 split at h
 ·exact opAppM_ok hA hC ho k h
 ·split at h
  ·exact opAppM_ok hA hC ho k h
  ·exact opApp_ok hA hC ho k h
 ·exact opApp_ok hA hC ho k h
end Go.PL
namespace Go.PL
set_option linter.unusedSimpArgs false
set_option linter.unusedVariables false
set_option linter.unusedSectionVars false
open Tys (Ty U)
open Enc (sz enc dflt tb ofB toB)
open Dec (dec dok)
variable [Tys] [Enc] [Dec]
theorem OpR.weak {C : Ctx} {o : Oper} {s : St} {v v' : PV} {sto' : List En} (h : OpR C o s v sto') (hv : ∀ μ w Z x, RP μ w Z x v → RP μ w Z x v') : OpR C o s v' sto' := by
 obtain ⟨fp, fp', ht, h⟩ := h
 exact ⟨fp, fp', fun μ w Z ρ hg hx hw hf => let ⟨val, w', μ', Z', h1, h2, h3⟩ := ht μ w Z ρ hg hx hw hf; ⟨val, w', μ', Z', h1, hv _ _ _ _ h2, h3⟩, h⟩
theorem A4j {C : Ctx} {o : Oper} {s : St} {v : PV} {kk g' : Nat} {cl : Cell} (hf : find s.sto kk = some (g', cl)) (hk : kk ∈ (foot C s.env s.sto o).1)
  (h : ∀ (μ : Nmap) (w : World) (Z : Nat → Nat → Prop) (ρ : Operand → Value), GI C μ w Z → (∀ x ∈ o.op.operands, RP μ w Z (ρ x) (opd C s.env x)) → WR μ (single kk g' cl) Z w →
   ∃ val, (execOp ρ o).run C.P w = .ok (.value val) w ∧ RP μ w Z val v) : OpR C o s v s.sto :=
 ⟨_, _, Ahx h, single_den hf, Asx hf, fun k g h => by
  cases h1 : single kk g' cl k g with
  | none => simp [h1] at h
  | some c => obtain ⟨rfl, _⟩ := Abt h1; exact hk, fun _ => rfl⟩
theorem A5f {C : Ctx} {o : Oper} {s : St} {v : PV} {kk g' : Nat} {cl cl' : Cell} (hf : find s.sto kk = some (g', cl)) (hk : kk ∈ (foot C s.env s.sto o).1) (hn : (foot C s.env s.sto o).2 = false)
  (h : ∀ (μ : Nmap) (w : World) (Z : Nat → Nat → Prop) (ρ : Operand → Value), (∀ x ∈ o.op.operands, RP μ w Z (ρ x) (opd C s.env x)) → WR μ (single kk g' cl) Z w →
   ∃ val w', ((execOp ρ o).run C.P w = .ok (.value val) w' ∨ ((execOp ρ o).run C.P w = .ok .skip w' ∧ val = undef)) ∧ RP μ w' Z val v ∧ WR μ (single kk g' cl') Z w' ∧ Adv μ (single kk g' cl) Z w μ (single kk g' cl') Z w') :
  OpR C o s v (setc s.sto kk cl') :=
 ⟨_, _, fun μ w Z ρ _ hx hw _ => let ⟨val, w', h1, h2, h3, h4⟩ := h μ w Z ρ hx hw; ⟨val, w', μ, Z, h1, h2, h3, h4, fun _ _ _ => rfl⟩, single_den hf, Aka _ hf, fun k g h => by
  have key : ∀ c0 : Cell, single kk g' c0 k g ≠ none → k = kk := fun c0 h0 => by
   cases h1 : single kk g' c0 k g with
   | none => exact absurd h1 h0
   | some c => exact (Abt h1).1
  rcases h with h | h <;> (rw [key _ h]; exact hk), fun h => by rw [hn] at h; cases h⟩
theorem Azh {w : World} {Z : Nat → Nat → Prop} {t : Ty} {xs : List (U t)} {cs : Array Value} (h3 : ArrAt w Z t xs cs) : xs.length * sz t ≤ cs.size := by
 have hpos := Enc.pos t
 rcases Nat.eq_zero_or_pos xs.length with h0 | h0
 ·rw [h0]; simp
 ·have hx : xs[xs.length - 1]? = some (xs[xs.length - 1]'(by omega)) := List.getElem?_eq_getElem _
  have hd0 : (enc t (xs[xs.length - 1]'(by omega)))[sz t - 1]? = some ((enc t (xs[xs.length - 1]'(by omega)))[sz t - 1]'(by rw [Enc.len]; omega)) := List.getElem?_eq_getElem _
  obtain ⟨v, h5, _⟩ := h3 (xs.length - 1) (sz t - 1) _ _ hx hd0
  have h6 := (Array.getElem?_eq_some_iff.1 h5).1
  have h7 : (xs.length - 1 + 1) * sz t = (xs.length - 1) * sz t + sz t := by rw [Nat.add_mul, Nat.one_mul]
  have h8 : xs.length - 1 + 1 = xs.length := by omega
  rw [h8] at h7; omega
theorem Aty {μ : Nmap} {Z : Nat → Nat → Prop} {w : World} {k g b : Nat} {T : TypeId} {t : Ty} {xs : List (U t)} (hw : WR μ (single k g (.arr T t xs)) Z w) (hb : μ k g = some (some b)) :
  ∃ cs, w.heap[b]? = some (.cells cs T (0, 0)) ∧ ArrAt w Z t xs cs ∧ xs.length * sz t ≤ cs.size := by
 rcases hw.ent k g _ (by simp [single]; rfl) with ⟨h1, _⟩ | ⟨b', cs, h1, h2, h3, h4⟩
 ·rw [hb] at h1; cases h1
 ·rw [hb] at h1; obtain rfl := Option.some.inj (Option.some.inj h1)
  exact ⟨cs, h2, h3, Azh h3⟩
/-! ### by value -/
def isInt : TK → Bool
 | .int _ => true
 | _ => false
def one1 : List PV → Nat → List (Nat × List PV)
 | [], _ => []
 | p :: r, j => (j, [p]) :: one1 r (j + 1)
theorem Axl : ∀ (vs : List PV) (j n : Nat), (one1 vs j)[n]? = vs[n]?.map fun p => (j + n, [p])
 | [], j, n => by simp [one1]
 | p :: r, j, 0 => by simp [one1]
 | p :: r, j, n + 1 => by
  simp only [one1, List.getElem?_cons_succ, Axl r]
  congr 1; funext q; congr 1; omega
theorem Azi : ∀ (vs : List PV) (j : Nat), (one1 vs j).length = vs.length
 | [], _ => rfl
 | p :: r, j => by simp [one1, Azi r]
def agAr (C : Ctx) (A : Ar) (c : Bool) (T : TypeId) (p : PV) (k : PV → Prop) : Prop := match C.ti T with
 | some ⟨.array _ e, _, _, _⟩ => match C.ti e, C.ety e with
  | some re, some t => match isInt re.k, p with
   | true, .ag vs => match decs A t (one1 vs 0) 0 with
    | some xs => vc c (doks A t (one1 vs 0)) ∧ k (.d (.ar t xs))
    | none => False
   | _, p => k p
  | _, _ => k p
 | _ => k p
theorem A4w {C : Ctx} {A : Ar} (hA : A = std) {c : Bool} {T : TypeId} {p : PV} {k : PV → Prop} (h : agAr C A c T p k) : ∃ q, k q ∧ (c = true → ∀ μ w Z x, RP μ w Z x p → RP μ w Z x q) := by
 subst hA
 have triv : k p → ∃ q, k q ∧ (c = true → ∀ μ w Z x, RP μ w Z x p → RP μ w Z x q) := fun h => ⟨p, h, fun _ _ _ _ _ h => h⟩
 unfold agAr at h
 split at h
 ·split at h
  ·split at h
   ·split at h
    ·rename_i t _ _ _ vs _ _ xs hxs
     refine ⟨_, h.2, fun hc μ w Z x hx => ?_⟩
     obtain ⟨h1, h2⟩ := Axc hxs
     cases hx with
     | ag _ us hl hh =>
      have hlen : xs.length = us.length := by rw [h1, Azi, hl]
      have hs : 0 < us.length → sz _ = 1 := fun h0 => by
       have hv0 : vs[0]? = some (vs[0]'(by omega)) := List.getElem?_eq_getElem _
       have := (h2 0 (0, [vs[0]'(by omega)]) (by rw [Axl, hv0]; rfl)).2.1
       simpa using this.symm
      refine .d _ _ (.ar _ xs us ?_ fun j i y d hy hd => ?_)
      ·rcases Nat.eq_zero_or_pos us.length with h0 | h0
       ·rw [hlen, h0]; simp
       ·rw [hs h0, hlen]; simp
      ·have hj : j < us.length := by rw [← hlen]; exact (List.getElem?_eq_some_iff.1 hy).1
       have hs1 := hs (by omega)
       have hi : i = 0 := by
        have := (List.getElem?_eq_some_iff.1 hd).1
        rw [Enc.len] at this; omega
       subst hi
       rw [hs1, Nat.mul_one, Nat.add_zero, List.getElem?_eq_getElem hj, Option.getD_some]
       have hvj : vs[j]? = some (vs[j]'(by omega)) := List.getElem?_eq_getElem _
       exact (h2 j (j, [vs[j]'(by omega)]) (by rw [Axl, hvj]; simp)).2.2 (Aae h.1 hc) y hy μ w Z 0 _ _ d rfl hd (hh j _ _ (List.getElem?_eq_getElem hj) hvj)
    ·exact h.elim
   ·exact triv h
  ·exact triv h
 ·exact triv h
def Azj (C : Ctx) (A : Ar) (c : Bool) (s : St) (T : TypeId) (ps : Array (Nat × Operand)) (k : PV → List En → Prop) : Prop :=
 opBuild C c s T ps fun p sto => agAr C A c T p fun q => k q sto
theorem Axm {C : Ctx} {A : Ar} (hA : A = std) (hC : C.OK) {o : Oper} {ow c : Bool} {s : St} {T : TypeId} {ps : Array (Nat × Operand)} (ho : o.op = .build T ps) : Snd C o ow c s (Azj C A c s T ps) := by
 intro k h
 obtain ⟨v, sto', h1, h2, h3⟩ := Az9 (ow := ow) hC ho _ h
 obtain ⟨q, h4, h5⟩ := A4w hA h1
 exact ⟨q, sto', h4, fun hc => (h2 hc).weak (h5 hc), h3⟩
/-! ### boxes -/
def opLoadA (C : Ctx) (A : Ar) (c : Bool) (s : St) (T : TypeId) (x : Operand) (k : PV → List En → Prop) : Prop := match C.ti T with
 | some ⟨.array n _, size, _, _⟩ => strip c (opd C s.env x) fun p => match p with
  | .bx kk g 0 => match find s.sto kk with
   | some (g', .arr _ t xs) => vc c (g' = g) ∧ (size = n * sz t) ∧ vc c (A.cmp .eql (A.len t xs) (Int.ofNat n) = true) ∧ k (.d (.ar t xs)) s.sto
   | _ => False
  | _ => False
 | _ => False
theorem opLoadA_ok {C : Ctx} {A : Ar} (hA : A = std) (hC : C.OK) {o : Oper} {ow c : Bool} {s : St} {T : TypeId} {x : Operand} (ho : o.op = .load T x) : Snd C o ow c s (opLoadA C A c s T x) := by
 subst hA
 intro k h
 unfold opLoadA at h
 split at h
 ·rename_i n e size _ _ hT
  obtain ⟨p, hpu, h, hp⟩ := Acz h
  split at h
  ·rename_i kk g
   split at h
   ·rename_i g' TT t xs hf
    obtain ⟨hg, hs, hl, hk⟩ := h
    refine ⟨_, _, hk, fun hc => A4j hf (by simp [foot, ho, ← hpu, keyOf]) fun μ w Z ρ _ hx hw => ?_, fun _ => rfl⟩
    obtain rfl := Aae hg hc
    have hlen : xs.length = n := by
     have := Aae hl hc
     simp only [std, Apb, beq_iff_eq] at this
     exact Int.ofNat.inj this
    have h1 := hp μ w Z _ hc (hx x (by simp [ho, Op.operands]))
    generalize hy : ρ x = y at h1
    cases h1 with
    | bx _ _ _ b hb =>
     obtain ⟨cs, h2, h3, h4⟩ := Aty hw hb
     have hsz : ((cs.toList.take size)).length = size := by rw [List.length_take, Array.length_toList, Nat.min_eq_left]; rw [hs, ← hlen]; exact h4
     have hld := Ahy (hC.ti T _ hT) w b 0 (cs.toList.take size) (fun j v hv => by
      rw [List.getElem?_take] at hv
      split at hv
      ·rw [Nat.zero_add, cell_of_row w b j cs TT _ h2]; simpa using hv
      ·cases hv) rfl hsz
     refine ⟨.agg (cs.toList.take size).toArray, by simp only [execOp, ho, hy, Instr.loadAt, Instr.sureAddr, Sem.run_bind, Sem.run_pure, Result.andThen_ok, hld], .d _ _ (.ar t xs (cs.toList.take size) (by rw [hsz, hs, hlen]) fun j i x' d hx' hd => ?_)⟩
     obtain ⟨v, h5, h6⟩ := h3 j i x' d hx' hd
     have hj : j < xs.length := (List.getElem?_eq_some_iff.1 hx').1
     have hi : i < sz t := by have := (List.getElem?_eq_some_iff.1 hd).1; rwa [Enc.len] at this
     have hlt : j * sz t + i < size := by
      have := Nat.mul_le_mul_right (sz t) (show j + 1 ≤ n by omega)
      rw [Nat.add_mul] at this; omega
     rw [List.getElem?_take, if_pos hlt, Array.getElem?_toList, h5]
     exact h6
   ·exact h.elim
  ·exact h.elim
 ·exact h.elim
def opStoreA (C : Ctx) (A : Ar) (ow c : Bool) (s : St) (T : TypeId) (x y : Operand) (k : PV → List En → Prop) : Prop := match ow, C.ti T with
 | true, some ⟨.array n _, size, _, _⟩ => strip c (opd C s.env x) fun p => strip c (opd C s.env y) fun q => match p, q with
  | .bx kk g 0, .d (.ar t ys) => match find s.sto kk with
   | some (g', .arr TT t' xs) => match Dec.cast t t' ys with
    | some zs => vc c (g' = g) ∧ (size = n ∧ sz t' = 1) ∧ vc c (A.cmp .eql (A.len t' xs) (Int.ofNat n) = true) ∧ vc c (A.cmp .eql (A.len t' zs) (Int.ofNat n) = true) ∧ k .any (setc s.sto kk (.arr TT t' zs))
    | none => False
   | _ => False
  | _, _ => False
 | _, _ => False
theorem RD.arr {w : World} {Z : Nat → Nat → Prop} {x : Value} {t : Ty} {xs : List (U t)} (h : RD w Z x (.ar t xs)) (h1 : sz t = 1) : ∃ vs : List Value, x = .agg vs.toArray ∧ vs.length = xs.length ∧
  (∀ (j q : Nat) (y : U t) (d : D), xs[j]? = some y → (enc t y)[q]? = some d → ∃ v, vs[j * sz t + q]? = some v ∧ RD w Z v d) ∧ ∀ v ∈ vs, v.oneCell' = true := by
 cases h with
 | ar _ _ vs hl h =>
  rw [h1, Nat.mul_one] at hl
  have key : ∀ (j q : Nat) (y : U t) (d : D), xs[j]? = some y → (enc t y)[q]? = some d → ∃ v, vs[j * sz t + q]? = some v ∧ RD w Z v d := by
   intro j q y d hy hd
   have hj : j < xs.length := (List.getElem?_eq_some_iff.1 hy).1
   have hq : q = 0 := by have := (List.getElem?_eq_some_iff.1 hd).1; rw [Enc.len] at this; omega
   have := h j q y d hy hd
   subst hq
   rw [h1, Nat.mul_one, Nat.add_zero] at this ⊢
   have hlt : j < vs.length := by omega
   rw [List.getElem?_eq_getElem hlt, Option.getD_some] at this
   exact ⟨_, List.getElem?_eq_getElem hlt, this⟩
  refine ⟨vs, rfl, hl, key, fun v hv => ?_⟩
  obtain ⟨m, hm⟩ := List.mem_iff_getElem?.1 hv
  have hml : m < xs.length := by rw [← hl]; exact (List.getElem?_eq_some_iff.1 hm).1
  have hd : (enc t xs[m])[0]? = some ((enc t xs[m])[0]'(by rw [Enc.len]; omega)) := List.getElem?_eq_getElem _
  obtain ⟨v', h8, h9⟩ := key m 0 _ _ (List.getElem?_eq_getElem hml) hd
  rw [h1, Nat.mul_one, Nat.add_zero, hm] at h8
  obtain rfl := Option.some.inj h8
  have hmem' := List.mem_of_getElem? hd
  exact h9.one (Enc.one t _ _ hmem') (Enc.agF t _ _ hmem') (Enc.arF t _ _ hmem')
theorem A4x {w : World} {Z : Nat → Nat → Prop} {x : Value} {t t' : Ty} {xs : List (U t)} {ys : List (U t')} (h : Dec.cast t t' xs = some ys) (hx : RD w Z x (.ar t xs)) : RD w Z x (.ar t' ys) := by
 have h1 := Dec.cast_ok _ _ _ _ h
 have h2 : (fun p : (t : Ty) × List (U t) => (D.ar p.1 p.2 : D)) ⟨t, xs⟩ = (fun p : (t : Ty) × List (U t) => (D.ar p.1 p.2 : D)) ⟨t', ys⟩ := by rw [h1]
 have h3 : (D.ar t xs : D) = .ar t' ys := h2
 rw [← h3]; exact hx
theorem opStoreA_ok {C : Ctx} {A : Ar} (hA : A = std) (hC : C.OK) {o : Oper} {ow c : Bool} {s : St} {T : TypeId} {x y : Operand} (ho : o.op = .store T x y) : Snd C o ow c s (opStoreA C A ow c s T x y) := by
 subst hA
 intro k h
 unfold opStoreA at h
 split at h
 ·rename_i n e size _ _ hT
  obtain ⟨p, hpu, h, hp⟩ := Acz h
  obtain ⟨q, h, hq⟩ := Aac (μ := fun _ _ => none) (w := default) (Z := fun _ _ => False) h
  split at h
  ·rename_i kk g t ys
   split at h
   ·rename_i g' TT t' xs hf
    split at h
    ·rename_i zs hz
     obtain ⟨hg, ⟨hs, hs1⟩, hl, hl2, hk⟩ := h
     refine ⟨_, _, hk, fun hc => A5f hf (by simp [foot, ho, ← hpu, keyOf]) (by simp [foot, ho]) fun μ w Z ρ hx hw => ?_, fun h => by cases h⟩
     obtain rfl := Aae hg hc
     have hlen : xs.length = n := by
      have := Aae hl hc
      simp only [std, Apb, beq_iff_eq] at this
      exact Int.ofNat.inj this
     have hlen2 : zs.length = n := by
      have := Aae hl2 hc
      simp only [std, Apb, beq_iff_eq] at this
      exact Int.ofNat.inj this
     have h1 := hp μ w Z _ hc (hx x (by simp [ho, Op.operands]))
     have h2 := hq μ w Z _ hc (hx y (by simp [ho, Op.operands]))
     generalize hxe : ρ x = X at h1
     generalize hye : ρ y = Y at h2
     cases h1 with
     | bx _ _ _ b hb =>
     cases h2 with
     | d _ _ h2 =>
      obtain ⟨vs, rfl, hvl, hv, hv1⟩ := (A4x hz h2).arr hs1
      obtain ⟨cs, h4, h5, h6, h7⟩ := Atw (lo := 0) (ys := zs) (zs := vs) hw hb (by omega) (by rw [hvl, hs1, Nat.mul_one]) hv
      have he : xs.take 0 ++ zs ++ xs.drop (0 + zs.length) = zs := by
       rw [List.drop_eq_nil_of_le (by omega)]; simp
      rw [he] at h6 h7
      obtain ⟨ii, _, h8, _, h9, _⟩ := hC.ti T _ hT
      have hsc := run_storeCells_at C.P b (0 * sz t') TT vs 0 cs w h4 (by simpa using h5) hv1
      refine ⟨undef, _, .inr ⟨?_, rfl⟩, .any _, h6, h7⟩
      have hsz : vs.length = ii.size := by rw [h9, hvl, hlen2]; exact hs.symm
      simp only [Nat.add_zero, Nat.zero_mul] at hsc ⊢
      simp [execOp, ho, hxe, hye, Instr.storeAt, Instr.sureAddr, storeVar, szOf h8, hsz, Value.cells]
      simp [hsc, splice]
    ·exact h.elim
   ·exact h.elim
  ·exact h.elim
 ·exact h.elim
def intsOf (k : IntKind) : List D → Option (List Int)
 | [] => some []
 | .v (.int k' n) :: r => if k' = k then (match intsOf k r with
  | some l => some (n :: l)
  | none => none) else none
 | _ => none
theorem Ave {k : IntKind} : ∀ {ds : List D} {l : List Int}, intsOf k ds = some l → l.length = ds.length ∧ ∀ (i : Nat) (d : D), ds[i]? = some d → d = .v (.int k (l.getD i 0))
 | [], l, h => by cases h; exact ⟨rfl, fun i d h => by simp at h⟩
 | d :: ds, l, h => by
  unfold intsOf at h
  split at h
  ·rename_i heq; cases heq
  ·rename_i k' n r heq
   cases heq
   split at h
   ·rename_i hk
    subst hk
    split at h
    ·rename_i l' hl
     cases h
     obtain ⟨h1, h2⟩ := Ave hl
     refine ⟨by simp [h1], fun i d hd => ?_⟩
     cases i with
     | zero => cases hd; rfl
     | succ i => simpa using h2 i d (by simpa using hd)
    ·cases h
   ·cases h
  ·cases h
def opIdxAA (C : Ctx) (A : Ar) (c : Bool) (s : St) (T : TypeId) (x i : Operand) (k : PV → List En → Prop) : Prop := match C.ti T with
 | some ⟨.array n e, _, _, _⟩ => match C.ti e, C.ety e with
  | some r, some t => strip c (opd C s.env i) fun q => match q with
   | .d (.v (.int _ m)) => strip c (opd C s.env x) fun p => match p with
    | .bx kk g 0 => (r.size = sz t) ∧ vc c (A.inb m (Int.ofNat n)) ∧ k (.ep kk g t m 0) s.sto
    | .ip ds => match r.k with
     | .int kd => match intsOf kd ds with
      | some l => (r.size = 1 ∧ l.length = n) ∧ vc c (A.inb m (Int.ofNat n)) ∧ k (.ip [.v (.int kd (A.geti l m))]) s.sto
      | none => False
     | _ => False
    | _ => False
   | _ => False
  | _, _ => False
 | _ => False
theorem opIdxAA_ok {C : Ctx} {A : Ar} (hA : A = std) (hC : C.OK) {o : Oper} {ow c : Bool} {s : St} {T : TypeId} {x i : Operand} (ho : o.op = .indexAddr T x i) : Snd C o ow c s (opIdxAA C A c s T x i) := by
 subst hA
 intro k h
 unfold opIdxAA at h
 split at h
 ·rename_i n e _ _ _ hT
  split at h
  ·rename_i r t hr ht
   obtain ⟨q, h, hq⟩ := Aac (μ := fun _ _ => none) (w := default) (Z := fun _ _ => False) h
   split at h
   ·rename_i kk m
    obtain ⟨p, h, hp⟩ := Aac (μ := fun _ _ => none) (w := default) (Z := fun _ _ => False) h
    obtain ⟨_, d, _, h2, _, _, _, h5⟩ := hC.ti T _ hT
    obtain rfl := KOk.array h5
    obtain ⟨ie, _, h8, _, h9, _⟩ := hC.ti _ r hr
    have run : ∀ (w : World) (ρ : Operand → Value) (b off : Nat), ρ i = .int kk m → 0 ≤ m ∧ m < (n : Int) → ρ x = .pointer (some ⟨b, off, none⟩) → (execOp ρ o).run C.P w = .ok (.value (.pointer (some ⟨b, off + m.toNat * r.size, none⟩))) w := by
     intro w ρ b off h1 hb hy
     simp [execOp, ho, h1, hy, Instr.indexAt, asIntOf, und h2, Instr.sureAddr, hb, szOf h8, h9, addr_add]
    split at h
    ·rename_i k2 g
     obtain ⟨hs, hin, hk⟩ := h
     refine ⟨_, _, hk, fun hc => opR_val fun μ w Z ρ hx => ?_, fun _ => rfl⟩
     have hb : 0 ≤ m ∧ m < (n : Int) := Aae hin hc
     have h1 : ρ i = .int kk m := (hq μ w Z _ hc (hx i (by simp [ho, Op.operands]))).val
     have h3 := hp μ w Z _ hc (hx x (by simp [ho, Op.operands]))
     generalize hy : ρ x = y at h3
     cases h3 with
     | bx _ _ _ b hbb =>
      refine ⟨_, run w ρ b 0 h1 hb hy, ?_⟩
      have := RP.ep (w := w) (Z := Z) k2 g t m 0 b hbb hb.1
      rw [hs]
      simpa using this
    ·rename_i ds
     split at h
     ·rename_i kd hkd
      split at h
      ·rename_i l hl
       obtain ⟨⟨hs, hln⟩, hin, hk⟩ := h
       obtain ⟨hl1, hl2⟩ := Ave hl
       refine ⟨_, _, hk, fun hc => opR_val fun μ w Z ρ hx => ?_, fun _ => rfl⟩
       have hb : 0 ≤ m ∧ m < (n : Int) := Aae hin hc
       have h1 : ρ i = .int kk m := (hq μ w Z _ hc (hx i (by simp [ho, Op.operands]))).val
       have h3 := hp μ w Z _ hc (hx x (by simp [ho, Op.operands]))
       generalize hy : ρ x = y at h3
       cases h3 with
       | ip _ b off vs hh =>
        refine ⟨_, run w ρ b off h1 hb hy, ?_⟩
        have hlt : m.toNat < ds.length := by omega
        obtain ⟨a1, a2, a3⟩ := hh m.toNat ds[m.toNat] (List.getElem?_eq_getElem hlt)
        refine .ip _ _ _ (fun _ => vs m.toNat) fun j d hd => ?_
        cases j with
        | succ j => simp at hd
        | zero =>
         cases hd
         have e := hl2 m.toNat _ (List.getElem?_eq_getElem hlt)
         rw [e] at a3
         rw [hs, Nat.mul_one, Nat.add_zero]
         exact ⟨a1, a2, a3⟩
      ·exact h.elim
     ·exact h.elim
    ·exact h.elim
   ·exact h.elim
  ·exact h.elim
 ·exact h.elim
def opCutA (C : Ctx) (A : Ar) (c : Bool) (s : St) (T : TypeId) (x : Operand) (lo hi : Option Operand) (k : PV → List En → Prop) : Prop := match C.ti T with
 | some ⟨.array n e, _, _, _⟩ => match C.ti e with
  | some r => strip c (opd C s.env x) fun p => match p with
   | .bx kk g 0 => match find s.sto kk with
    | some (g', .arr _ t xs) => bnd C c s lo 0 fun l => bnd C c s hi (Int.ofNat n) fun h => vc c (g' = g) ∧ (r.size = sz t) ∧ vc c (A.subOk l h (Int.ofNat n)) ∧ vc c (A.cmp .eql (A.len t xs) (Int.ofNat n) = true) ∧ k (.ms kk g t l (A.mi h l)) s.sto
    | _ => False
   | _ => False
  | none => False
 | _ => False
theorem opCutA_ok {C : Ctx} {A : Ar} (hA : A = std) (hC : C.OK) {o : Oper} {ow c : Bool} {s : St} {T : TypeId} {x : Operand} {lo hi : Option Operand} (ho : o.op = .slice T x lo hi none) : Snd C o ow c s (opCutA C A c s T x lo hi) := by
 subst hA
 intro k h0
 unfold opCutA at h0
 have hmx : x ∈ o.op.operands := by simp [ho, Op.operands]
 have hml : ∀ y, lo = some y → y ∈ o.op.operands := by intro y hy; simp [ho, Op.operands, hy]
 have hmh : ∀ y, hi = some y → y ∈ o.op.operands := by intro y hy; simp [ho, Op.operands, hy]
 split at h0
 ·rename_i n e _ _ _ hT
  split at h0
  ·rename_i r hr
   obtain ⟨_, d, _, h2, _, _, _, h5⟩ := hC.ti T _ hT
   obtain rfl := KOk.array h5
   obtain ⟨i', d', h6, _, h7, _⟩ := hC.ti e r hr
   obtain ⟨p, hpu, h, hp⟩ := Acz h0
   clear h0
   split at h
   ·rename_i kk g
    split at h
    ·rename_i g' TT t xs hf
     obtain ⟨l, h, hl1, hl2⟩ := Apc h
     obtain ⟨u, h, hu1, hu2⟩ := Apc h
     obtain ⟨hg, hs, hin, hln, hk⟩ := h
     refine ⟨_, _, hk, fun hc => A4j hf (by simp [foot, ho, ← hpu]) fun μ w Z ρ _ hx hw => ?_, fun _ => rfl⟩
     obtain rfl := Aae hg hc
     obtain ⟨ha, hb, hcc⟩ : 0 ≤ l ∧ l ≤ u ∧ u ≤ (n : Int) := Aae hin hc
     have hlen : xs.length = n := by
      have := Aae hln hc
      simp only [std, Apb, beq_iff_eq] at this
      exact Int.ofNat.inj this
     have hsb := run_sliceBounds (P := C.P) (w := w) (isS := false) (len := n) (cap := n) (lo := lo.map ρ) (hi := hi.map ρ) (l := l) (h := u)
      (fun e => hl1 (by cases lo <;> simp_all)) (fun v e => by
       cases hlo : lo with
       | none => simp [hlo] at e
       | some y => simp [hlo] at e; subst e; exact hl2 y hlo μ w Z _ hc (hx y (hml y hlo)))
      (fun e => hu1 (by cases hi <;> simp_all)) (fun v e => by
       cases hhi : hi with
       | none => simp [hhi] at e
       | some y => simp [hhi] at e; subst e; exact hu2 y hhi μ w Z _ hc (hx y (hmh y hhi))) ha hb hcc (Nat.le_refl _)
     have hrd := hp μ w Z _ hc (hx x hmx)
     generalize hxe : ρ x = X at hrd
     cases hrd with
     | bx _ _ _ b hbb =>
      obtain ⟨cs, h3, _, h4⟩ := Aty hw hbb
      by_cases hcl : n = l.toNat
      ·refine ⟨.slice (some ⟨b, 0, none⟩) 0 0, ?_, .msE _ _ _ _ _ _ (by show u - l = 0; omega)⟩
       have hu : u.toNat = l.toNat := by omega
       rw [hu, ← hcl] at hsb
       simp [execOp, ho, hxe, Instr.sliceAt, und h2, Instr.sureAddr, hsb, szOf h6, h7, hs]
      ·have e2 : (u - l).toNat = u.toNat - l.toNat := by omega
       have := RP.ms (μ := μ) (w := w) (Z := Z) kk g' t l (u - l) b (n - l.toNat) hbb (by omega) (by omega) (by omega) TT cs.size (by simp [World.shape?, h3]) (by
        have e3 : l.toNat + (n - l.toNat) = n := by omega
        rw [e3, ← hlen]; exact h4)
       rw [e2] at this
       refine ⟨_, ?_, this⟩
       simp [execOp, ho, hxe, Instr.sliceAt, und h2, Instr.sureAddr, hsb, szOf h6, h7, hs, hcl, addr_add]
    ·exact h.elim
   ·exact h.elim
  ·exact h0.elim
 ·exact h0.elim
def two (k g : Nat) (c : Cell) (k2 g2 : Nat) (c2 : Cell) : Mem := fun k' g' => match single k g c k' g' with
 | some c' => some c'
 | none => single k2 g2 c2 k' g'
def A1q (C : Ctx) (A : Ar) (ow c : Bool) (s : St) (T : TypeId) (x y : Operand) (k : PV → List En → Prop) : Prop := match ow, C.ti T with
 | true, some ⟨.slice e, _, _, _⟩ => match C.ti e with
  | some r => strip c (opd C s.env x) fun p => strip c (opd C s.env y) fun q => match p, q with
   | .ms kk g t lo n, .ms k2 g2 t2 lo2 n2 => match decide (kk = k2), find s.sto kk, find s.sto k2 with
    | false, some (g', .arr TT t' xs), some (g3, .arr _ t3 ys) => match Dec.cast t3 t' ys with
     | some zs => vc c (g' = g) ∧ vc c (g3 = g2) ∧ ((r.size = 1 ∧ sz t' = 1) ∧ (sz t = 1 ∧ sz t2 = 1)) ∧ vc c (A.subOk lo (A.pl lo n) (A.len t' xs)) ∧ vc c (A.subOk lo2 (A.pl lo2 n2) (A.len t' zs)) ∧
      k (it .i64 (A.mn n2 n)) (setc s.sto kk (.arr TT t' (A.put t' xs lo (A.lsub t' zs lo2 (A.pl lo2 (A.mn n2 n))))))
     | none => False
    | _, _, _ => False
   | _, _ => False
  | none => False
 | _, _ => False
theorem A3s {w : World} {Z : Nat → Nat → Prop} {t t' : Ty} {xs : List (U t)} {ys : List (U t')} {cs : Array Value} (h : Dec.cast t t' xs = some ys) (hx : ArrAt w Z t xs cs) : ArrAt w Z t' ys cs ∧ ys.length = xs.length := by
 have h1 := Dec.cast_ok _ _ _ _ h
 have key : ∀ p q : (t : Ty) × List (U t), p = q → ArrAt w Z p.1 p.2 cs → ArrAt w Z q.1 q.2 cs ∧ q.2.length = p.2.length := fun p q e h => by subst e; exact ⟨h, rfl⟩
 exact key _ _ h1 hx
theorem A1r {C : Ctx} {A : Ar} (hA : A = std) (hC : C.OK) {o : Oper} {ow c : Bool} {s : St} {T T2 : TypeId} {x y : Operand} (ho : o.op = .call { callee := .builtin .copy, args := #[x, y], argTypes := #[T, T2] }) :
  Snd C o ow c s (A1q C A ow c s T x y) := by
 subst hA
 intro k h0
 have hrun : ∀ (w : World) (ρ : Operand → Value), (execOp ρ o).run C.P w = ((Builtin.copy_ #[T, T2] o.type #[ρ x, ρ y]).run C.P w).andThen fun v w => .ok (.value v) w := by
  intro w ρ
  simp [execOp, ho, resolve, invoke, builtin]
 have hmx : x ∈ o.op.operands := by simp [ho, Op.operands, Call.operands]
 have hmy : y ∈ o.op.operands := by simp [ho, Op.operands, Call.operands]
 unfold A1q at h0
 split at h0
 ·rename_i e _ _ _ hT
  split at h0
  ·rename_i r hr
   obtain ⟨_, d, _, h2, _, _, _, h5⟩ := hC.ti T _ hT
   obtain rfl := KOk.slice h5
   obtain ⟨i', d', h6, _, h7, _⟩ := hC.ti e r hr
   obtain ⟨p, hpu, h, hp⟩ := Acz h0
   obtain ⟨q, hqu, h, hq⟩ := Acz h
   clear h0
   split at h
   ·rename_i kk g t lo n k2 g2 t2 lo2 n2 _
    split at h
    ·rename_i g' TT t' xs g3 T3 t3 ys hne hf hf2
     split at h
     ·rename_i zs hz
      obtain ⟨hg, hg2, ⟨⟨hr1, hs1⟩, hst, hst2⟩, hin, hin2, hk⟩ := h
      have hne' : kk ≠ k2 := by simpa using hne
      refine ⟨_, _, hk, fun hc => ?_, fun h => by cases h⟩
      obtain rfl := Aae hg hc
      obtain rfl := Aae hg2 hc
      obtain ⟨a1, a2, a3⟩ : 0 ≤ lo ∧ lo ≤ lo + n ∧ lo + n ≤ (xs.length : Int) := Aae hin hc
      obtain ⟨b1, b2, b3⟩ : 0 ≤ lo2 ∧ lo2 ≤ lo2 + n2 ∧ lo2 + n2 ≤ (zs.length : Int) := Aae hin2 hc
      let cl : Cell := .arr TT t' xs
      let cl' : Cell := .arr TT t' (std.put t' xs lo (std.lsub t' zs lo2 (std.pl lo2 (std.mn n2 n))))
      let fp := two kk g' cl k2 g3 (.arr T3 t3 ys)
      have hsub : ∀ k g c, single kk g' cl k g = some c → fp k g = some c := fun k g c h => by simp only [fp, two, h]
      have hsub2 : ∀ k g c, single k2 g3 (.arr T3 t3 ys) k g = some c → fp k g = some c := fun k g c h => by
       obtain ⟨rfl, rfl, rfl⟩ := Abt h
       have h1 : single kk g' cl k g = none := by simp only [single]; rw [if_neg (fun e => hne' e.1.symm)]
       simp only [fp, two, h1, h]
      have hden : ∀ k g c, fp k g = some c → den s.sto k g = some c := fun k g c h => by
       simp only [fp, two] at h
       split at h
       ·rename_i h1; cases h; exact single_den hf _ _ _ h1
       ·exact single_den hf2 _ _ _ h
      refine ⟨fp, mput fp (single kk g' cl) (single kk g' cl'), fun μ w Z ρ _ hx hw _ => ?_, hden, ?_, fun k g h => ?_, fun h => by simp [foot, ho] at h⟩
      ·have h1 := hp μ w Z _ hc (hx x hmx)
       have h3 := hq μ w Z _ hc (hx y hmy)
       have hw1 : WR μ (single kk g' cl) Z w := ⟨fun k g c h => hw.ent k g c (hsub _ _ _ h), fun k g k' g' c c' b h1 h2 => hw.dis k g k' g' c c' b (hsub _ _ _ h1) (hsub _ _ _ h2), hw.zlt⟩
       have hw2 : WR μ (single k2 g3 (.arr T3 t3 ys)) Z w := ⟨fun k g c h => hw.ent k g c (hsub2 _ _ _ h), fun k g k' g' c c' b h1 h2 => hw.dis k g k' g' c c' b (hsub2 _ _ _ h1) (hsub2 _ _ _ h2), hw.zlt⟩
       have mn0 : std.mn n2 n = min n2 n := rfl
       have same : std.mn n2 n = 0 → std.put t' xs lo (std.lsub t' zs lo2 (std.pl lo2 (std.mn n2 n))) = xs := by
        intro h0
        have e1 : (std.lsub t' zs lo2 (std.pl lo2 (std.mn n2 n))) = [] := by
         rw [h0]; show (zs.take (lo2 + 0).toNat).drop lo2.toNat = []
         rw [List.drop_eq_nil_of_le (by simp; omega)]
        rw [e1]; show xs.take lo.toNat ++ [] ++ xs.drop (lo.toNat + 0) = xs
        simp
       have quiet : std.mn n2 n = 0 → (Builtin.copy_ #[T, T2] o.type #[ρ x, ρ y]).run C.P w = .ok (goInt 0) w → ∃ val w' μ' Z', ((execOp ρ o).run C.P w = .ok (.value val) w' ∨ ((execOp ρ o).run C.P w = .ok .skip w' ∧ val = undef)) ∧
         RP μ' w' Z' val (it .i64 (std.mn n2 n)) ∧ WR μ' (mput fp (single kk g' cl) (single kk g' cl')) Z' w' ∧ Adv μ fp Z w μ' (mput fp (single kk g' cl) (single kk g' cl')) Z' w' ∧ ∀ k g, ¬ (o.dst = some k ∧ g = s.gen) → μ' k g = μ k g := by
        intro h0 hr0
        have e2 : cl' = cl := congrArg (Cell.arr TT t') (same h0)
        have e3 : mput fp (single kk g' cl) (single kk g' cl') = fp := by
         rw [e2]
         funext k1 g1
         simp only [mput]
         cases h1 : single kk g' cl k1 g1 with
         | none => simp
         | some c1 => exact (hsub _ _ _ h1).symm
        rw [e3, h0]
        refine ⟨_, w, μ, Z, .inl (by rw [hrun, hr0]; rfl), ?_, hw, .refl, fun _ _ _ => rfl⟩
        exact RP.ofVal ..
       generalize hxe : ρ x = X at h1
       generalize hye : ρ y = Y at h3
       have emp0 : ∀ (a : Option Addr) (l cp : Nat), X = .slice a l cp → ∀ (a2 : Option Addr) (l2 cp2 : Nat), Y = .slice a2 l2 cp2 → Nat.min l2 l = 0 → (Builtin.copy_ #[T, T2] o.type #[X, Y]).run C.P w = .ok (goInt 0) w := by
        intro a l cp e a2 l2 cp2 e2 hm
        subst e e2
        have hl0 : ∀ a : Addr, (loadCells a 0).run C.P w = .ok #[] w := fun a => by simpa using run_loadCells_list (P := C.P) w a [] (fun j v h => by simp at h)
        cases a <;> cases a2 <;> simp [Builtin.copy_, und h2, Builtin.lenOf, hm, Builtin.firstCells, szOf h6, storeCells, hl0]
       cases h1 with
       | ms _ _ _ _ _ b cap hb h0 hn hcap _ _ _ _ =>
        cases h3 with
        | ms _ _ _ _ _ b2' cap2 hb2 h02 hn2 hcap2 _ _ _ _ =>
         by_cases hm0 : std.mn n2 n = 0
         ·have hm1 : Nat.min n2.toNat n.toNat = 0 := by
           rw [mn0] at hm0
           simp only [Nat.min_def]; split <;> omega
          exact quiet hm0 (by rw [hxe, hye]; exact emp0 _ _ _ rfl _ _ _ rfl hm1)
         ·obtain ⟨cs2, c1, c2, c3⟩ := Aty hw2 hb2
          obtain ⟨c4, c5⟩ := A3s hz c2
          have hmp : 0 ≤ min n2 n := by omega
          let m := (min n2 n).toNat
          let ws := (zs.drop lo2.toNat).take m
          have hws : std.lsub t' zs lo2 (std.pl lo2 (std.mn n2 n)) = ws := by
           show (zs.take (lo2 + min n2 n).toNat).drop lo2.toNat = (zs.drop lo2.toNat).take (min n2 n).toNat
           rw [List.drop_take]; congr 1; omega
          have hwl : ws.length = m := by simp only [ws, List.length_take, List.length_drop, m]; omega
          let vs := (cs2.toList.drop lo2.toNat).take m
          have hvl : vs.length = m := by
           have : zs.length ≤ cs2.size := by have := Azh c4; rwa [hs1, Nat.mul_one] at this
           simp only [vs, List.length_take, List.length_drop, Array.length_toList, m]; omega
          have hv : ∀ (j q : Nat) (x : U t') (d : D), ws[j]? = some x → (enc t' x)[q]? = some d → ∃ v, vs[j * sz t' + q]? = some v ∧ RD w Z v d := by
           intro j q x' d hx' hd
           have hj : j < m := by rw [← hwl]; exact (List.getElem?_eq_some_iff.1 hx').1
           have hq0 : q = 0 := by have := (List.getElem?_eq_some_iff.1 hd).1; rw [Enc.len] at this; omega
           subst hq0
           simp only [ws] at hx'
           rw [List.getElem?_take, if_pos hj, List.getElem?_drop] at hx'
           obtain ⟨v, d1, d2⟩ := c4 _ 0 x' d hx' hd
           rw [hs1, Nat.mul_one, Nat.add_zero] at d1 ⊢
           refine ⟨v, ?_, d2⟩
           simp only [vs]
           rw [List.getElem?_take, if_pos hj, List.getElem?_drop, Array.getElem?_toList]; exact d1
          have hv1 : ∀ v ∈ vs, v.oneCell' = true := by
           intro v hvm
           obtain ⟨j, hjv⟩ := List.mem_iff_getElem?.1 hvm
           have hj : j < ws.length := by rw [hwl, ← hvl]; exact (List.getElem?_eq_some_iff.1 hjv).1
           have hd : (enc t' ws[j])[0]? = some ((enc t' ws[j])[0]'(by rw [Enc.len]; omega)) := List.getElem?_eq_getElem _
           obtain ⟨v', d1, d2⟩ := hv j 0 _ _ (List.getElem?_eq_getElem hj) hd
           rw [hs1, Nat.mul_one, Nat.add_zero, hjv] at d1
           obtain rfl := Option.some.inj d1
           have hmem' := List.mem_of_getElem? hd
           exact d2.one (Enc.one t' _ _ hmem') (Enc.agF t' _ _ hmem') (Enc.arF t' _ _ hmem')
          obtain ⟨cs, e1, e2, e3, e4⟩ := Atw (lo := lo.toNat) (ys := ws) (zs := vs) hw1 hb (by rw [hwl]; simp only [m]; omega) (by rw [hvl, hwl, hs1, Nat.mul_one]) hv
          have e5 : xs.take lo.toNat ++ ws ++ xs.drop (lo.toNat + ws.length) = std.put t' xs lo (std.lsub t' zs lo2 (std.pl lo2 (std.mn n2 n))) := by rw [hws]; rfl
          rw [e5] at e3 e4
          obtain ⟨e6, e7⟩ := Amq hw hsub e3 e4
          have hrc := run_copy_row (P := C.P) w T T2 o.type e b (lo.toNat * sz t) n.toNat cap ⟨b2', lo2.toNat * sz t2, none⟩ n2.toNat cap2 cs TT vs h2 (by rw [h6]; simp [h7, hr1]) e1
           (by rw [hvl]; simp only [m, Nat.min_def]; split <;> omega)
           (fun j v hjv => by
            have hj : j < m := by rw [← hvl]; exact (List.getElem?_eq_some_iff.1 hjv).1
            simp only [vs] at hjv
            rw [List.getElem?_take, if_pos hj, List.getElem?_drop, Array.getElem?_toList] at hjv
            rw [addr_add, cell_of_row w b2' _ cs2 T3 _ c1, hst2, Nat.mul_one]; exact hjv)
           (by rw [hst, ← hs1]; exact e2) hv1
          rw [hst] at hxe hrc
          rw [hst2] at hye hrc
          rw [hs1] at e6 e7
          refine ⟨_, _, μ, Z, .inl (by rw [hrun, hxe, hye, hrc]; rfl), ?_, e6, e7, fun _ _ _ => rfl⟩
          have : goInt vs.length = .int .i64 (std.mn n2 n) := by
           rw [hvl]; show Value.int .i64 ((min n2 n).toNat : Int) = .int .i64 (min n2 n)
           congr 1; omega
          rw [this]
          exact RP.ofVal ..
        | msE _ _ _ _ _ a2 hn2 =>
         exact quiet (by rw [mn0]; omega) (by rw [hxe, hye]; exact emp0 _ _ _ rfl _ _ _ rfl (by simp))
       | msE _ _ _ _ _ a hn =>
        cases h3 with
        | ms _ _ _ _ _ b2' cap2 hb2 h02 hn2 hcap2 _ _ _ _ => exact quiet (by rw [mn0]; omega) (by rw [hxe, hye]; exact emp0 _ _ _ rfl _ _ _ rfl (by simp))
        | msE _ _ _ _ _ a2 hn2 => exact quiet (by rw [mn0]; omega) (by rw [hxe, hye]; exact emp0 _ _ _ rfl _ _ _ rfl (by simp))
      ·rw [Aka _ hf]
       funext k1 g1
       simp only [mput]
       cases h1 : single kk g' cl' k1 g1 with
       | some c1 => rfl
       | none =>
        have h3 : single kk g' cl k1 g1 = none := by
         simp only [single] at h1 ⊢
         split at h1
         ·cases h1
         ·rename_i e; rw [if_neg e]
        have h3' : single kk g' (.arr TT t' xs) k1 g1 = none := h3
        simp only [h3, Option.isSome_none, Bool.false_eq_true, if_false, fp, two]
        cases h4 : single k2 g3 (.arr T3 t3 ys) k1 g1 with
        | none => simp [h3']
        | some c1 => simpa [h3'] using single_den hf2 _ _ _ h4
      ·have key : ∀ k g, fp k g ≠ none → k = kk ∨ k = k2 := fun k g h => by
        cases h1 : single kk g' cl k g with
        | some c1 => exact .inl (Abt h1).1
        | none =>
         simp only [fp, two, h1] at h
         cases h2 : single k2 g3 (.arr T3 t3 ys) k g with
         | none => exact absurd h2 h
         | some c1 => exact .inr (Abt h2).1
       have hin : k = kk ∨ k = k2 := by
        rcases h with h | h
        ·exact key k g h
        ·cases h1 : single kk g' cl' k g with
         | some c1 => exact .inl (Abt h1).1
         | none =>
          refine key k g ?_
          simp only [mput, h1] at h
          split at h
          ·exact absurd rfl h
          ·exact h
       have hk1 : kk ∈ (foot C s.env s.sto o).1 := by simp [foot, ho, ← hpu, ← hqu, keyOf]
       have hk2 : k2 ∈ (foot C s.env s.sto o).1 := by simp [foot, ho, ← hpu, ← hqu, keyOf]
       rcases hin with rfl | rfl
       ·exact hk1
       ·exact hk2
     ·exact h.elim
    ·exact h.elim
   ·exact h.elim
  ·exact h0.elim
 ·exact h0.elim
/-! ### new ones -/
def allZ (k : IntKind) : List Value → Bool
 | [] => true
 | .int k' n :: r => decide (k' = k) && decide (n = 0) && allZ k r
 | _ => false
theorem A1s {k : IntKind} : ∀ {l : List Value}, allZ k l = true → ∀ (i : Nat) (v : Value), l[i]? = some v → v = .int k 0
 | [], _, i, v, h => by simp at h
 | x :: l, h, i, v, hv => by
  unfold allZ at h
  split at h
  ·rename_i heq; cases heq
  ·rename_i k' n r heq
   cases heq
   simp only [Bool.and_eq_true, decide_eq_true_eq] at h
   obtain ⟨⟨rfl, rfl⟩, h⟩ := h
   cases i with
   | zero => cases hv; rfl
   | succ i => exact A1s h i v (by simpa using hv)
  ·cases h
def isArr (C : Ctx) (T : TypeId) : Bool := match C.ti T with
 | some ⟨.array _ e, _, _, _⟩ => match C.ti e, C.ety e with
  | some re, some _ => isInt re.k
  | _, _ => false
 | _ => false
def opAllocA (C : Ctx) (A : Ar) (ow : Bool) (s : St) (dst : Option Nat) (T : TypeId) (k : PV → List En → Prop) : Prop := match ow, dst, C.ti T with
 | true, some d, some ⟨.array n e, _, _, zero⟩ => match C.ti e, C.ety e with
  | some re, some t => match re.k with
   | .int kd => match dec A.u8 t [.v (.int kd 0)] with
    | some x0 => ((zero.length = n ∧ sz t = 1) ∧ allZ kd zero = true) ∧ dok A.u8ok t [.v (.int kd 0)] ∧ k (.bx d s.gen 0) (⟨d, s.gen, .arr T t (A.rep t (Int.ofNat n) x0)⟩ :: s.sto)
    | none => False
   | _ => False
  | _, _ => False
 | _, _, _ => False
theorem opAllocA_ok {C : Ctx} {A : Ar} (hA : A = std) (hC : C.OK) {o : Oper} {ow c : Bool} {s : St} {T : TypeId} (ho : o.op = .alloc T) : Snd C o ow c s (opAllocA C A ow s o.dst T) := by
 subst hA
 intro k h
 unfold opAllocA at h
 split at h
 ·rename_i d n e size by' zero hd hT
  split at h
  ·rename_i re t hre ht
   split at h
   ·rename_i kd hkd
    split at h
    ·rename_i x0 hx0
     obtain ⟨⟨⟨hn, hs⟩, hz⟩, hdk, hk⟩ := h
     refine ⟨_, _, hk, fun hc => ⟨emp, single d s.gen (.arr T t (std.rep t (Int.ofNat n) x0)), ?_, fun _ _ _ h => by simp [emp] at h, den_cons _ _, fun k g h => by
      simp only [emp, single] at h
      split at h
      ·rename_i h1; simp [foot, ho, hd, h1.1, subs]
      ·simp at h, fun h => by simp [foot, ho] at h⟩, fun h => by cases h⟩
     intro μ w Z ρ hg hx hw hf
     obtain ⟨i, _, h1, _, _, _, ⟨z, hzz, hzc⟩, _⟩ := hC.ti T _ hT
     have hgr : Grown w (w.alloc (.cells z.cells T)) (.cells zero.toArray T (0, 0)) := ⟨by rw [show zero = z.cells.toList from hzc.symm, Array.toArray_toList]; rfl, rfl, rfl⟩
     have hrl : (std.rep t (Int.ofNat n) x0).length = n := by show (List.replicate (Int.ofNat n).toNat x0).length = n; simp
     obtain ⟨_, h3, h4⟩ := new_arr (cap := n) (xs := std.rep t (Int.ofNat n) x0) hgr hw (hf d hd) (by omega) (by rw [hs]; simp; omega) (fun j q x d' hxj hdq => by
      have hxj' : (List.replicate (Int.ofNat n).toNat x0)[j]? = some x := hxj
      rw [List.getElem?_replicate] at hxj'
      split at hxj' <;> cases hxj'
      rename_i hj
      have hq : q = 0 := by have := (List.getElem?_eq_some_iff.1 hdq).1; rw [Enc.len] at this; omega
      subst hq
      have hjz : j < zero.length := by rw [hn]; simpa using hj
      have hv := A1s hz j _ (List.getElem?_eq_getElem hjz)
      refine ⟨.int kd 0, ?_, (Dec.dec_ok t _ _ hx0).2 hdk w Z 0 _ _ _ rfl hdq (.v _)⟩
      rw [hs, Nat.mul_one, Nat.add_zero]
      simpa [hjz] using hv)
     refine ⟨_, _, _, Z, .inl ?_, .bx _ _ _ _ (Aau ..), h3, h4, Aec o.dst hd⟩
     simp [execOp, ho, Instr.alloc, zeroValue, typeInfo, h1, hzz, newVar, newRow]
    ·exact h.elim
   ·exact h.elim
  ·exact h.elim
 ·exact h.elim
def opBoxA (C : Ctx) (A : Ar) (ow c : Bool) (s : St) (dst : Option Nat) (T : TypeId) (x : Operand) (k : PV → List En → Prop) : Prop := match ow, dst with
 | true, some d => strip c (opd C s.env x) fun p => match p with
  | .d (.ar t xs) => (sz t = 1) ∧ k (.bx d s.gen 0) (⟨d, s.gen, .arr T t xs⟩ :: s.sto)
  | _ => False
 | _, _ => False
theorem opBoxA_ok {C : Ctx} {A : Ar} {o : Oper} {ow c : Bool} {s : St} {T : TypeId} {x : Operand} (ho : o.op = .box T x) : Snd C o ow c s (opBoxA C A ow c s o.dst T x) := by
 intro k h
 unfold opBoxA at h
 split at h
 ·rename_i d hd
  obtain ⟨p, h, hp⟩ := Aac (μ := fun _ _ => none) (w := default) (Z := fun _ _ => False) h
  split at h
  ·rename_i t xs
   obtain ⟨hs, hk⟩ := h
   refine ⟨_, _, hk, fun hc => ⟨emp, single d s.gen (.arr T t xs), ?_, fun _ _ _ h => by simp [emp] at h, den_cons _ _, fun k g h => by
    simp only [emp, single] at h
    split at h
    ·rename_i h1; simp [foot, ho, hd, h1.1]
    ·simp at h, fun h => by simp [foot, ho] at h⟩, fun h => by cases h⟩
   intro μ w Z ρ hg hx hw hf
   have h1 := hp μ w Z _ hc (hx x (by simp [ho, Op.operands]))
   generalize hxe : ρ x = X at h1
   cases h1 with
   | d _ _ h1 =>
    obtain ⟨vs, rfl, hvl, hv, _⟩ := h1.arr hs
    have hgr : Grown w (w.alloc (.cells vs.toArray T)) (.cells vs.toArray T (0, 0)) := ⟨rfl, rfl, rfl⟩
    obtain ⟨_, h3, h4⟩ := new_arr (cap := xs.length) (xs := xs) hgr hw (hf d hd) (Nat.le_refl _) (by rw [hs]; simp; omega) (fun j q y d' hy hd' => by
     obtain ⟨v, a1, a2⟩ := hv j q y d' hy hd'
     exact ⟨v, by simpa using a1, a2⟩)
    refine ⟨_, _, _, Z, .inl ?_, .bx _ _ _ _ (Aau ..), h3, h4, Aec o.dst hd⟩
    simp [execOp, ho, hxe, Instr.box, newVar, newRow, Value.cells]
  ·exact h.elim
 ·exact h.elim
/-! ### one operation, by the type that it names -/
def opAlloc2 (C : Ctx) (A : Ar) (ow : Bool) (s : St) (dst : Option Nat) (T : TypeId) (k : PV → List En → Prop) : Prop := match isArr C T with
 | true => opAllocA C A ow s dst T k
 | false => opAlloc' C A ow s dst T k
theorem Axn {C : Ctx} {A : Ar} (hA : A = std) (hC : C.OK) {o : Oper} {ow c : Bool} {s : St} {T : TypeId} (ho : o.op = .alloc T) : SndW C o ow c s (opAlloc2 C A ow s o.dst T) := by
 intro k h
 unfold opAlloc2 at h
 split at h
 ·exact (opAllocA_ok hA hC ho).w k h
 ·exact opAlloc'_ok hA hC ho k h
def opBox2 (C : Ctx) (A : Ar) (ow c : Bool) (s : St) (dst : Option Nat) (T : TypeId) (x : Operand) (k : PV → List En → Prop) : Prop := match isArr C T with
 | true => opBoxA C A ow c s dst T x k
 | false => opBox C ow c s dst T x k
theorem A1t {C : Ctx} {A : Ar} {o : Oper} {ow c : Bool} {s : St} {T : TypeId} {x : Operand} (ho : o.op = .box T x) : Snd C o ow c s (opBox2 C A ow c s o.dst T x) := by
 intro k h
 unfold opBox2 at h
 split at h
 ·exact opBoxA_ok ho k h
 ·exact opBox_ok ho k h
def isBx : PV → Bool
 | .bx _ _ _ => true
 | _ => false
def opLoad2 (C : Ctx) (A : Ar) (c : Bool) (s : St) (T : TypeId) (x : Operand) (k : PV → List En → Prop) : Prop := match isArr C T, isBx (unc (opd C s.env x)) with
 | true, true => opLoadA C A c s T x k
 | _, _ => opLoad' C A c s T x k
theorem A0c {C : Ctx} {A : Ar} (hA : A = std) (hC : C.OK) {o : Oper} {ow c : Bool} {s : St} {T : TypeId} {x : Operand} (ho : o.op = .load T x) : Snd C o ow c s (opLoad2 C A c s T x) := by
 intro k h
 unfold opLoad2 at h
 split at h
 ·exact opLoadA_ok hA hC ho k h
 ·exact opLoad'_ok hA hC ho k h
def opStore2 (C : Ctx) (A : Ar) (ow c : Bool) (s : St) (T : TypeId) (x y : Operand) (k : PV → List En → Prop) : Prop := match isArr C T with
 | true => opStoreA C A ow c s T x y k
 | false => opStore' C A ow c s T x y k
theorem Axo {C : Ctx} {A : Ar} (hA : A = std) (hC : C.OK) {o : Oper} {ow c : Bool} {s : St} {T : TypeId} {x y : Operand} (ho : o.op = .store T x y) : Snd C o ow c s (opStore2 C A ow c s T x y) := by
 intro k h
 unfold opStore2 at h
 split at h
 ·exact opStoreA_ok hA hC ho k h
 ·exact opStore'_ok hA hC ho k h
def opIdxA2 (C : Ctx) (A : Ar) (c : Bool) (s : St) (T : TypeId) (x i : Operand) (k : PV → List En → Prop) : Prop := match isArr C T with
 | true => opIdxAA C A c s T x i k
 | false => opIdxA' C A c s T x i k
theorem A0d {C : Ctx} {A : Ar} (hA : A = std) (hC : C.OK) {o : Oper} {ow c : Bool} {s : St} {T : TypeId} {x i : Operand} (ho : o.op = .indexAddr T x i) : Snd C o ow c s (opIdxA2 C A c s T x i) := by
 intro k h
 unfold opIdxA2 at h
 split at h
 ·exact opIdxAA_ok hA hC ho k h
 ·exact opIdxA'_ok hA hC ho k h
def opCut2 (C : Ctx) (A : Ar) (c : Bool) (s : St) (T : TypeId) (x : Operand) (lo hi : Option Operand) (k : PV → List En → Prop) : Prop := match isArr C T with
 | true => opCutA C A c s T x lo hi k
 | false => opCut' C A c s T x lo hi k
theorem A1u {C : Ctx} {A : Ar} (hA : A = std) (hC : C.OK) {o : Oper} {ow c : Bool} {s : St} {T : TypeId} {x : Operand} {lo hi : Option Operand} (ho : o.op = .slice T x lo hi none) : Snd C o ow c s (opCut2 C A c s T x lo hi) := by
 intro k h
 unfold opCut2 at h
 split at h
 ·exact opCutA_ok hA hC ho k h
 ·exact opCut'_ok hA hC ho k h
end Go.PL
namespace Go.PL
set_option linter.unusedSimpArgs false
set_option linter.unusedVariables false
set_option linter.unusedSectionVars false
open Tys (Ty U)
open Enc (sz enc dflt tb ofB toB)
open Dec (dec dok)
variable [Tys] [Enc] [Dec]
def A1v : Operand → Bool
 | .const (.bool true) => true
 | _ => false
def Axp : Operand → Bool
 | .const (.bool false) => true
 | _ => false
theorem A1w {x : Operand} (h : A1v x = true) : x = .const (.bool true) := by
 unfold A1v at h; split at h <;> simp_all
theorem A0e {x : Operand} (h : Axp x = true) : x = .const (.bool false) := by
 unfold Axp at h; split at h <;> simp_all
def opPick (C : Ctx) (A : Ar) (c : Bool) (s : St) (x a b : Operand) (k : PV → List En → Prop) : Prop :=
 match A1v a with
 | true => opOr C A c s x b k
 | false => match Axp b with
  | true => opAnd C A c s x a k
  | false => False
def Avf (C : Ctx) (A : Ar) (c : Bool) (s : St) (S T : TypeId) (x : Operand) (k : PV → List En → Prop) : Prop :=
 match C.ti S, C.ti T with
 | some ⟨.ptr _, _, _, _⟩, some ⟨.uns, _, _, _⟩ => opPtrConv C c s S T x k
 | some ⟨.uns, _, _, _⟩, some ⟨.ptr _, _, _, _⟩ => opPtrConv C c s S T x k
 | some ⟨.string, _, _, _⟩, some ⟨.slice _, _, _, _⟩ => opS2B C A c s S T x k
 | some ⟨.slice _, _, _, _⟩, some ⟨.string, _, _, _⟩ => opB2S C A c s S T x k
 | some _, some ⟨.int _, _, _, _⟩ => opConv C A c s S T x k
 | some _, some ⟨.string, _, _, _⟩ => opS2S C c s S T x k
 | _, _ => False
def A4k (C : Ctx) (A : Ar) (ow c : Bool) (s : St) (o : Oper) (cl : Call) (k : PV → List En → Prop) : Prop :=
 match cl.callee with
 | .value (.func f) => callF C c ow s o f cl.args.toList k
 | .value x => callV C c ow s o x cl.args.toList k
 | .builtin .len => match cl.args.toList, cl.argTypes.toList with
  | [x], [T] => opLen' C A c s T x k
  | _, _ => False
 | .builtin .append => match cl.args.toList, cl.argTypes.toList with
  | [x, y], [T, T2] => opApp' C A ow c s o.dst T T2 x y k
  | _, _ => False
 | .builtin .copy => match cl.args.toList, cl.argTypes.toList with
  | [x, y], [T, _] => A1q C A ow c s T x y k
  | _, _ => False
 | .builtin .clear => match cl.args.toList, cl.argTypes.toList with
  | [x], [T] => Axj C A ow c s T x k
  | _, _ => False
 | .builtin .min => match cl.args.toList with
  | [x, y] => opMM C A c s false x y k
  | _ => False
 | .builtin .max => match cl.args.toList with
  | [x, y] => opMM C A c s true x y k
  | _ => False
 | _ => False
def opK (C : Ctx) (A : Ar) (ow c : Bool) (s : St) (o : Oper) (k : PV → List En → Prop) : Prop := match o.op with
 | .move x => Ay7 C c s x k
 | .assign x => A1n C A ow c s o x k
 | .pick x a b => opPick C A c s x a b k
 | .alloc T => opAlloc2 C A ow s o.dst T k
 | .box T x => opBox2 C A ow c s o.dst T x k
 | .load T x => opLoad2 C A c s T x k
 | .store T x y => opStore2 C A ow c s T x y k
 | .fieldAddr T x f => opField' C c s T x f k
 | .indexAddr T x i => opIdxA2 C A c s T x i k
 | .index T x i => opIdx C A c s T x i k
 | .extract x j => opExt C c s x j k
 | .unOp op _ x => opUn C A c s op x k
 | .binOp .eql T x y _ => opEq C A c s .eql T x y k
 | .binOp .neq T x y _ => opEq C A c s .neq T x y k
 | .binOp op _ x y _ => opBin C A c s op x y k
 | .makeFunc f a b => opFn C c s f a b k
 | .nilCheck x => opNil C c s x k
 | .slice T x lo hi none => opCut2 C A c s T x lo hi k
 | .convert S T x => Avf C A c s S T x k
 | .build T ps => Azj C A c s T ps k
 | .buildSlice T n ps => opLit C A ow c s o.dst T n ps k
 | .call cl => A4k C A ow c s o cl k
 | .lookup T x i ok => Ats C A c s T x i ok k
 | .insert T x i y => Att C A c ow s T x i y k
 | .mapUpdate T x i y => Axf C A c ow s T x i y k
 | .makeMap _ r => opMakeMap C ow s o.dst r k
 | .field T x f => opFieldV C c s T x f k
 | .range T x => opRange C ow c s o.dst T x k
 | .entry x => A1d C c s x k
 | _ => False
theorem toArr {α : Type} {a : Array α} {l : List α} (h : a.toList = l) : a = l.toArray := by rw [← h]
theorem A5g {C : Ctx} {A : Ar} (hA : A = std) (hC : C.OK) {o : Oper} {ow c : Bool} {s : St} : SndW C o ow c s (opK C A ow c s o) := by
 intro k h
 unfold opK at h
 split at h
 ·rename_i x ho; exact (opMove_ok (.inl ho)).w k h
 ·rename_i x ho; exact (opNone_ok hA ho).w k h
 ·rename_i x a b ho
  unfold opPick at h
  split at h
  ·rename_i ht
   rw [A1w ht] at ho
   exact (A4q hA ho).w k h
  ·split at h
   ·rename_i hf
    rw [A0e hf] at ho
    exact (A3f hA ho).w k h
   ·exact h.elim
 ·rename_i T ho; exact Axn hA hC ho k h
 ·rename_i T x ho; exact (A1t ho).w k h
 ·rename_i T x ho; exact (A0c hA hC ho).w k h
 ·rename_i T x y ho; exact (Axo hA hC ho).w k h
 ·rename_i T x f ho; exact (Axk hC ho).w k h
 ·rename_i T x i ho; exact (A0d hA hC ho).w k h
 ·rename_i T x i ho; exact (A3g hA hC ho).w k h
 ·rename_i x j ho; exact (A3h ho).w k h
 ·rename_i op T x ho; exact (A4s hA ho).w k h
 ·rename_i T x y T' ho; exact (A1b hA hC ho).w k h
 ·rename_i T x y T' ho; exact (A1b hA hC ho).w k h
 ·rename_i op T x y T' _ _ ho; exact (Ato hA ho).w k h
 ·rename_i f a b ho; exact (A4t ho).w k h
 ·rename_i x ho; exact (A3i ho).w k h
 ·rename_i T x lo hi ho; exact (A1u hA hC ho).w k h
 ·rename_i S T x ho
  unfold Avf at h
  split at h
  ·exact (Apd hC ho).w k h
  ·exact (Apd hC ho).w k h
  ·exact (A3k hA hC ho).w k h
  ·exact (A3l hA hC ho).w k h
  ·rename_i hS _; exact (A03 hA hC ⟨_, by assumption⟩ ho).w k h
  ·exact (A3o hC ho).w k h
  ·exact h.elim
 ·rename_i T ps ho; exact (Axm hA hC ho).w k h
 ·rename_i T n ps ho; exact (A3j hA hC ho).w k h
 ·rename_i cl ho
  unfold A4k at h
  obtain ⟨callee, ar, at'⟩ := cl
  split at h
  ·rename_i f hcal
   simp only at hcal; subst hcal
   exact callF_ok ho k h
  ·rename_i x _ hcal
   simp only at hcal; subst hcal
   exact callV_ok ho k h
  ·rename_i hcal
   simp only at hcal; subst hcal
   split at h
   ·rename_i x T h1 h2
    simp only at h1 h2
    rw [toArr h1, toArr h2] at ho
    exact (A1o hA hC ho).w k h
   ·exact h.elim
  ·rename_i hcal
   simp only at hcal; subst hcal
   split at h
   ·rename_i x y T T2 h1 h2
    simp only at h1 h2
    rw [toArr h1, toArr h2] at ho
    exact (A1p hA hC ho).w k h
   ·exact h.elim
  ·rename_i hcal
   simp only at hcal; subst hcal
   split at h
   ·rename_i x y T T2 h1 h2
    simp only at h1 h2
    rw [toArr h1, toArr h2] at ho
    exact (A1r hA hC ho).w k h
   ·exact h.elim
  ·rename_i hcal
   simp only at hcal; subst hcal
   split at h
   ·rename_i x T h1 h2
    simp only at h1 h2
    rw [toArr h1, toArr h2] at ho
    exact (A0b hA hC ho).w k h
   ·exact h.elim
  ·rename_i hcal
   simp only at hcal; subst hcal
   split at h
   ·rename_i x y h1
    simp only at h1
    rw [toArr h1] at ho
    exact (A3m hA ho).w k h
   ·exact h.elim
  ·rename_i hcal
   simp only at hcal; subst hcal
   split at h
   ·rename_i x y h1
    simp only at h1
    rw [toArr h1] at ho
    exact (A3n hA ho).w k h
   ·exact h.elim
  ·exact h.elim
 ·rename_i T x i ok ho; exact (Axd hA hC ho).w k h
 ·rename_i T x i y ho; exact (Axe hA hC ho).w k h
 ·rename_i T x i y ho; exact (Asf hA hC ho).w k h
 ·rename_i T r ho; exact (Avc ho).w k h
 ·rename_i T x f ho; exact (Axg hC ho).w k h
 ·rename_i T x ho; exact (A0a hC ho).w k h
 ·rename_i x ho; exact (opEntry_ok hC ho).w k h
 ·exact h.elim
def guard (C : Ctx) (A : Ar) (ops : Array Oper) (s : St) (g : Option (Nat × Bool)) (k : Bool → Bool → Bool → Prop) : Prop := match g with
 | none => k true true false
 | some (j, want) => match ops[j]? with
  | some oj => match oj.dst with
   | some t => match get s.env t with
    | .d (.v (.bool b)) => match C.fz (t + 196608) with
     | true => match want with
      | true => match b with
       | true => k true true false
       | false => k false false true
      | false => match b with
       | true => k false false true
       | false => k true true false
     | false => k false (match want with | true => b | false => A.not b) false
    | .cond c' (.d (.v (.bool b))) => k false (A.and c' (match want with | true => b | false => A.not b)) false
    | _ => False
   | none => False
  | none => False
theorem A3t {A : Ar} (hA : A = std) {ops : Array Oper} {s : St} {o : Oper} {C : Ctx} {k : Bool → Bool → Bool → Prop} (h : guard C A ops s o.guard k) :
  ∃ ow c sk, k ow c sk ∧ (ow = true → c = true) ∧ (sk = true → c = false ∧ ow = false) ∧ ∀ (a : Act) (μ : Nmap) (w : World) (Z : Nat → Nat → Prop), (∀ i ∈ o.looksAt ops, RP μ w Z (a.tmps.getD i undef) (get s.env i)) → Region.wanted o (yielded ops a.tmps) = c := by
 subst hA
 unfold guard at h
 split at h
 ·rename_i hg
  exact ⟨true, true, false, h, fun _ => rfl, (fun h => by cases h), fun a μ w Z _ => by simp [Region.wanted, hg]⟩
 ·rename_i j want hg
  split at h
  ·rename_i oj hj
   split at h
   ·rename_i t ht
    have hin : t ∈ o.looksAt ops := by simp [Oper.looksAt, hg, hj, ht]
    -- what the guard's slot says
    have hy : ∀ (a : Act), yielded ops a.tmps j = (match a.tmps[t]? with | some (.bool b) => some b | _ => none) := by
     intro a; simp [yielded, hj, ht]; rfl
    have hslot : ∀ (a : Act) (v : Value), a.tmps.getD t undef = v → v ≠ undef → a.tmps[t]? = some v := by
     intro a v h1 h2
     rw [Array.getD_eq_getD_getElem?] at h1
     cases h3 : a.tmps[t]? with
     | none => simp [h3] at h1; exact absurd h1.symm h2
     | some x => simp [h3] at h1; rw [h1]
    split at h
    ·rename_i b hb
     have hval : ∀ (a : Act) (μ : Nmap) (w : World) (Z : Nat → Nat → Prop), (∀ i ∈ o.looksAt ops, RP μ w Z (a.tmps.getD i undef) (get s.env i)) → Region.wanted o (yielded ops a.tmps) = cond want b (!b) := by
      intro a μ w Z hr
      have h1 := hr t hin
      rw [hb] at h1
      have h2 := hslot a _ h1.val (by simp [undef])
      simp only [Region.wanted, hg, hy, h2]
      cases want <;> cases b <;> rfl
     split at h
     ·cases want <;> cases b
      ·exact ⟨true, true, false, h, fun _ => rfl, (fun h => by cases h), hval⟩
      ·exact ⟨false, false, true, h, (fun h => by cases h), fun _ => ⟨rfl, rfl⟩, hval⟩
      ·exact ⟨false, false, true, h, (fun h => by cases h), fun _ => ⟨rfl, rfl⟩, hval⟩
      ·exact ⟨true, true, false, h, fun _ => rfl, (fun h => by cases h), hval⟩
     ·exact ⟨false, _, false, h, (fun h => by cases h), (fun h => by cases h), fun a μ w Z hr => (hval a μ w Z hr).trans (by cases want <;> rfl)⟩
    ·rename_i c' b hb
     refine ⟨false, _, false, h, (fun h => by cases h), (fun h => by cases h), fun a μ w Z hr => ?_⟩
     have h1 := hr t hin
     rw [hb] at h1
     generalize hx : a.tmps.getD t undef = x at h1
     cases h1 with
     | cond _ _ _ h3 h4 =>
      cases hc : c' with
      | true =>
       have h5 := (h3 hc).val
       subst h5
       have h2 := hslot a _ hx (by simp [undef])
       simp only [Region.wanted, hg, hy, h2]
       cases want <;> cases b <;> rfl
      | false =>
       have h5 := h4 hc
       subst h5
       have h6 : ∀ bb, a.tmps[t]? ≠ some (.bool bb) := by
        intro bb h7
        rw [Array.getD_eq_getD_getElem?, h7] at hx
        simp [undef] at hx
       have h8 : yielded ops a.tmps j = none := by
        rw [hy]
        split
        ·rename_i bb h9; exact absurd h9 (h6 bb)
        ·rfl
       simp only [Region.wanted, hg, h8]
       cases want <;> cases b <;> rfl
    ·exact h.elim
   ·exact h.elim
  ·exact h.elim
def splitB (C : Ctx) (dst : Option Nat) (p : PV) (k : PV → Prop) : Prop := match dst with
 | some d => match C.fz (d + 196608) with
  | true => match p with
   | .d (.v (.bool b)) => selB b (k (bl true)) (k (bl false))
   | p => k p
  | false => k p
 | none => k p
theorem A1x {C : Ctx} {dst : Option Nat} {p : PV} {k : PV → Prop} (h : splitB C dst p k) : k p := by
 unfold splitB at h
 split at h
 ·split at h
  ·split at h
   ·rename_i b; cases b <;> exact h
   ·exact h
  ·exact h
 ·exact h
def putE (dst : Option Nat) (v : PV) (env : List (Nat × PV)) : List (Nat × PV) := match dst with
 | none => env
 | some d => (d, v) :: env
def slotV (ow c : Bool) (v : PV) : PV := match ow with
 | true => v
 | false => .cond c v
end Go.PL
namespace Go.PL
set_option linter.unusedSimpArgs false
set_option linter.unusedVariables false
set_option linter.unusedSectionVars false
open Tys (Ty U)
open Enc (sz enc dflt tb ofB toB)
open Dec (dec dok)
variable [Tys] [Enc] [Dec]
def Ape (C : Ctx) (A : Ar) (ops : Array Oper) : List Oper → St → List (List Nat × Bool) → (St → List (List Nat × Bool) → Prop) → Prop
 | [], s, fs, k => k s fs
 | o :: os, s, fs, k => guard C A ops s o.guard fun ow c sk => match sk with
  | true => Ape C A ops os ⟨putE o.dst (slotV ow c (bl false)) s.env, s.sto, s.gen⟩ (foot C s.env s.sto o :: fs) k
  | false => opK C A ow c s o fun v sto' => splitB C o.dst (slotV ow c v) fun p =>
   Ape C A ops os ⟨putE o.dst p s.env, sto', s.gen⟩ (foot C s.env s.sto o :: fs) k
structure Rc where
 o : Oper
 env : List (Nat × PV)
 sto : List En
 fp : Mem
 fp' : Mem
 v : PV
def Avg (C : Ctx) (ops : Array Oper) (gen i : Nat) (r : Rc) : Prop :=
 ∀ (μ : Nmap) (w : World) (Z : Nat → Nat → Prop) (a : Act), GI C μ w Z → (∀ t ∈ r.o.looksAt ops, RP μ w Z (a.tmps.getD t undef) (get r.env t)) → WR μ r.fp Z w → Fr r.o.dst μ gen →
  ∀ (ro : Option Nat) (K : Act → World → Prop) (Q : Exit → Act → World → Prop),
   (∀ val w' μ' Z', RP μ' w' Z' val r.v → WR μ' r.fp' Z' w' → Adv μ r.fp Z w μ' r.fp' Z' w' → (∀ k g, ¬ (dn r.o.dst k ∧ g = gen) → μ' k g = μ k g) → K (a.put r.o.dst val) w') → wpOpIn (Fq ro) 0 C.P ops Q i K a w
def Avh (C : Ctx) (r : Rc) : Prop :=
 (∀ k g, r.fp k g ≠ none ∨ r.fp' k g ≠ none → k ∈ (foot C r.env r.sto r.o).1) ∧ ((foot C r.env r.sto r.o).2 = true → r.fp = r.fp')
def envs : List Rc → List (Nat × PV) → List (Nat × PV)
 | [], e => e
 | r :: l, e => envs l (putE r.o.dst r.v e)
def Chain : Mem → List Rc → Mem → Prop
 | m, [], m' => m' = m
 | m, r :: l, m' => (∀ k g c, r.fp k g = some c → m k g = some c) ∧ Chain (mput m r.fp r.fp') l m'
theorem A1y {C : Ctx} {ops : Array Oper} {o : Oper} {env : List (Nat × PV)} {μ : Nmap} {w : World} {Z : Nat → Nat → Prop} {a : Act} (hg : GI C μ w Z) (h : ∀ t ∈ o.looksAt ops, RP μ w Z (a.tmps.getD t undef) (get env t))
  {x : Operand} (hx : x ∈ o.op.operands) : RP μ w Z (a.eval x) (opd C env x) := by
 cases x with
 | tmp t =>
  refine h t ?_
  simp only [Oper.looksAt, List.mem_append, List.mem_filterMap]
  exact .inl ⟨.tmp t, by simpa using hx, rfl⟩
 | const v =>
  cases v <;> simp only [opd, cst, Act.eval] <;> first | exact RP.ofVal .. | skip
  ·rename_i cs
   have := RPs.vals μ w Z cs.toList
   have h2 := RP.ag (μ := μ) (w := w) (Z := Z) _ _ this.1 this.2
   simpa using h2
  ·rename_i cs
   have := RPs.vals μ w Z cs.toList
   have h2 := RP.tu (μ := μ) (w := w) (Z := Z) _ _ this.1 this.2
   simpa using h2
 | global g =>
  simp only [opd, Act.eval]
  cases hgt : C.gt g with
  | none => exact .any _
  | some ds => exact (hg g ds hgt).rp
 | func f => exact RP.ofVal ..
theorem Ano {C : Ctx} {A : Ar} (hA : A = std) (hC : C.OK) {ops : Array Oper} : ∀ (os pre : List Oper) (s : St) (fs : List (List Nat × Bool)) (k : St → List (List Nat × Bool) → Prop), ops.toList = pre ++ os → Ape C A ops os s fs k →
  ∃ (rs : List Rc) (s' : St), k s' ((rs.map fun r => foot C r.env r.sto r.o).reverse ++ fs) ∧ rs.map (·.o) = os ∧ s'.gen = s.gen ∧ Chain (den s.sto) rs (den s'.sto) ∧ s'.env = envs rs s.env ∧
   ∀ i r, rs[i]? = some r → Avg C ops s.gen (pre.length + i) r ∧ r.env = envs (rs.take i) s.env ∧ Avh C r
 | [], pre, s, fs, k, _, h => ⟨[], s, h, rfl, rfl, rfl, rfl, fun i r hr => by simp at hr⟩
 | o :: os, pre, s, fs, k, hops, h => by
  have hget : ops[pre.length]? = some o := by
   have : ops.toList[pre.length]? = some o := by rw [hops]; simp
   simpa using this
  simp only [Ape] at h
  obtain ⟨ow, c, sk, h, how, hsk, hc⟩ := A3t hA h
  obtain ⟨v, sto', h, hop, hsto⟩ : ∃ v sto', Ape C A ops os ⟨putE o.dst (slotV ow c v) s.env, sto', s.gen⟩ (foot C s.env s.sto o :: fs) k ∧ (c = true → OpW C o s v sto') ∧ (ow = false → sto' = s.sto) := by
   cases sk with
   | true => exact ⟨_, _, h, ⟨fun h2 => absurd h2 (by rw [(hsk rfl).1]; decide), fun _ => rfl⟩⟩
   | false =>
    obtain ⟨v, sto', h, hop, hsto⟩ := A5g hA hC _ h
    exact ⟨v, sto', A1x h, hop, hsto⟩
  obtain ⟨rs, s', h1, h2, h3, h4, h5, h6⟩ := Ano hA hC os (pre ++ [o]) _ _ k (by rw [hops]; simp) h
  -- the record of this operation
  obtain ⟨r, hro, ⟨hrenv, hrsto⟩, hrv, hsub, hden, hstep, hfoot⟩ : ∃ r : Rc, r.o = o ∧ (r.env = s.env ∧ r.sto = s.sto) ∧ r.v = slotV ow c v ∧ (∀ k g c, r.fp k g = some c → den s.sto k g = some c) ∧ den sto' = mput (den s.sto) r.fp r.fp' ∧
    Avg C ops s.gen pre.length r ∧ Avh C r := by
   cases hcv : c with
   | true =>
    obtain ⟨fp, fp', ht, hsub, hden, hf1, hf2⟩ := hop hcv
    refine ⟨⟨o, s.env, s.sto, fp, fp', slotV ow true v⟩, rfl, ⟨rfl, rfl⟩, rfl, hsub, hden, ?_, hf1, hf2⟩
    intro μ w Z a hg hl hw hfr ro K Q hk
    unfold wpOpIn
    rw [hget]
    simp only
    rw [hc a μ w Z hl, hcv, if_pos rfl]
    refine ht μ w Z a hg (fun x hx => A1y hg hl hx) hw hfr ro K Q fun val w' μ' Z' h7 h8 h9 h10 => hk val w' μ' Z' ?_ h8 h9 h10
    cases ow with
    | true => exact h7
    | false => exact .cond _ _ _ (fun _ => h7) (fun h => by cases h)
   | false =>
    have how' : ow = false := by
     cases hw : ow with
     | false => rfl
     | true => rw [how hw] at hcv; cases hcv
    have hs' := hsto how'
    refine ⟨⟨o, s.env, s.sto, emp, emp, slotV ow false v⟩, rfl, ⟨rfl, rfl⟩, rfl, fun k g c h => by simp [emp] at h, by rw [hs', Ala], ?_, fun k g h => by simp [emp] at h, fun _ => rfl⟩
    intro μ w Z a hg hl hw hfr ro K Q hk
    unfold wpOpIn
    rw [hget]
    simp only
    rw [hc a μ w Z hl, hcv, if_neg (by simp)]
    refine ⟨fun _ _ => trivial, hk undef w μ Z ?_ hw .refl (fun _ _ _ => rfl)⟩
    rw [how']
    exact .cond _ _ _ (fun h => by cases h) (fun _ => rfl)
  refine ⟨r :: rs, s', ?_, by simp [hro, h2], h3, ⟨hsub, by rw [← hden]; exact h4⟩, by simp only [envs, hro, hrv]; exact h5, fun i q hq => ?_⟩
  ·simp only [List.map_cons, List.reverse_cons, List.append_assoc, List.singleton_append, hro, hrenv, hrsto]
   exact h1
  ·cases i with
   | zero => simp at hq; subst hq; exact ⟨hstep, by simp [envs, hrenv], hfoot⟩
   | succ i =>
    obtain ⟨h7, h8, h9⟩ := h6 i q (by simpa using hq)
    refine ⟨?_, ?_, h9⟩
    ·have e : pre.length + (i + 1) = (pre ++ [o]).length + i := by simp; omega
     rw [e]; exact h7
    ·rw [h8]; simp only [List.take_succ_cons, envs, hro, hrv]
structure RelR (C : Ctx) (n : Nat) (e : Nat → PV) (m : Mem) (gen : Nat) (ds : List Nat) (μ : Nmap) (Z : Nat → Nat → Prop) (a : Act) (w : World) (dl : List Deferred := []) : Prop where
 size : a.tmps.size = n
 env : ∀ i, RP μ w Z (a.tmps.getD i undef) (e i)
 df : a.defers = dl
 wr : WR μ m Z w
 gi : GI C μ w Z
 fr : ∀ d ∈ ds, d < 65536 ∧ ∀ k, k % 65536 = d → μ k gen = none
 bd : ∀ k g, gen < g → μ k g = none
def dsts (os : List Oper) : List Nat := os.filterMap (·.dst)
theorem Agn {a : Act} {d : Nat} {v : Value} (hd : d < a.tmps.size) (i : Nat) : (a.put (some d) v).tmps.getD i undef = if i = d then v else a.tmps.getD i undef := by
 simp only [Act.put, Array.getD_eq_getD_getElem?, Array.getElem?_setIfInBounds]
 by_cases h : d = i
 ·subst h; simp [hd]
 ·have : ¬ i = d := fun e => h e.symm
  simp [h, this]
theorem RelR.step {dl : List Deferred} {C : Ctx} {n : Nat} {ops : Array Oper} {e : Nat → PV} {m : Mem} {gen i : Nat} {ds : List Nat} {μ : Nmap} {Z : Nat → Nat → Prop} {a : Act} {w : World} {r : Rc} (h : RelR C n e m gen ds μ Z a w dl) (hs : Avg C ops gen i r)
  (hsub : ∀ k g c, r.fp k g = some c → m k g = some c) (hl : ∀ t ∈ r.o.looksAt ops, get r.env t = e t) (hd : ∀ d, r.o.dst = some d → d < n ∧ d ∈ ds) {ds' : List Nat} (hds : ∀ d ∈ ds', d ∈ ds ∧ r.o.dst ≠ some d)
  {ro : Option Nat} {K : Act → World → Prop} {Q : Exit → Act → World → Prop}
  (hk : ∀ μ' Z' a' w', RelR C n (fun t => if r.o.dst = some t then r.v else e t) (mput m r.fp r.fp') gen ds' μ' Z' a' w' dl → Adv μ m Z w μ' (mput m r.fp r.fp') Z' w' → (∀ j, r.o.dst ≠ some j → a'.tmps.getD j undef = a.tmps.getD j undef) → K a' w') : wpOpIn (Fq ro) 0 C.P ops Q i K a w := by
 refine hs μ w Z a h.gi (fun t ht => by rw [hl t ht]; exact h.env t) ?_ (fun d hd' => h.fr d (hd d hd').2) ro K Q fun val w' μ' Z' h1 h2 h3 h4 => ?_
 ·exact ⟨fun k g c hh => h.wr.ent k g c (hsub k g c hh), fun k g k' g' c c' b h1 h2 => h.wr.dis k g k' g' c c' b (hsub _ _ _ h1) (hsub _ _ _ h2), h.wr.zlt⟩
 ·obtain ⟨h5, h6⟩ := Amq h.wr hsub h2 h3
  have hother : ∀ j, r.o.dst ≠ some j → (a.put r.o.dst val).tmps.getD j undef = a.tmps.getD j undef := by
   intro j hj
   cases hdst : r.o.dst with
   | none => simp [Act.put]
   | some d =>
    rw [Agn (by rw [h.size]; exact (hd d hdst).1)]
    have : ¬ j = d := by intro e; subst e; exact hj hdst
    simp [this]
  refine hk μ' Z' _ w' ⟨?_, fun t => ?_, ?_, h5, fun g dd hg => (h.gi g dd hg).adv h6, fun d hd' => ?_, fun k g hg => ?_⟩ h6 hother
  ·cases hdst : r.o.dst <;> simp [Act.put, h.size]
  ·by_cases ht : r.o.dst = some t
   ·simp only [ht, if_true]
    rw [Agn (by rw [h.size]; exact (hd t ht).1)]
    simpa using h1
   ·simp only [ht, if_false]
    rw [hother t ht]
    exact (h.env t).adv h6
  ·cases hdst : r.o.dst <;> simp [Act.put, h.df]
  ·obtain ⟨h7, h8⟩ := h.fr d (hds d hd').1
   refine ⟨h7, fun k hkd => ?_⟩
   rw [h4 k gen (fun ⟨e, _⟩ => (hds d hd').2 (by rw [← hkd]; exact e))]
   exact h8 k hkd
  ·rw [h4 k g (fun ⟨_, e⟩ => by omega)]
   exact h.bd k g hg
theorem Atz (dst : Option Nat) (v : PV) (env : List (Nat × PV)) (t : Nat) : get (putE dst v env) t = if dst = some t then v else get env t := by
 cases dst with
 | none => simp [putE]
 | some d => simp [putE, get]
theorem seq_ok {dl : List Deferred} {ro : Option Nat} {C : Ctx} {n : Nat} {ops : Array Oper} {gen : Nat} : ∀ (rs : List Rc) (pre : Nat) (env : List (Nat × PV)) (m m' : Mem) (μ : Nmap) (Z : Nat → Nat → Prop) (a : Act) (w : World) (Q : Exit → Act → World → Prop),
  (∀ i r, rs[i]? = some r → Avg C ops gen (pre + i) r ∧ r.env = envs (rs.take i) env) → Chain m rs m' → (dsts (rs.map (·.o))).Nodup → (∀ d ∈ dsts (rs.map (·.o)), d < n) →
  RelR C n (get env) m gen (dsts (rs.map (·.o))) μ Z a w dl →
  (∀ μ' Z' a' w', RelR C n (get (envs rs env)) m' gen [] μ' Z' a' w' dl → Adv μ m Z w μ' m' Z' w' → (∀ j, j ∉ dsts (rs.map (·.o)) → a'.tmps.getD j undef = a.tmps.getD j undef) → Q .normal a' w') →
  wpOpsIn (Fq ro) 0 C.P ops Q (List.range' pre rs.length) a w
 | [], pre, env, m, m', μ, Z, a, w, Q, _, hch, _, _, hr, hq => by
  have hch' : m' = m := hch
  subst hch'
  exact hq μ Z a w hr .refl fun _ _ => rfl
 | r :: rs, pre, env, m, m', μ, Z, a, w, Q, hstep, hch, hnd, hlt, hr, hq => by
  obtain ⟨hsub, hch⟩ := hch
  obtain ⟨hs, he⟩ := hstep 0 r rfl
  simp only [List.take_zero, envs] at he
  have hds : dsts ((r :: rs).map (·.o)) = r.o.dst.toList ++ dsts (rs.map (·.o)) := by
   simp only [dsts, List.map_cons, List.filterMap_cons]; cases r.o.dst <;> rfl
  rw [hds] at hnd hlt hr
  have hnd' := (List.nodup_append.1 hnd).2.1
  rw [List.length_cons, List.range'_succ, wpOpsIn_cons]
  refine hr.step (by simpa using hs) hsub (fun t _ => by rw [he]) (fun d hd => ⟨hlt d (by simp [hd]), by simp [hd]⟩) (ds' := dsts (rs.map (·.o))) (fun d hd => ⟨by simp [hd], fun e => ?_⟩) fun μ' Z' a' w' h1 h2 h3 => ?_
  ·rw [e] at hnd
   simp at hnd
   exact hnd.1 hd
  ·have h1' : RelR C n (get (putE r.o.dst r.v env)) (mput m r.fp r.fp') gen (dsts (rs.map (·.o))) μ' Z' a' w' dl :=
    ⟨h1.size, fun t => by rw [Atz]; exact h1.env t, h1.df, h1.wr, h1.gi, h1.fr, h1.bd⟩
   refine seq_ok rs (pre + 1) (putE r.o.dst r.v env) _ m' μ' Z' a' w' Q (fun i q hq => ?_) hch hnd' (fun d hd => hlt d (by simp [hd])) h1' fun μ2 Z2 a2 w2 h4 h5 h6 => hq μ2 Z2 a2 w2 h4 (h2.trans h5) fun j hj => ?_
   ·obtain ⟨h7, h8⟩ := hstep (i + 1) q (by simpa using hq)
    refine ⟨by rw [Nat.add_assoc, Nat.add_comm 1 i]; exact h7, by rw [h8]; simp only [List.take_succ_cons, envs]⟩
   ·rw [hds] at hj
    rw [h6 j (fun h => hj (by simp [h])), h3 j (fun e => hj (by simp [e]))]
end Go.PL
namespace Go.PL
set_option linter.unusedSimpArgs false
set_option linter.unusedVariables false
set_option linter.unusedSectionVars false
open Tys (Ty U)
open Enc (sz enc dflt tb ofB toB)
open Dec (dec dok)
variable [Tys] [Enc] [Dec]
def ons (o : Oper) : List Nat := o.after.toList.filterMap fun e => if Region.binds .any e then some e.on else none
theorem A1z {o : Oper} {j : Nat} : j ∈ ons o ↔ ∃ e ∈ o.after, Region.binds .any e = true ∧ e.on = j := by
 simp only [ons, List.mem_filterMap, Array.mem_toList_iff]
 constructor
 ·rintro ⟨e, h1, h2⟩
  split at h2
  ·rename_i h3; simp at h2; exact ⟨e, h1, h3, h2⟩
  ·cases h2
 ·rintro ⟨e, h1, h2, h3⟩
  exact ⟨e, h1, by simp [h2, h3]⟩
def befs : List Oper → List (List Nat) → List (List Nat)
 | [], acc => acc
 | o :: os, acc => befs os (acc ++ [ons o ++ (ons o).flatMap fun j => acc.getD j []])
theorem A10 (all : List Oper) (S : Nat → Prop) (hS : ∀ (j : Nat) (o : Oper), all[j]? = some o → S j → ∀ e ∈ ons o, S e) : ∀ (os pre : List Oper) (acc : List (List Nat)), all = pre ++ os → pre.length = acc.length →
  (∀ (j : Nat) (b : List Nat), acc[j]? = some b → ∀ o, all[j]? = some o → (∀ e ∈ ons o, S e) → ∀ k ∈ b, S k) →
  ∀ (j : Nat) (b : List Nat), (befs os acc)[j]? = some b → ∀ o, all[j]? = some o → (∀ e ∈ ons o, S e) → ∀ k ∈ b, S k
 | [], pre, acc, _, _, hi => hi
 | o :: os, pre, acc, ha, hl, hi => by
  refine A10 all S hS os (pre ++ [o]) _ (by rw [ha]; simp) (by simp [hl]) fun j b hb o' ho' he k hk => ?_
  rw [List.getElem?_append] at hb
  split at hb
  ·exact hi j b hb o' ho' he k hk
  ·rename_i hj
   have hj' : j = acc.length := by
    rcases Nat.lt_or_ge (j - acc.length) 1 with h | h
    ·omega
    ·rw [List.getElem?_eq_none (by simpa using h)] at hb; cases hb
   subst hj'
   simp at hb; subst hb
   have : all[acc.length]? = some o := by rw [ha, ← hl]; simp
   rw [this] at ho'; obtain rfl := Option.some.inj ho'
   simp only [List.mem_append, List.mem_flatMap] at hk
   rcases hk with hk | ⟨m, hm, hk⟩
   ·exact he k hk
   ·try rw [List.getD_eq_getElem?_getD] at hk
    cases hq : acc[m]? with
    | none => simp [hq] at hk
    | some bm =>
     simp [hq] at hk
     have hlt : m < acc.length := by
      rcases Nat.lt_or_ge m acc.length with h | h
      ·exact h
      ·rw [List.getElem?_eq_none h] at hq; cases hq
     have hom : all[m]? = some (pre[m]'(by omega)) := by rw [ha, List.getElem?_append_left (by omega)]; exact List.getElem?_eq_getElem _
     exact hi m bm hq _ hom (hS m _ hom (he m hm)) k hk
def disj (a b : List Nat) : Bool := a.all fun x => !b.contains x
def At0 (ops : Array Oper) (fs : List (List Nat × Bool)) : Bool :=
 let os := ops.toList
 let bs := befs os []
 (List.range os.length).all fun i => match os[i]?, bs[i]?, fs[i]? with
  | some oi, some bi, some fi => (ons oi).all (fun j => decide (j < i)) && (List.range i).all fun k => match os[k]?, fs[k]? with
   | some ok, some fk => bi.contains k || (ok.apart ops oi && (disj fk.1 fi.1 || (fk.2 && fi.2)))
   | _, _ => false
  | _, _, _ => false
def Ind (r q : Rc) : Prop := (∀ k g, ¬ ((r.fp k g ≠ none ∨ r.fp' k g ≠ none) ∧ (q.fp k g ≠ none ∨ q.fp' k g ≠ none))) ∨ (r.fp = r.fp' ∧ q.fp = q.fp')
theorem A5h {C : Ctx} {r q : Rc} (hr : Avh C r) (hq : Avh C q) (h : (disj (foot C r.env r.sto r.o).1 (foot C q.env q.sto q.o).1 || ((foot C r.env r.sto r.o).2 && (foot C q.env q.sto q.o).2)) = true) : Ind r q := by
 rw [Bool.or_eq_true] at h
 rcases h with h | h
 ·refine .inl fun k g ⟨h1, h2⟩ => ?_
  have h3 := hr.1 k g h1
  have h4 := hq.1 k g h2
  have := List.all_eq_true.1 h k h3
  simp at this
  exact this h4
 ·rw [Bool.and_eq_true] at h
  exact .inr ⟨hr.2 h.1, hq.2 h.2⟩
theorem Avi {m fp : Mem} (h : ∀ k g c, fp k g = some c → m k g = some c) : mput m fp fp = m := by
 funext k g
 simp only [mput]
 cases hq : fp k g with
 | none => simp
 | some c => simp [h k g c hq]
theorem A11 {r q : Rc} {m : Mem} (hi : Ind r q) (hr : ∀ k g c, r.fp k g = some c → m k g = some c) (hq : ∀ k g c, q.fp k g = some c → mput m r.fp r.fp' k g = some c) :
  (∀ k g c, q.fp k g = some c → m k g = some c) ∧ (∀ k g c, r.fp k g = some c → mput m q.fp q.fp' k g = some c) ∧ mput (mput m r.fp r.fp') q.fp q.fp' = mput (mput m q.fp q.fp') r.fp r.fp' := by
 rcases hi with hi | ⟨h1, h2⟩
 ·have hq' : ∀ k g c, q.fp k g = some c → m k g = some c := by
   intro k g c h
   have h3 := hq k g c h
   have h4 : r.fp k g = none ∧ r.fp' k g = none := by
    have := hi k g
    constructor
    ·cases h5 : r.fp k g with
     | none => rfl
     | some c' => exact absurd ⟨.inl (by simp [h5]), .inl (by simp [h])⟩ this
    ·cases h5 : r.fp' k g with
     | none => rfl
     | some c' => exact absurd ⟨.inr (by simp [h5]), .inl (by simp [h])⟩ this
   simpa [mput, h4.1, h4.2] using h3
  refine ⟨hq', ?_, ?_⟩
  ·intro k g c h
   have h4 : q.fp k g = none ∧ q.fp' k g = none := by
    have := hi k g
    constructor
    ·cases h5 : q.fp k g with
     | none => rfl
     | some c' => exact absurd ⟨.inl (by simp [h]), .inl (by simp [h5])⟩ this
    ·cases h5 : q.fp' k g with
     | none => rfl
     | some c' => exact absurd ⟨.inl (by simp [h]), .inr (by simp [h5])⟩ this
   simp [mput, h4.1, h4.2, hr k g c h]
  ·funext k g
   have := hi k g
   simp only [mput]
   cases h5 : r.fp' k g <;> cases h6 : q.fp' k g <;> cases h7 : r.fp k g <;> cases h8 : q.fp k g <;> simp_all
 ·have e1 : mput m r.fp r.fp' = m := by rw [← h1]; exact Avi hr
  rw [e1] at hq
  have e2 : mput m q.fp q.fp' = m := by rw [← h2]; exact Avi hq
  rw [e1, e2]
  exact ⟨hq, hr, by rw [e1]⟩
def Avj (rs : List Rc) : Mem → List Nat → Mem → Prop
 | m, [], m' => m' = m
 | m, i :: l, m' => ∃ r, rs[i]? = some r ∧ (∀ k g c, r.fp k g = some c → m k g = some c) ∧ Avj rs (mput m r.fp r.fp') l m'
theorem Avk {rs : List Rc} : ∀ (l : List Rc) (pre : List Rc) (m m' : Mem), rs = pre ++ l → Chain m l m' → Avj rs m (List.range' pre.length l.length) m'
 | [], pre, m, m', _, h => h
 | r :: l, pre, m, m', hrs, h => by
  rw [List.length_cons, List.range'_succ]
  refine ⟨r, by rw [hrs]; simp, h.1, ?_⟩
  have := Avk (rs := rs) l (pre ++ [r]) _ m' (by rw [hrs]; simp) h.2
  simpa using this
theorem Apf {rs : List Rc} {i : Nat} {l2 : List Nat} {m' : Mem} {q : Rc} (hq : rs[i]? = some q) : ∀ (l1 : List Nat) (m : Mem), (∀ k ∈ l1, ∀ r, rs[k]? = some r → Ind r q) → Avj rs m (l1 ++ i :: l2) m' →
  (∀ k g c, q.fp k g = some c → m k g = some c) ∧ Avj rs (mput m q.fp q.fp') (l1 ++ l2) m'
 | [], m, _, h => by
  obtain ⟨r, h1, h2, h3⟩ := h
  rw [hq] at h1; obtain rfl := Option.some.inj h1
  exact ⟨h2, h3⟩
 | k :: l1, m, hi, h => by
  obtain ⟨r, h1, h2, h3⟩ := h
  obtain ⟨h4, h5⟩ := Apf hq l1 _ (fun k' hk' => hi k' (by simp [hk'])) h3
  obtain ⟨h6, h7, h8⟩ := A11 (hi k (by simp) r h1) h2 h4
  exact ⟨h6, r, h1, h7, by rw [← h8]; exact h5⟩
theorem Axq (l l' : List Rc) (e : List (Nat × PV)) : envs (l ++ l') e = envs l' (envs l e) := by
 induction l generalizing e with
 | nil => rfl
 | cons r l ih => simp only [List.cons_append, envs, ih]
theorem get_envs_none {t : Nat} : ∀ (l : List Rc) (e : List (Nat × PV)), (∀ (j : Nat) r, l[j]? = some r → r.o.dst ≠ some t) → get (envs l e) t = get e t
 | [], e, _ => rfl
 | r :: l, e, h => by
  simp only [envs]
  rw [get_envs_none l _ (fun j q hq => h (j + 1) q (by simpa using hq)), Atz, if_neg (h 0 r rfl)]
theorem Aqx {t : Nat} : ∀ (rs : List Rc), (dsts (rs.map (·.o))).Nodup → ∀ (i j : Nat) (r q : Rc), rs[i]? = some r → rs[j]? = some q → r.o.dst = some t → q.o.dst = some t → i = j
 | [], _, i, j, r, q, hi, _, _, _ => by simp at hi
 | p :: rs, hnd, i, j, r, q, hi, hj, hr, hq => by
  have hds : dsts ((p :: rs).map (·.o)) = p.o.dst.toList ++ dsts (rs.map (·.o)) := by
   simp only [dsts, List.map_cons, List.filterMap_cons]; cases p.o.dst <;> rfl
  rw [hds] at hnd
  have hmem : ∀ (n : Nat) (x : Rc), rs[n]? = some x → x.o.dst = some t → t ∈ dsts (rs.map (·.o)) := by
   intro n x hx hd
   simp only [dsts, List.mem_filterMap, List.mem_map]
   exact ⟨x.o, ⟨x, List.mem_of_getElem? hx, rfl⟩, hd⟩
  cases i with
  | zero =>
   cases j with
   | zero => rfl
   | succ j =>
    simp at hi; subst hi
    rw [hr] at hnd
    have := hmem j q (by simpa using hj) hq
    simp at hnd
    exact absurd this hnd.1
  | succ i =>
   cases j with
   | zero =>
    simp at hj; subst hj
    rw [hq] at hnd
    have := hmem i r (by simpa using hi) hr
    simp at hnd
    exact absurd this hnd.1
   | succ j =>
    have := Aqx rs (List.nodup_append.1 hnd).2.1 i j r q (by simpa using hi) (by simpa using hj) hr hq
    omega
theorem Alf {t j : Nat} {r : Rc} {rs : List Rc} (hnd : (dsts (rs.map (·.o))).Nodup) (hj : rs[j]? = some r) (hd : r.o.dst = some t) (e : List (Nat × PV)) : get (envs rs e) t = r.v := by
 have hlt : j < rs.length := by
  rcases Nat.lt_or_ge j rs.length with h | h
  ·exact h
  ·rw [List.getElem?_eq_none h] at hj; cases hj
 have hsplit : rs = rs.take j ++ r :: rs.drop (j + 1) := by
  have : rs[j] = r := by rw [List.getElem?_eq_getElem hlt] at hj; exact Option.some.inj hj
  rw [← this, ← List.drop_eq_getElem_cons hlt, List.take_append_drop]
 rw [hsplit, Axq]
 simp only [envs]
 rw [get_envs_none _ _ (fun n q hq h => ?_), Atz, if_pos hd]
 have hq' : rs[j + 1 + n]? = some q := by rw [← List.getElem?_drop]; exact hq
 have := Aqx rs hnd j (j + 1 + n) r q hj hq' hd h
 omega
def EL (rs : List Rc) (env : List (Nat × PV)) (L : List Nat) (t : Nat) : PV :=
 if (L.any fun j => ((rs[j]?).bind (·.o.dst)) == some t) = true then get env t else get (envs rs env) t
theorem A12 {rs : List Rc} {env : List (Nat × PV)} {L : List Nat} {t j : Nat} {r : Rc} (hj : j ∈ L) (hr : rs[j]? = some r) (hd : r.o.dst = some t) : EL rs env L t = get env t := by
 unfold EL
 rw [if_pos]
 rw [List.any_eq_true]
 exact ⟨j, hj, by simp [hr, hd]⟩
theorem Aqy {rs : List Rc} {env : List (Nat × PV)} {L : List Nat} {t : Nat} (h : ∀ j ∈ L, ∀ r, rs[j]? = some r → r.o.dst ≠ some t) : EL rs env L t = get (envs rs env) t := by
 unfold EL
 rw [if_neg]
 intro h1
 rw [List.any_eq_true] at h1
 obtain ⟨j, hj, h2⟩ := h1
 cases hr : rs[j]? with
 | none => simp [hr] at h2
 | some r => simp [hr] at h2; exact h j hj r hr h2
def dstsI (rs : List Rc) (L : List Nat) : List Nat := L.filterMap fun j => (rs[j]?).bind (·.o.dst)
theorem any_ok {dl : List Deferred} {ro : Option Nat} {C : Ctx} {n : Nat} {ops : Array Oper} {gen : Nat} {rs : List Rc} {env : List (Nat × PV)} {m' : Mem} (hos : rs.map (·.o) = ops.toList)
  (hstep : ∀ (i : Nat) (r : Rc), rs[i]? = some r → Avg C ops gen i r ∧ r.env = envs (rs.take i) env ∧ Avh C r) (hchk : At0 ops (rs.map fun r => foot C r.env r.sto r.o) = true)
  (hnd : (dsts (rs.map (·.o))).Nodup) (hlt : ∀ d ∈ dsts (rs.map (·.o)), d < n) (Q : Exit → Act → World → Prop) :
  ∀ (fuel : Nat) (L : List Nat) (listed : Array Bool) (m : Mem) (μ : Nmap) (Z : Nat → Nat → Prop) (a : Act) (w : World), L.length = fuel → L.Pairwise (· < ·) → (∀ i ∈ L, i < rs.length) →
   (∀ i, i < rs.length → (listed.getD i true = false ↔ i ∈ L)) → listed.size = rs.length → (∀ (j : Nat) (o : Oper), ops.toList[j]? = some o → j ∉ L → ∀ e ∈ ons o, e ∉ L) → Avj rs m L m' →
   RelR C n (EL rs env L) m gen (dstsI rs L) μ Z a w dl →
   (∀ μ' Z' a' w', RelR C n (get (envs rs env)) m' gen [] μ' Z' a' w' dl → Adv μ m Z w μ' m' Z' w' → (∀ j, j ∉ dsts (rs.map (·.o)) → a'.tmps.getD j undef = a.tmps.getD j undef) → Q .normal a' w') →
   wpAnyIn (Fq ro) 0 C.P .any ops Q fuel listed a w := by
 have hsize : ops.size = rs.length := by
  have := congrArg List.length hos
  simpa using this.symm
 have hget : ∀ (i : Nat) (r : Rc), rs[i]? = some r → ops[i]? = some r.o ∧ ops.toList[i]? = some r.o := by
  intro i r hr
  have : ops.toList[i]? = some r.o := by rw [← hos, List.getElem?_map, hr]; rfl
  exact ⟨by simpa using this, this⟩
 have hrs : ∀ i, i < rs.length → ∃ r, rs[i]? = some r := fun i hi => ⟨rs[i], List.getElem?_eq_getElem hi⟩
 -- what the check says of a pair
 have hpair : ∀ (k i : Nat) (r q : Rc), rs[k]? = some r → rs[i]? = some q → k < i → (∀ (S : Nat → Prop), (∀ (j : Nat) (o : Oper), ops.toList[j]? = some o → S j → ∀ e ∈ ons o, S e) → (∀ e ∈ ons q.o, S e) → S k) ∨
   (r.o.apart ops q.o = true ∧ Ind r q) := by
  intro k i r q hk hi hki
  have hilt : i < rs.length := by
   rcases Nat.lt_or_ge i rs.length with h | h
   ·exact h
   ·rw [List.getElem?_eq_none h] at hi; cases hi
  unfold At0 at hchk
  have h1 := List.all_eq_true.1 hchk i (by rw [List.mem_range, ← hos]; simpa using hilt)
  simp only [(hget i q hi).2, List.getElem?_map, hi, Option.map_some] at h1
  cases hb : (befs ops.toList [])[i]? with
  | none => simp [hb] at h1
  | some b =>
   simp only [hb, Bool.and_eq_true] at h1
   have h2 := List.all_eq_true.1 h1.2 k (by simpa using hki)
   simp only [(hget k r hk).2, hk, Option.map_some, Bool.or_eq_true, Bool.and_eq_true] at h2
   rcases h2 with h2 | ⟨h2, h3⟩
   ·refine .inl fun S hS hq => ?_
    exact A10 ops.toList S hS ops.toList [] [] rfl rfl (fun j b h => by simp at h) i b hb q.o (hget i q hi).2 hq k (by simpa using h2)
   ·refine .inr ⟨h2, A5h (hstep k r hk).2.2 (hstep i q hi).2.2 ?_⟩
    rw [Bool.or_eq_true, Bool.and_eq_true]; exact h3
 have hlow : ∀ (i : Nat) (q : Rc), rs[i]? = some q → ∀ e ∈ ons q.o, e < i := by
  intro i q hi e he
  have hilt : i < rs.length := by
   rcases Nat.lt_or_ge i rs.length with h | h
   ·exact h
   ·rw [List.getElem?_eq_none h] at hi; cases hi
  unfold At0 at hchk
  have h1 := List.all_eq_true.1 hchk i (by rw [List.mem_range, ← hos]; simpa using hilt)
  simp only [(hget i q hi).2, List.getElem?_map, hi, Option.map_some] at h1
  cases hb : (befs ops.toList [])[i]? with
  | none => simp [hb] at h1
  | some b =>
   simp only [hb, Bool.and_eq_true] at h1
   have := List.all_eq_true.1 h1.1 e he
   simpa using this
 -- who is ready
 have hready : ∀ (L : List Nat) (listed : Array Bool), (∀ i ∈ L, i < rs.length) → (∀ i, i < rs.length → (listed.getD i true = false ↔ i ∈ L)) → listed.size = rs.length →
   ∀ i, i ∈ Region.ready .any ops listed ↔ i ∈ L ∧ ∃ q, rs[i]? = some q ∧ ∀ e ∈ ons q.o, e < rs.length → e ∉ L := by
  intro L listed hL hlist hsz i
  rw [mem_ready]
  constructor
  ·rintro ⟨h0, o, ho, hall⟩
   have hilt : i < rs.length := by
    rw [← hsize]; exact (Array.getElem?_eq_some_iff.1 ho).1
   obtain ⟨q, hq⟩ := hrs i hilt
   have := (hget i q hq).1
   rw [ho] at this; obtain rfl := Option.some.inj this
   refine ⟨(hlist i hilt).1 h0, q, hq, fun e he hel hin => ?_⟩
   obtain ⟨ed, h1, h2, h3⟩ := A1z.1 he
   have h4 := hall ed h1 h2
   rw [h3] at h4
   have h5 := (hlist e hel).2 hin
   have hlt' : e < listed.size := by omega
   simp [Array.getD_eq_getD_getElem?, hlt'] at h4 h5
   rw [h4] at h5; cases h5
  ·rintro ⟨h0, q, hq, hall⟩
   refine ⟨(hlist i (hL i h0)).2 h0, q.o, (hget i q hq).1, fun e he hb => ?_⟩
   have hin : e.on ∈ ons q.o := A1z.2 ⟨e, he, hb, rfl⟩
   have hel : e.on < rs.length := Nat.lt_trans (hlow i q hq _ hin) (hL i h0)
   have h1 := hall _ hin hel
   have hlt' : e.on < listed.size := by omega
   have h2 : ¬ listed.getD e.on true = false := fun h => h1 ((hlist _ hel).1 h)
   simp [Array.getD_eq_getD_getElem?, hlt'] at h2 ⊢
   exact h2
 intro fuel
 induction fuel with
 | zero =>
  intro L listed m μ Z a w hlen _ hL hlist hsz _ hch hr hq
  have hnil : L = [] := List.eq_nil_of_length_eq_zero hlen
  subst hnil
  have hch' : m' = m := hch
  subst hch'
  refine ⟨?_, ?_⟩
  ·apply List.eq_nil_iff_forall_not_mem.2
   intro i hi
   have := (hready [] listed hL hlist hsz i).1 hi
   simp at this
  ·refine hq μ Z a w ⟨hr.size, fun t => ?_, hr.df, hr.wr, hr.gi, fun d hd => by simp at hd, hr.bd⟩ .refl (fun _ _ => rfl)
   have := hr.env t
   rwa [Aqy (fun j hj => by simp at hj)] at this
 | succ fuel ih =>
  intro L listed m μ Z a w hlen hsort hL hlist hsz hdown hch hr hq
  refine ⟨fun hempty => ?_, fun i hi => ?_⟩
  ·-- the first of L is ready
   cases L with
   | nil => simp at hlen
   | cons i l =>
    obtain ⟨q, hqi⟩ := hrs i (hL i (by simp))
    have : i ∈ Region.ready .any ops listed := (hready _ listed hL hlist hsz i).2 ⟨by simp, q, hqi, fun e he _ hin => by
     have h1 := hlow i q hqi e he
     rcases List.mem_cons.1 hin with h2 | h2
     ·omega
     ·have := (List.pairwise_cons.1 hsort).1 e h2; omega⟩
    rw [hempty] at this; simp at this
  ·obtain ⟨hiL, q, hqi, hons⟩ := (hready L listed hL hlist hsz i).1 hi
   obtain ⟨l1, l2, rfl⟩ := List.append_of_mem hiL
   obtain ⟨hst, henv, hft⟩ := hstep i q hqi
   have hsort' := List.pairwise_append.1 hsort
   have hl1 : ∀ k ∈ l1, k < i := fun k hk => hsort'.2.2 k hk i (by simp)
   have hl2 : ∀ k ∈ l2, i < k := fun k hk => (List.pairwise_cons.1 hsort'.2.1).1 k hk
   have hnotin : i ∉ l1 ++ l2 := by
    intro h
    rcases List.mem_append.1 h with h | h
    ·have := hl1 i h; omega
    ·have := hl2 i h; omega
   have hindep : ∀ k ∈ l1, ∀ r, rs[k]? = some r → r.o.apart ops q.o = true ∧ Ind r q := by
    intro k hk r hr'
    rcases hpair k i r q hr' hqi (hl1 k hk) with h | h
    ·exfalso
     exact h (fun j => j ∉ l1 ++ i :: l2) hdown (fun e he => hons e he (Nat.lt_trans (hlow i q hqi e he) (hL i (by simp)))) (by simp [hk])
    ·exact h
   obtain ⟨hsub, hch'⟩ := Apf hqi l1 m (fun k hk r hr' => (hindep k hk r hr').2) hch
   have hdstI : ∀ d, q.o.dst = some d → d ∈ dsts (rs.map (·.o)) := by
    intro d hd
    simp only [dsts, List.mem_filterMap, List.mem_map]
    exact ⟨q.o, ⟨q, List.mem_of_getElem? hqi, rfl⟩, hd⟩
   have htake : ∀ (t : Nat), (∀ (j : Nat) r, rs[j]? = some r → r.o.dst = some t → ¬ j < i) → get (envs (rs.take i) env) t = get env t := by
    intro t ht
    refine get_envs_none _ _ fun j r hj hd => ?_
    rw [List.getElem?_take] at hj
    split at hj
    ·rename_i hji; exact ht j r hj hd hji
    ·cases hj
   have hlook : ∀ t ∈ q.o.looksAt ops, get q.env t = EL rs env (l1 ++ i :: l2) t := by
    intro t ht
    rw [henv]
    by_cases hex : ∃ (j : Nat) (r : Rc), rs[j]? = some r ∧ r.o.dst = some t
    ·obtain ⟨j, r, hj, hd⟩ := hex
     have huniq : ∀ (j' : Nat) (r' : Rc), rs[j']? = some r' → r'.o.dst = some t → j' = j := fun j' r' hj' hd' => Aqx rs hnd j' j r' r hj' hj hd' hd
     rcases Nat.lt_trichotomy j i with hji | hji | hji
     ·have hjL : j ∉ l1 ++ i :: l2 := by
       intro h
       rcases List.mem_append.1 h with h | h
       ·exact (Oper.apart_spec (hindep j h r hj).1).1 t hd ht
       ·rcases List.mem_cons.1 h with h | h
        ·omega
        ·have := hl2 j h; omega
      rw [Aqy (fun j' hj' r' hr' hd' => by have := huniq j' r' hr' hd'; subst this; exact hjL hj'), Alf hnd hj hd]
      have hnd' : (dsts ((rs.take i).map (·.o))).Nodup := by
       have : dsts (rs.map (·.o)) = dsts ((rs.take i).map (·.o)) ++ dsts ((rs.drop i).map (·.o)) := by
        simp only [dsts]
        rw [← List.filterMap_append, ← List.map_append, List.take_append_drop]
       rw [this] at hnd
       exact (List.nodup_append.1 hnd).1
      exact Alf hnd' (by rw [List.getElem?_take, if_pos hji]; exact hj) hd env
     ·subst hji
      rw [htake t (fun j' r' hj' hd' => by have := huniq j' r' hj' hd'; omega), A12 (by simp) hj hd]
     ·have hjL : j ∈ l1 ++ i :: l2 := by
       refine Classical.byContradiction fun h => ?_
       rcases hpair i j q r hqi hj hji with h1 | h1
       ·exact h1 (fun x => x ∉ l1 ++ i :: l2) hdown (hdown j r.o (hget j r hj).2 h) (by simp)
       ·exact (Oper.apart_spec h1.1).2.2 t hd ht
      rw [htake t (fun j' r' hj' hd' => by have := huniq j' r' hj' hd'; omega), A12 hjL hj hd]
    ·rw [htake t (fun j r hj hd => absurd ⟨j, r, hj, hd⟩ hex), Aqy (fun j _ r hj hd => hex ⟨j, r, hj, hd⟩), get_envs_none rs env (fun j r hj hd => hex ⟨j, r, hj, hd⟩)]
   have hmemD : ∀ (L' : List Nat) d, d ∈ dstsI rs L' ↔ ∃ j ∈ L', ∃ r, rs[j]? = some r ∧ r.o.dst = some d := by
    intro L' d
    simp only [dstsI, List.mem_filterMap, Option.bind_eq_some_iff]
   have hsubL : ∀ x, x ∈ l1 ++ l2 → x ∈ l1 ++ i :: l2 := by
    intro x hx
    rcases List.mem_append.1 hx with h | h
    ·simp [h]
    ·simp [h]
   have hsubL' : ∀ x, x ∈ l1 ++ i :: l2 → x ≠ i → x ∈ l1 ++ l2 := by
    intro x hx hne
    rcases List.mem_append.1 hx with h | h
    ·simp [h]
    ·rcases List.mem_cons.1 h with h | h
     ·exact absurd h hne
     ·simp [h]
   refine hr.step hst hsub hlook (fun d hd => ⟨hlt d (hdstI d hd), (hmemD _ d).2 ⟨i, by simp, q, hqi, hd⟩⟩) (ds' := dstsI rs (l1 ++ l2)) (fun d hd => ?_) fun μ' Z' a' w' h1 h2 h3 => ?_
   ·obtain ⟨j, hj, r, hr', hd'⟩ := (hmemD _ d).1 hd
    refine ⟨(hmemD _ d).2 ⟨j, hsubL j hj, r, hr', hd'⟩, fun e => ?_⟩
    have := Aqx rs hnd j i r q hr' hqi hd' e
    subst this
    exact hnotin hj
   ·have hEL : (fun t => if q.o.dst = some t then q.v else EL rs env (l1 ++ i :: l2) t) = EL rs env (l1 ++ l2) := by
     funext t
     by_cases hd : q.o.dst = some t
     ·rw [if_pos hd, Aqy (fun j hj r hr' hd' => by
       have := Aqx rs hnd j i r q hr' hqi hd' hd
       subst this
       exact hnotin hj), Alf hnd hqi hd]
     ·rw [if_neg hd]
      unfold EL
      simp [hqi, hd]
    rw [hEL] at h1
    refine ih (l1 ++ l2) (listed.setIfInBounds i true) _ μ' Z' a' w' (by simp at hlen ⊢; omega) ?_ (fun j hj => hL j (hsubL j hj)) (fun j hj => ?_) (by simpa using hsz) (fun j o ho hj e he hin => ?_) hch' h1
     fun μ2 Z2 a2 w2 h4 h5 h6 => hq μ2 Z2 a2 w2 h4 (h2.trans h5) fun j hj => ?_
    ·exact hsort.sublist (List.Sublist.append_left (List.sublist_cons_self i l2) l1)
    ·by_cases hji : j = i
     ·subst hji
      have hlt' : j < listed.size := by omega
      constructor
      ·intro h; simp [Array.getD_eq_getD_getElem?, hlt'] at h
      ·intro h; exact absurd h hnotin
     ·rw [getD_set_ne true (Ne.symm hji), hlist j hj]
      exact ⟨fun h => hsubL' j h hji, fun h => hsubL j h⟩
    ·by_cases hji : j = i
     ·subst hji
      have := (hget j q hqi).2
      rw [this] at ho; obtain rfl := Option.some.inj ho
      exact hons e he (Nat.lt_trans (hlow j q hqi e he) (hL j (by simp))) (hsubL e hin)
     ·exact hdown j o ho (fun h => hj (hsubL' j h hji)) e he (hsubL e hin)
    ·rw [h6 j hj, h3 j (fun e => hj (hdstI j e))]
end Go.PL
namespace Go.PL
set_option linter.unusedSimpArgs false
set_option linter.unusedVariables false
set_option linter.unusedSectionVars false
open Tys (Ty U)
open Enc (sz enc dflt tb ofB toB)
open Dec (dec dok)
variable [Tys] [Enc] [Dec]
def fz (sto : List En) : PV → PV
 | .bx k g o => match den sto k g with
  | some (.froz _ ds) => .ip (ds.drop o)
  | _ => .bx k g o
 | .fn f a b => .fn f (fzs a) (fzs b)
 | .ag l => .ag (fzs l)
 | .d d => .d d
 | .ip ds => .ip ds
 | .os k g t xs => .os k g t xs
 | .tu l => .tu l
 | .mp k g => .mp k g
 | .cond c p => .cond c p
 | .ms k g t lo n => .ms k g t lo n
 | .ep k g t i o => .ep k g t i o
 | .nz => .nz
 | .np k g => .np k g
 | .any => .any
 where fzs : List PV → List PV
 | [] => []
 | p :: r => fz sto p :: fzs r
theorem A13 (sto : List En) : ∀ l : List PV, fz.fzs sto l = l.map (fz sto)
 | [] => rfl
 | p :: r => by simp [fz.fzs, A13 sto r]
theorem fz_ok {sto : List En} {μ : Nmap} {w : World} {Z : Nat → Nat → Prop} (hw : WR μ (den sto) Z w) {x : Value} {p : PV} (h : RP μ w Z x p) : RP μ w Z x (fz sto p) := by
 induction h with
 | bx k g off b h =>
  simp only [fz]
  split
  ·rename_i T ds hd
   obtain ⟨b', vs, h1, h2, h3⟩ := hw.ent _ _ _ hd
   rw [h] at h1
   obtain rfl := Option.some.inj (Option.some.inj h1)
   refine .ip _ _ _ (fun i => vs (off + i)) fun i d hd => ?_
   rw [List.getElem?_drop] at hd
   exact h3 _ d hd
  ·exact .bx _ _ _ _ h
 | fn f first cap vs us hl hm h h' ih ih' =>
  simp only [fz, A13]
  refine .fn f _ _ vs us (by simpa using hl) (by simpa using hm) (fun i x p hx hp => ?_) (fun i x p hx hp => ?_)
  ·rw [List.getElem?_map] at hp
   obtain ⟨q, hq, rfl⟩ := Option.map_eq_some_iff.1 hp
   exact ih i x q hx hq
  ·rw [List.getElem?_map] at hp
   obtain ⟨q, hq, rfl⟩ := Option.map_eq_some_iff.1 hp
   exact ih' i x q hx hq
 | ag ps vs hl h ih =>
  simp only [fz, A13]
  refine .ag _ vs (by simpa using hl) fun i x p hx hp => ?_
  rw [List.getElem?_map] at hp
  obtain ⟨q, hq, rfl⟩ := Option.map_eq_some_iff.1 hp
  exact ih i x q hx hq
 | d x d h => exact .d x d h
 | ip ds b off vs h => exact .ip ds b off vs h
 | osN k g t h => exact .osN k g t h
 | os k g t xs b n cap m T h hr hn hc hs hm => exact .os k g t xs b n cap m T h hr hn hc hs hm
 | tu ps vs hl h ih => exact .tu ps vs hl h
 | mp k g b h => exact .mp k g b h
 | cond c x p h h' ih => exact .cond c x p h h'
 | ms k g t lo n b cap h h0 h1 hc T m hs hm => exact .ms k g t lo n b cap h h0 h1 hc T m hs hm
 | msE k g t lo n a h1 => exact .msE k g t lo n a h1
 | nz a => exact .nz a
 | npN k g => exact .npN k g
 | np k g b h => exact .np k g b h
 | ep k g t i off b h h0 => exact .ep k g t i off b h h0
 | any x => exact .any x
def frz1 (C : Ctx) (e : En) : En := match C.fz (e.k + 262144) with
 | true => match e.c with
  | .box T vs => match dnD.dnDs vs with
   | some ds => ⟨e.k, e.g, .froz T ds⟩
   | none => e
  | _ => e
 | false => e
def frzE (C : Ctx) : List En → List En
 | [] => []
 | e :: r => frz1 C e :: frzE C r
def frzV (sto : List En) : List (Nat × PV) → List (Nat × PV)
 | [] => []
 | p :: r => (p.1, fz sto p.2) :: frzV sto r
def frzS (C : Ctx) (s : St) : St := match C.fz 262143 with
 | true => ⟨frzV (frzE C s.sto) s.env, frzE C s.sto, s.gen⟩
 | false => s
theorem Azk (sto : List En) : ∀ (env : List (Nat × PV)) (i : Nat), get (frzV sto env) i = fz sto (get env i)
 | [], _ => rfl
 | p :: r, i => by
  simp only [frzV, get]
  by_cases h : p.1 = i
  ·rw [if_pos h, if_pos h]
  ·rw [if_neg h, if_neg h]; exact Azk sto r i
theorem Azl (C : Ctx) (e : En) : (frz1 C e).k = e.k ∧ (frz1 C e).g = e.g := by
 unfold frz1
 split
 ·split
  ·split <;> exact ⟨rfl, rfl⟩
  ·exact ⟨rfl, rfl⟩
 ·exact ⟨rfl, rfl⟩
theorem den_frz (C : Ctx) : ∀ (l : List En) (k g : Nat) (c' : Cell), den (frzE C l) k g = some c' → ∃ c, den l k g = some c ∧ (c' = c ∨ ∃ T vs ds, c = .box T vs ∧ dnD.dnDs vs = some ds ∧ c' = .froz T ds)
 | [], k, g, c', h => by simp [frzE, den] at h
 | e :: r, k, g, c', h => by
  simp only [frzE, den] at h ⊢
  rw [(Azl C e).1, (Azl C e).2] at h
  by_cases hk : e.k = k ∧ e.g = g
  ·rw [if_pos hk] at h ⊢
   refine ⟨e.c, rfl, ?_⟩
   cases h
   unfold frz1
   split
   ·split
    ·rename_i T vs hc
     split
     ·rename_i ds hd; exact .inr ⟨T, vs, ds, hc, hd, rfl⟩
     ·exact .inl rfl
    ·exact .inl rfl
   ·exact .inl rfl
  ·rw [if_neg hk] at h ⊢; exact den_frz C r k g c' h
theorem WR.frz {C : Ctx} {sto : List En} {μ : Nmap} {Z : Nat → Nat → Prop} {w : World} (hw : WR μ (den sto) Z w) : ∃ Z1, (∀ b o, Z b o → Z1 b o) ∧ WR μ (den (frzE C sto)) Z1 w ∧ Adv μ (den sto) Z w μ (den (frzE C sto)) Z1 w := by
 let Z1 : Nat → Nat → Prop := fun b' o => Z b' o ∨ ∃ k g T vs ds, den sto k g = some (.box T vs) ∧ den (frzE C sto) k g = some (.froz T ds) ∧ μ k g = some (some b')
 have hz1 : ∀ b' o, Z b' o → Z1 b' o := fun _ _ h => .inl h
 have old : ∀ {k g c'}, den (frzE C sto) k g = some c' → ∃ c, den sto k g = some c := fun h => let ⟨c, h1, _⟩ := den_frz C sto _ _ _ h; ⟨c, h1⟩
 have hlt : ∀ b o, Z1 b o → b < w.heap.size := fun b o h => by
  rcases h with h | ⟨k, g, T, vs, ds, h1, _, h3⟩
  ·exact hw.zlt _ _ h
  ·exact (hw.ent k g _ h1).lt h3
 refine ⟨Z1, hz1, ⟨fun k g c' hc' => ?_, fun k g k2 g2 c c2 b hc hc2 hb hb2 => ?_, hlt⟩, ⟨fun _ _ _ h => h, hz1, fun _ _ _ => rfl, fun _ _ h => h, Nat.le_refl _, fun _ _ _ => rfl, fun b o h => ?_, fun k g c b h1 h2 => ?_, rfl, rfl⟩⟩
 ·obtain ⟨c, h1, h2⟩ := den_frz C sto k g c' hc'
  rcases h2 with rfl | ⟨T, vs, ds, rfl, hd, rfl⟩
  ·refine (hw.ent k g c' h1).keep (fun _ _ _ h => h) hz1 (fun _ _ _ => rfl) (fun _ _ h => h) fun b' hb' => ⟨rfl, fun o ho => ?_⟩
   rcases ho with ho | ⟨k2, g2, T, vs, ds, h4, h5, h6⟩
   ·exact ho
   ·obtain ⟨rfl, rfl⟩ := hw.dis k g k2 g2 _ _ b' h1 h4 hb' h6
    rw [h1] at h4; cases h4
    rw [hc'] at h5; cases h5
  ·obtain ⟨b, cs, hb, hcs, hrp, hnz⟩ := hw.ent k g _ h1
   obtain ⟨hl, hat⟩ := Aow hd
   refine ⟨b, fun i => cs.getD i undef, hb, (hw.ent k g _ h1).lt hb, fun i d hi => ?_⟩
   have hi' : i < vs.length := by rw [hl]; exact (List.getElem?_eq_some_iff.1 hi).1
   have hic : i < cs.toList.length := by rw [hrp.1]; exact hi'
   have hic' : i < cs.size := by simpa using hic
   have e1 : cs[i]? = some (cs.getD i undef) := by simp [hic']
   refine ⟨by rw [cell_of_row w b i cs T _ hcs]; exact e1, .inr ⟨k, g, T, vs, ds, h1, hc', hb⟩, ?_⟩
   have h5 := hrp.2 i (cs.getD i undef) vs[i] (by simpa using e1) (List.getElem?_eq_getElem hi')
   exact (A05 h5 d (hat i _ d (List.getElem?_eq_getElem hi') hi)).mono hz1 (fun _ _ _ => rfl)
 ·obtain ⟨d1, h1⟩ := old hc
  obtain ⟨d2, h2⟩ := old hc2
  exact hw.dis k g k2 g2 d1 d2 b h1 h2 hb hb2
 ·rcases h with h | ⟨k, g, T, vs, ds, h1, _, h3⟩
  ·exact .inl h
  ·exact .inr (.inr ⟨k, g, _, h1, h3⟩)
 ·obtain ⟨d1, h3⟩ := old h1
  exact .inr ⟨k, g, d1, h3, h2⟩
end Go.PL
namespace Go.PL
set_option linter.unusedSimpArgs false
set_option linter.unusedVariables false
set_option linter.unusedSectionVars false
open Tys (Ty U)
open Enc (sz enc dflt tb ofB toB)
open Dec (dec dok)
variable [Tys] [Enc] [Dec]
inductive Ex where
 | normal
 | exit (id : Nat)
 | ret
def Ex.to : Ex → Exit
 | .normal => .normal
 | .exit id => .exit id
 | .ret => .ret
def thenE (k : St → Prop) (Q : Ex → St → Prop) : Ex → St → Prop
 | .normal, s => k s
 | .exit id, s => Q (.exit id) s
 | .ret, s => Q .ret s
def blkE (id : Nat) (Q : Ex → St → Prop) : Ex → St → Prop
 | .exit j, s => if j = id then Q .normal s else Q (.exit j) s
 | .normal, s => Q .normal s
 | .ret, s => Q .ret s
def regOk (n : Nat) (os : List Oper) : Bool := (dsts os).all (fun d => decide (d < n) && decide (d < 65536)) && nodupB (dsts os)
structure RegOK (n : Nat) (ops : Array Oper) : Prop where
 h : regOk n ops.toList = true
structure DrawOK (ops : Array Oper) (fs : List (List Nat × Bool)) : Prop where
 h : At0 ops fs = true
def wr : Code → List Nat
 | .region _ ops _ => dsts ops.toList
 | .seq a b => wr a ++ wr b
 | .cond _ a b => wr a ++ wr b
 | .block _ c => wr c
 | .loop c => wr c
 | .scope c => wr c
 | _ => []
def lkA : List (Nat × Nat × Nat) → Nat → Option (Nat × Nat)
 | [], _ => none
 | (K, n) :: r, k => if K = k then some n else lkA r k
def NmOK (al : List (Nat × Nat × Nat)) (gh k g k' g' : Nat) : Prop := match lkA al k' with
 | some (a, b) => (g' = gh) ∧ (a = k) ∧ b = g
 | none => (k = k') ∧ g = g'
def LeR (al : List (Nat × Nat × Nat)) (gh : Nat) : PV → PV → Prop
 | .bx k g o, .bx k' g' o' => NmOK al gh k g k' g' ∧ o = o'
 | .os k g t xs, .os k' g' t' xs' => NmOK al gh k g k' g' ∧ (⟨t, xs⟩ : (t : Ty) × List (U t)) = ⟨t', xs'⟩
 | .mp k g, .mp k' g' => NmOK al gh k g k' g'
 | .ms k g t lo n, .ms k' g' t' lo' n' => NmOK al gh k g k' g' ∧ t = t' ∧ lo = lo' ∧ n = n'
 | .ep k g t i o, .ep k' g' t' i' o' => NmOK al gh k g k' g' ∧ t = t' ∧ i = i' ∧ o = o'
 | .bx k g o, .np k' g' => NmOK al gh k g k' g' ∧ o = 0
 | .np k g, .np k' g' => NmOK al gh k g k' g'
 | .ag l, .ag m => LeRs l m
 | .tu l, .tu m => LeRs l m
 | .fn f a b, .fn f' a' b' => (f = f') ∧ LeRs a a' ∧ LeRs b b'
 | .d d, .os k' g' _ ys => match d with
  | .v (.slice none 0 0) => (lkA al k' = none) ∧ (g' = gh) ∧ ys = []
  | _ => False
 | p, q => LeP p q
 where LeRs : List PV → List PV → Prop
 | [], [] => True
 | p :: l, q :: m => LeR al gh p q ∧ LeRs l m
 | _, _ => False
def LeRC (al : List (Nat × Nat × Nat)) (gh : Nat) : Cell → Cell → Prop
 | .box T vs, .box T' us => (T = T') ∧ LeR.LeRs al gh vs us
 | c, c' => LeC c c'
def LeEnv (s : St) (al : List (Nat × Nat × Nat)) : List (Nat × PV) → Prop
 | [] => True
 | (j, v) :: r => LeR al s.gen (get s.env j) v ∧ LeEnv s al r
def LeSto (s : St) (al : List (Nat × Nat × Nat)) : List En → Prop
 | [] => True
 | e :: r => (match lkA al e.k with
  | some (k', g') => (e.g = s.gen) ∧ (match find s.sto k' with
   | some (g2, c') => (g2 = g') ∧ LeRC al s.gen c' e.c
   | none => False)
  | none => match find s.sto e.k with
   | some (g', c') => (g' = e.g) ∧ LeRC al s.gen c' e.c
   | none => match e.c with
    | .tok _ _ n => (n = 0) ∧ e.g = s.gen
    | _ => False) ∧ LeSto s al r
def keysA (al : List (Nat × Nat × Nat)) : List En → List Nat
 | [] => []
 | e :: r => (match lkA al e.k with
  | some (k', _) => k'
  | none => e.k) :: keysA al r
def restE (ws : List Nat) (env : List (Nat × PV)) : List (Nat × PV) := env.filter fun p => !ws.contains p.1
structure Head (s : St) (news : Nat → List (Nat × PV)) (stos : Nat → List En) (al : List (Nat × Nat × Nat)) : Prop where
 env : LeEnv s al (news s.gen)
 sto : LeSto s al (stos s.gen)
 nd : nodupB (keysA al (stos s.gen)) = true
inductive LoopK (B : (Ex → St → Prop) → St → Prop) (ws : List Nat) (Q : Ex → St → Prop) (s : St) : Prop where
 | mk {X : Type} (news : X → Nat → List (Nat × PV)) (stos : X → Nat → List En) (meas : X → Nat) (x0 : X) (al0 : List (Nat × Nat × Nat)) (h0 : Head s (news x0) (stos x0) al0)
   (round : ∀ x gh g (K : St → Prop), (∀ s' x' al, meas x' < meas x → Head s' (news x') (stos x') al → K s') → B (thenE K Q) ⟨news x gh ++ restE ws s.env, stos x gh, g⟩)
def Azm : List Oper → Option (Operand × Nat × Nat)
 | [o1, o2] => match o1.op, o1.dst, o1.guard, o2.op, o2.dst, o2.guard with
  | .next x false, some d1, none, .extract (.tmp t) 0, some d2, none => if t = d1 then some (x, d1, d2) else none
  | _, _, _, _, _, _ => none
 | _ => none
def nextK (C : Ctx) (s : St) (x : Operand) (k : Bool → List En → Prop) : Prop := match opd C s.env x with
 | .bx ki gi 0 => match find s.sto ki with
  | some (gi', .iter mk mg since stepped seen) => match find s.sto mk with
   | some (mg', .map es) => (gi' = gi) ∧ (mg' = mg) ∧ (since = es.length) ∧ (stepped = es.length) ∧
    (∀ j, j < es.length → seen.contains j = false → k true (setc s.sto ki (.iter mk mg since stepped (j :: seen)))) ∧ ((∀ j, j < es.length → seen.contains j = true) → k false s.sto)
   | _ => False
  | _ => False
 | _ => False
def At1 : List Oper → Option (TypeId × Operand × Nat × Nat)
 | [o1, o2] => match o1.op, o1.dst, o1.guard, o2.op, o2.dst, o2.guard with
  | .move (.tmp x), some d1, none, .binOp .eql T (.tmp t) (.const (.slice none 0 0)) _, some d2, none => if t = d1 then some (T, .tmp x, d1, d2) else none
  | _, _, _, _, _, _ => none
 | _ => none
def nilK (C : Ctx) (A : Ar) (s : St) (T : TypeId) (x : Operand) (k : PV → Bool → Prop) : Prop := match C.ti T with
 | some ⟨.slice _, _, _, _⟩ => match opd C s.env x with
  | .d (.sl t xs) => (A.cmp .eql (A.len t xs) 0 = true → k (.d (.sl t xs)) true) ∧ k (.d (.sl t xs)) false
  | .os kk g t xs => (A.cmp .eql (A.len t xs) 0 = true → k (.os kk g t xs) true) ∧ k (.os kk g t xs) false
  | .d (.v (.slice none 0 0)) => k (.d (.v (.slice none 0 0))) true
  | _ => False
 | _ => False
def code (C : Ctx) (A : Ar) (n : Nat) : Code → (Ex → St → Prop) → St → Prop
 | .skip, Q, s => Q .normal s
 | .label _, Q, s => Q .normal s
 | .ret, Q, s => Q .ret s
 | .exit id, Q, s => Q (.exit id) s
 | .region _ ops false, Q, s => (RegOK n ops) ∧ (match Azm ops.toList with
  | some (x, d1, d2) => nextK C s x fun b sto => Q .normal ⟨(d2, bl b) :: (d1, .any) :: s.env, sto, s.gen + 1⟩
  | none => match At1 ops.toList with
   | some (T, x, d1, d2) => nilK C A s T x fun p b => Q .normal ⟨(d2, bl b) :: (d1, p) :: s.env, s.sto, s.gen + 1⟩
   | none => Ape C A ops ops.toList s [] fun s' _ => Q .normal ⟨s'.env, s'.sto, s'.gen + 1⟩)
 | .region _ ops true, Q, s => (RegOK n ops) ∧ Ape C A ops ops.toList s [] fun s' fs => (DrawOK ops fs.reverse) ∧ Q .normal ⟨s'.env, s'.sto, s'.gen + 1⟩
 | .seq a b, Q, s => code C A n a (thenE (fun s' => code C A n b Q (frzS C s')) Q) s
 | .cond c a b, Q, s => match opd C s.env c with
  | .d (.v (.bool t)) => match t with
   | true => code C A n a Q s
   | false => code C A n b Q s
  | _ => False
 | .block id c, Q, s => code C A n c (blkE id Q) s
 | .loop c, Q, s => LoopK (code C A n c) (wr c) Q s
 | .scope c, Q, s => code C A n c Q s
 | _, _, _ => False
structure RelC (C : Ctx) (n : Nat) (s : St) (μ : Nmap) (Z : Nat → Nat → Prop) (a : Act) (w : World) (dl : List Deferred := []) : Prop where
 size : a.tmps.size = n
 env : ∀ i, RP μ w Z (a.tmps.getD i undef) (get s.env i)
 df : a.defers = dl
 wr : WR μ (den s.sto) Z w
 gi : GI C μ w Z
 bd : ∀ k g, s.gen ≤ g → μ k g = none
theorem RelC.frz {C : Ctx} {n : Nat} {s : St} {μ : Nmap} {Z : Nat → Nat → Prop} {a : Act} {w : World} {dl : List Deferred} (h : RelC C n s μ Z a w dl) : ∃ Z1, RelC C n (frzS C s) μ Z1 a w dl ∧ Adv μ (den s.sto) Z w μ (den (frzS C s).sto) Z1 w := by
 unfold frzS
 split
 ·obtain ⟨Z1, hz, hw, ha⟩ := h.wr.frz (C := C)
  refine ⟨Z1, ⟨h.size, fun i => ?_, h.df, hw, fun g ds hg => let ⟨h1, h2⟩ := h.gi g ds hg; ⟨h1.mono (fun _ _ _ h => h) hz (fun _ _ _ => rfl) (fun _ _ h => h), h2⟩, h.bd⟩, ha⟩
  show RP _ _ _ _ (get (frzV (frzE C s.sto) s.env) i)
  rw [Azk]
  exact fz_ok hw ((h.env i).mono (fun _ _ _ h => h) hz (fun _ _ _ => rfl) (fun _ _ h => h))
 ·exact ⟨Z, h, .refl⟩
def Ends (dl : List Deferred) (C : Ctx) (n : Nat) (Q : Ex → St → Prop) (W : List Nat) (μ0 : Nmap) (m0 : Mem) (Z0 : Nat → Nat → Prop) (a0 : Act) (w0 : World) : Exit → Act → World → Prop := fun e a w =>
 ∃ (ex : Ex) (s : St) (μ : Nmap) (Z : Nat → Nat → Prop), ex.to = e ∧ Q ex s ∧ RelC C n s μ Z a w dl ∧ Adv μ0 m0 Z0 w0 μ (den s.sto) Z w ∧ ∀ j, j ∉ W → a.tmps.getD j undef = a0.tmps.getD j undef
theorem At2 {μ : Nmap} {m : Mem} {Z : Nat → Nat → Prop} {w : World} : Adv μ m Z w μ m Z { w with drawn := w.drawn + 1 } :=
 ⟨fun _ _ _ h => h, fun _ _ h => h, fun _ _ _ => rfl, fun _ _ h => h, Nat.le_refl _, fun _ _ _ => rfl, fun _ _ h => .inl h, fun k g c _ h h' => .inr ⟨k, g, c, h, h'⟩, rfl, rfl⟩
theorem WR.drew {μ : Nmap} {m : Mem} {Z : Nat → Nat → Prop} {w : World} (h : WR μ m Z w) : WR μ m Z { w with drawn := w.drawn + 1 } :=
 ⟨fun k g c hc => (h.ent k g c hc).keep (fun _ _ _ h => h) (fun _ _ h => h) (fun _ _ _ => rfl) (fun _ _ h => h) fun _ _ => ⟨rfl, fun _ h => h⟩, h.dis, h.zlt⟩
theorem RelC.relR {dl : List Deferred} {C : Ctx} {n : Nat} {s : St} {μ : Nmap} {Z : Nat → Nat → Prop} {a : Act} {w : World} (h : RelC C n s μ Z a w dl) (ds : List Nat) (hlt : ∀ d ∈ ds, d < 65536) : RelR C n (get s.env) (den s.sto) s.gen ds μ Z a w dl :=
 ⟨h.size, h.env, h.df, h.wr, h.gi, fun d hd => ⟨hlt d hd, fun k _ => h.bd k _ (Nat.le_refl _)⟩, fun k g hg => h.bd k g (Nat.le_of_lt hg)⟩
theorem RelR.drew {dl : List Deferred} {C : Ctx} {n : Nat} {e : Nat → PV} {m : Mem} {gen : Nat} {ds : List Nat} {μ : Nmap} {Z : Nat → Nat → Prop} {a : Act} {w : World} (h : RelR C n e m gen ds μ Z a w dl) : RelR C n e m gen ds μ Z a { w with drawn := w.drawn + 1 } dl :=
 ⟨h.size, fun i => (h.env i).adv (At2 (m := m)), h.df, h.wr.drew, fun g dd hg => (h.gi g dd hg).adv (At2 (m := m)), h.fr, h.bd⟩
theorem Azn {rs : List Rc} {os : List Oper} (h : rs.map (·.o) = os) : dsts (rs.map (·.o)) = dsts os := by rw [h]
theorem A14 {rs : List Rc} {L : List Nat} {d : Nat} (h : d ∈ dstsI rs L) : d ∈ dsts (rs.map (·.o)) := by
 simp only [dstsI, List.mem_filterMap, Option.bind_eq_some_iff] at h
 obtain ⟨j, _, r, hr, hd⟩ := h
 simp only [dsts, List.mem_filterMap, List.mem_map]
 exact ⟨r.o, ⟨r, List.mem_of_getElem? hr, rfl⟩, hd⟩
theorem region_ok {dl : List Deferred} {ro : Option Nat} {C : Ctx} {A : Ar} (hA : A = std) (hC : C.OK) {n id : Nat} {ops : Array Oper} {Q : Ex → St → Prop} {s : St} (hreg : regOk n ops.toList = true) (h : Ape C A ops ops.toList s [] fun s' _ => Q .normal ⟨s'.env, s'.sto, s'.gen + 1⟩) {μ : Nmap} {Z : Nat → Nat → Prop} {a : Act} {w : World} (hr : RelC C n s μ Z a w dl) :
  (Code.region id ops false).wpIn (Fq ro) 0 C.P (Ends dl C n Q (dsts ops.toList) μ (den s.sto) Z a w) a w := by
 simp only [regOk, Bool.and_eq_true] at hreg
 obtain ⟨rs, s', hk, hos, hgen, hch, henv, hst⟩ := Ano hA hC ops.toList [] s [] _ rfl h
 have hlen : rs.length = ops.size := by have := congrArg List.length hos; simpa using this
 have hds := Azn hos
 refine wpIn_region ?_
 have := seq_ok (dl := dl) (ro := ro) (C := C) (n := n) (ops := ops) (gen := s.gen) rs 0 s.env (den s.sto) (den s'.sto) μ Z a w (Ends dl C n Q (dsts ops.toList) μ (den s.sto) Z a w)
  (fun i r hi => ⟨by have := (hst i r hi).1; simpa using this, (hst i r hi).2.1⟩) hch (by rw [hds]; exact Ajx hreg.2) (by
   rw [hds]; intro d hd; have := List.all_eq_true.1 hreg.1 d hd; simp at this; exact this.1) (hr.relR _ (by rw [hds]; intro d hd; have := List.all_eq_true.1 hreg.1 d hd; simp at this; exact this.2)) (fun μ' Z' a' w' h1 h2 h3 => ?_)
 ·rw [hlen] at this
  rw [List.range_eq_range']
  exact this
 ·refine ⟨.normal, _, μ', Z', rfl, hk, ⟨h1.size, fun i => ?_, h1.df, h1.wr, h1.gi, fun k g hg => h1.bd k g ?_⟩, h2, fun j hj => h3 j (by rw [hds]; exact hj)⟩
  ·show RP _ _ _ _ (get s'.env i)
   rw [henv]; exact h1.env i
  ·have : s'.gen + 1 ≤ g := hg
   omega
theorem A15 {l : List Oper} {x : Operand} {d1 d2 : Nat} (h : Azm l = some (x, d1, d2)) : ∃ o1 o2, l = [o1, o2] ∧ o1.op = .next x false ∧ o1.dst = some d1 ∧ o1.guard = none ∧ o2.op = .extract (.tmp d1) 0 ∧ o2.dst = some d2 ∧ o2.guard = none := by
 unfold Azm at h
 split at h
 ·rename_i o1 o2
  split at h
  ·rename_i x' d1' t d2' h1 h2 h3 h4 h5 h6
   split at h
   ·rename_i e
    cases h; subst e
    exact ⟨o1, o2, rfl, h1, h2, h3, h4, h5, h6⟩
   ·cases h
  ·cases h
 ·cases h
open Go.ChangeMaps (setBlock) in
theorem iter_set {μ : Nmap} {Z : Nat → Nat → Prop} {w w1 : World} {ki gi mk mg since stepped b bm : Nat} {seen seen' : List Nat} (hw : WR μ (single ki gi (.iter mk mg since stepped seen)) Z w) (hb : μ ki gi = some (some b)) (hm : μ mk mg = some (some bm))
  (h1 : w1.heap = w.heap.setIfInBounds b (.mapIter (some bm) since seen'.reverse.toArray stepped)) (hos : w1.os = w.os) (hout : w1.output = w.output) :
  WR μ (single ki gi (.iter mk mg since stepped seen')) Z w1 ∧ Adv μ (single ki gi (.iter mk mg since stepped seen)) Z w μ (single ki gi (.iter mk mg since stepped seen')) Z w1 := by
 have hent := hw.ent ki gi (.iter mk mg since stepped seen) (by simp [single])
 have hent0 := hent
 obtain ⟨b', bm', a1, ⟨a2, a3⟩, a4⟩ := hent
 rw [hb] at a1; obtain rfl := Option.some.inj (Option.some.inj a1)
 rw [hm] at a2; obtain rfl := Option.some.inj (Option.some.inj a2)
 have hlt : b < w.heap.size := by
  rcases Nat.lt_or_ge b w.heap.size with h | h
  ·exact h
  ·rw [Array.getElem?_eq_none h] at a3; cases a3
 have hsz : w1.heap.size = w.heap.size := by rw [h1]; simp
 have hoth : ∀ k, k ≠ b → w1.heap[k]? = w.heap[k]? := fun k hk => by rw [h1, Array.getElem?_setIfInBounds_ne (fun e => hk e.symm)]
 have hsame : w1.heap[b]? = some (.mapIter (some bm) since seen'.reverse.toArray stepped) := by rw [h1, Array.getElem?_setIfInBounds_self_of_lt hlt]
 have hone : ∀ k g c (cl : Cell), single ki gi cl k g = some c → k = ki ∧ g = gi ∧ c = cl := by
  intro k g c cl h1
  simp only [single] at h1
  split at h1 <;> simp at h1
  rename_i h3
  exact ⟨h3.1, h3.2, h1.symm⟩
 refine ⟨⟨fun k g c h => ?_, fun k g k' g' c c' b h h' _ _ => ?_, fun b o h => by rw [hsz]; exact hw.zlt b o h⟩, ⟨fun _ _ _ h => h, fun _ _ h => h, fun k o h => ?_, fun k s h => ?_, by rw [hsz]; exact Nat.le_refl _, fun k hk hn => ?_, fun _ _ h => .inl h, fun k g c k' h h' => ?_, hos, hout⟩⟩
 ·obtain ⟨rfl, rfl, rfl⟩ := hone k g c _ h
  exact ⟨b, bm, hb, ⟨hm, hsame⟩, a4⟩
 ·obtain ⟨rfl, rfl, _⟩ := hone k g c _ h
  obtain ⟨rfl, rfl, _⟩ := hone k' g' c' _ h'
  exact ⟨rfl, rfl⟩
 ·have : k ≠ b := fun e => a4 o (e ▸ h)
  simp only [World.cell?, hoth k this]
 ·have : k ≠ b := fun e => by subst e; simp [World.shape?, a3] at h
  simp only [World.shape?, hoth k this] at h ⊢; exact h
 ·exact hoth k fun e => hn ki gi (.iter mk mg since stepped seen) (by simp [single]) (e ▸ hb)
 ·obtain ⟨rfl, rfl, rfl⟩ := hone k g c _ h
  exact .inr ⟨k, g, .iter mk mg since stepped seen, by simp [single], h'⟩
open Go.ChangeMaps (setBlock) in
theorem next_ok {dl : List Deferred} {ro : Option Nat} {C : Ctx} {n id : Nat} {ops : Array Oper} {Q : Ex → St → Prop} {s : St} {x : Operand} {d1 d2 : Nat} (hreg : regOk n ops.toList = true) (hn : Azm ops.toList = some (x, d1, d2)) (h : nextK C s x fun b sto => Q .normal ⟨(d2, bl b) :: (d1, .any) :: s.env, sto, s.gen + 1⟩) {μ : Nmap} {Z : Nat → Nat → Prop} {a : Act} {w : World} (hr : RelC C n s μ Z a w dl) :
  (Code.region id ops false).wpIn (Fq ro) 0 C.P (Ends dl C n Q (dsts ops.toList) μ (den s.sto) Z a w) a w := by
 obtain ⟨o1, o2, hops, ho1, hd1, hg1, ho2, hd2, hg2⟩ := A15 hn
 have hds : dsts ops.toList = [d1, d2] := by rw [hops]; simp [dsts, hd1, hd2]
 simp only [regOk, Bool.and_eq_true, hds] at hreg
 have hn1 : d1 < n := by have := List.all_eq_true.1 hreg.1 d1 (by simp); simp at this; exact this.1
 have hn2 : d2 < n := by have := List.all_eq_true.1 hreg.1 d2 (by simp); simp at this; exact this.1
 have hsz : ops.size = 2 := by have := congrArg List.length hops; simpa using this
 have e0 : ops[0]? = some o1 := by rw [← Array.getElem?_toList, hops]; rfl
 have e1 : ops[1]? = some o2 := by rw [← Array.getElem?_toList, hops]; rfl
 -- what the step makes of it
 have key : ∃ (b : Bool) (val : Value) (cs : List Value) (w' : World) (sto' : List En), val = .tuple (.bool b :: cs).toArray ∧ (execOp a.eval o1).run C.P w = .ok (.value val) w' ∧ Q .normal ⟨(d2, bl b) :: (d1, .any) :: s.env, sto', s.gen + 1⟩ ∧
   WR μ (den sto') Z w' ∧ Adv μ (den s.sto) Z w μ (den sto') Z w' := by
  unfold nextK at h
  split at h
  ·rename_i ki gi hx
   split at h
   ·rename_i gi' mk mg since stepped seen hf1
    split at h
    ·rename_i mg' es hf2
     obtain ⟨rfl, rfl, rfl, rfl, hsome, hover⟩ := h
     have hev : RP μ w Z (a.eval x) (.bx ki gi' 0) := by
      cases x with
      | tmp t => have := hr.env t; simp only [opd] at hx; rw [hx] at this; exact this
      | const v => simp only [opd] at hx; cases v <;> simp only [cst] at hx <;> cases hx
      | global g => simp only [opd] at hx; split at hx <;> cases hx
      | func f => simp only [opd] at hx; cases hx
     have he1 := hr.wr.ent _ _ _ (Aa6 hf1)
     have he2 := hr.wr.ent _ _ _ (Aa6 hf2)
     have he1' := he1
     obtain ⟨b, bm, a1, ⟨a2, a3⟩, a4⟩ := he1
     obtain ⟨bm', ms, b1, b2, ⟨b3, b4⟩, b5⟩ := he2
     rw [a2] at b1; obtain rfl := Option.some.inj (Option.some.inj b1)
     generalize hxe : a.eval x = y at hev
     cases hev with
     | bx _ _ _ b' hb =>
      rw [a1] at hb; obtain rfl := Option.some.inj (Option.some.inj hb)
      have hborn : ∀ e ∈ ms.toList, ∃ j, ms[j]? = some e ∧ j < ms.size ∧ e.born = j := by
       intro e he
       obtain ⟨j, hj⟩ := List.mem_iff_getElem?.1 he
       rw [Array.getElem?_toList] at hj
       have hlt : j < ms.size := by
        rcases Nat.lt_or_ge j ms.size with h | h
        ·exact h
        ·rw [Array.getElem?_eq_none h] at hj; cases hj
       have hlt' : j < es.length := by omega
       exact ⟨j, hj, hlt, (b4 j e es[j].1 es[j].2 hj (List.getElem?_eq_getElem hlt')).2.1⟩
      have hmem : ∀ e, e ∈ (leftOf ms seen.reverse.toArray).toList ↔ e ∈ ms.toList ∧ seen.contains e.born = false := by
       intro e
       simp [leftOf]
      rcases run_next_at (P := C.P) w o1.type b bm es.length es.length seen.reverse.toArray ms ms.size a3 b2 (fun e he => by obtain ⟨j, _, h2, h3⟩ := hborn e he; omega) (Nat.le_refl _) with ⟨hz, hrun⟩ | ⟨e, he, w1, hw1, hrun⟩
      ·refine ⟨false, _, [], w, s.sto, rfl, ?_, hover fun j hj => ?_, hr.wr, .refl⟩
       ·simp only [execOp, ho1, hxe, Sem.run_bind, hrun]; rfl
       ·rw [← b3] at hj
        cases hc : seen.contains j with
        | true => rfl
        | false =>
         have : ms[j] ∈ (leftOf ms seen.reverse.toArray).toList := by
          rw [hmem]
          refine ⟨by simp, ?_⟩
          have := (b4 j ms[j] es[j].1 es[j].2 (Array.getElem?_eq_getElem hj) (List.getElem?_eq_getElem (by omega))).2.1
          rw [this]; exact hc
         have hl : (leftOf ms seen.reverse.toArray).toList = [] := by
          have : (leftOf ms seen.reverse.toArray) = #[] := Array.eq_empty_of_size_eq_zero hz
          rw [this]
         rw [hl] at this; cases this
      ·obtain ⟨he1, he2⟩ := (hmem e).1 he
       obtain ⟨j, hj, hjlt, hbj⟩ := hborn e he1
       have hsub : ∀ k g c, single ki gi' (.iter mk mg' es.length es.length seen) k g = some c → den s.sto k g = some c := single_den hf1
       have hwr1 : WR μ (single ki gi' (.iter mk mg' es.length es.length seen)) Z w := ⟨fun k g c hh => hr.wr.ent k g c (hsub k g c hh), fun k g k' g' c c' b h1 h2 => hr.wr.dis k g k' g' c c' b (hsub _ _ _ h1) (hsub _ _ _ h2), hr.wr.zlt⟩
       have hheap : (setBlock w1 b (.mapIter (some bm) es.length (seen.reverse.toArray.push e.born) ms.size)).heap = w.heap.setIfInBounds b (.mapIter (some bm) es.length (e.born :: seen).reverse.toArray es.length) := by
        have : w1.heap = w.heap := by rcases hw1 with rfl | rfl <;> rfl
        simp [setBlock, this, b3]
       obtain ⟨h5, h6⟩ := iter_set hwr1 a1 a2 hheap (by rcases hw1 with rfl | rfl <;> rfl) (by rcases hw1 with rfl | rfl <;> rfl)
       obtain ⟨h7, h8⟩ := Amq hr.wr hsub h5 h6
       rw [← Aka _ hf1] at h7 h8
       refine ⟨true, _, [e.key, e.val], _, _, rfl, ?_, hsome e.born (by omega) he2, h7, h8⟩
       simp only [execOp, ho1, hxe, Sem.run_bind, hrun]; rfl
    ·exact h.elim
   ·exact h.elim
  ·exact h.elim
 obtain ⟨b, val, cs, w', sto', hval, hrun, hq, hwr, hadv⟩ := key
 refine wpIn_region ?_
 rw [hsz, show List.range 2 = [0, 1] from rfl, wpOpsIn_cons]
 unfold wpOpIn
 rw [e0]
 simp only [Region.wanted, hg1, if_true]
 refine Ale hrun (fun _ h => by cases h) ?_
 rw [Oper.uponIn_value, wpOpsIn_cons, hd1]
 unfold wpOpIn
 rw [e1]
 simp only [Region.wanted, hg2, if_true]
 have hs1 : (a.put (some d1) val).tmps.size = n := by simp [Act.put, hr.size]
 have hev1 : (a.put (some d1) val).eval (.tmp d1) = val := by
  show (a.put (some d1) val).tmps.getD d1 undef = _
  rw [Agn (by rw [hr.size]; exact hn1), if_pos rfl]
 have hrun2 : (execOp (a.put (some d1) val).eval o2).run C.P w' = .ok (.value (.bool b)) w' := by
  simp only [execOp, ho2]
  rw [hev1, hval]
  rfl
 refine Ale hrun2 (fun _ h => by cases h) ?_
 rw [Oper.uponIn_value, hd2]
 refine ⟨.normal, _, μ, Z, rfl, hq, ⟨by simp [Act.put, hr.size], fun i => ?_, hr.df, hwr, fun g dd hg => (hr.gi g dd hg).adv hadv, fun k g hg => hr.bd k g (by have : s.gen + 1 ≤ g := hg; omega)⟩, hadv, fun j hj => ?_⟩
 ·show RP _ _ _ _ (get ((d2, bl b) :: (d1, .any) :: s.env) i)
  rw [Agn (by rw [hs1]; exact hn2)]
  simp only [get]
  by_cases h2 : i = d2
  ·subst h2; simp only [if_true]; exact RP.ofVal ..
  ·rw [if_neg h2, if_neg (fun e => h2 e.symm), Agn (by rw [hr.size]; exact hn1)]
   by_cases h1 : i = d1
   ·subst h1; simp only [if_true]; exact .any _
   ·rw [if_neg h1, if_neg (fun e => h1 e.symm)]; exact (hr.env i).adv hadv
 ·rw [hds] at hj
  simp only [List.mem_cons, List.not_mem_nil, or_false, not_or] at hj
  rw [Agn (by rw [hs1]; exact hn2), if_neg hj.2, Agn (by rw [hr.size]; exact hn1), if_neg hj.1]
theorem A0f {l : List Oper} {T : TypeId} {x : Operand} {d1 d2 : Nat} (h : At1 l = some (T, x, d1, d2)) : ∃ o1 o2 T2, l = [o1, o2] ∧ (o1.op = .move x ∧ ∃ t, x = .tmp t) ∧ o1.dst = some d1 ∧ o1.guard = none ∧ o2.op = .binOp .eql T (.tmp d1) (.const (.slice none 0 0)) T2 ∧ o2.dst = some d2 ∧ o2.guard = none := by
 unfold At1 at h
 split at h
 ·rename_i o1 o2
  split at h
  ·rename_i x' d1' T' t T2 d2' h1 h2 h3 h4 h5 h6
   split at h
   ·rename_i e
    cases h; subst e
    exact ⟨o1, o2, T2, rfl, ⟨h1, _, rfl⟩, h2, h3, h4, h5, h6⟩
   ·cases h
  ·cases h
 ·cases h
theorem nilEq_ok {dl : List Deferred} {ro : Option Nat} {C : Ctx} {A : Ar} (hA : A = std) (hC : C.OK) {n id : Nat} {ops : Array Oper} {Q : Ex → St → Prop} {s : St} {T : TypeId} {x : Operand} {d1 d2 : Nat} (hreg : regOk n ops.toList = true) (hn : At1 ops.toList = some (T, x, d1, d2))
  (h : nilK C A s T x fun p b => Q .normal ⟨(d2, bl b) :: (d1, p) :: s.env, s.sto, s.gen + 1⟩) {μ : Nmap} {Z : Nat → Nat → Prop} {a : Act} {w : World} (hr : RelC C n s μ Z a w dl) :
  (Code.region id ops false).wpIn (Fq ro) 0 C.P (Ends dl C n Q (dsts ops.toList) μ (den s.sto) Z a w) a w := by
 subst hA
 obtain ⟨o1, o2, T2, hops, ⟨ho1, tt, hxt⟩, hd1, hg1, ho2, hd2, hg2⟩ := A0f hn
 have hds : dsts ops.toList = [d1, d2] := by rw [hops]; simp [dsts, hd1, hd2]
 simp only [regOk, Bool.and_eq_true, hds] at hreg
 have hn1 : d1 < n := by have := List.all_eq_true.1 hreg.1 d1 (by simp); simp at this; exact this.1
 have hn2 : d2 < n := by have := List.all_eq_true.1 hreg.1 d2 (by simp); simp at this; exact this.1
 have hsz : ops.size = 2 := by have := congrArg List.length hops; simpa using this
 have e0 : ops[0]? = some o1 := by rw [← Array.getElem?_toList, hops]; rfl
 have e1 : ops[1]? = some o2 := by rw [← Array.getElem?_toList, hops]; rfl
 have hev : RP μ w Z (a.eval x) (opd C s.env x) := by subst hxt; exact hr.env tt
 have key : ∃ (b : Bool) (p : PV), RP μ w Z (a.eval x) p ∧ ((∃ ad n cap, a.eval x = .slice ad n cap ∧ b = ad.isNone) ∧ ∃ e, C.P.underlying T = some (.slice e)) ∧ Q .normal ⟨(d2, bl b) :: (d1, p) :: s.env, s.sto, s.gen + 1⟩ := by
  unfold nilK at h
  split at h
  ·rename_i e _ _ _ hT
   obtain ⟨_, d, _, h2, _, _, _, h5⟩ := hC.ti T _ hT
   obtain rfl := KOk.slice h5
   have fin : ∀ (p : PV) (t : Ty) (xs : List (U t)), RD w Z (a.eval x) (.sl t xs) → RP μ w Z (a.eval x) p → (std.cmp .eql (std.len t xs) 0 = true → Q .normal ⟨(d2, bl true) :: (d1, p) :: s.env, s.sto, s.gen + 1⟩) →
     Q .normal ⟨(d2, bl false) :: (d1, p) :: s.env, s.sto, s.gen + 1⟩ → ∃ (b : Bool) (p : PV), RP μ w Z (a.eval x) p ∧ ((∃ ad n cap, a.eval x = .slice ad n cap ∧ b = ad.isNone) ∧ ∃ e, C.P.underlying T = some (.slice e)) ∧ Q .normal ⟨(d2, bl b) :: (d1, p) :: s.env, s.sto, s.gen + 1⟩ := fun p t xs hrd hp h1 h2' => by
    obtain ⟨ad, cap, hx⟩ := hrd.slen
    cases ad with
    | none =>
     have hx0 : xs = [] := by
      generalize hgy : a.eval x = y at hrd
      rw [hx] at hgy
      generalize hgd : D.sl t xs = dd at hrd
      cases hrd <;> simp at hgd hgy
      obtain ⟨rfl, h⟩ := hgd
      simpa using h
     refine ⟨true, p, hp, ⟨⟨none, _, _, hx, rfl⟩, e, h2⟩, h1 ?_⟩
     subst hx0; rfl
    | some ad => exact ⟨false, p, hp, ⟨⟨some ad, _, _, hx, rfl⟩, e, h2⟩, h2'⟩
   split at h
   ·rename_i t xs hx
    rw [hx] at hev
    refine fin _ t xs ?_ hev h.1 h.2
    generalize a.eval x = y at hev
    cases hev with
    | d _ _ h => exact h
   ·rename_i kk g t xs hx
    rw [hx] at hev
    exact fin _ t xs hev.os_sl hev h.1 h.2
   ·rename_i hx
    rw [hx] at hev
    have := hev.val
    exact ⟨true, _, hev, ⟨⟨none, 0, 0, this, rfl⟩, e, h2⟩, h⟩
   ·exact h.elim
  ·exact h.elim
 obtain ⟨b, p, hp, ⟨⟨ad, m, cap, hx, hb⟩, e, hu⟩, hq⟩ := key
 refine wpIn_region ?_
 rw [hsz, show List.range 2 = [0, 1] from rfl, wpOpsIn_cons]
 have hrun : (execOp a.eval o1).run C.P w = .ok (.value (a.eval x)) w := by simp [execOp, ho1]
 unfold wpOpIn
 rw [e0]
 simp only [Region.wanted, hg1, if_true]
 refine Ale hrun (fun _ h => by cases h) ?_
 rw [Oper.uponIn_value, wpOpsIn_cons, hd1]
 unfold wpOpIn
 rw [e1]
 simp only [Region.wanted, hg2, if_true]
 have hs1 : (a.put (some d1) (a.eval x)).tmps.size = n := by simp [Act.put, hr.size]
 have hev1 : (a.put (some d1) (a.eval x)).eval (.tmp d1) = a.eval x := by
  show (a.put (some d1) (a.eval x)).tmps.getD d1 undef = _
  rw [Agn (by rw [hr.size]; exact hn1), if_pos rfl]
 have hrun2 : (execOp (a.put (some d1) (a.eval x)).eval o2).run C.P w = .ok (.value (.bool b)) w := by
  simp only [execOp, ho2]
  rw [hev1, hx, hb]
  have : (a.put (some d1) (.slice ad m cap)).eval (.const (.slice none 0 0)) = .slice none 0 0 := rfl
  rw [this]
  have h3 : (Op.equal T (.slice ad m cap) (.slice none 0 0)).run C.P w = .ok ad.isNone w := by
   refine Atr fun d => ?_
   cases ad <;> simp [Op.equalIn, und hu]
  simp [eqGuard, binOp, h3]
 refine Ale hrun2 (fun _ h => by cases h) ?_
 rw [Oper.uponIn_value, hd2]
 refine ⟨.normal, _, μ, Z, rfl, hq, ⟨by simp [Act.put, hr.size], fun i => ?_, hr.df, hr.wr, hr.gi, fun k g hg => hr.bd k g (by have : s.gen + 1 ≤ g := hg; omega)⟩, .refl, fun j hj => ?_⟩
 ·show RP _ _ _ _ (get ((d2, bl b) :: (d1, p) :: s.env) i)
  rw [Agn (by rw [hs1]; exact hn2)]
  simp only [get]
  by_cases h2 : i = d2
  ·subst h2; simp only [if_true]; exact RP.ofVal ..
  ·rw [if_neg h2, if_neg (fun e => h2 e.symm), Agn (by rw [hr.size]; exact hn1)]
   by_cases h1 : i = d1
   ·subst h1; simp only [if_true]; exact hp
   ·rw [if_neg h1, if_neg (fun e => h1 e.symm)]; exact hr.env i
 ·rw [hds] at hj
  simp only [List.mem_cons, List.not_mem_nil, or_false, not_or] at hj
  rw [Agn (by rw [hs1]; exact hn2), if_neg hj.2, Agn (by rw [hr.size]; exact hn1), if_neg hj.1]
theorem Asg {dl : List Deferred} {ro : Option Nat} {C : Ctx} {A : Ar} (hA : A = std) (hC : C.OK) {n id : Nat} {ops : Array Oper} {Q : Ex → St → Prop} {s : St} (h : code C A n (.region id ops true) Q s) {μ : Nmap} {Z : Nat → Nat → Prop} {a : Act} {w : World} (hr : RelC C n s μ Z a w dl) :
  (Code.region id ops true).wpIn (Fq ro) 0 C.P (Ends dl C n Q (dsts ops.toList) μ (den s.sto) Z a w) a w := by
 simp only [code] at h
 obtain ⟨⟨hreg⟩, h⟩ := h
 simp only [regOk, Bool.and_eq_true] at hreg
 obtain ⟨rs, s', ⟨⟨hchk⟩, hk⟩, hos, hgen, hch, henv, hst⟩ := Ano hA hC ops.toList [] s [] _ rfl h
 have hlen : rs.length = ops.size := by have := congrArg List.length hos; simpa using this
 have hds := Azn hos
 refine wpIn_region_any hC.mixed ?_
 have hchain := Avk (rs := rs) rs [] _ _ rfl hch
 simp only [List.length_nil] at hchain
 have hrange : ∀ i, i ∈ List.range' 0 rs.length ↔ i < rs.length := by intro i; simp [List.mem_range']
 have hmd : ∀ d, d ∈ dstsI rs (List.range' 0 rs.length) → True := fun _ _ => trivial
 refine any_ok (dl := dl) (ro := ro) (C := C) (n := n) (ops := ops) (gen := s.gen) (rs := rs) (env := s.env) (m' := den s'.sto) hos (fun i r hi => ?_) (by simpa using hchk) (by rw [hds]; exact Ajx hreg.2) (by
   rw [hds]; intro d hd; have := List.all_eq_true.1 hreg.1 d hd; simp at this; exact this.1) _ ops.size (List.range' 0 rs.length) (Array.replicate ops.size false) (den s.sto) μ Z a _ (by simp [hlen]) ?_ (fun i hi => (hrange i).1 hi) (fun i hi => ?_) (by simp [hlen])
   (fun j o hj hn e he hin => ?_) hchain ?_ (fun μ' Z' a' w' h1 h2 h3 => ?_)
 ·have := hst i r hi
  exact ⟨by simpa using this.1, this.2.1, this.2.2⟩
 ·exact List.pairwise_lt_range'
 ·rw [hrange]
  have : i < ops.size := by omega
  simp [this, hi]
 ·have : j < ops.size := by
   rcases Nat.lt_or_ge j ops.toList.length with h | h
   ·simpa using h
   ·rw [List.getElem?_eq_none h] at hj; cases hj
  exact hn ((hrange j).2 (by omega))
 ·have h1 := (hr.relR (dstsI rs (List.range' 0 rs.length)) (fun d hd => by
   have hd' := A14 hd
   rw [hds] at hd'; have := List.all_eq_true.1 hreg.1 d hd'; simp at this; exact this.2)).drew
  have hEL : EL rs s.env (List.range' 0 rs.length) = get s.env := by
   funext t
   by_cases hex : ∃ (j : Nat) (r : Rc), rs[j]? = some r ∧ r.o.dst = some t
   ·obtain ⟨j, r, hj, hd⟩ := hex
    refine A12 ((hrange j).2 ?_) hj hd
    rcases Nat.lt_or_ge j rs.length with h | h
    ·exact h
    ·rw [List.getElem?_eq_none h] at hj; cases hj
   ·rw [Aqy (fun j _ r hj hd => hex ⟨j, r, hj, hd⟩), get_envs_none rs _ (fun j r hj hd => hex ⟨j, r, hj, hd⟩)]
  rw [hEL]; exact h1
 ·refine ⟨.normal, _, μ', Z', rfl, hk, ⟨h1.size, fun i => ?_, h1.df, h1.wr, h1.gi, fun k g hg => h1.bd k g ?_⟩, At2.trans h2, fun j hj => h3 j (by rw [hds]; exact hj)⟩
  ·show RP _ _ _ _ (get s'.env i)
   rw [henv]; exact h1.env i
  ·have : s'.gen + 1 ≤ g := hg
   omega
end Go.PL
namespace Go.PL
set_option linter.unusedSimpArgs false
set_option linter.unusedVariables false
set_option linter.unusedSectionVars false
open Tys (Ty U)
open Enc (sz enc dflt tb ofB toB)
open Dec (dec dok)
variable [Tys] [Enc] [Dec]
theorem Aqz (ws : List Nat) (env : List (Nat × PV)) (j : Nat) : get (restE ws env) j = if j ∈ ws then .any else get env j := by
 induction env with
 | nil => simp [restE, get]
 | cons p r ih =>
  obtain ⟨i, v⟩ := p
  simp only [restE] at ih
  simp only [restE, List.filter_cons]
  by_cases hi : ws.contains i = true
  ·simp only [hi, Bool.not_true, Bool.false_eq_true, if_false]
   rw [ih]
   by_cases hj : j ∈ ws
   ·simp [hj]
   ·have : ¬ i = j := by intro e; subst e; exact hj (by simpa using hi)
    simp [hj, get, this]
  ·have hi' : ws.contains i = false := by simpa using hi
   simp only [hi', Bool.not_false, if_true, get]
   by_cases hij : i = j
   ·subst hij
    have : ¬ i ∈ ws := by simpa using hi'
    simp [this]
   ·simp only [hij, if_false]; exact ih
theorem get_append (a b : List (Nat × PV)) (j : Nat) : (∃ v, (j, v) ∈ a ∧ get (a ++ b) j = v) ∨ get (a ++ b) j = get b j := by
 induction a with
 | nil => exact .inr rfl
 | cons p r ih =>
  obtain ⟨i, v⟩ := p
  by_cases hij : i = j
  ·subst hij; exact .inl ⟨v, by simp, by simp [get]⟩
  ·rcases ih with ⟨u, h1, h2⟩ | h
   ·exact .inl ⟨u, by simp [h1], by simp [get, hij]; exact h2⟩
   ·exact .inr (by simp [get, hij]; exact h)
theorem NmOK.at {al : List (Nat × Nat × Nat)} {gh k g k' g' : Nat} {μ μ' : Nmap} (h : NmOK al gh k g k' g') (hmono : ∀ k g y, μ k g = some y → μ' k g = some y) (hal : ∀ K a b, lkA al K = some (a, b) → ∀ y, μ a b = some y → μ' K gh = some y) {y : Option Nat}
  (hy : μ k g = some y) : μ' k' g' = some y := by
 unfold NmOK at h
 split at h
 ·rename_i a b hl
  obtain ⟨rfl, rfl, rfl⟩ := h
  exact hal _ _ _ hl _ hy
 ·obtain ⟨rfl, rfl⟩ := h
  exact hmono _ _ _ hy
theorem LeRs.at {al : List (Nat × Nat × Nat)} {gh : Nat} : ∀ {l m : List PV}, LeR.LeRs al gh l m → l.length = m.length ∧ ∀ (i : Nat) (q : PV), m[i]? = some q → ∃ p, l[i]? = some p ∧ LeR al gh p q
 | [], [], _ => ⟨rfl, fun i q h => by simp at h⟩
 | p :: l, q :: m, h => by
  obtain ⟨h1, h2⟩ := h
  obtain ⟨h3, h4⟩ := LeRs.at h2
  refine ⟨by simp [h3], fun i r hr => ?_⟩
  cases i with
  | zero => simp at hr; subst hr; exact ⟨p, rfl, h1⟩
  | succ i => simpa using h4 i r (by simpa using hr)
 | [], _ :: _, h => h.elim
 | _ :: _, [], h => h.elim
theorem LeR.rp {al : List (Nat × Nat × Nat)} {gh : Nat} {μ μ' : Nmap} {w : World} {Z : Nat → Nat → Prop} (hmono : ∀ k g y, μ k g = some y → μ' k g = some y) (hal : ∀ K a b, lkA al K = some (a, b) → ∀ y, μ a b = some y → μ' K gh = some y)
  (hnil : ∀ K, lkA al K = none → μ' K gh = some none) {v : Value} {p : PV} (hv : RP μ w Z v p) : ∀ q, LeR al gh p q → RP μ' w Z v q := by
 have dft : ∀ {v : Value} {p q : PV}, RP μ w Z v p → LeP p q → RP μ' w Z v q := fun h1 h2 => (LeP.rp _ _ h2 _ h1).mono hmono (fun _ _ h => h) (fun _ _ _ => rfl) (fun _ _ h => h)
 induction hv with
 | d x d h =>
  intro q hq
  cases q <;> simp only [LeR] at hq <;> try exact dft (.d _ _ h) hq
  rename_i k g t xs
  split at hq
  ·obtain ⟨h1, rfl, rfl⟩ := hq
   cases h
   exact .osN _ _ _ (hnil _ h1)
  ·exact hq.elim
 | bx k g off b h =>
  intro q hq
  cases q <;> simp only [LeR] at hq <;> try exact dft (.bx _ _ _ _ h) hq
  ·obtain ⟨h1, rfl⟩ := hq
   exact .bx _ _ _ _ (h1.at hmono hal h)
  ·obtain ⟨h1, rfl⟩ := hq
   exact .np _ _ _ (h1.at hmono hal h)
 | ip ds b off vs h =>
  intro q hq
  cases q <;> simp only [LeR] at hq <;> exact dft (.ip _ _ _ _ h) hq
 | osN k g t h =>
  intro q hq
  cases q <;> simp only [LeR] at hq <;> try exact dft (.osN _ _ _ h) hq
  obtain ⟨h1, h2⟩ := hq
  cases h2
  exact .osN _ _ _ (h1.at hmono hal h)
 | os k g t xs b n cap m T h hr hn hc hs hm =>
  intro q hq
  cases q <;> simp only [LeR] at hq <;> try exact dft (.os _ _ _ _ _ _ _ _ _ h hr hn hc hs hm) hq
  obtain ⟨h1, h2⟩ := hq
  cases h2
  exact .os _ _ _ _ _ _ _ _ _ (h1.at hmono hal h) hr hn hc hs hm
 | fn f a b vs us hl hm h h' ih ih' =>
  intro q hq
  cases q <;> simp only [LeR] at hq <;> try exact dft (.fn _ _ _ _ _ hl hm h h') hq
  obtain ⟨rfl, h1, h2⟩ := hq
  obtain ⟨l1, a1⟩ := LeRs.at h1
  obtain ⟨l2, a2⟩ := LeRs.at h2
  exact .fn _ _ _ _ _ (by rw [hl, l1]) (by rw [hm, l2]) (fun i x q hx hq => let ⟨p, hp, hle⟩ := a1 i q hq; ih i x p hx hp q hle) (fun i x q hx hq => let ⟨p, hp, hle⟩ := a2 i q hq; ih' i x p hx hp q hle)
 | ag ps vs hl h ih =>
  intro q hq
  cases q <;> simp only [LeR] at hq <;> try exact dft (.ag _ _ hl h) hq
  obtain ⟨l1, a1⟩ := LeRs.at hq
  exact .ag _ _ (by rw [hl, l1]) (fun i x q hx hq => let ⟨p, hp, hle⟩ := a1 i q hq; ih i x p hx hp q hle)
 | tu ps vs hl h ih =>
  intro q hq
  cases q <;> simp only [LeR] at hq <;> try exact dft (.tu _ _ hl h) hq
  obtain ⟨l1, a1⟩ := LeRs.at hq
  exact .tu _ _ (by rw [hl, l1]) (fun i x q hx hq => let ⟨p, hp, hle⟩ := a1 i q hq; ih i x p hx hp q hle)
 | mp k g b h =>
  intro q hq
  cases q <;> simp only [LeR] at hq <;> try exact dft (.mp _ _ _ h) hq
  exact .mp _ _ _ (hq.at hmono hal h)
 | cond c x p h h' ih =>
  intro q hq
  cases q <;> simp only [LeR] at hq <;> exact dft (.cond _ _ _ h h') hq
 | ms k g t lo n b cap h h0 h1 hc T m hs hm =>
  intro q hq
  cases q <;> simp only [LeR] at hq <;> try exact dft (.ms _ _ _ _ _ _ _ h h0 h1 hc T m hs hm) hq
  obtain ⟨h2, rfl, rfl, rfl⟩ := hq
  exact .ms _ _ _ _ _ _ _ (h2.at hmono hal h) h0 h1 hc T m hs hm
 | msE k g t lo n a h1 =>
  intro q hq
  cases q <;> simp only [LeR] at hq <;> try exact dft (.msE _ _ _ _ _ a h1) hq
  obtain ⟨h2, rfl, rfl, rfl⟩ := hq
  exact .msE _ _ _ _ _ a h1
 | nz a =>
  intro q hq
  cases q <;> simp only [LeR] at hq <;> exact dft (.nz a) hq
 | npN k g =>
  intro q hq
  cases q <;> simp only [LeR] at hq <;> try exact dft (.npN k g) hq
  exact .npN _ _
 | np k g b h =>
  intro q hq
  cases q <;> simp only [LeR] at hq <;> try exact dft (.np k g b h) hq
  exact .np _ _ _ (hq.at hmono hal h)
 | ep k g t i off b h h0 =>
  intro q hq
  cases q <;> simp only [LeR] at hq <;> try exact dft (.ep _ _ _ _ _ _ h h0) hq
  obtain ⟨h2, rfl, rfl, rfl⟩ := hq
  exact .ep _ _ _ _ _ _ (h2.at hmono hal h) h0
 | any x =>
  intro q hq
  cases q <;> simp only [LeR] at hq <;> exact dft (.any _) hq
theorem den_mem {l : List En} {k g : Nat} {c : Cell} (h : den l k g = some c) : ∃ e ∈ l, e.k = k ∧ e.g = g ∧ e.c = c := by
 induction l with
 | nil => simp [den] at h
 | cons e r ih =>
  simp only [den] at h
  split at h
  ·rename_i h1; exact ⟨e, by simp, h1.1, h1.2, by simpa using h⟩
  ·obtain ⟨e', h1, h2⟩ := ih h; exact ⟨e', by simp [h1], h2⟩
theorem LeEnv.mem {s : St} {al : List (Nat × Nat × Nat)} : ∀ {l : List (Nat × PV)}, LeEnv s al l → ∀ j v, (j, v) ∈ l → LeR al s.gen (get s.env j) v
 | [], _, j, v, h => by cases h
 | (i, u) :: r, h, j, v, hm => by
  rcases List.mem_cons.1 hm with h1 | h1
  ·cases h1; exact h.1
  ·exact LeEnv.mem h.2 j v h1
inductive Src (s : St) (al : List (Nat × Nat × Nat)) (e : En) : Prop where
 | al (k' g' : Nat) (c' : Cell) (h1 : lkA al e.k = some (k', g')) (h2 : e.g = s.gen) (h3 : find s.sto k' = some (g', c')) (h4 : LeRC al s.gen c' e.c)
 | same (c' : Cell) (h1 : lkA al e.k = none) (h3 : find s.sto e.k = some (e.g, c')) (h4 : LeRC al s.gen c' e.c)
 | fresh (T : TypeId) (t : Ty) (h1 : lkA al e.k = none) (h2 : e.g = s.gen) (h3 : e.c = .tok T t 0)
theorem LeSto.mem {s : St} {al : List (Nat × Nat × Nat)} : ∀ {l : List En}, LeSto s al l → ∀ e ∈ l, Src s al e
 | [], _, e, h => by cases h
 | e' :: r, h, e, hm => by
  rcases List.mem_cons.1 hm with h1 | h1
  ·subst h1
   have h := h.1
   split at h
   ·rename_i k' g' hl
    obtain ⟨h2, h⟩ := h
    split at h
    ·rename_i g2 c' hf
     obtain ⟨rfl, h⟩ := h
     exact .al _ _ _ hl h2 hf h
    ·exact h.elim
   ·rename_i hl
    split at h
    ·rename_i g' c' hf
     obtain ⟨rfl, h⟩ := h
     exact .same _ hl hf h
    ·split at h
     ·rename_i T t n hc
      obtain ⟨rfl, h2⟩ := h
      exact .fresh T t hl h2 hc
     ·exact h.elim
  ·exact LeSto.mem h.2 e h1
theorem Avl (al : List (Nat × Nat × Nat)) : ∀ l : List En, (keysA al l).length = l.length
 | [] => rfl
 | e :: r => by simp [keysA, Avl al r]
theorem Aq0 (al : List (Nat × Nat × Nat)) : ∀ (l : List En) (i : Nat) (e : En), l[i]? = some e → (keysA al l)[i]? = some (match lkA al e.k with | some (k', _) => k' | none => e.k)
 | [], i, e, h => by simp at h
 | x :: r, 0, e, h => by simp at h; subst h; simp only [keysA, List.getElem?_cons_zero] <;> rfl
 | x :: r, i + 1, e, h => by simpa [keysA] using Aq0 al r i e (by simpa using h)
theorem EntOK.name2 {μ μ' : Nmap} {w : World} {Z : Nat → Nat → Prop} {k g k2 g2 : Nat} {c : Cell} (hmono : ∀ k g y, μ k g = some y → μ' k g = some y) (hn : ∀ y, μ k g = some y → μ' k2 g2 = some y) (h : EntOK μ w Z k g c) : EntOK μ' w Z k2 g2 c := by
 have up : ∀ {x : Value} {p : PV}, RP μ w Z x p → RP μ' w Z x p := fun h => h.mono hmono (fun _ _ h => h) (fun _ _ _ => rfl) (fun _ _ h => h)
 cases c with
 | box T vs =>
  obtain ⟨b, cs, h1, h2, h3, h4⟩ := h
  exact ⟨b, cs, hn _ h1, h2, ⟨h3.1, fun i x p hx hp => up (h3.2 i x p hx hp)⟩, h4⟩
 | tok T t n =>
  rcases h with ⟨h1, h2⟩ | ⟨b, cs, h1, h2⟩
  ·exact .inl ⟨hn _ h1, h2⟩
  ·exact .inr ⟨b, cs, hn _ h1, h2⟩
 | map es =>
  obtain ⟨b, ms, h1, h2, ⟨h3, h4⟩, h5⟩ := h
  exact ⟨b, ms, hn _ h1, h2, ⟨h3, fun i e x p he hp => let ⟨a1, a2, a3⟩ := h4 i e x p he hp; ⟨a1, a2, up a3⟩⟩, h5⟩
 | iter mk mg since stepped seen =>
  obtain ⟨b, bm, h1, ⟨h2, h3⟩, h4⟩ := h
  exact ⟨b, bm, hn _ h1, ⟨hmono _ _ _ h2, h3⟩, h4⟩
 | arr T t xs =>
  rcases h with ⟨h1, h2⟩ | ⟨b, cs, h1, h2⟩
  ·exact .inl ⟨hn _ h1, h2⟩
  ·exact .inr ⟨b, cs, hn _ h1, h2⟩
 | froz T ds =>
  obtain ⟨b, vs, h1, h2⟩ := h
  exact ⟨b, vs, hn _ h1, h2⟩
theorem LeRC.ent {al : List (Nat × Nat × Nat)} {gh : Nat} {μ μ' : Nmap} {w : World} {Z : Nat → Nat → Prop} {k g k2 g2 : Nat} {c c' : Cell} (hmono : ∀ k g y, μ k g = some y → μ' k g = some y) (hal : ∀ K a b, lkA al K = some (a, b) → ∀ y, μ a b = some y → μ' K gh = some y)
  (hnil : ∀ K, lkA al K = none → μ' K gh = some none) (hn : ∀ y, μ k g = some y → μ' k2 g2 = some y) (hle : LeRC al gh c c') (h : EntOK μ w Z k g c) : EntOK μ' w Z k2 g2 c' := by
 have dft : LeC c c' → EntOK μ' w Z k2 g2 c' := fun hc => (hc.ent h).name2 hmono hn
 cases c <;> cases c' <;> simp only [LeRC] at hle <;> try exact dft hle
 obtain ⟨rfl, hle⟩ := hle
 obtain ⟨b, cs, h1, h2, h3, h4⟩ := h
 obtain ⟨l1, a1⟩ := LeRs.at hle
 exact ⟨b, cs, hn _ h1, h2, ⟨by rw [h3.1, l1], fun i x q hx hq => let ⟨p, hp, hpq⟩ := a1 i q hq; (h3.2 i x p hx hp |> LeR.rp hmono hal hnil) q hpq⟩, h4⟩
theorem Aoy {dl : List Deferred} {C : Ctx} {n : Nat} {s : St} {news : Nat → List (Nat × PV)} {stos : Nat → List En} {al : List (Nat × Nat × Nat)} {ws : List Nat} {env0 : List (Nat × PV)} (hh : Head s news stos al) {μ : Nmap} {Z : Nat → Nat → Prop} {a : Act} {w : World} (hr : RelC C n s μ Z a w dl)
  (hrest : ∀ j, j ∉ ws → RP μ w Z (a.tmps.getD j undef) (get env0 j)) :
  ∃ μ', RelC C n ⟨news s.gen ++ restE ws env0, stos s.gen, s.gen + 1⟩ μ' Z a w dl ∧ Adv μ (den s.sto) Z w μ' (den (stos s.gen)) Z w := by
 let μ' : Nmap := fun k g => if g = s.gen then (match lkA al k with | some (a, b) => μ a b | none => some none) else μ k g
 have hmono : ∀ k g y, μ k g = some y → μ' k g = some y := by
  intro k g y h
  have hne : g ≠ s.gen := by intro e; subst e; rw [hr.bd k _ (Nat.le_refl _)] at h; cases h
  simp only [μ', hne, if_false]; exact h
 have hal : ∀ K a b, lkA al K = some (a, b) → ∀ y, μ a b = some y → μ' K s.gen = some y := by
  intro K a b h y hy
  simp only [μ', if_true, h]; exact hy
 have hnil : ∀ K, lkA al K = none → μ' K s.gen = some none := by
  intro K h; simp only [μ', if_true, h]
 have hRP : ∀ {x : Value} {p : PV}, RP μ w Z x p → RP μ' w Z x p := fun h => h.mono hmono (fun _ _ h => h) (fun _ _ _ => rfl) (fun _ _ h => h)
 have hne : ∀ k g c, den s.sto k g = some c → g ≠ s.gen := by
  intro k g c h e
  obtain ⟨y, hy⟩ := (hr.wr.ent _ _ _ h).name
  rw [hr.bd k g (by omega)] at hy; cases hy
 -- an entry of the new store: its block, and where it comes from
 have hent : ∀ e ∈ stos s.gen, EntOK μ' w Z e.k e.g e.c ∧ ∀ b, μ' e.k e.g = some (some b) → ∃ g' c', find s.sto (match lkA al e.k with | some (k', _) => k' | none => e.k) = some (g', c') ∧ μ (match lkA al e.k with | some (k', _) => k' | none => e.k) g' = some (some b) := by
  intro e he
  cases hh.sto.mem e he with
  | al k' g' c' h1 h2 h3 h4 =>
   refine ⟨LeRC.ent hmono hal hnil (fun y hy => by rw [h2]; exact hal _ _ _ h1 y hy) h4 (hr.wr.ent _ _ _ (Aa6 h3)), fun b hb => ?_⟩
   rw [h2] at hb
   simp only [μ', if_true, h1] at hb
   exact ⟨g', c', by rw [h1]; exact h3, by rw [h1]; exact hb⟩
  | same c' h1 h3 h4 =>
   have hg := hne _ _ _ (Aa6 h3)
   refine ⟨LeRC.ent hmono hal hnil (fun y hy => hmono _ _ _ hy) h4 (hr.wr.ent _ _ _ (Aa6 h3)), fun b hb => ?_⟩
   simp only [μ', hg, if_false] at hb
   exact ⟨e.g, c', by rw [h1]; exact h3, by rw [h1]; exact hb⟩
  | fresh T t h1 h2 h3 =>
   refine ⟨by rw [h3]; exact .inl ⟨by rw [h2]; exact hnil _ h1, rfl⟩, fun b hb => ?_⟩
   rw [h2, hnil _ h1] at hb; cases hb
 refine ⟨μ', ⟨hr.size, fun i => ?_, hr.df, ⟨?_, ?_, hr.wr.zlt⟩, fun g ds hg => ⟨hRP (hr.gi g ds hg).rp, (hr.gi g ds hg).shp⟩, fun k g hg => ?_⟩, ?_⟩
 ·show RP _ _ _ _ (get (news s.gen ++ restE ws env0) i)
  rcases get_append (news s.gen) (restE ws env0) i with ⟨v, hm, he⟩ | he
  ·rw [he]
   exact LeR.rp hmono hal hnil (hr.env i) v (hh.env.mem i v hm)
  ·rw [he, Aqz]
   split
   ·exact .any _
   ·rename_i hj; exact hRP (hrest i hj)
 ·intro k g c h
  obtain ⟨e, he, rfl, rfl, rfl⟩ := den_mem h
  exact (hent e he).1
 ·intro k g k' g' c c' b h3 h4 h5 h6
  obtain ⟨e, he, rfl, rfl, rfl⟩ := den_mem h3
  obtain ⟨e', he', rfl, rfl, rfl⟩ := den_mem h4
  obtain ⟨g1, c1, h7, h8⟩ := (hent e he).2 b h5
  obtain ⟨g2, c2, h9, h10⟩ := (hent e' he').2 b h6
  obtain ⟨h11, h12⟩ := hr.wr.dis _ _ _ _ _ _ b (Aa6 h7) (Aa6 h9) h8 h10
  obtain ⟨i, hi⟩ := List.mem_iff_getElem?.1 he
  obtain ⟨j, hj⟩ := List.mem_iff_getElem?.1 he'
  have ki := Aq0 al _ i e hi
  have kj := Aq0 al _ j e' hj
  rw [h11, ← kj] at ki
  have hlt : i < (keysA al (stos s.gen)).length := by
   rw [Avl]
   rcases Nat.lt_or_ge i (stos s.gen).length with h | h
   ·exact h
   ·rw [List.getElem?_eq_none h] at hi; cases hi
  have := (List.getElem?_inj hlt (Ajx hh.nd)).1 ki
  subst this
  rw [hi] at hj; cases hj
  exact ⟨rfl, rfl⟩
 ·have hg' : s.gen + 1 ≤ g := hg
  have hne : g ≠ s.gen := by omega
  simp only [μ', hne, if_false]
  exact hr.bd k g (by omega)
 ·refine ⟨hmono, fun _ _ h => h, fun _ _ _ => rfl, fun _ _ h => h, Nat.le_refl _, fun _ _ _ => rfl, fun _ _ h => .inl h, fun k g c b h3 h4 => ?_, rfl, rfl⟩
  obtain ⟨e, he, rfl, rfl, rfl⟩ := den_mem h3
  obtain ⟨g1, c1, h7, h8⟩ := (hent e he).2 b h4
  exact .inr ⟨_, g1, c1, Aa6 h7, h8⟩
theorem Ends.trans {dl : List Deferred} {C : Ctx} {n : Nat} {Q : Ex → St → Prop} {W1 W2 W : List Nat} {μ0 μ1 : Nmap} {m0 m1 : Mem} {Z0 Z1 : Nat → Nat → Prop} {a0 a1 : Act} {w0 w1 : World} (ha : Adv μ0 m0 Z0 w0 μ1 m1 Z1 w1) (hw1 : ∀ j, j ∉ W → j ∉ W1) (hw2 : ∀ j, j ∉ W → j ∉ W2)
  (hj : ∀ j, j ∉ W1 → a1.tmps.getD j undef = a0.tmps.getD j undef) {e : Exit} {a : Act} {w : World} (h : Ends dl C n Q W2 μ1 m1 Z1 a1 w1 e a w) : Ends dl C n Q W μ0 m0 Z0 a0 w0 e a w := by
 obtain ⟨ex, s, μ, Z, h1, h2, h3, h4, h5⟩ := h
 exact ⟨ex, s, μ, Z, h1, h2, h3, ha.trans h4, fun j hj' => by rw [h5 j (hw2 j hj'), hj j (hw1 j hj')]⟩
theorem Aoz (T : Nat → Prop) (h : ∃ m, T m) : ∃ m, T m ∧ ∀ k, T k → m ≤ k := by
 obtain ⟨m, hm⟩ := h
 induction m using Nat.strongRecOn with
 | _ m ih =>
  by_cases hx : ∃ k, k < m ∧ T k
  ·obtain ⟨k, h1, h2⟩ := hx; exact ih k h1 h2
  ·refine ⟨m, hm, fun k hk => ?_⟩
   rcases Nat.lt_or_ge k m with h | h
   ·exact absurd ⟨k, h, hk⟩ hx
   ·exact h
open Classical in
noncomputable def least (T : Nat → Prop) : Nat := if h : ∃ m, T m then Classical.choose (Aoz T h) else 0
theorem A0g {T : Nat → Prop} (h : ∃ m, T m) : T (least T) := by
 unfold least; rw [dif_pos h]; exact (Classical.choose_spec (Aoz T h)).1
theorem A3u {T : Nat → Prop} {k : Nat} (h : T k) : least T ≤ k := by
 have h' : ∃ m, T m := ⟨k, h⟩
 unfold least; rw [dif_pos h']; exact (Classical.choose_spec (Aoz T h')).2 k h
theorem wpIn_scope_straight {F : Fence} {n : Nat} {P : Program} {c : Code} {Q : Exit → Act → World → Prop} {a : Act} {w : World} (h : c.wpIn F n P (Exit.noGoto Q) a w) : (Code.scope c).wpIn F n P Q a w := by
 intro b k cs hro hb hr
 have h0 : (lone (b.atR a (.code (.scope c) :: k)) cs w).fenced P F := fenced_calm hb hr rfl
 have h1 : step P (lone (b.atR a (.code (.scope c) :: k)) cs w) = .next (lone (b.atR a (.code c :: .inScope c :: k)) cs w) := step_lone_go (by simp [stepG, stepG.exec, Frame.atR])
 have h2 : ∀ a' w', step P (lone (b.atR a' (.inScope c :: k)) cs w') = .next (lone (b.atR a' k) cs w') := fun a' w' => step_lone_go (by simp [stepG, stepG.exec, Frame.atR])
 obtain ⟨e, a₁, w₁, hq, harr⟩ := h b (.inScope c :: k) cs hro hb hr
 cases e with
 | normal => exact ⟨.normal, a₁, w₁, hq, .head h0 h1 (StepsIn.trans harr (.one (fenced_calm hb hr rfl) (h2 _ _)))⟩
 | exit id =>
  have hx : exitTo id (.inScope c :: k) = exitTo id k := by simp [exitTo]
  exact ⟨_, a₁, w₁, hq, fun k' hk => .head h0 h1 (harr.1 k' (by rw [hx]; exact hk)), fun hr' hk => let ⟨k₁, a1, a2⟩ := harr.2 hr' (by rw [hx]; exact hk); ⟨k₁, a1, .head h0 h1 a2⟩⟩
 | goto l => exact hq.elim
 | ret => exact ⟨_, a₁, w₁, hq, .of_steps (.one h0 h1) harr⟩
 | panic ch => exact ⟨_, a₁, w₁, hq, .of_steps (.one h0 h1) harr⟩
 | outgrown => exact ⟨_, a₁, w₁, hq, .of_steps (.one h0 h1) harr⟩
theorem Ai0 {dl : List Deferred} {ro : Option Nat} {C : Ctx} {A : Ar} (hA : A = std) (hC : C.OK) {n : Nat} : ∀ (c : Code) (Q : Ex → St → Prop) (s : St), code C A n c Q s → ∀ (μ : Nmap) (Z : Nat → Nat → Prop) (a : Act) (w : World), RelC C n s μ Z a w dl →
  c.wpIn (Fq ro) 0 C.P (Ends dl C n Q (wr c) μ (den s.sto) Z a w) a w := by
 intro c
 induction c with
 | skip => intro Q s h μ Z a w hr; exact wpIn_skip ⟨.normal, s, μ, Z, rfl, h, hr, .refl, fun _ _ => rfl⟩
 | label l => intro Q s h μ Z a w hr; exact wpIn_label ⟨.normal, s, μ, Z, rfl, h, hr, .refl, fun _ _ => rfl⟩
 | ret => intro Q s h μ Z a w hr; exact wpIn_ret ⟨.ret, s, μ, Z, rfl, h, hr, .refl, fun _ _ => rfl⟩
 | exit id => intro Q s h μ Z a w hr; exact wpIn_exit ⟨.exit id, s, μ, Z, rfl, h, hr, .refl, fun _ _ => rfl⟩
 | region id ops draw =>
  intro Q s h μ Z a w hr
  cases draw with
  | false =>
   simp only [code] at h
   obtain ⟨h0, h⟩ := h
   split at h
   ·rename_i hn; exact next_ok h0.h hn h hr
   ·split at h
    ·rename_i hn; exact nilEq_ok hA hC h0.h hn h hr
    ·exact region_ok hA hC h0.h h hr
  | true => exact Asg hA hC h hr
 | seq x y ihx ihy =>
  intro Q s h μ Z a w hr
  simp only [code] at h
  refine wpIn_seq (wpIn_mono (ihx _ s h μ Z a w hr) fun e a1 w1 hE => ?_)
  obtain ⟨ex, s1, μ1, Z1, rfl, hq, hr1, ha1, hj1⟩ := hE
  cases ex with
  | normal =>
   obtain ⟨Zf, hrf, haf⟩ := hr1.frz
   refine wpIn_mono (ihy Q (frzS C s1) hq μ1 Zf a1 w1 hrf) fun e a2 w2 hE => hE.trans (ha1.trans haf) (W1 := wr x) (fun j hj => ?_) (fun j hj => ?_) hj1
   ·simp only [wr, List.mem_append, not_or] at hj; exact hj.1
   ·simp only [wr, List.mem_append, not_or] at hj; exact hj.2
  | exit id => exact ⟨.exit id, s1, μ1, Z1, rfl, hq, hr1, ha1, fun j hj => hj1 j (by simp only [wr, List.mem_append, not_or] at hj; exact hj.1)⟩
  | ret => exact ⟨.ret, s1, μ1, Z1, rfl, hq, hr1, ha1, fun j hj => hj1 j (by simp only [wr, List.mem_append, not_or] at hj; exact hj.1)⟩
 | cond c x y ihx ihy =>
  intro Q s h μ Z a w hr
  simp only [code] at h
  split at h
  ·rename_i t ht
   have hc : a.eval c = .bool t := by
    have : RP μ w Z (a.eval c) (opd C s.env c) := by
     cases c with
     | tmp t => exact hr.env t
     | const v =>
      cases v <;> simp only [opd, cst] at ht <;> cases ht
      exact RP.ofVal ..
     | global g => simp only [opd] at ht; split at ht <;> cases ht
     | func f => simp only [opd] at ht; cases ht
    rw [ht] at this; exact this.val
   cases t with
   | true => exact wpIn_cond_true hc (wpIn_mono (ihx Q s h μ Z a w hr) fun e a2 w2 hE => hE.trans (W1 := []) .refl (fun _ _ => by simp) (fun j hj => by simp only [wr, List.mem_append, not_or] at hj; exact hj.1) (fun _ _ => rfl))
   | false => exact wpIn_cond_false hc (wpIn_mono (ihy Q s h μ Z a w hr) fun e a2 w2 hE => hE.trans (W1 := []) .refl (fun _ _ => by simp) (fun j hj => by simp only [wr, List.mem_append, not_or] at hj; exact hj.2) (fun _ _ => rfl))
  ·exact h.elim
 | block id x ih =>
  intro Q s h μ Z a w hr
  simp only [code] at h
  refine wpIn_block (wpIn_mono (ih _ s h μ Z a w hr) fun e a1 w1 hE => ?_)
  obtain ⟨ex, s1, μ1, Z1, rfl, hq, hr1, ha1, hj1⟩ := hE
  cases ex with
  | normal => exact ⟨.normal, s1, μ1, Z1, rfl, hq, hr1, ha1, hj1⟩
  | exit j =>
   simp only [Ex.to, Exit.inBlock]
   simp only [blkE] at hq
   split
   ·rename_i he; rw [if_pos he] at hq; exact ⟨.normal, s1, μ1, Z1, rfl, hq, hr1, ha1, hj1⟩
   ·rename_i he; rw [if_neg he] at hq; exact ⟨.exit j, s1, μ1, Z1, rfl, hq, hr1, ha1, hj1⟩
  | ret => exact ⟨.ret, s1, μ1, Z1, rfl, hq, hr1, ha1, hj1⟩
 | scope x ih =>
  intro Q s h μ Z a w hr
  simp only [code] at h
  refine wpIn_scope_straight (wpIn_mono (ih Q s h μ Z a w hr) fun e a1 w1 hE => ?_)
  obtain ⟨ex, s1, μ1, Z1, rfl, hq, hr1, ha1, hj1⟩ := hE
  cases ex <;> exact ⟨_, s1, μ1, Z1, rfl, hq, hr1, ha1, hj1⟩
 | loop x ih =>
  intro Q s h μ Z a w hr
  simp only [code] at h
  obtain ⟨news, stos, meas, x0, al0, h0, round⟩ := h
  rename_i X
  -- a round's head
  let J : X → Act → World → Prop := fun y a' w' => ∃ (gh g : Nat) (μ' : Nmap) (Z' : Nat → Nat → Prop), RelC C n ⟨news y gh ++ restE (wr x) s.env, stos y gh, g⟩ μ' Z' a' w' dl ∧ Adv μ (den s.sto) Z w μ' (den (stos y gh)) Z' w' ∧
   ∀ j, j ∉ wr x → a'.tmps.getD j undef = a.tmps.getD j undef
  let T : Act → World → Nat → Prop := fun a' w' m => ∃ y, meas y = m ∧ J y a' w'
  have hrest : ∀ j, j ∉ wr x → RP μ w Z (a.tmps.getD j undef) (get s.env j) := fun j _ => hr.env j
  have hstart : ∃ y, J y a w := by
   obtain ⟨μ', h1, h2⟩ := Aoy h0 hr hrest
   exact ⟨x0, s.gen, s.gen + 1, μ', Z, h1, h2, fun _ _ => rfl⟩
  refine wpIn_loop (I := fun a' w' => ∃ y, J y a' w') (μ := fun a' w' => least (T a' w')) hstart fun a' w' hI => ?_
  have hT : ∃ m, T a' w' m := by obtain ⟨y, hy⟩ := hI; exact ⟨meas y, y, rfl, hy⟩
  obtain ⟨y, hym, gh, g, μ1, Z1, hr1, ha1, hj1⟩ := A0g hT
  refine wpIn_mono (ih _ _ (round y gh g (fun s' => ∃ x' al, meas x' < meas y ∧ Head s' (news x') (stos x') al) fun s' x' al h1 h2 => ⟨x', al, h1, h2⟩) μ1 Z1 a' w' hr1) fun e a2 w2 hE => ?_
  obtain ⟨ex, s2, μ2, Z2, rfl, hq, hr2, ha2, hj2⟩ := hE
  have hj : ∀ j, j ∉ wr x → a2.tmps.getD j undef = a.tmps.getD j undef := fun j hj' => by rw [hj2 j hj', hj1 j hj']
  cases ex with
  | normal =>
   obtain ⟨y', al, hlt, h3⟩ := hq
   have hrest' : ∀ j, j ∉ wr x → RP μ2 w2 Z2 (a2.tmps.getD j undef) (get s.env j) := fun j hj' => by
    rw [hj j hj']
    exact (hr.env j).adv (ha1.trans ha2)
   obtain ⟨μ3, h5, h6⟩ := Aoy h3 hr2 hrest'
   have hJ : J y' a2 w2 := ⟨_, _, μ3, Z2, h5, (ha1.trans ha2).trans h6, hj⟩
   have hT2 : ∃ m, T a2 w2 m := ⟨meas y', y', rfl, hJ⟩
   refine ⟨⟨y', hJ⟩, ?_⟩
   have : least (T a2 w2) ≤ meas y' := A3u ⟨y', rfl, hJ⟩
   show least (T a2 w2) < least (T a' w')
   omega
  | exit id => exact ⟨.exit id, s2, μ2, Z2, rfl, hq, hr2, ha1.trans ha2, hj⟩
  | ret => exact ⟨.ret, s2, μ2, Z2, rfl, hq, hr2, ha1.trans ha2, hj⟩
 | rangeFunc f ps x y ihx ihy => intro Q s h; exact h.elim
 | goto l => intro Q s h; exact h.elim
 | refuse why => intro Q s h; exact h.elim
end Go.PL
namespace Go.PL
set_option linter.unusedSimpArgs false
set_option linter.unusedVariables false
set_option linter.unusedSectionVars false
open Tys (Ty U)
open Enc (sz enc dflt tb ofB toB)
open Dec (dec dok)
variable [Tys] [Enc] [Dec]
structure LenIs {α : Type} (xs : List α) (n : Nat) : Prop where
 h : xs.length = n
def resOne (C : Ctx) (s : St) (rv : ResultVar) (k : PV → Prop) : Prop := match rv with
 | .tmp t => k (get s.env t)
 | .cell a T => match C.ti T, get s.env a with
  | some r, .bx kk g 0 => match find s.sto kk with
   | some (g', .box _ vs) => (g' = g) ∧ (match r.k.agg with
    | true => (r.size ≤ vs.length) ∧ k (.ag (vs.take r.size))
    | false => match vs with
     | q :: _ => k q
     | [] => False)
   | some (g', .arr _ t xs) => (g' = g) ∧ (r.k.agg = true ∧ sz t = 1) ∧ LenIs xs r.size ∧ k (.d (.ar t xs))
   | _ => False
  | _, _ => False
def resK (C : Ctx) (s : St) : List ResultVar → (List PV → Prop) → Prop
 | [], k => k []
 | rv :: r, k => resOne C s rv fun p => resK C s r fun l => k (p :: l)
def resR (C : Ctx) (rs : List ResultVar) (R : PV → Prop) : Ex → St → Prop
 | .exit _, _ => False
 | .normal, s => resK C s rs fun ps => match ps with
  | [p] => R p
  | ps => R (.tu ps)
 | .ret, s => resK C s rs fun ps => match ps with
  | [p] => R p
  | ps => R (.tu ps)
def resQ (C : Ctx) (rs : List ResultVar) (r : PV) : Ex → St → Prop := resR C rs (fun p => LeP p r)
def resSem (tmps : Array Value) (rv : ResultVar) : Sem Value := match rv with
 | .tmp t => pure (tmps.getD t undef)
 | .cell a t => do loadVar t (← asAddr (tmps.getD a undef))
theorem A16 {C : Ctx} (hC : C.OK) {n : Nat} {s : St} {rv : ResultVar} {k : PV → Prop} (h : resOne C s rv k) {μ : Nmap} {Z : Nat → Nat → Prop} {a : Act} {w : World} (hr : RelC C n s μ Z a w) :
  ∃ p v, k p ∧ (resSem a.tmps rv).run C.P w = .ok v w ∧ RP μ w Z v p := by
 unfold resOne at h
 split at h
 ·rename_i t
  exact ⟨_, _, h, rfl, hr.env t⟩
 ·rename_i ad T
  split at h
  ·rename_i r kk g hT hget
   split at h
   ·rename_i g' TT vs hf
    obtain ⟨rfl, h⟩ := h
    have h1 := hr.env ad
    rw [hget] at h1
    obtain ⟨b, cs, h2, h3, h4, h5⟩ := hr.wr.ent kk g' (.box TT vs) (Aa6 hf)
    generalize hx : a.tmps.getD ad undef = x at h1
    cases h1 with
    | bx _ _ _ b' h6 =>
     rw [h2] at h6; obtain rfl := Option.some.inj (Option.some.inj h6)
     have hcell : ∀ (j : Nat) (v : Value), cs.toList[j]? = some v → w.cell? ⟨b, 0 + j, none⟩ = some v := by
      intro j v hv
      rw [Nat.zero_add, cell_of_row w b j cs TT _ h3]; simpa using hv
     have hsem : ∀ v, (loadVar T ⟨b, 0, none⟩).run C.P w = .ok v w → (resSem a.tmps (.cell ad T)).run C.P w = .ok v w := by
      intro v hv
      simp only [resSem, hx, asAddr, Sem.run_bind, Sem.run_pure, Result.andThen_ok]
      exact hv
     split at h
     ·rename_i hag
      obtain ⟨hl, h⟩ := h
      have hlen : cs.toList.length = vs.length := h4.1
      refine ⟨_, _, h, hsem _ (Ahy (hC.ti T r hT) w b 0 (cs.toList.take r.size) (fun j v hv => ?_) hag (by simp; simp at hlen; omega)), ?_⟩
      ·rw [List.getElem?_take] at hv
       split at hv
       ·exact hcell j v hv
       ·cases hv
      ·refine .ag _ _ (by simp; simp at hlen; omega) fun i y q hy hq => ?_
       rw [List.getElem?_take] at hy hq
       split at hy
       ·rename_i hi
        simp only [hi, if_true] at hq
        exact h4.2 i y q hy hq
       ·cases hy
     ·rename_i hag
      split at h
      ·rename_i q rest
       have hlen : cs.toList.length = rest.length + 1 := h4.1
       have hlt : 0 < cs.toList.length := by omega
       have hy : cs.toList[0]? = some cs.toList[0] := List.getElem?_eq_getElem hlt
       have h7 := hcell 0 _ hy
       rw [Nat.add_zero] at h7
       exact ⟨_, _, h, hsem _ (Alb (hC.ti T r hT) w b 0 _ h7 hag), h4.2 0 _ q hy rfl⟩
      ·exact h.elim
   ·rename_i g' TT t xs hf
    obtain ⟨rfl, ⟨hag, hs⟩, ⟨hl⟩, h⟩ := h
    have h1 := hr.env ad
    rw [hget] at h1
    generalize hx : a.tmps.getD ad undef = x at h1
    cases h1 with
    | bx _ _ _ b h6 =>
     have hw1 : WR μ (single kk g' (.arr TT t xs)) Z w := ⟨fun k g c h => hr.wr.ent k g c (single_den hf _ _ _ h), fun k g k' g' c c' b h1 h2 => hr.wr.dis k g k' g' c c' b (single_den hf _ _ _ h1) (single_den hf _ _ _ h2), hr.wr.zlt⟩
     obtain ⟨cs, h2, h3, h4⟩ := Aty hw1 h6
     rw [hs, Nat.mul_one, hl] at h4
     have hsz : (cs.toList.take r.size).length = r.size := by rw [List.length_take, Array.length_toList, Nat.min_eq_left h4]
     have hld := Ahy (hC.ti T r hT) w b 0 (cs.toList.take r.size) (fun j v hv => by
      rw [List.getElem?_take] at hv
      split at hv
      ·rw [Nat.zero_add, cell_of_row w b j cs TT _ h2]; simpa using hv
      ·cases hv) hag hsz
     refine ⟨_, .agg (cs.toList.take r.size).toArray, h, ?_, .d _ _ (.ar t xs _ (by rw [hsz, hs, hl, Nat.mul_one]) fun j i x' d hx' hd => ?_)⟩
     ·simp only [resSem, hx, asAddr, Sem.run_bind, Sem.run_pure, Result.andThen_ok]
      exact hld
     ·obtain ⟨v, h5, h8⟩ := h3 j i x' d hx' hd
      have hj : j < xs.length := (List.getElem?_eq_some_iff.1 hx').1
      have hi : i < sz t := by have := (List.getElem?_eq_some_iff.1 hd).1; rwa [Enc.len] at this
      rw [List.getElem?_take, if_pos (by rw [hs]; omega), Array.getElem?_toList, h5]
      exact h8
   ·exact h.elim
  ·exact h.elim
theorem Aq1 {C : Ctx} (hC : C.OK) {n : Nat} {s : St} {μ : Nmap} {Z : Nat → Nat → Prop} {a : Act} {w : World} (hr : RelC C n s μ Z a w) : ∀ (rs : List ResultVar) (k : List PV → Prop), resK C s rs k →
  ∃ ps vals, k ps ∧ (rs.mapM (resSem a.tmps)).run C.P w = .ok vals w ∧ RPs μ w Z vals ps
 | [], k, h => ⟨[], [], h, rfl, rfl, fun i x p hx => by simp at hx⟩
 | rv :: rs, k, h => by
  obtain ⟨p, v, h1, h2, h3⟩ := A16 hC h hr
  obtain ⟨ps, vals, h4, h5, h6⟩ := Aq1 hC hr rs _ h1
  refine ⟨_, v :: vals, h4, ?_, by simp [h6.1], fun i x q hx hq => ?_⟩
  ·simp only [List.mapM_cons, Sem.run_bind, h2, Result.andThen_ok, h5, Sem.run_pure]
  ·cases i with
   | zero => simp at hx hq; subst hx; subst hq; exact h3
   | succ i => exact h6.2 i x q (by simpa using hx) (by simpa using hq)
theorem Amr {C : Ctx} (hC : C.OK) {n : Nat} {s : St} {μ : Nmap} {Z : Nat → Nat → Prop} {a : Act} {w : World} (hr : RelC C n s μ Z a w) {fn : Func} {r : PV}
  (h : resK C s fn.results.toList fun ps => match ps with | [p] => LeP p r | ps => LeP (.tu ps) r) : ∃ v, (results fn a.tmps).run C.P w = .ok v w ∧ RP μ w Z v r := by
 obtain ⟨ps, vals, h1, h2, h3⟩ := Aq1 hC hr _ _ h
 have hm : (fn.results.mapM (resSem a.tmps)).run C.P w = .ok vals.toArray w := by
  rw [Array.mapM_eq_mapM_toList, Sem.run_map, h2]; rfl
 have he : results fn a.tmps = (do let vs ← fn.results.mapM (resSem a.tmps); pure (if h : vs.size = 1 then vs[0] else .tuple vs)) := by
  unfold results
  congr 1
 rw [he, Sem.run_bind, hm]
 simp only [Result.andThen_ok, Sem.run_pure]
 split at h1
 ·rename_i p
  obtain ⟨v, rfl⟩ : ∃ v, vals = [v] := List.length_eq_one_iff.1 (by simpa using h3.1)
  refine ⟨v, by simp, LeP.rp _ _ h1 v (h3.2 0 v p rfl rfl)⟩
 ·rename_i ps' hne
  have hl : vals.length ≠ 1 := by
   intro e
   rw [h3.1] at e
   obtain ⟨p, hp⟩ := List.length_eq_one_iff.1 e
   exact hne p hp
  refine ⟨.tuple vals.toArray, by simp [hl], LeP.rp _ _ h1 _ (.tu _ _ h3.1 h3.2)⟩
def argE : Nat → List PV → List (Nat × PV)
 | _, [] => []
 | i, p :: r => (i, p) :: argE (i + 1) r
theorem Ams : ∀ (ps : List PV) (i j : Nat), get (argE i ps) j = if i ≤ j then (ps[j - i]?).getD .any else .any
 | [], i, j => by simp [argE, get]
 | p :: r, i, j => by
  simp only [argE, get]
  by_cases h : i = j
  ·subst h; simp
  ·simp only [h, if_false]
   rw [Ams r (i + 1) j]
   by_cases h1 : i ≤ j
   ·have h2 : i + 1 ≤ j := by omega
    have h3 : j - i = (j - (i + 1)) + 1 := by omega
    simp [h1, h2, h3]
   ·have h2 : ¬ i + 1 ≤ j := by omega
    simp [h1, h2]
theorem PFun.of_code {C : Ctx} (hC : C.OK) {f : Nat} {fn : Func} {c : Code} {args : List PV} {r : PV} (hf : C.P.funcs[f]? = some fn) (hb : fn.body = some c) (hn : (fn.name == "runtime.NumGoroutine") = false) (hbare : bare r = true)
  (h : ∀ A : Ar, A = std → code C A (max fn.ntmps args.length) c (resQ C fn.results.toList r) ⟨argE 0 args, [], 0⟩) : PFun C f args r := by
 refine ⟨fun w Z vals hv hg hz => .inl ⟨?_, ?_⟩⟩
 ·have hn' : ¬ fn.name = "runtime.NumGoroutine" := by simpa using hn
  simp [callFunc, hf, hn', hb]
 ·have hsz : vals.toArray.size = args.length := by simpa using hv.1
  refine (calls_of_wp hf hb ?_)
  have hrel : RelC C (max fn.ntmps args.length) ⟨argE 0 args, [], 0⟩ Aa7 Z { tmps := vals.toArray ++ Array.replicate (fn.ntmps - vals.toArray.size) undef, defers := [] } w := by
   refine ⟨by simp [hsz] <;> omega, fun i => ?_, rfl, ⟨fun k g c h => by simp [den] at h, fun k g k' g' c c' b h => by simp [den] at h, hz⟩, hg, fun _ _ _ => rfl⟩
   show RP _ _ _ _ (get (argE 0 args) i)
   rw [Ams]
   simp only [Nat.zero_le, if_true, Nat.sub_zero]
   cases hp : args[i]? with
   | none => exact .any _
   | some p =>
    have hlt : i < vals.length := by
     rw [hv.1]
     rcases Nat.lt_or_ge i args.length with h | h
     ·exact h
     ·rw [List.getElem?_eq_none h] at hp; cases hp
    have hx : vals[i]? = some vals[i] := List.getElem?_eq_getElem hlt
    have : (vals.toArray ++ Array.replicate (fn.ntmps - vals.toArray.size) undef).getD i undef = vals[i] := by
     rw [Array.getD_eq_getD_getElem?, Array.getElem?_append_left (by simpa using hlt)]
     simp [hlt]
    rw [this]
    exact hv.2 i _ p hx hp
  refine wp_mono (wpIn_wide.1 (Ai0 (ro := none) rfl hC c _ _ (h std rfl) Aa7 Z _ w hrel)) fun e a' w' hE => ?_
  obtain ⟨ex, s, μ, Z', rfl, hq, hr, ha, _⟩ := hE
  have fin : (∃ v, (results fn a'.tmps).run C.P w' = .ok v w' ∧ RP μ w' Z' v r) → a'.defers = [] ∧ ∃ v, (results fn a'.tmps).run C.P w' = .ok v w' ∧
    ∃ v' Z', Ending.returned v = .returned v' ∧ RP Aa7 w' Z' v' r ∧ ZLt Z' w' ∧ Adv Aa7 emp Z w Aa7 emp Z' w' := by
   rintro ⟨v, h1, h2⟩
   refine ⟨hr.df, v, h1, v, Z', rfl, h2.bare hbare, hr.wr.zlt, ?_⟩
   exact ⟨fun _ _ _ h => by simp [Aa7] at h, ha.z, ha.cell, ha.shp, ha.size, fun b hb _ => ha.frame b hb (fun k g c h => by simp [den] at h), fun b o h => by
    rcases ha.znew b o h with h | h | ⟨k, g, c, h, _⟩
    ·exact .inl h
    ·exact .inr (.inl h)
    ·simp [den] at h, fun k g c b h => by simp [emp] at h, ha.os, ha.out⟩
  cases ex with
  | normal => exact fin (Amr hC hr hq)
  | ret => exact fin (Amr hC hr hq)
  | exit id => exact hq.elim
theorem PFun.walk {P0 : Program} {ti : TypeId → Option TR} {ety : TypeId → Option Ty} {gt : Nat → Option (List D)} {ls eq : TypeId → Bool} {fz : Nat → Bool} (hC : (Ctx.mk P0 ti ety gt ls eq fz).OK) {f : Nat} {fn : Func} {c : Code} {args : List PV} {r : PV}
  (hf : P0.funcs[f]? = some fn) (hb : fn.body = some c) (hn : (fn.name == "runtime.NumGoroutine") = false) (hbare : bare r = true)
  (h : ∀ (A : Ar) (P : Program) (R : PV → Prop), A = std → P = P0 → R = (fun p => LeP p r) → code ⟨P, ti, ety, gt, ls, eq, fz⟩ A (max fn.ntmps args.length) c (resR ⟨P, ti, ety, gt, ls, eq, fz⟩ fn.results.toList R) ⟨argE 0 args, [], 0⟩) : PFun ⟨P0, ti, ety, gt, ls, eq, fz⟩ f args r :=
 PFun.of_code hC hf hb hn hbare fun A hA => by
  have := h A P0 (fun p => LeP p r) hA rfl rfl
  exact this
theorem PFun.fz {P : Program} {ti : TypeId → Option TR} {ety : TypeId → Option Ty} {gt : Nat → Option (List D)} {ls eq : TypeId → Bool} {a b : Nat → Bool} {f : Nat} {args : List PV} {r : PV} (h : PFun ⟨P, ti, ety, gt, ls, eq, a⟩ f args r) : PFun ⟨P, ti, ety, gt, ls, eq, b⟩ f args r := ⟨h.run⟩
/-! ### functions that work on memory -/
theorem LeD.refl : ∀ x : D, LeD x x := by
 intro x
 unfold LeD
 split <;> simp_all
mutual
theorem LeP.refl : ∀ q : PV, LeP q q
 | .any => trivial
 | .d x => by simp only [LeP]; exact LeD.refl x
 | .ag l => by simp only [LeP]; exact LePs.refl l
 | .tu l => by simp only [LeP]; exact LePs.refl l
 | .bx .. | .ip .. | .os .. | .fn .. | .mp .. | .cond .. | .ms .. | .ep .. | .nz | .np .. => by simp [LeP]
theorem LePs.refl : ∀ q : List PV, LeP.LePs q q
 | [] => trivial
 | p :: r => ⟨LeP.refl p, LePs.refl r⟩
end
def resM (C : Ctx) (rs : List ResultVar) (R : PV → List En → Prop) : Ex → St → Prop
 | .exit _, _ => False
 | .normal, s => resK C s rs fun ps => match ps with
  | [p] => R p s.sto
  | ps => R (.tu ps) s.sto
 | .ret, s => resK C s rs fun ps => match ps with
  | [p] => R p s.sto
  | ps => R (.tu ps) s.sto
def cback (ρ : List (Nat × Nat)) (k g : Nat) : Option (Nat × Nat) := match g with
 | 0 => some (k, 0)
 | 1 => lk ρ 2000 k
 | _ => none
def Avm (f : Nat → Nat → Option (Nat × Nat)) (sto : List En) : List En → Prop
 | [] => True
 | e :: r => (match f e.k e.g with
  | some (k, g) => (rokC f e.c = true) ∧ (match find sto k with
   | some (g', c') => (g' = g) ∧ LeC c' (renC f e.c)
   | none => False)
  | none => False) ∧ Avm f sto r
def keysOf (f : Nat → Nat → Option (Nat × Nat)) : List En → List Nat
 | [] => []
 | e :: r => match f e.k e.g with
  | some (k, _) => k :: keysOf f r
  | none => keysOf f r
structure EndM (r : PV) (sto' : List En) (ρ : List (Nat × Nat)) (p : PV) (sto : List En) : Prop where
 rok : rok (cback ρ) r = true
 le : LeP p (ren (cback ρ) r)
 nd : nodupB (keysOf (cback ρ) sto') = true
 sto : Avm (cback ρ) sto sto'
theorem Avm.at {f : Nat → Nat → Option (Nat × Nat)} {sto : List En} : ∀ {l : List En}, Avm f sto l → ∀ {k g : Nat} {c : Cell}, den l k g = some c → ∃ k' g' c', f k g = some (k', g') ∧ find sto k' = some (g', c') ∧ LeC c' (renC f c) ∧ rokC f c = true ∧ k' ∈ keysOf f l
 | [], _, k, g, c, h => by simp [den] at h
 | e :: r, hs, k, g, c, h => by
  obtain ⟨h1, h2⟩ := hs
  simp only [den] at h
  split at h1
  ·rename_i k' g' hf
   obtain ⟨h3, h4⟩ := h1
   split at h
   ·rename_i he
    obtain ⟨rfl, rfl⟩ := he
    cases h
    split at h4
    ·rename_i g2 c' hfi
     obtain ⟨rfl, h4⟩ := h4
     exact ⟨k', g2, c', hf, hfi, h4, h3, by simp [keysOf, hf]⟩
    ·exact h4.elim
   ·obtain ⟨a, b, c', h5, h6, h7, h8, h9⟩ := Avm.at h2 h
    exact ⟨a, b, c', h5, h6, h7, h8, by simp [keysOf, hf, h9]⟩
  ·exact h1.elim
theorem At3 {f : Nat → Nat → Option (Nat × Nat)} : ∀ {l : List En}, (keysOf f l).Nodup → ∀ {k g c k2 g2 c2 : Nat} {x y : Cell} {n m : Nat}, den l k g = some x → den l k2 g2 = some y → f k g = some (n, c) → f k2 g2 = some (m, c2) → n = m → k = k2 ∧ g = g2
 | [], _, k, g, c, k2, g2, c2, x, y, n, m, h1, _, _, _, _ => by simp [den] at h1
 | e :: r, hnd, k, g, c, k2, g2, c2, x, y, n, m, h1, h2, f1, f2, hnm => by
  have mem : ∀ {l : List En} {k g c : Nat} {x : Cell} {n : Nat}, den l k g = some x → f k g = some (n, c) → n ∈ keysOf f l := by
   intro l
   induction l with
   | nil => intro k g c x n h; simp [den] at h
   | cons e r ih =>
    intro k g c x n h hf
    simp only [den] at h
    split at h
    ·rename_i he
     obtain ⟨rfl, rfl⟩ := he
     simp [keysOf, hf]
    ·have := ih h hf
     simp only [keysOf]
     split
     ·exact List.mem_cons_of_mem _ this
     ·exact this
  have hnd' : (keysOf f r).Nodup := by
   simp only [keysOf] at hnd
   split at hnd
   ·exact (List.nodup_cons.1 hnd).2
   ·exact hnd
  simp only [den] at h1 h2
  split at h1 <;> split at h2
  ·rename_i a b; exact ⟨a.1.symm.trans b.1, a.2.symm.trans b.2⟩
  ·rename_i a b
   obtain ⟨rfl, rfl⟩ := a
   have := mem h2 f2
   simp only [keysOf, f1] at hnd
   exact absurd this (by rw [← hnm]; exact (List.nodup_cons.1 hnd).1)
  ·rename_i a b
   obtain ⟨rfl, rfl⟩ := b
   have := mem h1 f1
   simp only [keysOf, f2] at hnd
   exact absurd this (by rw [hnm]; exact (List.nodup_cons.1 hnd).1)
  ·exact At3 hnd' h1 h2 f1 f2 hnm
theorem PFunM.walk {P0 : Program} {ti : TypeId → Option TR} {ety : TypeId → Option Ty} {gt : Nat → Option (List D)} {ls eq : TypeId → Bool} {fz : Nat → Bool} (hC : (Ctx.mk P0 ti ety gt ls eq fz).OK) {f : Nat} {fn : Func} {c : Code} {args : List PV} {sto : List En} {r : PV} {sto' : List En}
  (hf : P0.funcs[f]? = some fn) (hb : fn.body = some c) (hn : (fn.name == "runtime.NumGoroutine") = false)
  (h : ∀ (A : Ar) (P : Program) (R : PV → List En → Prop), A = std → P = P0 → (∀ p s, (∃ ρ, EndM r sto' ρ p s) → R p s) → code ⟨P, ti, ety, gt, ls, eq, fz⟩ A (max fn.ntmps args.length) c (resM ⟨P, ti, ety, gt, ls, eq, fz⟩ fn.results.toList R) ⟨argE 0 args, sto, 2⟩) : PFunM ⟨P0, ti, ety, gt, ls, eq, fz⟩ f args sto r sto' := by
 refine ⟨fun μ0 w Z vals hv hw0 hg hno => .inl ⟨?_, ?_⟩⟩
 ·have hn' : ¬ fn.name = "runtime.NumGoroutine" := by simpa using hn
  simp [callFunc, hf, hn', hb]
 ·have hsz : vals.toArray.size = args.length := by simpa using hv.1
  refine (calls_of_wp hf hb ?_)
  have hrel : RelC (Ctx.mk P0 ti ety gt ls eq fz) (max fn.ntmps args.length) ⟨argE 0 args, sto, 2⟩ μ0 Z { tmps := vals.toArray ++ Array.replicate (fn.ntmps - vals.toArray.size) undef, defers := [] } w := by
   refine ⟨by simp [hsz] <;> omega, fun i => ?_, rfl, hw0, hg, fun k g hkg => hno k g (by have : 2 ≤ g := hkg; omega)⟩
   show RP _ _ _ _ (get (argE 0 args) i)
   rw [Ams]
   simp only [Nat.zero_le, if_true, Nat.sub_zero]
   cases hp : args[i]? with
   | none => exact .any _
   | some p =>
    have hlt : i < vals.length := by
     rw [hv.1]
     rcases Nat.lt_or_ge i args.length with h | h
     ·exact h
     ·rw [List.getElem?_eq_none h] at hp; cases hp
    have hx : vals[i]? = some vals[i] := List.getElem?_eq_getElem hlt
    have : (vals.toArray ++ Array.replicate (fn.ntmps - vals.toArray.size) undef).getD i undef = vals[i] := by
     rw [Array.getD_eq_getD_getElem?, Array.getElem?_append_left (by simpa using hlt)]
     simp [hlt]
    rw [this]
    exact hv.2 i _ p hx hp
  refine wp_mono (wpIn_wide.1 (Ai0 (ro := none) rfl hC c _ _ (h std P0 (fun p s => ∃ ρ, EndM r sto' ρ p s) rfl rfl (fun _ _ h => h)) μ0 Z _ w hrel)) fun e a' w' hE => ?_
  obtain ⟨ex, s, μ, Z', rfl, hq, hr, ha, _⟩ := hE
  have fin : (resK (Ctx.mk P0 ti ety gt ls eq fz) s fn.results.toList fun ps => match ps with | [p] => ∃ ρ, EndM r sto' ρ p s.sto | ps => ∃ ρ, EndM r sto' ρ (.tu ps) s.sto) → a'.defers = [] ∧ ∃ v, (results fn a'.tmps).run P0 w' = .ok v w' ∧
    ∃ v' μ' Z', Ending.returned v = .returned v' ∧ RP μ' w' Z' v' r ∧ WR μ' (den sto') Z' w' ∧ Adv μ0 (den sto) Z w μ' (den sto') Z' w' := by
   intro hk
   obtain ⟨p, ρ, hend, hk'⟩ : ∃ p ρ, EndM r sto' ρ p s.sto ∧ resK (Ctx.mk P0 ti ety gt ls eq fz) s fn.results.toList fun ps => match ps with | [q] => LeP q p | ps => LeP (.tu ps) p := by
    obtain ⟨ps, vals', h1, h2, h3⟩ := Aq1 hC hr _ _ hk
    have key : ∀ (rs : List ResultVar) (k : List PV → Prop), resK (Ctx.mk P0 ti ety gt ls eq fz) s rs k → ∃ ps, k ps ∧ ∀ k' : List PV → Prop, k' ps → resK (Ctx.mk P0 ti ety gt ls eq fz) s rs k' := by
     intro rs
     induction rs with
     | nil => intro k h; exact ⟨[], h, fun k' h' => h'⟩
     | cons rv rs ih =>
      intro k h
      have one : ∀ (k : PV → Prop), resOne (Ctx.mk P0 ti ety gt ls eq fz) s rv k → ∃ p, k p ∧ ∀ k' : PV → Prop, k' p → resOne (Ctx.mk P0 ti ety gt ls eq fz) s rv k' := by
       intro k h
       unfold resOne at h ⊢
       split at h
       ·exact ⟨_, h, fun k' h' => h'⟩
       ·split at h
        ·split at h
         ·obtain ⟨h0, h⟩ := h
          split at h
          ·exact ⟨_, h.2, fun k' h' => ⟨h0, h.1, h'⟩⟩
          ·split at h
           ·exact ⟨_, h, fun k' h' => ⟨h0, h'⟩⟩
           ·exact h.elim
         ·obtain ⟨h0, h1, h2, h⟩ := h
          exact ⟨_, h, fun k' h' => ⟨h0, h1, h2, h'⟩⟩
         ·exact h.elim
        ·exact h.elim
      obtain ⟨p, h1, h2⟩ := one _ h
      obtain ⟨ps, h3, h4⟩ := ih _ h1
      exact ⟨p :: ps, h3, fun k' h' => h2 _ (h4 _ h')⟩
    obtain ⟨qs, k1, k2⟩ := key _ _ hk
    have refl : ∀ q : PV, LeP q q := LeP.refl
    split at k1
    ·rename_i q
     obtain ⟨ρ, hρ⟩ := k1
     exact ⟨q, ρ, hρ, k2 _ (refl q)⟩
    ·rename_i ps hne
     obtain ⟨ρ, hρ⟩ := k1
     refine ⟨.tu qs, ρ, hρ, k2 _ ?_⟩
     split
     ·rename_i q; exact absurd rfl (hne q)
     ·exact refl _
   obtain ⟨v, h1, h2⟩ := Amr hC hr hk'
   let f := cback ρ
   let μ' : Nmap := fun k g => match f k g with
    | some (k', g') => μ k' g'
    | none => none
   have hback : ∀ k g k' g' y, f k g = some (k', g') → μ k' g' = some y → μ' k g = some y := fun k g k' g' y hf hy => by simp only [μ', hf]; exact hy
   have hfwd : ∀ {k g k' g'}, f k g = some (k', g') → μ' k g = μ k' g' := fun hf => by simp only [μ', hf]
   have hnd := Ajx hend.nd
   refine ⟨hr.df, v, h1, v, μ', Z', rfl, (LeP.rp _ _ hend.le v h2).unren hback r hend.rok rfl, ⟨fun k g c hc => ?_, fun k g k2 g2 c c2 b hc hc2 hb hb2 => ?_, hr.wr.zlt⟩, ?_⟩
   ·obtain ⟨k', g', c', e1, e2, e3, e4, _⟩ := hend.sto.at hc
    exact EntOK.unren hback e1 e4 (e3.ent (hr.wr.ent _ _ _ (Aa6 e2)))
   ·obtain ⟨k', g', c', e1, e2, e3, e4, _⟩ := hend.sto.at hc
    obtain ⟨k2', g2', c2', d1, d2, d3, d4, _⟩ := hend.sto.at hc2
    rw [hfwd e1] at hb
    rw [hfwd d1] at hb2
    obtain ⟨rfl, rfl⟩ := hr.wr.dis _ _ _ _ _ _ b (Aa6 e2) (Aa6 d2) hb hb2
    exact At3 hnd hc hc2 e1 d1 rfl
   ·refine ⟨fun k g y hy => ?_, ha.z, ha.cell, ha.shp, ha.size, ha.frame, ha.znew, fun k g c b hc hb => ?_, ha.os, ha.out⟩
    ·have hk : ¬ 1 ≤ g := fun hk => by rw [hno k g hk] at hy; cases hy
     obtain rfl : g = 0 := by omega
     exact hback k 0 k 0 y rfl (ha.mu _ _ _ hy)
    ·obtain ⟨k', g', c', e1, e2, e3, e4, _⟩ := hend.sto.at hc
     rw [hfwd e1] at hb
     exact ha.own _ _ _ b (Aa6 e2) hb
  cases ex with
  | normal => exact fin hq
  | ret => exact fin hq
  | exit id => exact hq.elim
end Go.PL
namespace Go.PL
set_option linter.unusedSimpArgs false
set_option linter.unusedVariables false
set_option linter.unusedSectionVars false
open Tys (Ty U)
open Enc (sz enc dflt tb ofB toB)
open Dec (dec dok)
variable [Tys] [Enc] [Dec]
theorem vcm {b : Bool} {p q : Prop} : (selB.match_1 (fun _ => Prop) b (fun _ => p) (fun _ => q)) = ((b = true → p) ∧ (b = false → q)) := by cases b <;> simp
@[simp] theorem s_add {k a b} : std.1 .add k a b = k.wrap (a + b) := rfl
@[simp] theorem s_sub {k a b} : std.1 .sub k a b = k.wrap (a - b) := rfl
@[simp] theorem s_mul {k a b} : std.1 .mul k a b = k.wrap (a * b) := rfl
@[simp] theorem s_quo {k a b} : std.1 .quo k a b = k.wrap (a.tdiv b) := rfl
@[simp] theorem s_rem {k a b} : std.1 .rem k a b = a.tmod b := rfl
@[simp] theorem s_and {k a b} : std.1 .and k a b = k.wrap (BitVec.ofInt k.bits a &&& BitVec.ofInt k.bits b).toNat := rfl
@[simp] theorem s_or {k a b} : std.1 .or k a b = k.wrap (BitVec.ofInt k.bits a ||| BitVec.ofInt k.bits b).toNat := rfl
@[simp] theorem s_xor {k a b} : std.1 .xor k a b = k.wrap (BitVec.ofInt k.bits a ^^^ BitVec.ofInt k.bits b).toNat := rfl
@[simp] theorem s_shl {k a b} : std.1 .shl k a b = k.wrap (a * 2 ^ (min b.toNat k.bits)) := rfl
@[simp] theorem s_shr {k a b} : std.1 .shr k a b = a.fdiv (2 ^ (min b.toNat k.bits)) := rfl
@[simp] theorem s_eql {a b} : std.2 .eql a b = (a == b) := rfl
@[simp] theorem s_neq {a b} : std.2 .neq a b = (a != b) := rfl
@[simp] theorem s_lss {a b} : std.2 .lss a b = decide (a < b) := rfl
@[simp] theorem s_leq {a b} : std.2 .leq a b = decide (a ≤ b) := rfl
@[simp] theorem s_gtr {a b} : std.2 .gtr a b = decide (b < a) := rfl
@[simp] theorem s_geq {a b} : std.2 .geq a b = decide (b ≤ a) := rfl
theorem ba_eq {a b : ByteArray} : (a.toList = b.toList) ↔ a = b := by
 constructor
 ·intro h
  rw [ByteArray.toList_eq, ByteArray.toList_eq] at h
  cases a; cases b
  simp at h
  exact congrArg _ h
 ·intro h; rw [h]
@[simp] theorem s_seql {a b} : std.3 .eql a b = decide (a = b) := by
 show (a.toList == b.toList) = _
 rw [Bool.eq_iff_iff]; simp [ba_eq]
@[simp] theorem Azo {a b} : std.3 .neq a b = decide (a ≠ b) := by
 show (!(a.toList == b.toList)) = _
 rw [Bool.eq_iff_iff]; simp [ba_eq]
@[simp] theorem s_cat {a b} : std.4 a b = a ++ b := rfl
@[simp] theorem Aq2 {a b} : std.5 a b = (a.size + b.size ≤ 9223372036854775807) := rfl
@[simp] theorem s_not {a} : std.6 a = !a := rfl
@[simp] theorem s_land {a b} : std.7 a b = (a && b) := rfl
@[simp] theorem s_lor {a b} : std.8 a b = (a || b) := rfl
@[simp] theorem s_eqb {a b} : std.9 a b = (a == b) := rfl
@[simp] theorem s_len {t xs} : std.10 t xs = (xs.length : Int) := rfl
@[simp] theorem As1 {a} : std.11 a = (a.size : Int) := rfl
@[simp] theorem s_get {t xs i} : std.12 t xs i = xs.getD i.toNat (Enc.dflt t) := rfl
@[simp] theorem s_inb {a b} : std.13 a b = (0 ≤ a ∧ a < b) := rfl
@[simp] theorem A5i {s i} : std.14 s i = ((s.data.getD i.toNat 0).toNat : Int) := rfl
@[simp] theorem A5x {s l h} : std.15 s l h = s.extract l.toNat h.toNat := rfl
@[simp] theorem Azp {t xs l h} : std.16 t xs l h = (xs.take h.toNat).drop l.toNat := rfl
@[simp] theorem A5u {l h n} : std.17 l h n = (0 ≤ l ∧ l ≤ h ∧ h ≤ n) := rfl
@[simp] theorem s_app {t xs ys} : std.18 t xs ys = xs ++ ys := rfl
@[simp] theorem A5v {t b xs ys} : std.19 t b xs ys = ((xs.length + ys.length) * b ≤ 140737488355328 ∧ xs.length + ys.length ≤ 140737488355328) := rfl
@[simp] theorem A5y {t xs} : std.20 t xs = xs.length := rfl
@[simp] theorem A5j {k n} : std.21 k n = k.wrap n := rfl
@[simp] theorem s_s2b {s} : std.22 s = s.data.toList.map Enc.ofB := rfl
@[simp] theorem s_b2s {l} : std.23 l = ⟨(l.map Enc.toB).toArray⟩ := rfl
@[simp] theorem s_nz {a} : std.24 a = (a ≠ 0) := rfl
@[simp] theorem s_nn {a} : std.25 a = (0 ≤ a) := rfl
@[simp] theorem s_mn {a b} : std.26 a b = min a b := rfl
@[simp] theorem s_mx {a b} : std.27 a b = max a b := rfl
@[simp] theorem s_u8 {a} : std.28 a = UInt8.ofNat a.toNat := rfl
@[simp] theorem A5z {a} : std.29 a = (0 ≤ a ∧ a < 256) := rfl
@[simp] theorem s_pl {a b} : std.30 a b = a + b := rfl
@[simp] theorem s_mi {a b} : std.31 a b = a - b := rfl
@[simp] theorem s_set {t xs i x} : std.32 t xs i x = xs.set i.toNat x := rfl
@[simp] theorem s_fill {t xs i n x} : std.33 t xs i n x = xs.take i.toNat ++ List.replicate n.toNat x ++ xs.drop (i.toNat + n.toNat) := rfl
@[simp] theorem s_sel {l i} : std.36 l i = l.getD i.toNat ⟨#[]⟩ := rfl
theorem w64 {n : Int} (h : -9223372036854775808 ≤ n ∧ n ≤ 9223372036854775807) : IntKind.i64.wrap n = n := IntWalk.i64_in n h
theorem w8 {n : Int} (h : 0 ≤ n ∧ n ≤ 255) : IntKind.u8.wrap n = n := IntWalk.u8_in n h
theorem tmod0 {a b : Int} (h : 0 ≤ a) : a.tmod b = a % b := Int.tmod_eq_emod_of_nonneg h
theorem tdiv0 {a b : Int} (h : 0 ≤ a) : a.tdiv b = a / b := Int.tdiv_eq_ediv_of_nonneg h
end Go.PL
namespace Go.PL
set_option linter.unusedSimpArgs false
set_option linter.unusedVariables false
set_option linter.unusedSectionVars false
open Tys (Ty U)
open Enc (sz enc dflt tb ofB toB)
open Dec (dec dok)
variable [Tys] [Enc] [Dec] {A : Ar}
theorem i_at {α : Type} {xs : List α} {i : Nat} (h : i < xs.length) : ∃ x, xs[i]? = some x ∧ x ∈ xs ∧ xs.drop i = x :: xs.drop (i + 1) ∧ xs.take (i + 1) = xs.take i ++ [x] :=
 ⟨xs[i], List.getElem?_eq_getElem h, List.getElem_mem _, List.drop_eq_getElem_cons h, by rw [List.take_succ_eq_append_getElem h]⟩
end Go.PL
namespace Go.PL
set_option linter.unusedSimpArgs false
set_option linter.unusedVariables false
set_option linter.unusedSectionVars false
open Tys (Ty U)
open Enc (sz enc dflt tb ofB toB)
open Dec (dec dok)
variable [Tys] [Enc] [Dec]
end Go.PL
namespace Go.PL
set_option linter.unusedSimpArgs false
set_option linter.unusedVariables false
set_option linter.unusedSectionVars false
open Tys (Ty U)
open Enc (sz enc dflt tb ofB toB)
open Dec (dec dok)
variable [Tys] [Enc] [Dec]
def frzK (A : Ar) (sto : List En) : PV → (PV → Prop) → Prop
 | .ms k g t lo n, K => match find sto k with
  | some (g', .arr _ t' xs) => (g' = g) ∧ (sz t = sz t') ∧ (A.subOk lo (A.pl lo n) (A.len t' xs)) ∧ K (.d (.sl t' (A.lsub t' xs lo (A.pl lo n))))
  | _ => False
 | .ag l, K => frzKs l fun l' => K (.ag l')
 | .tu l, K => frzKs l fun l' => K (.tu l')
 | .d d, K => K (.d d)
 | .bx k g o, K => K (.bx k g o)
 | .ip ds, K => K (.ip ds)
 | .os k g t xs, K => K (.os k g t xs)
 | .fn f a b, K => K (.fn f a b)
 | .mp k g, K => K (.mp k g)
 | .cond c p, K => K (.cond c p)
 | .ep k g t i o, K => K (.ep k g t i o)
 | .nz, K => K .nz
 | .np k g, K => K (.np k g)
 | .any, K => K .any
 where frzKs : List PV → (List PV → Prop) → Prop
 | [], K => K []
 | p :: r, K => frzK A sto p fun q => frzKs r fun l => K (q :: l)
def Zfr (μ : Nmap) (m : Mem) (Z : Nat → Nat → Prop) : Nat → Nat → Prop := fun b o => Z b o ∨ ∃ k g T t xs, m k g = some (.arr T t xs) ∧ μ k g = some (some b)
mutual
theorem Axr {A : Ar} (hA : A = std) {sto : List En} {μ : Nmap} {w : World} {Z : Nat → Nat → Prop} (hw : WR μ (den sto) Z w) : ∀ (p : PV) (K : PV → Prop), frzK A sto p K → ∃ q, K q ∧ ∀ v, RP μ w Z v p → RP μ w (Zfr μ (den sto) Z) v q
 | .ms k g t lo n, K, h => by
  subst hA
  simp only [frzK] at h
  split at h
  ·rename_i g' T t' xs hf
   obtain ⟨rfl, hst, ⟨h1, h2, h3⟩, h⟩ := h
   refine ⟨_, h, fun v hv => .d _ _ ?_⟩
   have h3' : lo + n ≤ xs.length := h3
   have h2' : lo ≤ lo + n := h2
   have hlen : ((xs.take (lo + n).toNat).drop lo.toNat).length = n.toNat := by simp; omega
   cases hv with
   | ms _ _ _ _ _ b cap hb _ hn hcap T' m hsh hm =>
    rcases hw.ent k g' _ (Aa6 hf) with ⟨h4, _⟩ | ⟨b', cs, h4, h5, h6, h7⟩
    ·rw [hb] at h4; cases h4
    ·rw [hb] at h4; obtain rfl := Option.some.inj (Option.some.inj h4)
     have := RD.sl (w := w) (Z := Zfr μ (den sto) Z) t' ((xs.take (lo + n).toNat).drop lo.toNat) b (lo.toNat * sz t) cap (fun j i => (cs[lo.toNat * sz t + (j * sz t' + i)]?).getD undef) (by rw [hlen]; exact hcap) (fun j i hj hi => ?_) (fun j i x d hx hd => ?_)
     ·rw [hlen] at this; exact this
     ·rw [hlen] at hj
      have hjx : lo.toNat + j < xs.length := by omega
      have hx : xs[lo.toNat + j]? = some xs[lo.toNat + j] := List.getElem?_eq_getElem hjx
      have hd : (enc t' xs[lo.toNat + j])[i]? = some ((enc t' xs[lo.toNat + j])[i]'(by rw [Enc.len]; exact hi)) := List.getElem?_eq_getElem _
      obtain ⟨y, h8, _⟩ := h6 _ _ _ _ hx hd
      have e1 : (lo.toNat + j) * sz t' + i = lo.toNat * sz t + (j * sz t' + i) := by rw [Nat.add_mul, hst]; omega
      rw [e1] at h8
      refine ⟨by rw [cell_of_row w b _ cs T _ h5, h8]; rfl, .inr ⟨k, g', T, t', xs, Aa6 hf, hb⟩⟩
     ·rw [List.getElem?_drop, List.getElem?_take] at hx
      split at hx
      ·obtain ⟨y, h8, h9⟩ := h6 _ _ _ _ hx hd
       have e1 : (lo.toNat + j) * sz t' + i = lo.toNat * sz t + (j * sz t' + i) := by rw [Nat.add_mul, hst]; omega
       rw [e1] at h8
       simp only [h8, Option.getD_some]
       exact h9.mono (fun _ _ h => .inl h) (fun _ _ _ => rfl)
      ·cases hx
   | msE _ _ _ _ _ a hn0 =>
    subst hn0
    have : (std.lsub t' xs lo (std.pl lo 0)) = [] := List.eq_nil_of_length_eq_zero (by show ((xs.take (lo + 0).toNat).drop lo.toNat).length = 0; rw [hlen]; rfl)
    rw [this]
    exact .nil _ _ _
  ·exact h.elim
 | .ag l, K, h => by
  simp only [frzK] at h
  obtain ⟨l', hk, hl⟩ := At4 hA hw l _ h
  refine ⟨_, hk, fun v hv => ?_⟩
  cases hv with
  | ag _ vs hl' hh =>
   obtain ⟨h1, h2⟩ := hl vs hl' hh
   exact .ag _ _ h1 h2
 | .tu l, K, h => by
  simp only [frzK] at h
  obtain ⟨l', hk, hl⟩ := At4 hA hw l _ h
  refine ⟨_, hk, fun v hv => ?_⟩
  cases hv with
  | tu _ vs hl' hh =>
   obtain ⟨h1, h2⟩ := hl vs hl' hh
   exact .tu _ _ h1 h2
 | .d _, K, h | .bx _ _ _, K, h | .ip _, K, h | .os _ _ _ _, K, h | .fn _ _ _, K, h | .mp _ _, K, h | .cond _ _, K, h | .ep _ _ _ _ _, K, h | .nz, K, h | .np _ _, K, h | .any, K, h =>
  ⟨_, h, fun v hv => hv.mono (fun _ _ _ h => h) (fun _ _ h => .inl h) (fun _ _ _ => rfl) (fun _ _ h => h)⟩
theorem At4 {A : Ar} (hA : A = std) {sto : List En} {μ : Nmap} {w : World} {Z : Nat → Nat → Prop} (hw : WR μ (den sto) Z w) : ∀ (l : List PV) (K : List PV → Prop), frzK.frzKs A sto l K →
  ∃ l', K l' ∧ ∀ (vs : List Value), vs.length = l.length → (∀ (i : Nat) (x : Value) (p : PV), vs[i]? = some x → l[i]? = some p → RP μ w Z x p) → vs.length = l'.length ∧ ∀ (i : Nat) (x : Value) (p : PV), vs[i]? = some x → l'[i]? = some p → RP μ w (Zfr μ (den sto) Z) x p
 | [], K, h => ⟨[], h, fun vs hl _ => ⟨hl, fun i x p _ hp => by simp at hp⟩⟩
 | p :: l, K, h => by
  simp only [frzK.frzKs] at h
  obtain ⟨q, h, hq⟩ := Axr hA hw p _ h
  obtain ⟨l', h, hl⟩ := At4 hA hw l _ h
  refine ⟨_, h, fun vs hvl hv => ?_⟩
  cases vs with
  | nil => simp at hvl
  | cons v vs =>
   obtain ⟨h1, h2⟩ := hl vs (by simpa using hvl) (fun i x p hx hp => hv (i + 1) x p (by simpa using hx) (by simpa using hp))
   refine ⟨by simp [h1], fun i x r hx hr => ?_⟩
   cases i with
   | zero => simp at hx hr; subst hx; subst hr; exact hq _ (hv 0 _ _ rfl rfl)
   | succ i => exact h2 i x r (by simpa using hx) (by simpa using hr)
end
def resF (C : Ctx) (A : Ar) (rs : List ResultVar) (R : PV → Prop) : Ex → St → Prop
 | .exit _, _ => False
 | .normal, s => resK C s rs fun ps => match ps with
  | [p] => frzK A s.sto p R
  | ps => frzK A s.sto (.tu ps) R
 | .ret, s => resK C s rs fun ps => match ps with
  | [p] => frzK A s.sto p R
  | ps => frzK A s.sto (.tu ps) R
theorem Aq3 {C : Ctx} {A : Ar} (hA : A = std) (hC : C.OK) {n : Nat} {s : St} {μ : Nmap} {Z : Nat → Nat → Prop} {a : Act} {w : World} (hr : RelC C n s μ Z a w) {fn : Func} {r : PV}
  (h : resK C s fn.results.toList fun ps => match ps with | [p] => frzK A s.sto p (fun q => LeP q r) | ps => frzK A s.sto (.tu ps) (fun q => LeP q r)) : ∃ v, (results fn a.tmps).run C.P w = .ok v w ∧ RP μ w (Zfr μ (den s.sto) Z) v r := by
 obtain ⟨ps, vals, h1, h2, h3⟩ := Aq1 hC hr _ _ h
 have hm : (fn.results.mapM (resSem a.tmps)).run C.P w = .ok vals.toArray w := by
  rw [Array.mapM_eq_mapM_toList, Sem.run_map, h2]; rfl
 have he : results fn a.tmps = (do let vs ← fn.results.mapM (resSem a.tmps); pure (if h : vs.size = 1 then vs[0] else .tuple vs)) := by
  unfold results
  congr 1
 rw [he, Sem.run_bind, hm]
 simp only [Result.andThen_ok, Sem.run_pure]
 split at h1
 ·rename_i p
  obtain ⟨v, rfl⟩ : ∃ v, vals = [v] := List.length_eq_one_iff.1 (by simpa using h3.1)
  obtain ⟨q, hq, hf⟩ := Axr hA hr.wr p _ h1
  refine ⟨v, by simp, LeP.rp _ _ hq v (hf v (h3.2 0 v p rfl rfl))⟩
 ·rename_i ps' hne
  have hl : vals.length ≠ 1 := by
   intro e
   rw [h3.1] at e
   obtain ⟨p, hp⟩ := List.length_eq_one_iff.1 e
   exact hne p hp
  obtain ⟨q, hq, hf⟩ := Axr hA hr.wr (.tu ps) _ h1
  refine ⟨.tuple vals.toArray, by simp [hl], LeP.rp _ _ hq _ (hf _ (.tu _ _ h3.1 h3.2))⟩
theorem PFun.walkF {A : Ar} (hA : A = std) {P0 : Program} {ti : TypeId → Option TR} {ety : TypeId → Option Ty} {gt : Nat → Option (List D)} {ls eq : TypeId → Bool} {fz a : Nat → Bool} (hC0 : (Ctx.mk P0 ti ety gt ls eq a).OK) {f : Nat} {fn : Func} {c : Code} {args : List PV} {r : PV}
  (hf : P0.funcs[f]? = some fn) (hb : fn.body = some c) (hn : (fn.name == "runtime.NumGoroutine") = false) (hbare : bare r = true)
  (h : ∀ (P : Program) (R : PV → Prop), P = P0 → R = (fun p => LeP p r) → code ⟨P, ti, ety, gt, ls, eq, fz⟩ A (max fn.ntmps args.length) c (resF ⟨P, ti, ety, gt, ls, eq, fz⟩ A fn.results.toList R) ⟨argE 0 args, [], 0⟩) : PFun ⟨P0, ti, ety, gt, ls, eq, a⟩ f args r := by
 have hC : (Ctx.mk P0 ti ety gt ls eq fz).OK := ⟨hC0.ti, hC0.ety, hC0.mixed, hC0.eqt, hC0.lies⟩
 refine PFun.fz (a := fz) ⟨fun w Z vals hv hg hz => .inl ⟨?_, ?_⟩⟩
 ·have hn' : ¬ fn.name = "runtime.NumGoroutine" := by simpa using hn
  simp [callFunc, hf, hn', hb]
 ·have hsz : vals.toArray.size = args.length := by simpa using hv.1
  refine (calls_of_wp hf hb ?_)
  have hrel : RelC (Ctx.mk P0 ti ety gt ls eq fz) (max fn.ntmps args.length) ⟨argE 0 args, [], 0⟩ Aa7 Z { tmps := vals.toArray ++ Array.replicate (fn.ntmps - vals.toArray.size) undef, defers := [] } w := by
   refine ⟨by simp [hsz] <;> omega, fun i => ?_, rfl, ⟨fun k g c h => by simp [den] at h, fun k g k' g' c c' b h => by simp [den] at h, hz⟩, hg, fun _ _ _ => rfl⟩
   show RP _ _ _ _ (get (argE 0 args) i)
   rw [Ams]
   simp only [Nat.zero_le, if_true, Nat.sub_zero]
   cases hp : args[i]? with
   | none => exact .any _
   | some p =>
    have hlt : i < vals.length := by
     rw [hv.1]
     rcases Nat.lt_or_ge i args.length with h | h
     ·exact h
     ·rw [List.getElem?_eq_none h] at hp; cases hp
    have hx : vals[i]? = some vals[i] := List.getElem?_eq_getElem hlt
    have : (vals.toArray ++ Array.replicate (fn.ntmps - vals.toArray.size) undef).getD i undef = vals[i] := by
     rw [Array.getD_eq_getD_getElem?, Array.getElem?_append_left (by simpa using hlt)]
     simp [hlt]
    rw [this]
    exact hv.2 i _ p hx hp
  refine wp_mono (wpIn_wide.1 (Ai0 (ro := none) hA hC c _ _ (h P0 (fun p => LeP p r) rfl rfl) Aa7 Z _ w hrel)) fun e a' w' hE => ?_
  obtain ⟨ex, s, μ, Z', rfl, hq, hr, ha, _⟩ := hE
  have fin : (∃ v, (results fn a'.tmps).run P0 w' = .ok v w' ∧ RP μ w' (Zfr μ (den s.sto) Z') v r) → a'.defers = [] ∧ ∃ v, (results fn a'.tmps).run P0 w' = .ok v w' ∧
    ∃ v' Z', Ending.returned v = .returned v' ∧ RP Aa7 w' Z' v' r ∧ ZLt Z' w' ∧ Adv Aa7 emp Z w Aa7 emp Z' w' := by
   rintro ⟨v, h1, h2⟩
   refine ⟨hr.df, v, h1, v, Zfr μ (den s.sto) Z', rfl, h2.bare hbare, fun b o h => ?_, ?_⟩
   ·rcases h with h | ⟨k, g, T, t, xs, h3, h4⟩
    ·exact hr.wr.zlt b o h
    ·exact (hr.wr.ent _ _ _ h3).lt h4
   ·exact ⟨fun _ _ _ h => by simp [Aa7] at h, fun b o h => .inl (ha.z b o h), ha.cell, ha.shp, ha.size, fun b hb _ => ha.frame b hb (fun k g c h => by simp [den] at h), fun b o h => by
     rcases h with h | ⟨k, g, T, t, xs, h3, h4⟩
     ·rcases ha.znew b o h with h | h | ⟨k, g, c, h, _⟩
      ·exact .inl h
      ·exact .inr (.inl h)
      ·simp [den] at h
     ·rcases ha.own k g _ b h3 h4 with h | ⟨k0, g0, c0, h, _⟩
      ·exact .inr (.inl h)
      ·simp [den] at h, fun k g c b h => by simp [emp] at h, ha.os, ha.out⟩
  cases ex with
  | normal => exact fin (Aq3 hA hC hr hq)
  | ret => exact fin (Aq3 hA hC hr hq)
  | exit id => exact hq.elim
end Go.PL
