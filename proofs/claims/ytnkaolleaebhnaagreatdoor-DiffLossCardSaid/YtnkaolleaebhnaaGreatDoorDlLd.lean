/- Texts of this claim: plain laws of what the program's functions compute. No condition of their own. -/
import Derived.Test.YtnkaolleaebhnaaGreatDoorDlLc
import Derived.RangeFuncLeaves
import Derived.TacticsIn
import Derived.Sort.LoopGhostIn
namespace Go.PL
set_option linter.unusedSimpArgs false
set_option linter.unusedVariables false
set_option linter.unusedSectionVars false
open Tys (Ty U)
open Enc (sz enc dflt tb ofB toB)
open Dec (dec dok)
variable [Tys] [Enc] [Dec]
structure AdvB (own : Nat → Prop) (Z : Nat → Nat → Prop) (w : World) (Z' : Nat → Nat → Prop) (w' : World) : Prop where
 z : ∀ b o, Z b o → Z' b o
 cell : ∀ b o, Z b o → w'.cell? ⟨b, o, none⟩ = w.cell? ⟨b, o, none⟩
 shp : ∀ b s, w.shape? b = some s → w'.shape? b = some s
 size : w.heap.size ≤ w'.heap.size
 frame : ∀ b, b < w.heap.size → ¬ own b → w'.heap[b]? = w.heap[b]?
 znew : ∀ b o, Z' b o → Z b o ∨ w.heap.size ≤ b ∨ own b
 os : w'.os = w.os
 out : w'.output = w.output
def owns (μ : Nmap) (m : Mem) (b : Nat) : Prop := ∃ k g c, m k g = some c ∧ μ k g = some (some b)
theorem Adv.b {μ μ' : Nmap} {m m' : Mem} {Z Z' : Nat → Nat → Prop} {w w' : World} (h : Adv μ m Z w μ' m' Z' w') : AdvB (owns μ m) Z w Z' w' :=
 ⟨h.z, h.cell, h.shp, h.size, fun b hb hn => h.frame b hb fun k g c h1 h2 => hn ⟨k, g, c, h1, h2⟩, fun b o hz => h.znew b o hz, h.os, h.out⟩
theorem AdvB.trans {own own' : Nat → Prop} {Z Z1 Z2 : Nat → Nat → Prop} {w w1 w2 : World} (h : AdvB own Z w Z1 w1) (h' : AdvB own' Z1 w1 Z2 w2) (ho : ∀ b, own' b → own b ∨ w.heap.size ≤ b) : AdvB own Z w Z2 w2 where
 z b o hz := h'.z _ _ (h.z _ _ hz)
 cell b o hz := by rw [h'.cell _ _ (h.z _ _ hz), h.cell _ _ hz]
 shp b s hs := h'.shp _ _ (h.shp _ _ hs)
 size := Nat.le_trans h.size h'.size
 frame b hb hn := by
  rw [h'.frame b (Nat.lt_of_lt_of_le hb h.size) (fun h1 => by rcases ho b h1 with h2 | h2; exact hn h2; omega), h.frame b hb hn]
 znew b o hz := by
  rcases h'.znew b o hz with h1 | h1 | h1
  ·exact h.znew b o h1
  ·exact .inr (.inl (Nat.le_trans h.size h1))
  ·rcases ho b h1 with h2 | h2
   ·exact .inr (.inr h2)
   ·exact .inr (.inl h2)
 os := h'.os.trans h.os
 out := h'.out.trans h.out
theorem AdvB.mono {own own' : Nat → Prop} {Z Z1 : Nat → Nat → Prop} {w w1 : World} (h : AdvB own Z w Z1 w1) (ho : ∀ b, own b → own' b) : AdvB own' Z w Z1 w1 :=
 ⟨h.z, h.cell, h.shp, h.size, fun b hb hn => h.frame b hb fun h1 => hn (ho b h1), fun b o hz => (h.znew b o hz).imp id fun h1 => h1.imp id (ho b), h.os, h.out⟩
theorem AdvB.grown {Z : Nat → Nat → Prop} {w w1 : World} {o : Obj} (hg : Grown w w1 o) (hz : ZLt Z w) : AdvB (fun _ => False) Z w Z w1 where
 z _ _ h := h
 cell b i hb := by simp only [World.cell?, hg.old (hz b i hb)]
 shp b s hs := by
  have hb : b < w.heap.size := by
   rcases Nat.lt_or_ge b w.heap.size with h | h
   ·exact h
   ·simp [World.shape?, Array.getElem?_eq_none h] at hs
  simp only [World.shape?, hg.old hb] at hs ⊢; exact hs
 size := by rw [hg.heap]; simp
 frame b hb _ := hg.old hb
 znew _ _ h := .inl h
 os := hg.os
 out := hg.out
theorem AdvB.put {Z : Nat → Nat → Prop} {w : World} {l : Nat} {o o' : Obj} (h : w.heap[l]? = some o) (hc : ∀ cs T fr, o ≠ .cells cs T fr) (hz : ∀ i, ¬ Z l i) : AdvB (fun b => b = l) Z w Z (w.putObj l o') where
 z _ _ h := h
 cell b i hb := by
  have hne : b ≠ l := fun e => hz i (e ▸ hb)
  simp only [World.cell?, World.putObj_heap_other hne]
 shp b s hs := by
  have hne : b ≠ l := by
   intro e; subst e
   simp only [World.shape?, h] at hs
   cases o <;> first | exact absurd rfl (hc _ _ _) | simp at hs
  simp only [World.shape?, World.putObj_heap_other hne] at hs ⊢; exact hs
 size := by simp
 frame b _ hn := World.putObj_heap_other hn
 znew _ _ h := .inl h
 os := rfl
 out := rfl
theorem RelC.other {C : Ctx} {n : Nat} {s : St} {μ : Nmap} {Z Z' : Nat → Nat → Prop} {a : Act} {w w' : World} {dl : List Deferred} {own : Nat → Prop} (h : RelC C n s μ Z a w dl) (hd : ∀ b, own b → ¬ owns μ (den s.sto) b) (ha : AdvB own Z w Z' w') (hz : ZLt Z' w') : RelC C n s μ Z' a w' dl := by
 have hm : ∀ {x : Value} {p : PV}, RP μ w Z x p → RP μ w' Z' x p := fun h => h.mono (fun _ _ _ h => h) ha.z ha.cell ha.shp
 refine ⟨h.size, fun i => hm (h.env i), h.df, ⟨fun k g c hc => ?_, fun k g k' g' c c' b h1 h2 => h.wr.dis k g k' g' c c' b h1 h2, hz⟩, fun g ds hg => ⟨hm (h.gi g ds hg).rp, let ⟨T, hT⟩ := (h.gi g ds hg).shp; ⟨T, ha.shp _ _ hT⟩⟩, h.bd⟩
 have he := h.wr.ent k g c hc
 refine he.keep (fun _ _ _ h => h) ha.z ha.cell ha.shp fun b hb => ?_
 have hno : ¬ own b := fun ho => hd b ho ⟨k, g, c, hc, hb⟩
 have hlt := he.lt hb
 refine ⟨ha.frame b hlt hno, fun o hz => ?_⟩
 rcases ha.znew b o hz with h1 | h1 | h1
 ·exact h1
 ·omega
 ·exact absurd h1 hno
theorem Adv.other {μ μ1 : Nmap} {m m1 : Mem} {Z Z1 Z2 : Nat → Nat → Prop} {w w1 w2 : World} {own : Nat → Prop} (h : Adv μ m Z w μ1 m1 Z1 w1) (h' : AdvB own Z1 w1 Z2 w2) (ho : ∀ b, own b → w.heap.size ≤ b) : Adv μ m Z w μ1 m1 Z2 w2 where
 mu := h.mu
 z b o hz := h'.z _ _ (h.z _ _ hz)
 cell b o hz := by rw [h'.cell _ _ (h.z _ _ hz), h.cell _ _ hz]
 shp b s hs := h'.shp _ _ (h.shp _ _ hs)
 size := Nat.le_trans h.size h'.size
 frame b hb hn := by
  rw [h'.frame b (Nat.lt_of_lt_of_le hb h.size) (fun h1 => by have := ho b h1; omega), h.frame b hb hn]
 znew b o hz := by
  rcases h'.znew b o hz with h1 | h1 | h1
  ·exact h.znew b o h1
  ·exact .inr (.inl (Nat.le_trans h.size h1))
  ·exact .inr (.inl (ho b h1))
 own := h.own
 os := h'.os.trans h.os
 out := h'.out.trans h.out
structure SeqK (C : Ctx) (gf : Nat) (cap : List PV) (xs : List (List PV)) : Prop where
 run : ∀ (l : Nat) (w : World) (Z : Nat → Nat → Prop) (cv : List Value) (J : List (List PV) → (Nat → Prop) → (Nat → Nat → Prop) → World → Prop) (Jx : (Nat → Prop) → (Nat → Nat → Prop) → World → Prop) (O : Nat → Prop),
  RPs Aa7 w Z cv cap → GI C Aa7 w Z → ZLt Z w →
  (∀ r O Z1 w1 own Z2 w2, J r O Z1 w1 → (∀ b, own b → ¬ O b ∧ w.heap.size ≤ b) → AdvB own Z1 w1 Z2 w2 → ZLt Z2 w2 → J r O Z2 w2) →
  (∀ O Z1 w1 own Z2 w2, Jx O Z1 w1 → (∀ b, own b → ¬ O b ∧ w.heap.size ≤ b) → AdvB own Z1 w1 Z2 w2 → ZLt Z2 w2 → Jx O Z2 w2) →
  (∀ p r O Z1 w1 vs, J (p :: r) O Z1 w1 → RPs Aa7 w1 Z1 vs p → YieldAt Fence.wide 0 C.P l vs.toArray w1 fun e w2 => ∃ O2 Z2, AdvB O Z1 w1 Z2 w2 ∧ ZLt Z2 w2 ∧ (∀ b, O2 b → O b ∨ w1.heap.size ≤ b) ∧ (∀ b, O2 b → b < w2.heap.size) ∧
   ((e = .returned (.bool true) ∧ J r O2 Z2 w2) ∨ (e = .returned (.bool false) ∧ Jx O2 Z2 w2))) →
  (∀ b, O b → b < w.heap.size) → J xs O Z w →
  CallsIn Fence.wide 0 C.P gf (#[.func (.yield l) #[] #[]] ++ cv.toArray) w fun e w2 => (∃ v, e = .returned v) ∧ ∃ O2 Z2, ZLt Z2 w2 ∧ (J [] O2 Z2 w2 ∨ Jx O2 Z2 w2)
def envZ : List Tmp → List PV → List (Nat × PV) → List (Nat × PV)
 | t :: ts, v :: vs, e => envZ ts vs ((t, v) :: e)
 | _, _, e => e
theorem A17 {μ : Nmap} {w : World} {Z : Nat → Nat → Prop} : ∀ (ts : List Tmp) (vs : List Value) (ps : List PV) (T : Array Value) (env : List (Nat × PV)), RPs μ w Z vs ps → (∀ t ∈ ts, t < T.size) → (∀ i, RP μ w Z (T.getD i undef) (get env i)) →
  ((ts.zip vs).foldl (fun T (x : Tmp × Value) => T.setIfInBounds x.1 x.2) T).size = T.size ∧ ∀ i, RP μ w Z (((ts.zip vs).foldl (fun T (x : Tmp × Value) => T.setIfInBounds x.1 x.2) T).getD i undef) (get (envZ ts ps env) i)
 | [], vs, ps, T, env, _, _, h => ⟨rfl, h⟩
 | t :: ts, [], [], T, env, _, _, h => ⟨rfl, h⟩
 | t :: ts, v :: vs, p :: ps, T, env, hv, ht, h => by
  have h1 : RP μ w Z v p := hv.2 0 v p rfl rfl
  have hv' : RPs μ w Z vs ps := ⟨by simpa using hv.1, fun i x q hx hq => hv.2 (i + 1) x q (by simpa using hx) (by simpa using hq)⟩
  have := A17 ts vs ps (T.setIfInBounds t v) ((t, p) :: env) hv' (fun t' h' => by simpa using ht t' (by simp [h'])) fun i => by
   simp only [get, Array.getD_eq_getD_getElem?, Array.getElem?_setIfInBounds]
   by_cases e : t = i
   ·subst e; simpa [ht t (by simp)] using h1
   ·simpa [e] using h i
  exact ⟨by simpa using this.1, this.2⟩
 | t :: ts, [], p :: ps, T, env, hv, _, _ => by have := hv.1; simp at this
 | t :: ts, v :: vs, [], T, env, hv, _, _ => by have := hv.1; simp at this
theorem LeSto_env {s s' : St} (h1 : s'.sto = s.sto) (h2 : s'.gen = s.gen) {al : List (Nat × Nat × Nat)} : ∀ {l : List En}, LeSto s al l → LeSto s' al l
 | [], _ => True.intro
 | e :: r, h => by
  unfold LeSto at h ⊢
  rw [h1, h2]
  exact ⟨h.1, LeSto_env h1 h2 h.2⟩
def markD (b : Nat) : Deferred := { target := .collected b, args := #[] }
def A5k : Ex → Code
 | .normal => .skip
 | .exit id => .exit id
 | .ret => .ret
theorem A3v {C : Ctx} {A : Ar} (hA : A = std) (hC : C.OK) {n : Nat} {s : St} {g : Operand} {ps : Array Tmp} {assign body : Code} {gf : Nat} {cap : List PV} {xs : List (List PV)}
  (hg : opd C s.env g = .fn (.func gf) [] cap) (hgt : ∃ t, g = .tmp t) (hcb : bare.bares cap = true) (hseq : SeqK C gf cap xs) (hps : ∀ t ∈ ps.toList, t < n) (hnm : ∀ fn, C.P.funcs[gf]? = some fn → (fn.name == "runtime.NumGoroutine") = false ∧ fn.body.isSome = true) (hgf : ∃ fn, C.P.funcs[gf]? = some fn)
  {X : Type} (I : List (List PV) → X → Prop) (hI : ∀ p r x, I (p :: r) x → p.length = ps.size ∧ bare.bares p = true) (stos : X → Nat → List En) (x0 : X) (al0 : List (Nat × Nat × Nat)) (h0 : Head s (fun _ => []) (stos x0) al0) (hx0 : I xs x0) {Q : Ex → St → Prop}
  (hend : ∀ x gh g, I [] x → Q .normal ⟨restE [] s.env, stos x gh, g⟩)
  (round : ∀ p r x gh g (K : St → Prop), I (p :: r) x → (∀ s' x' al, I r x' → Head s' (fun _ => []) (stos x') al → K s') →
   code C A n assign (thenE (fun s1 => code C A n body (thenE K fun ex s' => Q ex ⟨restE [] s.env, s'.sto, s'.gen⟩) s1) fun _ _ => False) ⟨envZ ps.toList p (restE [] s.env), stos x gh, g⟩)
  {μ : Nmap} {Z : Nat → Nat → Prop} {a : Act} {w : World} {dl : List Deferred} (hr : RelC C n s μ Z a w dl) :
  (Code.rangeFunc g ps assign body).wpIn (Fq none) 0 C.P (fun e a' w' => ∃ ex s' μ' Z', ex.to = e ∧ Q ex s' ∧ RelC C n s' μ' Z' a' w' (markD w.heap.size :: dl) ∧ Adv μ (den s.sto) Z w μ' (den s'.sto) Z' w' ∧
   w'.heap[w.heap.size]? = some (.deferred (some [])) ∧ (∀ o, ¬ Z' w.heap.size o) ∧ ¬ owns μ' (den s'.sto) w.heap.size) a w := by
 -- the function
 obtain ⟨us, hus, hcap⟩ : ∃ us : List Value, a.eval g = .func (.func gf) #[] us.toArray ∧ RPs μ w Z us cap := by
  obtain ⟨t, rfl⟩ := hgt
  have h1 := hr.env t
  simp only [opd] at hg
  rw [hg] at h1
  show ∃ us : List Value, a.tmps.getD t undef = _ ∧ _
  generalize a.tmps.getD t undef = y at h1
  cases h1 with
  | fn _ _ _ vs us hl hm h2 h3 =>
   have : vs = [] := List.eq_nil_of_length_eq_zero (by simpa using hl)
   subst this
   exact ⟨us, rfl, hm, h3⟩
 have eg : ∀ args w, (callFunc gf args).run C.P w = .ok (.enter gf args) w := by
  intro args w
  obtain ⟨fn, hf⟩ := hgf
  obtain ⟨h1, h2⟩ := hnm fn hf
  obtain ⟨b, hb⟩ := Option.isSome_iff_exists.1 h2
  have hn' : ¬ fn.name = "runtime.NumGoroutine" := by simpa using h1
  simp [callFunc, hf, hn', hb]
 refine wpIn_rangeFunc ?_
 intro fn hfn
 obtain ⟨rec, hrec⟩ : ∃ rec : LoopState → Option Code → Loop, rec = fun st pe => { state := st, pending := pe, fn, tmps := a.tmps, params := ps, assign, body, defers := w.heap.size } := ⟨_, rfl⟩
 obtain ⟨W0, hW0⟩ : ∃ W0, w.alloc (.deferred (some [])) = W0 := ⟨_, rfl⟩
 obtain ⟨W1, hW1⟩ : ∃ W1, W0.alloc (.loop (rec .ready none)) = W1 := ⟨_, rfl⟩
 have hs0 : W0.heap.size = w.heap.size + 1 := by rw [← hW0]; simp [World.size_alloc]
 have hs1 : W1.heap.size = w.heap.size + 2 := by rw [← hW1]; simp [World.size_alloc, hs0]
 have hg0 : Grown w W0 (.deferred (some [])) := ⟨by rw [← hW0]; rfl, by rw [← hW0]; rfl, by rw [← hW0]; rfl⟩
 have hg1 : Grown W0 W1 (.loop (rec .ready none)) := ⟨by rw [← hW1]; rfl, by rw [← hW1]; rfl, by rw [← hW1]; rfl⟩
 have hL1 : W1.heap[w.heap.size + 1]? = some (.loop (rec .ready none)) := by have := hg1.new; rwa [hs0] at this
 have hK1 : W1.heap[w.heap.size]? = some (.deferred (some [])) := by rw [hg1.old (by omega)]; exact hg0.new
 have b1 : AdvB (fun _ => False) Z w Z W0 := .grown hg0 hr.wr.zlt
 have z0 : ZLt Z W0 := fun b o h => Nat.lt_of_lt_of_le (hr.wr.zlt b o h) b1.size
 have b2 : AdvB (fun _ => False) Z W0 Z W1 := .grown hg1 z0
 have b3 : AdvB (fun _ => False) Z w Z W1 := b1.trans b2 fun _ h => h.elim
 have z1 : ZLt Z W1 := fun b o h => Nat.lt_of_lt_of_le (hr.wr.zlt b o h) b3.size
 have hA0 : Adv μ (den s.sto) Z w μ (den s.sto) Z W1 := Adv.refl.other b3 fun _ h => h.elim
 have hr1 : RelC C n s μ Z ⟨a.tmps, []⟩ W1 [] := by
  have := hr.other (fun _ h => h.elim) b3 z1
  exact ⟨this.size, this.env, rfl, this.wr, this.gi, this.bd⟩
 have hlt0 : ∀ b, owns μ (den s.sto) b → b < w.heap.size := fun b ⟨k, g, c, h1, h2⟩ => (hr.wr.ent k g c h1).lt h2
 -- what holds between two parties' steps
 let G : St → LoopState → Option Code → Nmap → (Nat → Prop) → (Nat → Nat → Prop) → World → Prop := fun s' st pe μ1 O Z1 w1 =>
  RelC C n s' μ1 Z1 ⟨a.tmps, []⟩ w1 [] ∧ Adv μ (den s.sto) Z w μ1 (den s'.sto) Z1 w1 ∧ (w1.heap[w.heap.size + 1]? = some (.loop (rec st pe)) ∧ w1.heap[w.heap.size]? = some (.deferred (some []))) ∧
   (∀ o, ¬ Z1 w.heap.size o ∧ ¬ Z1 (w.heap.size + 1) o) ∧ (¬ owns μ1 (den s'.sto) w.heap.size ∧ ¬ owns μ1 (den s'.sto) (w.heap.size + 1)) ∧ O = fun b => owns μ1 (den s'.sto) b ∨ b = w.heap.size ∨ b = w.heap.size + 1
 have lt_of : ∀ {w1 : World} {b : Nat} {o : Obj}, w1.heap[b]? = some o → b < w1.heap.size := fun h => (Array.getElem?_eq_some_iff.1 h).1
 have Gother : ∀ {s' st pe μ1 O Z1 w1 own Z2 w2}, G s' st pe μ1 O Z1 w1 → (∀ b, own b → ¬ O b ∧ W1.heap.size ≤ b) → AdvB own Z1 w1 Z2 w2 → ZLt Z2 w2 → G s' st pe μ1 O Z2 w2 := by
  rintro s' st pe μ1 O Z1 w1 own Z2 w2 ⟨g1, g2, ⟨g3, g4⟩, g5, g6, rfl⟩ ho hb hz
  have nD : ¬ own w.heap.size := fun h => (ho _ h).1 (.inr (.inl rfl))
  have nL : ¬ own (w.heap.size + 1) := fun h => (ho _ h).1 (.inr (.inr rfl))
  refine ⟨g1.other (fun b h h' => (ho b h).1 (.inl h')) hb hz, g2.other hb (fun b h => by have := (ho b h).2; omega), ⟨by rw [hb.frame _ (lt_of g3) nL]; exact g3, by rw [hb.frame _ (lt_of g4) nD]; exact g4⟩, fun o => ⟨fun h => ?_, fun h => ?_⟩, g6, rfl⟩
  ·rcases hb.znew _ _ h with h | h | h
   ·exact (g5 o).1 h
   ·have := lt_of g4; omega
   ·exact nD h
  ·rcases hb.znew _ _ h with h | h | h
   ·exact (g5 o).2 h
   ·have := lt_of g3; omega
   ·exact nL h
 let J : List (List PV) → (Nat → Prop) → (Nat → Nat → Prop) → World → Prop := fun r O Z1 w1 => ∃ x gh g μ1, I r x ∧ G ⟨restE [] s.env, stos x gh, g⟩ .ready none μ1 O Z1 w1
 let Jx : (Nat → Prop) → (Nat → Nat → Prop) → World → Prop := fun O Z1 w1 => ∃ ex s' μ1, (match ex with | .normal => False | _ => True) ∧ Q ex s' ∧ s'.env = restE [] s.env ∧ G s' .done (some (A5k ex)) μ1 O Z1 w1
 -- the names of a head, out of a state
 have enter : ∀ {s' : St} {st pe μ1 O Z1 w1 x al}, G ⟨restE [] s.env, s'.sto, s'.gen⟩ st pe μ1 O Z1 w1 → Head s' (fun _ => []) (stos x) al → ∃ μ2 O2, G ⟨restE [] s.env, stos x s'.gen, s'.gen + 1⟩ st pe μ2 O2 Z1 w1 ∧ ∀ b, O2 b → O b := by
  rintro s' st pe μ1 O Z1 w1 x al ⟨g1, g2, g3, g5, g6, rfl⟩ hh
  have hh' : Head ⟨restE [] s.env, s'.sto, s'.gen⟩ (fun _ => []) (stos x) al := ⟨True.intro, (LeSto_env (s := s') (s' := ⟨restE [] s.env, s'.sto, s'.gen⟩) rfl rfl hh.sto : LeSto _ al (stos x s'.gen)), hh.nd⟩
  obtain ⟨μ2, e1, e2⟩ := Aoy (ws := []) (env0 := s.env) hh' g1 (fun j _ => by have := g1.env j; rw [Aqz] at this; simpa using this)
  have hsub : ∀ b, owns μ2 (den (stos x s'.gen)) b → owns μ1 (den s'.sto) b := fun b ⟨k, g, c, h1, h2⟩ => by
   rcases e2.own k g c b h1 h2 with h | h
   ·have := (e1.wr.ent k g c h1).lt h2; omega
   ·obtain ⟨k0, g0, c0, h3, h4⟩ := h; exact ⟨k0, g0, c0, h3, h4⟩
  exact ⟨μ2, _, ⟨e1, g2.trans e2, g3, g5, ⟨fun h => g6.1 (hsub _ h), fun h => g6.2 (hsub _ h)⟩, rfl⟩, fun b h => h.imp (hsub b) id⟩
 have hG1 : G ⟨restE [] s.env, s.sto, s.gen⟩ .ready none μ (fun b => owns μ (den s.sto) b ∨ b = w.heap.size ∨ b = w.heap.size + 1) Z W1 := by
  refine ⟨⟨hr1.size, fun i => by have := hr1.env i; show RP _ _ _ _ (get (restE [] s.env) i); rw [Aqz]; simpa using this, rfl, hr1.wr, hr1.gi, hr1.bd⟩, hA0, ⟨hL1, hK1⟩, fun o => ⟨fun h => ?_, fun h => ?_⟩, ⟨fun h => ?_, fun h => ?_⟩, rfl⟩
  ·have := hr.wr.zlt _ _ h; omega
  ·have := hr.wr.zlt _ _ h; omega
  ·have := hlt0 _ h; omega
  ·have := hlt0 _ h; omega
 obtain ⟨μs, O1, hG2, hO1⟩ := enter (s' := s) hG1 h0
 refine ⟨w.heap.size + 1, [markD w.heap.size], W1, { target := .fn (.func gf) us.toArray, args := #[.func (.yield (w.heap.size + 1)) #[] #[]] }, W1, gf,
  #[.func (.yield (w.heap.size + 1)) #[] #[]] ++ us.toArray, W1, ?_, ?_, fun _ _ => trivial, ?_, fun h => (by cases h), ?_⟩
 ·rw [← hW1, ← hW0, hrec]; exact run_enterLoop_outer _ _ _ _ _
 ·simp only [resolve, hus]
  simp [go_sem]
 ·simp [invoke, go_sem, eg]
 refine CallsIn.mono (F := Fence.wide) (hseq.run (w.heap.size + 1) W1 Z us J Jx O1 ((hcap.adv hA0).bare hcb) (fun g ds h => ((hr.gi g ds h).adv hA0).bare rfl) z1 ?_ ?_ ?_ ?_ ⟨x0, s.gen, s.gen + 1, μs, hx0, hG2⟩) ?_
 ·rintro r O Z1 w1 own Z2 w2 ⟨x, gh, g, μ1, hIx, hg⟩ ho hb hz
  exact ⟨x, gh, g, μ1, hIx, Gother hg ho hb hz⟩
 ·rintro O Z1 w1 own Z2 w2 ⟨ex, s', μ1, h1, h2, h3, hg⟩ ho hb hz
  exact ⟨ex, s', μ1, h1, h2, h3, Gother hg ho hb hz⟩
 ·-- ONE ROUND
  rintro p r O Z1 w1 vs ⟨x, gh, g, μ1, hIx, hG⟩ hvs
  have hG' := hG
  obtain ⟨g1, g2, ⟨g3, g4⟩, g5, g6, hO⟩ := hG
  obtain ⟨hpl, hpb⟩ := hI p r x hIx
  have hsz : vs.toArray.size = (rec .ready none).params.size := by rw [hrec]; simp [hvs.1, hpl]
  have hy := run_yield (P := C.P) (args := vs.toArray) g3 hsz
  refine ⟨_, _, _, _, hy, ?_⟩
  have hrf : (rec .ready none).fn = fn ∧ (rec .ready none).assign = assign ∧ (rec .ready none).body = body ∧ (rec .ready none).params = ps ∧ (rec .ready none).tmps = a.tmps := by rw [hrec]; exact ⟨rfl, rfl, rfl, rfl, rfl⟩
  obtain ⟨f1, f2, f3, f4, f5⟩ := hrf
  rw [f1, f2, f3, f4, f5]
  obtain ⟨T, hT⟩ : ∃ T, (ps.zip vs.toArray).foldl (fun tmps (t, a) => tmps.setIfInBounds t a) a.tmps = T := ⟨_, rfl⟩
  have hT2 : (ps.toList.zip vs).foldl (fun T (x : Tmp × Value) => T.setIfInBounds x.1 x.2) a.tmps = T := by rw [← hT, ← Array.foldl_toList]; simp [Array.toList_zip]
  obtain ⟨t1, t2⟩ := A17 (μ := μ1) (w := w1) (Z := Z1) ps.toList vs p a.tmps (restE [] s.env) (hvs.bare hpb) (fun t ht => by have : a.tmps.size = n := g1.size; rw [this]; exact hps t ht) g1.env
  rw [hT2] at t1 t2
  rw [hT]
  have hR1 : RelC C n ⟨envZ ps.toList p (restE [] s.env), stos x gh, g⟩ μ1 Z1 ⟨T, []⟩ w1 [] := ⟨by show T.size = n; rw [t1]; exact g1.size, t2, rfl, g1.wr, g1.gi, g1.bd⟩
  refine roundIn_of_wpIn (F := Fence.wide) trivial ?_
  refine wpIn_mono (Ai0 (ro := some (w.heap.size + 1)) hA hC assign _ _ (round p r x gh g (fun s' => ∃ x' al, I r x' ∧ Head s' (fun _ => []) (stos x') al) hIx fun s' x' al h1 h2 => ⟨x', al, h1, h2⟩) μ1 Z1 ⟨T, []⟩ w1 hR1) fun e a2 w2 hE => ?_
  obtain ⟨ex, s2, μ2, Z2, rfl, hq2, hr2, ha2, _⟩ := hE
  cases ex with
  | exit id => exact hq2.elim
  | ret => exact hq2.elim
  | normal =>
  have n2 : ¬ owns μ2 (den s2.sto) (w.heap.size + 1) := fun ⟨k, g, c, h1, h2⟩ => by
   rcases ha2.own k g c _ h1 h2 with h | ⟨k0, g0, c0, h3, h4⟩
   ·have := lt_of g3; omega
   ·exact g6.2 ⟨k0, g0, c0, h3, h4⟩
  have l2 : w2.heap[w.heap.size + 1]? = some (.loop (rec .ready none)) := by rw [ha2.b.frame _ (lt_of g3) g6.2]; exact g3
  have zz2 : ∀ o, ¬ Z2 (w.heap.size + 1) o := fun o h => by
   rcases ha2.znew _ _ h with h | h | ⟨k, g, c, h1, h2⟩
   ·exact (g5 o).2 h
   ·have := lt_of g3; omega
   ·exact g6.2 ⟨k, g, c, h1, h2⟩
  obtain ⟨w2', hw2'⟩ : ∃ w2', w2.putObj (w.heap.size + 1) (.loop (rec .busy none)) = w2' := ⟨_, rfl⟩
  have bb : AdvB (fun b => b = w.heap.size + 1) Z2 w2 Z2 w2' := by rw [← hw2']; exact .put l2 (fun _ _ _ h => by cases h) zz2
  refine ⟨w2', ?_, ?_⟩
  ·have := run_beginRound (P := C.P) l2 (by rw [hrec])
   rw [this, ← hw2', hrec]
  have hr2' := hr2.other (fun b h h' => by cases (h : b = w.heap.size + 1); exact n2 h') bb (fun b o h => Nat.lt_of_lt_of_le (hr2.wr.zlt b o h) bb.size)
  refine wpIn_mono (Ai0 (ro := some (w.heap.size + 1)) hA hC body _ _ hq2 μ2 Z2 a2 w2' hr2') fun e a3 w3 hE => ?_
  obtain ⟨ex, s3, μ3, Z3, rfl, hq3, hr3, ha3, _⟩ := hE
  have l2' : w2'.heap[w.heap.size + 1]? = some (.loop (rec .busy none)) := by rw [← hw2']; exact World.putObj_heap_same (lt_of l2)
  have l3 : w3.heap[w.heap.size + 1]? = some (.loop (rec .busy none)) := by rw [ha3.b.frame _ (lt_of l2') n2]; exact l2'
  have n3 : ¬ owns μ3 (den s3.sto) (w.heap.size + 1) := fun ⟨k, g, c, h1, h2⟩ => by
   rcases ha3.own k g c _ h1 h2 with h | ⟨k0, g0, c0, h3, h4⟩
   ·have := lt_of l2'; omega
   ·exact n2 ⟨k0, g0, c0, h3, h4⟩
  have zz3 : ∀ o, ¬ Z3 (w.heap.size + 1) o := fun o h => by
   rcases ha3.znew _ _ h with h | h | ⟨k, g, c, h1, h2⟩
   ·exact zz2 o h
   ·have := lt_of l2'; omega
   ·exact n2 ⟨k, g, c, h1, h2⟩
  -- the whole round, as the iterator sees it
  have fin : ∀ (jump : Option Code), ∃ w4, (Instr.endRound (w.heap.size + 1) jump).run C.P w3 = .ok (.bool jump.isNone) w4 ∧ ∃ O3, AdvB O Z1 w1 Z3 w4 ∧ ZLt Z3 w4 ∧ (∀ b, O3 b → O b ∨ w1.heap.size ≤ b) ∧ (∀ b, O3 b → b < w4.heap.size) ∧
    G ⟨restE [] s.env, s3.sto, s3.gen⟩ (if jump.isNone then .ready else .done) jump μ3 O3 Z3 w4 := by
   intro jump
   obtain ⟨w4, hw4⟩ : ∃ w4, w3.putObj (w.heap.size + 1) (.loop (rec (if jump.isNone then .ready else .done) jump)) = w4 := ⟨_, rfl⟩
   have b4 : AdvB (fun b => b = w.heap.size + 1) Z3 w3 Z3 w4 := by rw [← hw4]; exact .put l3 (fun _ _ _ h => by cases h) zz3
   have c1 : AdvB (fun b => owns μ1 (den (stos x gh)) b ∨ b = w.heap.size + 1) Z1 w1 Z2 w2' := (ha2.b.mono fun b h => .inl h).trans bb fun b h => .inl (.inr h)
   have c2 : AdvB (fun b => owns μ1 (den (stos x gh)) b ∨ b = w.heap.size + 1) Z1 w1 Z3 w3 := c1.trans ha3.b fun b ⟨k, g, c, h1, h2⟩ => by
    rcases ha2.own k g c b h1 h2 with h | ⟨k0, g0, c0, h3, h4⟩
    ·exact .inr h
    ·exact .inl (.inl ⟨k0, g0, c0, h3, h4⟩)
   have c3 : AdvB (fun b => owns μ1 (den (stos x gh)) b ∨ b = w.heap.size + 1) Z1 w1 Z3 w4 := c2.trans b4 fun b h => .inl (.inr h)
   have hz4 : ZLt Z3 w4 := fun b o h => Nat.lt_of_lt_of_le (hr3.wr.zlt b o h) b4.size
   have hr4 := hr3.other (fun b h h' => by cases (h : b = w.heap.size + 1); exact n3 h') b4 hz4
   have hmu : ∀ k g y, μ1 k g = some y → μ3 k g = some y := fun k g y h => ha3.mu _ _ _ (ha2.mu _ _ _ h)
   have down : ∀ b, owns μ3 (den s3.sto) b → owns μ1 (den (stos x gh)) b ∨ w1.heap.size ≤ b := fun b ⟨k, g, c, h1, h2⟩ => by
    rcases ha3.own k g c b h1 h2 with h | ⟨k0, g0, c0, h3, h4⟩
    ·exact .inr (Nat.le_trans c1.size h)
    ·rcases ha2.own k0 g0 c0 b h3 h4 with h | ⟨k1, g1, c1, h5, h6⟩
     ·exact .inr h
     ·exact .inl ⟨k1, g1, c1, h5, h6⟩
   have nD : ¬ owns μ3 (den s3.sto) w.heap.size := fun h => by
    rcases down _ h with h | h
    ·exact g6.1 h
    ·have := lt_of g4; omega
   refine ⟨w4, ?_, _, c3.mono fun b h => ?_, hz4, fun b h => ?_, fun b h => ?_, ?_, ?_, ⟨?_, ?_⟩, fun o => ⟨fun h => ?_, fun h => zz3 o h⟩, ⟨nD, n3⟩, rfl⟩
   ·have := run_endRound (P := C.P) jump l3
    rw [this, ← hw4, hrec]
   ·rw [hO]; exact h.imp id fun h => .inr h
   ·rcases h with h | h
    ·rw [hO]; exact (down b h).imp .inl id
    ·rw [hO]; exact .inl (.inr h)
   ·rcases h with ⟨k, g, c, h1, h2⟩ | h | h
    ·exact (hr4.wr.ent k g c h1).lt h2
    ·have := lt_of g4; have := c3.size; omega
    ·have := lt_of g3; have := c3.size; omega
   ·exact ⟨g1.size, fun i => (g1.env i).mono hmu c3.z c3.cell c3.shp, rfl, hr4.wr, hr4.gi, hr4.bd⟩
   ·have hsub : ∀ b, (owns μ1 (den (stos x gh)) b ∨ b = w.heap.size + 1) → owns μ1 (den (stos x gh)) b ∨ b = w.heap.size + 1 := fun _ h => h
    refine ⟨fun k g y h => hmu _ _ _ (g2.mu _ _ _ h), fun b o h => c3.z _ _ (g2.z _ _ h), fun b o h => by rw [c3.cell _ _ (g2.z _ _ h), g2.cell _ _ h], fun b t h => c3.shp _ _ (g2.shp _ _ h), Nat.le_trans g2.size c3.size, fun b hb hn => ?_, fun b o h => ?_, fun k g c b h1 h2 => ?_, c3.os.trans g2.os, c3.out.trans g2.out⟩
    ·have hb1 : b < w1.heap.size := Nat.lt_of_lt_of_le hb g2.size
     rw [c3.frame b hb1 ?_, g2.frame b hb hn]
     rintro (⟨k, g, c, h1, h2⟩ | h)
     ·rcases g2.own k g c b h1 h2 with h | ⟨k0, g0, c0, h3, h4⟩
      ·omega
      ·exact hn _ _ _ h3 h4
     ·omega
    ·rcases c3.znew b o h with h | h | h
     ·exact g2.znew b o h
     ·exact .inr (.inl (Nat.le_trans g2.size h))
     ·rcases h with ⟨k, g, c, h1, h2⟩ | h
      ·exact .inr (g2.own k g c b h1 h2)
      ·exact .inr (.inl (by omega))
    ·rcases down b ⟨k, g, c, h1, h2⟩ with ⟨k0, g0, c0, h3, h4⟩ | h
     ·exact g2.own k0 g0 c0 b h3 h4
     ·exact .inl (Nat.le_trans g2.size h)
   ·rw [← hw4]; exact World.putObj_heap_same (lt_of l3)
   ·rw [c3.frame _ (lt_of g4) (by rintro (h | h); exact g6.1 h; omega)]; exact g4
   ·rcases c3.znew _ _ h with h | h | h
    ·exact (g5 o).1 h
    ·have := lt_of g4; omega
    ·rcases h with h | h
     ·exact g6.1 h
     ·omega
  cases ex with
  | normal =>
   obtain ⟨w4, e1, O3, e2, e3, e4, e5, e6⟩ := fin none
   obtain ⟨x', al, hx', hh⟩ := hq3
   obtain ⟨μ5, O5, hG5, hO5⟩ := enter (s' := s3) e6 hh
   exact ⟨_, w4, e1, O5, Z3, e2, e3, fun b h => e4 b (hO5 b h), fun b h => e5 b (hO5 b h), .inl ⟨rfl, x', s3.gen, s3.gen + 1, μ5, hx', hG5⟩⟩
  | ret =>
   obtain ⟨w4, e1, O3, e2, e3, e4, e5, e6⟩ := fin (some .ret)
   exact ⟨_, w4, e1, O3, Z3, e2, e3, e4, e5, .inr ⟨rfl, .ret, _, μ3, True.intro, hq3, rfl, e6⟩⟩
  | exit id =>
   obtain ⟨w4, e1, O3, e2, e3, e4, e5, e6⟩ := fin (some (.exit id))
   exact ⟨_, w4, e1, O3, Z3, e2, e3, e4, e5, .inr ⟨rfl, .exit id, _, μ3, True.intro, hq3, rfl, e6⟩⟩
 ·intro b h
  have := hO1 b h
  rcases this with h | h | h
  ·have := hlt0 b h; omega
  ·omega
  ·omega
 ·-- BEHIND THE ITERATOR
  rintro e W2 ⟨⟨v, rfl⟩, O2, Z2, hz2, hJ⟩
  have last : ∀ {s' st pe μ1}, st ≠ .busy → G s' st pe μ1 O2 Z2 W2 → ∃ w4, (Instr.endLoop (w.heap.size + 1)).run C.P W2 = .ok pe w4 ∧ RelC C n s' μ1 Z2 { a with defers := markD w.heap.size :: a.defers } w4 (markD w.heap.size :: dl) ∧ Adv μ (den s.sto) Z w μ1 (den s'.sto) Z2 w4 ∧
    w4.heap[w.heap.size]? = some (.deferred (some [])) ∧ (∀ o, ¬ Z2 w.heap.size o) ∧ ¬ owns μ1 (den s'.sto) w.heap.size := by
   rintro s' st pe μ1 hst ⟨g1, g2, ⟨g3, g4⟩, g5, g6, hO⟩
   obtain ⟨w4, hw4⟩ : ∃ w4, W2.putObj (w.heap.size + 1) (.loop (rec .exhausted pe)) = w4 := ⟨_, rfl⟩
   have b4 : AdvB (fun b => b = w.heap.size + 1) Z2 W2 Z2 w4 := by rw [← hw4]; exact .put g3 (fun _ _ _ h => by cases h) fun o => (g5 o).2
   have hr4 := g1.other (fun b h h' => by cases (h : b = w.heap.size + 1); exact g6.2 h') b4 (fun b o h => Nat.lt_of_lt_of_le (hz2 b o h) b4.size)
   refine ⟨w4, ?_, ⟨hr4.size, hr4.env, by show _ :: a.defers = _; rw [hr.df], hr4.wr, hr4.gi, hr4.bd⟩, g2.other b4 (fun b h => by omega), ?_, fun o => (g5 o).1, g6.1⟩
   ·have := run_endLoop (P := C.P) g3 (by rw [hrec]; exact hst)
    rw [this, ← hw4, hrec]
   ·rw [b4.frame _ (lt_of g4) (by omega)]; exact g4
  rcases hJ with ⟨x, gh, g, μ1, hIx, hG⟩ | ⟨ex, s', μ1, hne, hQ, henv, hG⟩
  ·obtain ⟨w4, h1, h2, h3, h4⟩ := last (by simp) hG
   exact ⟨none, w4, h1, .normal, _, μ1, Z2, rfl, hend x gh g hIx, h2, h3, h4⟩
  ·obtain ⟨w4, h1, h2, h3, h4⟩ := last (by simp) hG
   refine ⟨_, w4, h1, ?_⟩
   cases ex with
   | normal => exact hne.elim
   | ret => exact wpIn_ret ⟨.ret, s', μ1, Z2, rfl, hQ, h2, h3, h4⟩
   | exit id => exact wpIn_exit ⟨.exit id, s', μ1, Z2, rfl, hQ, h2, h3, h4⟩
end Go.PL
namespace Go.PL
set_option linter.unusedSimpArgs false
set_option linter.unusedVariables false
set_option linter.unusedSectionVars false
open Tys (Ty U)
open Enc (sz enc dflt tb ofB toB)
open Dec (dec dok)
variable [Tys] [Enc] [Dec]
theorem finM {C : Ctx} (hC : C.OK) {n : Nat} {s : St} {μ0 μ : Nmap} {Z Z' : Nat → Nat → Prop} {a' : Act} {w w' : World} {fn : Func} {sto sto' : List En} {r : PV} (hno : ∀ k g, 1 ≤ g → μ0 k g = none) (hr : RelC C n s μ Z' a' w') (ha : Adv μ0 (den sto) Z w μ (den s.sto) Z' w')
  (hk : resK C s fn.results.toList fun ps => match ps with | [p] => ∃ ρ, EndM r sto' ρ p s.sto | ps => ∃ ρ, EndM r sto' ρ (.tu ps) s.sto) :
  ∃ v, (results fn a'.tmps).run C.P w' = .ok v w' ∧ ∃ v' μ' Z', Ending.returned v = .returned v' ∧ RP μ' w' Z' v' r ∧ WR μ' (den sto') Z' w' ∧ Adv μ0 (den sto) Z w μ' (den sto') Z' w' := by
 obtain ⟨p, ρ, hend, hk'⟩ : ∃ p ρ, EndM r sto' ρ p s.sto ∧ resK C s fn.results.toList fun ps => match ps with | [q] => LeP q p | ps => LeP (.tu ps) p := by
  obtain ⟨ps, vals', h1, h2, h3⟩ := Aq1 hC hr _ _ hk
  have key : ∀ (rs : List ResultVar) (k : List PV → Prop), resK C s rs k → ∃ ps, k ps ∧ ∀ k' : List PV → Prop, k' ps → resK C s rs k' := by
   intro rs
   induction rs with
   | nil => intro k h; exact ⟨[], h, fun k' h' => h'⟩
   | cons rv rs ih =>
    intro k h
    have one : ∀ (k : PV → Prop), resOne C s rv k → ∃ p, k p ∧ ∀ k' : PV → Prop, k' p → resOne C s rv k' := by
     intro k h
     unfold resOne at h ⊢
     split at h
     ·exact ⟨_, h, fun k' h' => h'⟩
     ·split at h
      ·split at h
       ·obtain ⟨h0, h⟩ := h
        split at h
        ·exact ⟨_, h.2, fun k' h' => ⟨h0, h.1, h'⟩⟩
        ·split at h
         ·exact ⟨_, h, fun k' h' => ⟨h0, h'⟩⟩
         ·exact h.elim
       ·obtain ⟨h0, h1, h2, h⟩ := h
        exact ⟨_, h, fun k' h' => ⟨h0, h1, h2, h'⟩⟩
       ·exact h.elim
      ·exact h.elim
    obtain ⟨p, h1, h2⟩ := one _ h
    obtain ⟨ps, h3, h4⟩ := ih _ h1
    exact ⟨p :: ps, h3, fun k' h' => h2 _ (h4 _ h')⟩
  obtain ⟨qs, k1, k2⟩ := key _ _ hk
  have refl : ∀ q : PV, LeP q q := LeP.refl
  split at k1
  ·rename_i q
   obtain ⟨ρ, hρ⟩ := k1
   exact ⟨q, ρ, hρ, k2 _ (refl q)⟩
  ·rename_i ps hne
   obtain ⟨ρ, hρ⟩ := k1
   refine ⟨.tu qs, ρ, hρ, k2 _ ?_⟩
   split
   ·rename_i q; exact absurd rfl (hne q)
   ·exact refl _
 obtain ⟨v, h1, h2⟩ := Amr hC hr hk'
 let f := cback ρ
 let μ' : Nmap := fun k g => match f k g with
  | some (k', g') => μ k' g'
  | none => none
 have hback : ∀ k g k' g' y, f k g = some (k', g') → μ k' g' = some y → μ' k g = some y := fun k g k' g' y hf hy => by simp only [μ', hf]; exact hy
 have hfwd : ∀ {k g k' g'}, f k g = some (k', g') → μ' k g = μ k' g' := fun hf => by simp only [μ', hf]
 have hnd := Ajx hend.nd
 refine ⟨v, h1, v, μ', Z', rfl, (LeP.rp _ _ hend.le v h2).unren hback r hend.rok rfl, ⟨fun k g c hc => ?_, fun k g k2 g2 c c2 b hc hc2 hb hb2 => ?_, hr.wr.zlt⟩, ?_⟩
 ·obtain ⟨k', g', c', e1, e2, e3, e4, _⟩ := hend.sto.at hc
  exact EntOK.unren hback e1 e4 (e3.ent (hr.wr.ent _ _ _ (Aa6 e2)))
 ·obtain ⟨k', g', c', e1, e2, e3, e4, _⟩ := hend.sto.at hc
  obtain ⟨k2', g2', c2', d1, d2, d3, d4, _⟩ := hend.sto.at hc2
  rw [hfwd e1] at hb
  rw [hfwd d1] at hb2
  obtain ⟨rfl, rfl⟩ := hr.wr.dis _ _ _ _ _ _ b (Aa6 e2) (Aa6 d2) hb hb2
  exact At3 hnd hc hc2 e1 d1 rfl
 ·refine ⟨fun k g y hy => ?_, ha.z, ha.cell, ha.shp, ha.size, ha.frame, ha.znew, fun k g c b hc hb => ?_, ha.os, ha.out⟩
  ·have hk : ¬ 1 ≤ g := fun hk => by rw [hno k g hk] at hy; cases hy
   obtain rfl : g = 0 := by omega
   exact hback k 0 k 0 y rfl (ha.mu _ _ _ hy)
  ·obtain ⟨k', g', c', e1, e2, e3, e4, _⟩ := hend.sto.at hc
   rw [hfwd e1] at hb
   exact ha.own _ _ _ b (Aa6 e2) hb
theorem PFunM.marks {C : Ctx} (hC : C.OK) {f : Nat} {fn : Func} {c : Code} {args : List PV} {sto : List En} {r : PV} {sto' : List En}
  (hf : C.P.funcs[f]? = some fn) (hb : fn.body = some c) (hn : (fn.name == "runtime.NumGoroutine") = false)
  (h : ∀ μ0 Z a w, RelC C (max fn.ntmps args.length) ⟨argE 0 args, sto, 2⟩ μ0 Z a w → c.wpIn (Fq none) 0 C.P (fun e a' w' => (e = .normal ∨ e = .ret) ∧ ∃ b s μ Z', w.heap.size ≤ b ∧
   (resK C s fn.results.toList fun ps => match ps with | [p] => ∃ ρ, EndM r sto' ρ p s.sto | ps => ∃ ρ, EndM r sto' ρ (.tu ps) s.sto) ∧ RelC C (max fn.ntmps args.length) s μ Z' a' w' [markD b] ∧ Adv μ0 (den sto) Z w μ (den s.sto) Z' w' ∧
   w'.heap[b]? = some (.deferred (some [])) ∧ (∀ o, ¬ Z' b o) ∧ ¬ owns μ (den s.sto) b) a w) : PFunM C f args sto r sto' := by
 refine ⟨fun μ0 w Z vals hv hw0 hg hno => .inl ⟨?_, ?_⟩⟩
 ·have hn' : ¬ fn.name = "runtime.NumGoroutine" := by simpa using hn
  simp [callFunc, hf, hn', hb]
 ·have hsz : vals.toArray.size = args.length := by simpa using hv.1
  have hrel : RelC C (max fn.ntmps args.length) ⟨argE 0 args, sto, 2⟩ μ0 Z { tmps := vals.toArray ++ Array.replicate (fn.ntmps - vals.toArray.size) undef, defers := [] } w := by
   refine ⟨by simp [hsz] <;> omega, fun i => ?_, rfl, hw0, hg, fun k g hkg => hno k g (by have : 2 ≤ g := hkg; omega)⟩
   show RP _ _ _ _ (get (argE 0 args) i)
   rw [Ams]
   simp only [Nat.zero_le, if_true, Nat.sub_zero]
   cases hp : args[i]? with
   | none => exact .any _
   | some p =>
    have hlt : i < vals.length := by
     rw [hv.1]
     rcases Nat.lt_or_ge i args.length with h | h
     ·exact h
     ·rw [List.getElem?_eq_none h] at hp; cases hp
    have hx : vals[i]? = some vals[i] := List.getElem?_eq_getElem hlt
    have : (vals.toArray ++ Array.replicate (fn.ntmps - vals.toArray.size) undef).getD i undef = vals[i] := by
     rw [Array.getD_eq_getD_getElem?, Array.getElem?_append_left (by simpa using hlt)]
     simp [hlt]
    rw [this]
    exact hv.2 i _ p hx hp
  refine (callsIn_of_wp_marks (F := Fq none) (n := 0) hf hb trivial (wpIn_mono (h μ0 Z _ w hrel) fun e a' w' hE => ?_)).calls fun _ => ?_
  ·obtain ⟨he, b, s, μ, Z', hbs, hk, hr, ha, hbl, hz, ho⟩ := hE
   have hlt : b < w'.heap.size := (Array.getElem?_eq_some_iff.1 hbl).1
   obtain ⟨w2, hw2⟩ : ∃ w2, w'.putObj b (.deferred none) = w2 := ⟨_, rfl⟩
   have bb : AdvB (fun x => x = b) Z' w' Z' w2 := by rw [← hw2]; exact .put hbl (fun _ _ _ h => by cases h) hz
   have hr2 := hr.other (fun x h h' => by cases (h : x = b); exact ho h') bb (fun x o h => Nat.lt_of_lt_of_le (hr.wr.zlt x o h) bb.size)
   have hr3 : RelC C (max fn.ntmps args.length) s μ Z' ⟨a'.tmps, []⟩ w2 [] := ⟨hr2.size, hr2.env, rfl, hr2.wr, hr2.gi, hr2.bd⟩
   have ha3 := ha.other bb (fun x h => by omega)
   obtain ⟨v, h1, h2⟩ := finM hC hno hr3 ha3 hk
   have hd : a'.defers = [markD b] := hr.df
   have key : LeavesInM (Fq none) 0 C.P fn a'.tmps (fun e w' => ∃ v μ' Z', e = .returned v ∧ RP μ' w' Z' v r ∧ WR μ' (den sto') Z' w' ∧ Adv μ0 (den sto) Z w μ' (den sto') Z' w') a'.defers .returning w' := by
    rw [hd]
    refine ⟨by simp, .inl ⟨b, w2, rfl, ?_, v, h1, h2⟩⟩
    rw [run_takeDeferred hbl, hw2]
   rcases he with rfl | rfl
   ·exact key
   ·exact key
  ·simp [Fence.room, Fq]
end Go.PL
namespace Go.PL
set_option linter.unusedSimpArgs false
set_option linter.unusedVariables false
set_option linter.unusedSectionVars false
open Tys (Ty U)
open Enc (sz enc dflt tb ofB toB)
open Dec (dec dok)
section
variable {P : Program} {ops : Array Oper} {Q : Exit → Act → World → Prop} {a : Act} {w : World} {rest : List Oper} {o : Oper}
theorem Aky (hg : o.guard = none) {v : Value} (hr : (execOp a.eval o).run P w = .ok (.value v) w) (h : wpListIn Fence.wide 0 P ops Q rest (a.put o.dst v) w) : wpListIn Fence.wide 0 P ops Q (o :: rest) a w :=
 wpListIn_plain hg fun K hK => ⟨fun _ _ => trivial, by
  show o.uponIn Fence.wide 0 P a K Q ((o.semAt none a.eval).run P w)
  rw [Oper.semAt_none, hr]
  exact hK _ _ h⟩
theorem An6 (hw : Region.wanted o (yielded ops a.tmps) = true) {v : Value} (hr : (execOp a.eval o).run P w = .ok (.value v) w) (h : wpListIn Fence.wide 0 P ops Q rest (a.put o.dst v) w) : wpListIn Fence.wide 0 P ops Q (o :: rest) a w :=
 wpListIn_step fun K hK => by
  rw [if_pos hw]
  exact ⟨fun _ _ => trivial, by
   show o.uponIn Fence.wide 0 P a K Q ((o.semAt none a.eval).run P w)
   rw [Oper.semAt_none, hr]
   exact hK _ _ h⟩
theorem Al9 (hw : Region.wanted o (yielded ops a.tmps) = false) (h : wpListIn Fence.wide 0 P ops Q rest (a.put o.dst undef) w) : wpListIn Fence.wide 0 P ops Q (o :: rest) a w :=
 wpListIn_step fun K hK => by
  rw [if_neg (by rw [hw]; simp)]
  exact ⟨fun _ _ => trivial, hK _ _ h⟩
theorem A0h (hw : Region.wanted o (yielded ops a.tmps) = true) {l : Nat} {args : Array Value} {R : Ending → World → Prop} (hr : ∀ f tmps assign body, (Instr.yield l args).run P w = .ok (.round l f tmps assign body) w → (execOp a.eval o).run P w = .ok (.round l f tmps assign body) w)
  (hy : YieldAt Fence.wide 0 P l args w R) (h : ∀ e w2, R e w2 → ∃ v, e = .returned v ∧ wpListIn Fence.wide 0 P ops Q rest (a.put o.dst v) w2) : wpListIn Fence.wide 0 P ops Q (o :: rest) a w :=
 wpListIn_step fun K hK => by
  rw [if_pos hw]
  refine ⟨fun _ _ => trivial, ?_⟩
  obtain ⟨f, tmps, assign, body, h1, h2⟩ := hy
  show o.uponIn Fence.wide 0 P a K Q ((o.semAt none a.eval).run P w)
  rw [Oper.semAt_none, hr _ _ _ _ h1, Oper.uponIn_round]
  refine ⟨fun h => (by cases h), RoundIn.mono h2 fun e w2 hR => ?_⟩
  obtain ⟨v, rfl, h3⟩ := h e w2 hR
  exact hK _ _ h3
end
theorem Ad8 {a : Act} {d : Tmp} {v : Value} : (a.put (some d) v).tmps.size = a.tmps.size := by simp [Act.put]
theorem Ah8 {a : Act} {d : Tmp} {v : Value} (h : 106 < a.tmps.size) (hd : d ≤ 106) : (a.put (some d) v).tmps.getD d undef = v := by
 have : d < a.tmps.size := Nat.lt_of_le_of_lt hd h
 simp [Act.put, this]
theorem put_other (d : Nat) {a : Act} {j : Nat} {v : Value} (h : d ≠ j) : (a.put (some d) v).tmps.getD j undef = a.tmps.getD j undef := by
 simp [Act.put, Array.getD_eq_getD_getElem?, Array.getElem?_setIfInBounds, h]
theorem A18 {a : Act} {d : Tmp} {v : Value} : (a.put (some d) v).defers = a.defers := rfl
def yops (ts tb tf : TypeId) (p : String) : List Oper :=
 [{ dst := some 98, op := .move (.tmp 5), type := ts, pos := p, after := #[], guard := none },
  { dst := some 99, op := .binOp .neq ts (.tmp 98) (.const (.string { data := #[] })) ts, type := tb, pos := p, after := #[{ on := 0, ground := .data }], guard := none },
  { dst := some 100, op := .move (.tmp 99), type := tb, pos := p, after := #[{ on := 1, ground := .data }], guard := none },
  { dst := some 101, op := .move (.tmp 0), type := tf, pos := p, after := #[{ on := 2, ground := .guard }], guard := some (2, true) },
  { dst := some 102, op := .move (.tmp 5), type := ts, pos := p, after := #[{ on := 2, ground := .guard }], guard := some (2, true) },
  { dst := some 103, op := .move (.tmp 6), type := ts, pos := p, after := #[{ on := 2, ground := .guard }], guard := some (2, true) },
  { dst := some 104, op := .call { callee := .value (.tmp 101), args := #[.tmp 102, .tmp 103], argTypes := #[ts, ts] }, type := tb, pos := p, after := #[{ on := 3, ground := .data }, { on := 4, ground := .data }, { on := 5, ground := .data }, { on := 2, ground := .chain }, { on := 2, ground := .guard }], guard := some (2, true) },
  { dst := some 105, op := .unOp .not tb (.tmp 104), type := tb, pos := p, after := #[{ on := 6, ground := .data }, { on := 2, ground := .guard }], guard := some (2, true) },
  { dst := some 106, op := .pick (.tmp 100) (.tmp 105) (.const (.bool false)), type := tb, pos := p, after := #[{ on := 2, ground := .data }, { on := 7, ground := .data }], guard := none }]
theorem Avn {P : Program} {l id : Nat} {ts tb tf : TypeId} {p : String} (hs : P.underlying ts = some .string) (hb : P.underlying tb = some .bool) {a : Act} {w : World} {sign name : ByteArray} (h0 : a.tmps.getD 0 undef = .func (.yield l) #[] #[]) (h5 : a.tmps.getD 5 undef = .string sign) (h6 : a.tmps.getD 6 undef = .string name) (hsz : 106 < a.tmps.size)
  {Q : Exit → Act → World → Prop} {R : Bool → World → Prop} (hy : sign.toList ≠ [] → YieldAt Fence.wide 0 P l #[.string sign, .string name] w fun e w2 => ∃ b, e = .returned (.bool b) ∧ R b w2)
  (hQ : ∀ a' w2 b, a'.tmps.size = a.tmps.size → (∀ j, (j < 98 ∨ 106 < j) → a'.tmps.getD j undef = a.tmps.getD j undef) → a'.tmps.getD 106 undef = .bool b → a'.defers = a.defers → ((sign.toList = [] ∧ b = false ∧ w2 = w) ∨ (sign.toList ≠ [] ∧ R (!b) w2)) → Q .normal a' w2) :
  (Code.region id (yops ts tb tf p).toArray false).wpIn Fence.wide 0 P Q a w := by
 refine wpIn_region_lit ?_
 have ev : ∀ (a : Act) (t : Tmp), a.eval (.tmp t) = a.tmps.getD t undef := fun _ _ => rfl
 unfold yops
 refine Aky rfl (v := .string sign) (by show Result.ok (Next.value (a.eval (.tmp 5))) w = _; rw [ev, h5]) ?_
 have z1 : 106 < (a.put (some 98) (.string sign)).tmps.size := by rw [Ad8]; exact hsz
 show wpListIn Fence.wide 0 P _ Q _ (a.put (some 98) (.string sign)) w
 have e1 : (a.put (some 98) (.string sign)).tmps.getD 98 undef = .string sign := Ah8 hsz (by decide)
 refine Aky rfl (v := .bool (!(sign.toList == []))) (by
  simp only [execOp, ev, e1]
  simp [eqGuard, binOp, Op.stringOp, Act.eval, go_sem]) ?_
 have z2 : 106 < ((a.put (some 98) (.string sign)).put (some 99) (.bool (!(sign.toList == [])))).tmps.size := by rw [Ad8]; exact z1
 refine Aky rfl (v := .bool (!(sign.toList == []))) (by
  show Result.ok (Next.value (Act.eval _ (.tmp 99))) w = _
  rw [ev]; exact congrArg (fun v => Result.ok (Next.value v) w) (Ah8 z1 (by decide))) ?_
 show wpListIn Fence.wide 0 P _ Q _ (((a.put (some 98) (.string sign)).put (some 99) (.bool (!(sign.toList == [])))).put (some 100) (.bool (!(sign.toList == [])))) w
 have low : ∀ j, j < 98 → (((a.put (some 98) (.string sign)).put (some 99) (.bool (!(sign.toList == [])))).put (some 100) (.bool (!(sign.toList == [])))).tmps.getD j undef = a.tmps.getD j undef := fun j hj => by
  rw [put_other 100 (by omega), put_other 99 (by omega), put_other 98 (by omega)]
 have hgh : ∀ j, 106 < j → (((a.put (some 98) (.string sign)).put (some 99) (.bool (!(sign.toList == [])))).put (some 100) (.bool (!(sign.toList == [])))).tmps.getD j undef = a.tmps.getD j undef := fun j hj => by
  rw [put_other 100 (by omega), put_other 99 (by omega), put_other 98 (by omega)]
 have c0 : (((a.put (some 98) (.string sign)).put (some 99) (.bool (!(sign.toList == [])))).put (some 100) (.bool (!(sign.toList == [])))).tmps.getD 100 undef = .bool (!(sign.toList == [])) := Ah8 z2 (by decide)
 have z3 : (((a.put (some 98) (.string sign)).put (some 99) (.bool (!(sign.toList == [])))).put (some 100) (.bool (!(sign.toList == [])))).tmps.size = a.tmps.size := by rw [Ad8, Ad8, Ad8]
 have d3 : (((a.put (some 98) (.string sign)).put (some 99) (.bool (!(sign.toList == [])))).put (some 100) (.bool (!(sign.toList == [])))).defers = a.defers := rfl
 generalize (((a.put (some 98) (.string sign)).put (some 99) (.bool (!(sign.toList == [])))).put (some 100) (.bool (!(sign.toList == [])))) = b at low hgh c0 z3 d3 ⊢
 clear e1 z1 z2
 have hb1 : 106 < b.tmps.size := by rw [z3]; exact hsz
 have want : ∀ (x : Act) (o : Oper), o.guard = some (2, true) → x.tmps.getD 100 undef = .bool (!(sign.toList == [])) → Region.wanted o (yielded (yops ts tb tf p).toArray x.tmps) = !(sign.toList == []) := fun x o ho hx => by
  have : yielded (yops ts tb tf p).toArray x.tmps 2 = some (!(sign.toList == [])) := by
   have h100 : x.tmps[100]? = some (.bool (!(sign.toList == []))) := by
    rw [Array.getD_eq_getD_getElem?] at hx
    cases h : x.tmps[100]? with
    | none => rw [h] at hx; cases hx
    | some v => rw [h] at hx; exact congrArg some hx
   simp only [yielded, yops, List.getElem?_toArray, List.getElem?_cons_succ, List.getElem?_cons_zero, Option.bind_some, h100]
  simp [Region.wanted, ho, this]
 by_cases hne : sign.toList = []
 ·have hf : (!(sign.toList == [])) = false := by rw [hne]; rfl
  rw [hf] at c0
  have want := fun x o ho hx => (want x o ho (by rw [hf]; exact hx)).trans hf
  have st : ∀ (x : Act) (d : Nat), 100 < d → x.tmps.getD 100 undef = .bool false → (x.put (some d) undef).tmps.getD 100 undef = .bool false := fun x d hd hx => by rw [put_other d (by omega)]; exact hx
  have c1 := st b 101 (by decide) c0
  have c2 := st _ 102 (by decide) c1
  have c3 := st _ 103 (by decide) c2
  have c4 := st _ 104 (by decide) c3
  have c5 := st _ 105 (by decide) c4
  refine Al9 (want b _ rfl c0) ?_
  refine Al9 (want _ _ rfl c1) ?_
  refine Al9 (want _ _ rfl c2) ?_
  refine Al9 (want _ _ rfl c3) ?_
  refine Al9 (want _ _ rfl c4) ?_
  have z4 : ∀ (x : Act) (d : Tmp) v, 106 < x.tmps.size → 106 < (x.put (some d) v).tmps.size := fun x d v h => by rw [Ad8]; exact h
  refine Aky rfl (v := .bool false) (by
   simp only [execOp, ev, c5]
   simp [go_sem]) (wpListIn_nil (hQ _ w false ?_ ?_ ?_ ?_ (.inl ⟨hne, rfl, rfl⟩)))
  ·rw [Ad8, Ad8, Ad8, Ad8, Ad8, Ad8]; exact z3
  ·intro j hj
   rw [put_other 106 (by omega), put_other 105 (by omega), put_other 104 (by omega), put_other 103 (by omega), put_other 102 (by omega), put_other 101 (by omega)]
   rcases hj with hj | hj
   ·exact low j hj
   ·exact hgh j hj
  ·exact Ah8 (z4 _ _ _ (z4 _ _ _ (z4 _ _ _ (z4 _ _ _ (z4 _ _ _ hb1))))) (by decide)
  ·simp only [A18]; exact d3
 ·have hf : (!(sign.toList == [])) = true := by simpa using hne
  rw [hf] at c0
  have want := fun x o ho hx => (want x o ho (by rw [hf]; exact hx)).trans hf
  have st : ∀ (x : Act) (d : Nat) v, 100 < d → x.tmps.getD 100 undef = .bool true → (x.put (some d) v).tmps.getD 100 undef = .bool true := fun x d v hd hx => by rw [put_other d (by omega)]; exact hx
  have z4 : ∀ (x : Act) (d : Tmp) v, 106 < x.tmps.size → 106 < (x.put (some d) v).tmps.size := fun x d v h => by rw [Ad8]; exact h
  have c1 := st b 101 (.func (.yield l) #[] #[]) (by decide) c0
  have c2 := st _ 102 (.string sign) (by decide) c1
  have c3 := st _ 103 (.string name) (by decide) c2
  have y1 := z4 b 101 (.func (.yield l) #[] #[]) hb1
  have y2 := z4 _ 102 (.string sign) y1
  have y3 := z4 _ 103 (.string name) y2
  refine An6 (want b _ rfl c0) (v := .func (.yield l) #[] #[]) (by
   show Result.ok (Next.value (b.eval (.tmp 0))) w = _
   rw [ev, low 0 (by decide), h0]) ?_
  refine An6 (want _ _ rfl c1) (v := .string sign) (by
   show Result.ok (Next.value (Act.eval _ (.tmp 5))) w = _
   rw [ev, put_other 101 (by decide), low 5 (by decide), h5]) ?_
  refine An6 (want _ _ rfl c2) (v := .string name) (by
   show Result.ok (Next.value (Act.eval _ (.tmp 6))) w = _
   rw [ev, put_other 102 (by decide), put_other 101 (by decide), low 6 (by decide), h6]) ?_
  have v1 : (((b.put (some 101) (.func (.yield l) #[] #[])).put (some 102) (.string sign)).put (some 103) (.string name)).tmps.getD 101 undef = .func (.yield l) #[] #[] := by rw [put_other 103 (by decide), put_other 102 (by decide)]; exact Ah8 hb1 (by decide)
  have v2 : (((b.put (some 101) (.func (.yield l) #[] #[])).put (some 102) (.string sign)).put (some 103) (.string name)).tmps.getD 102 undef = .string sign := by rw [put_other 103 (by decide)]; exact Ah8 y1 (by decide)
  have v3 : (((b.put (some 101) (.func (.yield l) #[] #[])).put (some 102) (.string sign)).put (some 103) (.string name)).tmps.getD 103 undef = .string name := Ah8 y2 (by decide)
  refine A0h (want _ _ rfl c3) (l := l) (args := #[.string sign, .string name]) (fun f tmps assign body h => by
   revert v1 v2 v3
   show _ → _ → _ → (execOp (Act.eval (((b.put (some 101) (.func (.yield l) #[] #[])).put (some 102) (.string sign)).put (some 103) (.string name))) _).run P w = _
   generalize (((b.put (some 101) (.func (.yield l) #[] #[])).put (some 102) (.string sign)).put (some 103) (.string name)) = x
   intro v1 v2 v3
   simp only [Array.getD_eq_getD_getElem?] at v1 v2 v3
   simp [execOp, go_sem, ev, v1, v2, v3, h]) (hy hne) fun e w2 ⟨r, he, hR⟩ => ⟨.bool r, he, ?_⟩
  have c4 := st _ 104 (.bool r) (by decide) c3
  have y4 := z4 _ 104 (.bool r) y3
  have v4 : ((((b.put (some 101) (.func (.yield l) #[] #[])).put (some 102) (.string sign)).put (some 103) (.string name)).put (some 104) (.bool r)).tmps.getD 104 undef = .bool r := Ah8 y3 (by decide)
  refine An6 (want _ _ rfl c4) (v := .bool (!r)) (by
   simp only [execOp, ev, v4]
   simp [go_sem, hb]) ?_
  have c5 := st _ 105 (.bool (!r)) (by decide) c4
  have y5 := z4 _ 105 (.bool (!r)) y4
  have v5 : (((((b.put (some 101) (.func (.yield l) #[] #[])).put (some 102) (.string sign)).put (some 103) (.string name)).put (some 104) (.bool r)).put (some 105) (.bool (!r))).tmps.getD 105 undef = .bool (!r) := Ah8 y4 (by decide)
  refine Aky rfl (v := .bool (!r)) (by
   simp only [execOp, ev, c5, v5]
   simp [go_sem]) (wpListIn_nil (hQ _ w2 (!r) ?_ ?_ ?_ ?_ (.inr ⟨hne, by simpa using hR⟩)))
  ·rw [Ad8, Ad8, Ad8, Ad8, Ad8, Ad8]; exact z3
  ·intro j hj
   rw [put_other 106 (by omega), put_other 105 (by omega), put_other 104 (by omega), put_other 103 (by omega), put_other 102 (by omega), put_other 101 (by omega)]
   rcases hj with hj | hj
   ·exact low j hj
   ·exact hgh j hj
  ·exact Ah8 y5 (by decide)
  ·simp only [A18]; exact d3
end Go.PL
namespace Go.PL
set_option linter.unusedSimpArgs false
set_option linter.unusedVariables false
set_option linter.unusedSectionVars false
open Tys (Ty U)
open Enc (sz enc dflt tb ofB toB)
open Dec (dec dok)
variable [Tys] [Enc] [Dec]
structure Step2 (α : Type) where
 sign : ByteArray
 name : ByteArray
 a : List α
 b : List α
def envAB (te : Ty) (cap : PV) (a b : List (U te)) : List (Nat × PV) := [(1, cap), (3, .d (.sl te a)), (4, .d (.sl te b))]
theorem RelC.env_to {C : Ctx} {n : Nat} {s : St} {μ : Nmap} {Z : Nat → Nat → Prop} {a : Act} {w : World} {dl : List Deferred} (h : RelC C n s μ Z a w dl) {te : Ty} {cap : PV} {x y : List (U te)} (h1 : get s.env 1 = cap) (h3 : get s.env 3 = .d (.sl te x)) (h4 : get s.env 4 = .d (.sl te y)) (hs : s.sto = []) :
  RelC C n ⟨envAB te cap x y, [], s.gen⟩ μ Z a w dl := by
 refine ⟨h.size, fun i => ?_, h.df, by have := h.wr; rw [hs] at this; exact this, h.gi, h.bd⟩
 have := h.env i
 show RP μ w Z _ (get (envAB te cap x y) i)
 by_cases e1 : i = 1
 ·subst e1; rw [h1] at this; exact this
 ·by_cases e3 : i = 3
  ·subst e3; rw [h3] at this; exact this
  ·by_cases e4 : i = 4
   ·subst e4; rw [h4] at this; exact this
   ·have : get (envAB te cap x y) i = .any := by
     simp [envAB, get, Ne.symm e1, Ne.symm e3, Ne.symm e4]
    rw [this]; exact .any _
theorem Axs {C : Ctx} {A : Ar} (hA : A = std) (hC : C.OK) {gf n : Nat} {fn : Func} {te : Ty} {cap : PV} {R0 LA R2 B2 : Code} {ts tb tf : TypeId} {p : String}
  (hf : C.P.funcs[gf]? = some fn) (hb : fn.body = some (.seq R0 (.block 0 (.loop (.seq LA (.block 1 (.seq R2 (.seq B2 (.seq (.region 11 (yops ts tb tf p).toArray false) (.cond (.tmp 106) .ret .skip)))))))))) (hn : fn.ntmps = n) (h107 : 106 < n) (hres : fn.results = #[]) (hcap : bare cap = true)
  (hs : C.P.underlying ts = some .string) (hbt : C.P.underlying tb = some .bool) (hw : 0 ∉ wr R0 ∧ 0 ∉ wr LA ∧ 0 ∉ wr R2 ∧ 0 ∉ wr B2)
  (step : List (U te) → List (U te) → Step2 (U te)) (pairs : List (U te) → List (U te) → List (ByteArray × ByteArray)) (hp0 : pairs [] [] = [])
  (hps : ∀ a b, ¬ (a = [] ∧ b = []) → pairs a b = (if (step a b).sign.toList = [] then [] else [((step a b).sign, (step a b).name)]) ++ pairs (step a b).a (step a b).b)
  (hlt : ∀ a b, ¬ (a = [] ∧ b = []) → (step a b).a.length + (step a b).b.length < a.length + b.length) (ok : List (U te) → List (U te) → Prop) (hok : ∀ a b, ¬ (a = [] ∧ b = []) → ok a b → ok (step a b).a (step a b).b)
  (a0 b0 : List (U te)) (ok0 : ok a0 b0)
  (h0 : code C A n R0 (fun ex s => ex = .normal ∧ get s.env 1 = cap ∧ get s.env 3 = .d (.sl te a0) ∧ get s.env 4 = .d (.sl te b0) ∧ s.sto = []) ⟨argE 0 [.any, cap], [], 0⟩)
  (hLA : ∀ a b g, ok a b → code C A n LA (fun ex s => ((a = [] ∧ b = [] ∧ ex = .exit 0) ∨ (¬ (a = [] ∧ b = []) ∧ ex = .normal)) ∧ get s.env 1 = cap ∧ get s.env 3 = .d (.sl te a) ∧ get s.env 4 = .d (.sl te b) ∧ s.sto = []) ⟨envAB te cap a b, [], g⟩)
  (hB : ∀ a b g, ok a b → ¬ (a = [] ∧ b = []) → code C A n (.seq R2 B2) (fun ex s => ex = .normal ∧ get s.env 1 = cap ∧ get s.env 3 = .d (.sl te (step a b).a) ∧ get s.env 4 = .d (.sl te (step a b).b) ∧ get s.env 5 = st (step a b).sign ∧ get s.env 6 = st (step a b).name ∧ s.sto = []) ⟨envAB te cap a b, [], g⟩) :
  SeqK C gf [cap] ((pairs a0 b0).map fun x => [st x.1, st x.2]) := by
 refine ⟨fun l w Z cv J Jx O hcv hgi hz hJs hJxs hY hO hJ0 => ?_⟩
 obtain ⟨v, rfl⟩ : ∃ v, cv = [v] := by
  have := hcv.1
  match cv, this with
  | [v], _ => exact ⟨v, rfl⟩
 refine callsIn_of_wp (F := Fence.wide) hf hb trivial ?_
 obtain ⟨a1, ha1⟩ : ∃ a1 : Act, a1 = { tmps := (#[.func (.yield l) #[] #[]] ++ [v].toArray) ++ Array.replicate (fn.ntmps - (#[.func (.yield l) #[] #[]] ++ [v].toArray : Array Value).size) undef, defers := [] } := ⟨_, rfl⟩
 have hsz0 : (#[.func (.yield l) #[] #[]] ++ [v].toArray : Array Value).size = 2 := rfl
 have g0 : a1.tmps.getD 0 undef = .func (.yield l) #[] #[] := by
  rw [ha1, Array.getD_eq_getD_getElem?, Array.getElem?_append_left (by rw [hsz0]; decide)]; rfl
 have g1 : a1.tmps.getD 1 undef = v := by
  rw [ha1, Array.getD_eq_getD_getElem?, Array.getElem?_append_left (by rw [hsz0]; decide)]; rfl
 have hrel : RelC C n ⟨argE 0 [.any, cap], [], 0⟩ Aa7 Z a1 w := by
  refine ⟨by rw [ha1]; simp [hn]; omega, fun i => ?_, by rw [ha1], ⟨fun k g c h => by simp [den] at h, fun k g k' g' c c' b h => by simp [den] at h, hz⟩, hgi, fun _ _ _ => rfl⟩
  show RP _ _ _ _ (get (argE 0 [.any, cap]) i)
  rw [Ams]
  simp only [Nat.zero_le, if_true, Nat.sub_zero]
  match i with
  | 0 => exact .any _
  | 1 => rw [g1]; exact hcv.2 0 v cap rfl rfl
  | i + 2 => exact .any _
 rw [← ha1]
 -- before the loop
 refine wpIn_seq (wpIn_mono (Ai0 (ro := none) hA hC R0 _ _ h0 Aa7 Z a1 w hrel) fun e a2 w2 hE => ?_)
 obtain ⟨ex, s2, μ2, Z2, rfl, ⟨rfl, q1, q3, q4, q5⟩, hr2, ha2, hk2⟩ := hE
 have hzl : ∀ {μ Z w μ' Z' w'}, Adv μ (den []) Z w μ' (den []) Z' w' → AdvB (fun _ => False) Z w Z' w' := fun h => h.b.mono fun b ⟨k, g, c, h1, _⟩ => by simp [den] at h1
 rw [q5] at ha2
 have b2 := hzl ha2
 have y2 : a2.tmps.getD 0 undef = .func (.yield l) #[] #[] := by rw [hk2 0 hw.1]; exact g0
 let I : Nat → Act → World → Prop := fun k act w1 => ∃ a b g μ Z1 O1, a.length + b.length = k ∧ ok a b ∧ RelC C n ⟨envAB te cap a b, [], g⟩ μ Z1 act w1 ∧ act.tmps.getD 0 undef = .func (.yield l) #[] #[] ∧ J ((pairs a b).map fun x => [st x.1, st x.2]) O1 Z1 w1 ∧ (∀ b, O1 b → b < w1.heap.size)
 refine wpIn_block (wpIn_loop_ghost I (a0.length + b0.length) ⟨a0, b0, s2.gen, μ2, Z2, O, rfl, ok0, hr2.env_to q1 q3 q4 q5, y2, hJs _ _ _ _ _ _ _ hJ0 (fun _ h => h.elim) b2 hr2.wr.zlt, fun b h => Nat.lt_of_lt_of_le (hO b h) b2.size⟩ ?_)
 rintro k act w3 ⟨a, b, g, μ3, Z3, O3, rfl, hokab, hr3, y3, hJ3, hO3⟩
 refine wpIn_seq (wpIn_mono (Ai0 (ro := none) hA hC LA _ _ (hLA a b g hokab) μ3 Z3 act w3 hr3) fun e a4 w4 hE => ?_)
 obtain ⟨ex, s4, μ4, Z4, rfl, ⟨hex, q1, q3, q4, q5⟩, hr4, ha4, hk4⟩ := hE
 rw [q5] at ha4
 have b4 := hzl ha4
 have y4 : a4.tmps.getD 0 undef = .func (.yield l) #[] #[] := by rw [hk4 0 hw.2.1]; exact y3
 have hJ4 := hJs _ _ _ _ _ _ _ hJ3 (fun _ h => h.elim) b4 hr4.wr.zlt
 have hO4 : ∀ b, O3 b → b < w4.heap.size := fun b h => Nat.lt_of_lt_of_le (hO3 b h) b4.size
 have fin : ∀ (act : Act) (w : World) (R : Ending → World → Prop), act.defers = [] → R (.returned (.tuple #[])) w → act.defers = [] ∧ ∃ v, (results fn act.tmps).run C.P w = .ok v w ∧ R (.returned v) w := fun act w R h1 h2 => ⟨h1, .tuple #[], by
  unfold results
  rw [hres]
  simp [go_sem], h2⟩
 rcases hex with ⟨rfl, rfl, rfl⟩ | ⟨hne, rfl⟩
 ·-- nothing is left
  show bodyPost C.P fn (fun e w2 => (∃ v, e = Ending.returned v) ∧ ∃ O2 Z2, ZLt Z2 w2 ∧ (J [] O2 Z2 w2 ∨ Jx O2 Z2 w2)) .normal a4 w4
  rw [hp0] at hJ4
  exact fin _ _ (fun e w2 => (∃ v, e = Ending.returned v) ∧ ∃ O2 Z2, ZLt Z2 w2 ∧ (J [] O2 Z2 w2 ∨ Jx O2 Z2 w2)) hr4.df ⟨⟨_, rfl⟩, O3, Z4, hr4.wr.zlt, .inl hJ4⟩
 ·show (Code.block 1 _).wpIn _ _ _ _ a4 w4
  have hB' : code C A n R2 (thenE (fun s1 => code C A n B2 (fun ex s => ex = .normal ∧ get s.env 1 = cap ∧ get s.env 3 = .d (.sl te (step a b).a) ∧ get s.env 4 = .d (.sl te (step a b).b) ∧ get s.env 5 = st (step a b).sign ∧ get s.env 6 = st (step a b).name ∧ s.sto = []) (frzS C s1)) (fun ex s => ex = .normal ∧ get s.env 1 = cap ∧ get s.env 3 = .d (.sl te (step a b).a) ∧ get s.env 4 = .d (.sl te (step a b).b) ∧ get s.env 5 = st (step a b).sign ∧ get s.env 6 = st (step a b).name ∧ s.sto = [])) ⟨envAB te cap a b, [], s4.gen⟩ := hB a b s4.gen hokab hne
  refine wpIn_block (wpIn_seq (wpIn_mono (Ai0 (ro := none) hA hC R2 _ _ hB' μ4 Z4 a4 w4 (hr4.env_to q1 q3 q4 q5)) fun e a5 w5 hE => ?_))
  obtain ⟨ex, s5, μ5, Z5, rfl, hq, hr5, ha5, hk5⟩ := hE
  cases ex with
  | exit id => exact absurd hq.1 (by simp)
  | ret => exact absurd hq.1 (by simp)
  | normal =>
  obtain ⟨Zf, hrf, haf⟩ := hr5.frz
  refine wpIn_seq (wpIn_mono (Ai0 (ro := none) hA hC B2 _ _ hq μ5 Zf a5 w5 hrf) fun e a6 w6 hE => ?_)
  obtain ⟨ex, s6, μ6, Z6, rfl, ⟨rfl, r1, r3, r4, r5, r6, rs⟩, hr6, ha6, hk6⟩ := hE
  have ha56 := (ha5.trans haf).trans ha6
  rw [rs] at ha56
  have b6 := hzl ha56
  have y6 : a6.tmps.getD 0 undef = .func (.yield l) #[] #[] := by rw [hk6 0 hw.2.2.2, hk5 0 hw.2.2.1]; exact y4
  have hJ6 := hJs _ _ _ _ _ _ _ hJ4 (fun _ h => h.elim) b6 hr6.wr.zlt
  have hO6 : ∀ b, O3 b → b < w6.heap.size := fun b h => Nat.lt_of_lt_of_le (hO4 b h) b6.size
  rw [hps a b hne] at hJ6
  have str : ∀ {x : Value} {s : ByteArray}, RP μ6 w6 Z6 x (st s) → x = .string s := fun h => by
   cases h with
   | d _ _ h => cases h; rfl
  have v5 : a6.tmps.getD 5 undef = .string (step a b).sign := str (by have := hr6.env 5; rwa [r5] at this)
  have v6 : a6.tmps.getD 6 undef = .string (step a b).name := str (by have := hr6.env 6; rwa [r6] at this)
  have hsz6 : 106 < a6.tmps.size := by rw [hr6.size]; exact h107
  refine wpIn_seq (Avn (l := l) hs hbt y6 v5 v6 hsz6 (R := fun r w7 => ∃ O7 Z7, AdvB O3 Z6 w6 Z7 w7 ∧ ZLt Z7 w7 ∧ (∀ b, O7 b → O3 b ∨ w6.heap.size ≤ b) ∧ (∀ b, O7 b → b < w7.heap.size) ∧ ((r = true ∧ J ((pairs (step a b).a (step a b).b).map fun x => [st x.1, st x.2]) O7 Z7 w7) ∨ (r = false ∧ Jx O7 Z7 w7))) (fun hne => ?_) fun a7 w7 r hz7 hl7 h106 hd7 hcase => ?_)
  ·rw [if_neg hne] at hJ6
   have := hY [st (step a b).sign, st (step a b).name] _ O3 Z6 w6 [.string (step a b).sign, .string (step a b).name] hJ6 ⟨rfl, fun i x p h1 h2 => by
    match i, h1, h2 with
    | 0, h1, h2 => cases h1; cases h2; exact RP.ofVal ..
    | 1, h1, h2 => cases h1; cases h2; exact RP.ofVal ..⟩
   obtain ⟨f', tm, asn, bo, e1, e2⟩ := this
   refine ⟨f', tm, asn, bo, e1, RoundIn.mono e2 fun e w7 hE => ?_⟩
   obtain ⟨O7, Z7, c1, c2, c3, c4, c5⟩ := hE
   rcases c5 with ⟨rfl, c5⟩ | ⟨rfl, c5⟩
   ·exact ⟨true, rfl, O7, Z7, c1, c2, c3, c4, .inl ⟨rfl, c5⟩⟩
   ·exact ⟨false, rfl, O7, Z7, c1, c2, c3, c4, .inr ⟨rfl, c5⟩⟩
  ·show (Code.cond _ _ _).wpIn _ _ _ _ a7 w7
   have ev : a7.eval (.tmp 106) = .bool r := h106
   have hrel7 : ∀ {Z7 w7}, RelC C n s6 μ6 Z7 a6 w7 → RelC C n ⟨envAB te cap (step a b).a (step a b).b, [], s6.gen⟩ μ6 Z7 a7 w7 := fun h => by
    have h1 := h.env_to r1 r3 r4 rs
    refine ⟨by rw [hz7]; exact h1.size, fun i => ?_, by rw [hd7]; exact h1.df, h1.wr, h1.gi, h1.bd⟩
    by_cases hi : i < 98 ∨ 106 < i
    ·rw [hl7 i hi]; exact h1.env i
    ·have : get (envAB te cap (step a b).a (step a b).b) i = .any := by
      have e1 : ¬ 1 = i := by omega
      have e3 : ¬ 3 = i := by omega
      have e4 : ¬ 4 = i := by omega
      simp [envAB, get, e1, e3, e4]
     show RP _ _ _ _ (get (envAB te cap (step a b).a (step a b).b) i)
     rw [this]; exact .any _
   have y7 : a7.tmps.getD 0 undef = .func (.yield l) #[] #[] := by rw [hl7 0 (.inl (by omega))]; exact y6
   rcases hcase with ⟨he, rfl, rfl⟩ | ⟨he, O7, Z7, c1, c2, c3, c4, c5⟩
   ·rw [if_pos he] at hJ6
    exact wpIn_cond_false ev (wpIn_skip ⟨_, hlt a b hne, _, _, s6.gen, μ6, Z6, O3, rfl, hok a b hne hokab, hrel7 hr6, y7, hJ6, hO6⟩)
   ·have hr7 : RelC C n s6 μ6 Z7 a6 w7 := hr6.other (fun b _ h' => by obtain ⟨k, g, c, h1, _⟩ := h'; rw [rs] at h1; simp [den] at h1) c1 c2
    rcases c5 with ⟨hr, c5⟩ | ⟨hr, c5⟩
    ·have : r = false := by simpa using hr
     subst this
     exact wpIn_cond_false ev (wpIn_skip ⟨_, hlt a b hne, _, _, s6.gen, μ6, Z7, O7, rfl, hok a b hne hokab, hrel7 hr7, y7, c5, c4⟩)
    ·have : r = true := by simpa using hr
     subst this
     refine wpIn_cond_true ev (wpIn_ret ?_)
     show bodyPost C.P fn (fun e w2 => (∃ v, e = Ending.returned v) ∧ ∃ O2 Z2, ZLt Z2 w2 ∧ (J [] O2 Z2 w2 ∨ Jx O2 Z2 w2)) .ret a7 w7
     exact fin _ _ (fun e w2 => (∃ v, e = Ending.returned v) ∧ ∃ O2 Z2, ZLt Z2 w2 ∧ (J [] O2 Z2 w2 ∨ Jx O2 Z2 w2)) (hrel7 hr7).df ⟨⟨_, rfl⟩, O7, Z7, c2, .inr c5⟩
end Go.PL
namespace Go.PL
set_option linter.unusedSimpArgs false
set_option linter.unusedVariables false
set_option linter.unusedSectionVars false
open Tys (Ty U)
open Enc (sz enc dflt tb ofB toB)
open Dec (dec dok)
variable [Tys] [Enc] [Dec]
def step2 {α : Type} (nm : α → ByteArray) (lk : α → α → Bool) : List α → List α → Step2 α
 | [], [] => ⟨⟨#[]⟩, ⟨#[]⟩, [], []⟩
 | x :: a, [] => ⟨⟨#[45]⟩, nm x, a, []⟩
 | [], y :: b => ⟨⟨#[43]⟩, nm y, [], b⟩
 | x :: a, y :: b => bif std.scmp .lss (nm x) (nm y) then ⟨⟨#[45]⟩, nm x, a, y :: b⟩ else bif std.scmp .lss (nm y) (nm x) then ⟨⟨#[43]⟩, nm y, x :: a, b⟩ else ⟨bif lk x y then ⟨#[]⟩ else ⟨#[126]⟩, nm x, a, b⟩
theorem An7 {α : Type} (nm : α → ByteArray) (lk : α → α → Bool) : ∀ a b : List α, ¬ (a = [] ∧ b = []) → (step2 nm lk a b).a.length + (step2 nm lk a b).b.length < a.length + b.length
 | [], [], h => absurd ⟨rfl, rfl⟩ h
 | x :: a, [], _ => by simp [step2]
 | [], y :: b, _ => by simp [step2]
 | x :: a, y :: b, _ => by
  simp only [step2]
  cases std.scmp .lss (nm x) (nm y) <;> cases std.scmp .lss (nm y) (nm x) <;> simp <;> omega
theorem Aq4 {α : Type} (nm : α → ByteArray) (lk : α → α → Bool) (a0 b0 : List α) : ∀ a b : List α, ((∀ x ∈ a, x ∈ a0) ∧ ∀ y ∈ b, y ∈ b0) → ((∀ x ∈ (step2 nm lk a b).a, x ∈ a0) ∧ ∀ y ∈ (step2 nm lk a b).b, y ∈ b0)
 | [], [], h => h
 | x :: a, [], h => ⟨fun z hz => h.1 z (List.mem_cons_of_mem _ hz), h.2⟩
 | [], y :: b, h => ⟨h.1, fun z hz => h.2 z (List.mem_cons_of_mem _ hz)⟩
 | x :: a, y :: b, h => by
  have h1 : ∀ z ∈ a, z ∈ a0 := fun z hz => h.1 z (List.mem_cons_of_mem _ hz)
  have h2 : ∀ z ∈ b, z ∈ b0 := fun z hz => h.2 z (List.mem_cons_of_mem _ hz)
  simp only [step2]
  cases std.scmp .lss (nm x) (nm y) <;> cases std.scmp .lss (nm y) (nm x)
  ·exact ⟨h1, h2⟩
  ·exact ⟨h.1, h2⟩
  ·exact ⟨h1, h.2⟩
  ·exact ⟨h1, h.2⟩
def Ama {α : Type} (nm : α → ByteArray) (lk : α → α → Bool) : Nat → List α → List α → List (ByteArray × ByteArray)
 | 0, _, _ => []
 | n + 1, a, b => if a.length + b.length = 0 then [] else (if (step2 nm lk a b).sign.toList = [] then [] else [((step2 nm lk a b).sign, (step2 nm lk a b).name)]) ++ Ama nm lk n (step2 nm lk a b).a (step2 nm lk a b).b
def pairs2 {α : Type} (nm : α → ByteArray) (lk : α → α → Bool) (a b : List α) : List (ByteArray × ByteArray) := Ama nm lk (a.length + b.length) a b
theorem Aq5 {α : Type} (nm : α → ByteArray) (lk : α → α → Bool) : ∀ (n m : Nat) (a b : List α), a.length + b.length ≤ n → a.length + b.length ≤ m → Ama nm lk n a b = Ama nm lk m a b
 | 0, 0, _, _, _, _ => rfl
 | 0, m + 1, a, b, h, _ => by rw [Ama, Ama, if_pos (by omega)]
 | n + 1, 0, a, b, _, h => by rw [Ama, Ama, if_pos (by omega)]
 | n + 1, m + 1, a, b, h1, h2 => by
  rw [Ama, Ama]
  by_cases h : a.length + b.length = 0
  ·rw [if_pos h, if_pos h]
  ·rw [if_neg h, if_neg h]
   have := An7 nm lk a b (fun ⟨e1, e2⟩ => h (by rw [e1, e2]; rfl))
   rw [Aq5 nm lk n m _ _ (by omega) (by omega)]
theorem pairs2_nil {α : Type} (nm : α → ByteArray) (lk : α → α → Bool) : pairs2 nm lk [] [] = [] := rfl
theorem Ae5 {α : Type} (nm : α → ByteArray) (lk : α → α → Bool) (a b : List α) (h : ¬ (a = [] ∧ b = [])) : pairs2 nm lk a b = (if (step2 nm lk a b).sign.toList = [] then [] else [((step2 nm lk a b).sign, (step2 nm lk a b).name)]) ++ pairs2 nm lk (step2 nm lk a b).a (step2 nm lk a b).b := by
 have hlt := An7 nm lk a b h
 unfold pairs2
 obtain ⟨k, hk⟩ : ∃ k, a.length + b.length = k + 1 := ⟨a.length + b.length - 1, by omega⟩
 rw [hk, Ama, if_neg (by omega), Aq5 nm lk k _ _ _ (by omega) (Nat.le_refl _)]
section
variable {A : Ar} (hA : A = std)
include hA
theorem As2 {t : Ty} (x : U t) (a : List (U t)) : A.2 .gtr (A.10 t (x :: a)) 0 = true := by subst hA; exact decide_eq_true (by show (0 : Int) < ((x :: a).length : Int); simp)
theorem As3 {t : Ty} : A.2 .gtr (A.10 t ([] : List (U t))) 0 = false := by subst hA; rfl
theorem As4 {t : Ty} (x : U t) (a : List (U t)) : A.2 .eql (A.10 t (x :: a)) 0 = false := by subst hA; show (((x :: a).length : Int) == 0) = false; simp; omega
theorem Ao0 {t : Ty} : A.2 .eql (A.10 t ([] : List (U t))) 0 = true := by subst hA; rfl
theorem z_inb {t : Ty} (x : U t) (a : List (U t)) : A.13 0 (A.10 t (x :: a)) := by subst hA; exact ⟨by decide, by show (0 : Int) < ((x :: a).length : Int); simp⟩
theorem z_get {t : Ty} (x : U t) (a : List (U t)) : A.12 t (x :: a) 0 = x := by subst hA; rfl
theorem z_sub {t : Ty} (x : U t) (a : List (U t)) : A.16 t (x :: a) 1 (A.10 t (x :: a)) = a := by subst hA; show (((x :: a).take (((x :: a).length : Int)).toNat).drop 1) = a; simp
theorem Ao1 {t : Ty} (x : U t) (a : List (U t)) : A.17 1 (A.10 t (x :: a)) (A.10 t (x :: a)) := by subst hA; refine ⟨by decide, ?_, Int.le_refl _⟩; show (1 : Int) ≤ ((x :: a).length : Int); simp; omega
theorem z_nt : A.6 true = false := by subst hA; rfl
theorem z_nf : A.6 false = true := by subst hA; rfl
theorem z_at {b : Bool} : A.7 true b = b := by subst hA; rfl
theorem z_af {b : Bool} : A.7 false b = false := by subst hA; rfl
theorem z_ot {b : Bool} : A.8 true b = true := by subst hA; rfl
theorem z_of {b : Bool} : A.8 false b = b := by subst hA; rfl
end
end Go.PL
namespace Go.PL
set_option linter.unusedSimpArgs false
set_option linter.unusedVariables false
set_option linter.unusedSectionVars false
open Tys (Ty U)
open Enc (sz enc dflt tb ofB toB)
open Dec (dec dok)
variable [Tys] [Enc] [Dec]
theorem RelC.weak {C : Ctx} {n : Nat} {s : St} {μ : Nmap} {Z : Nat → Nat → Prop} {a : Act} {w : World} {dl : List Deferred} (h : RelC C n s μ Z a w dl) {E : List (Nat × PV)} {sto : List En} {g : Nat} (hE : ∀ p ∈ E, get s.env p.1 = p.2) (hs : s.sto = sto) (hg : s.gen = g) : RelC C n ⟨E, sto, g⟩ μ Z a w dl := by
 subst hs; subst hg
 refine ⟨h.size, fun i => ?_, h.df, h.wr, h.gi, h.bd⟩
 show RP μ w Z _ (get E i)
 have key : ∀ E : List (Nat × PV), (∀ p ∈ E, get s.env p.1 = p.2) → get E i = .any ∨ get E i = get s.env i := by
  intro E
  induction E with
  | nil => intro _; exact .inl rfl
  | cons p E ih =>
   intro hE
   simp only [get]
   by_cases e : p.1 = i
   ·rw [if_pos e]; exact .inr (by rw [← e]; exact (hE p (List.mem_cons_self ..)).symm)
   ·rw [if_neg e]; exact ih fun q hq => hE q (List.mem_cons_of_mem _ hq)
 rcases key E hE with h1 | h1
 ·rw [h1]; exact .any _
 ·rw [h1]; exact h.env i
def lineT (A : Ar) (kind : ByteArray) (p : ByteArray × ByteArray) : ByteArray := A.cat (A.cat (A.cat (A.cat p.1 ⟨#[32]⟩) kind) ⟨#[32]⟩) p.2
def Avo (A : Ar) (kind : ByteArray) (p : ByteArray × ByteArray) : Prop := A.catOk p.1 ⟨#[32]⟩ ∧ A.catOk (A.cat p.1 ⟨#[32]⟩) kind ∧ A.catOk (A.cat (A.cat p.1 ⟨#[32]⟩) kind) ⟨#[32]⟩ ∧ A.catOk (A.cat (A.cat (A.cat p.1 ⟨#[32]⟩) kind) ⟨#[32]⟩) p.2
theorem At5 {C : Ctx} {A : Ar} (hA : A = std) (hC : C.OK) {f n : Nat} {fn : Func} {args : List PV} {sto : List En} {r : PV} {sto' : List En} {R0 R1 ASG BD R5 : Code} {ps : Array Tmp}
  (hf : C.P.funcs[f]? = some fn) (hb : fn.body = some (.seq R0 (.seq (.seq R1 (.block 0 (.rangeFunc (.tmp 10) ps ASG BD))) (.seq R5 .ret)))) (hnm : (fn.name == "runtime.NumGoroutine") = false) (hn : max fn.ntmps args.length = n) (hps : ps = #[11, 12]) (h24 : 24 ≤ n)
  {gf : Nat} {cap : PV} {xs : List (ByteArray × ByteArray)} (hseq : SeqK C gf [cap] (xs.map fun x => [st x.1, st x.2])) (hcb : bare.bares [cap] = true) (hgn : ∀ fn, C.P.funcs[gf]? = some fn → (fn.name == "runtime.NumGoroutine") = false ∧ fn.body.isSome = true) (hgf : ∃ fn, C.P.funcs[gf]? = some fn)
  {E0 E1 : List (Nat × PV)} {S0 : List En} (hE1 : get E1 10 = .fn (.func gf) [] [cap])
  (h0 : code C A n R0 (fun ex s => ex = .normal ∧ (∀ p ∈ E0, get s.env p.1 = p.2) ∧ s.sto = S0 ∧ s.gen = 3) ⟨argE 0 args, sto, 2⟩)
  (h1 : code C A n R1 (fun ex s => ex = .normal ∧ (∀ p ∈ E1, get s.env p.1 = p.2) ∧ s.sto = S0 ∧ s.gen = 4) ⟨E0, S0, 3⟩)
  (line : ByteArray × ByteArray → ByteArray) (out0 : List ByteArray) (stos : List ByteArray → Nat → List En) (al0 : List (Nat × Nat × Nat)) (hh : Head ⟨E1, S0, 4⟩ (fun _ => []) (stos out0) al0)
  (hround : ∀ p acc gh g (K : St → Prop) (Q : Ex → St → Prop), p ∈ xs → acc.length < out0.length + xs.length → (∀ s' al, Head s' (fun _ => []) (stos (acc ++ [line p])) al → K s') →
   code C A n ASG (thenE (fun s1 => code C A n BD (thenE K Q) s1) fun _ _ => False) ⟨envZ [11, 12] [st p.1, st p.2] (restE [] E1), stos acc gh, g⟩)
  (h5 : ∀ gh g, code C A n (.seq R5 .ret) (fun ex s => (ex = .normal ∨ ex = .ret) ∧ resK C s fn.results.toList fun ps => match ps with | [p] => ∃ ρ, EndM r sto' ρ p s.sto | ps => ∃ ρ, EndM r sto' ρ (.tu ps) s.sto) ⟨restE [] E1, stos (out0 ++ xs.map line) gh, g⟩) : PFunM C f args sto r sto' := by
 subst hps
 refine PFunM.marks hC hf hb hnm fun μ0 Z0 a0 w0 hr => ?_
 rw [hn] at hr ⊢
 refine wpIn_seq (wpIn_mono (Ai0 (ro := none) hA hC R0 _ _ h0 μ0 Z0 a0 w0 hr) fun e a1 w1 hE => ?_)
 obtain ⟨ex, s1, μ1, Z1, rfl, ⟨rfl, q1, q2, q3⟩, hr1, ha1, _⟩ := hE
 have hr1' := hr1.weak q1 q2 q3
 rw [q2] at ha1
 refine wpIn_seq (wpIn_seq (wpIn_mono (Ai0 (ro := none) hA hC R1 _ _ h1 μ1 Z1 a1 w1 hr1') fun e a2 w2 hE => ?_))
 obtain ⟨ex, s2, μ2, Z2, rfl, ⟨rfl, q4, q5, q6⟩, hr2, ha2, _⟩ := hE
 have hr2' := hr2.weak q4 q5 q6
 rw [q5] at ha2
 have ha12 := ha1.trans ha2
 refine wpIn_block (wpIn_mono (A3v hA hC (s := ⟨E1, S0, 4⟩) (g := .tmp 10) (gf := gf) (cap := [cap]) hE1 ⟨10, rfl⟩ hcb hseq (fun t ht => ?_) hgn hgf (X := List ByteArray)
  (fun rest acc => ∃ ys, rest = ys.map (fun x => [st x.1, st x.2]) ∧ (∀ y ∈ ys, y ∈ xs) ∧ acc ++ ys.map line = out0 ++ xs.map line) ?_ stos out0 al0 hh ⟨xs, rfl, fun _ h => h, rfl⟩
  (Q := fun ex s => ex = .normal ∧ ∃ gh g, s = ⟨restE [] E1, stos (out0 ++ xs.map line) gh, g⟩) ?_ ?_ hr2') fun e a3 w3 hE => ?_)
 ·have : t = 11 ∨ t = 12 := by simpa using ht
  rcases this with rfl | rfl
  ·exact Nat.lt_of_lt_of_le (by decide) h24
  ·exact Nat.lt_of_lt_of_le (by decide) h24
 ·rintro p rest acc ⟨ys, he, _, _⟩
  cases ys with
  | nil => cases he
  | cons y ys => cases he; exact ⟨rfl, rfl⟩
 ·rintro acc gh g ⟨ys, he, _, hacc⟩
  cases ys with
  | nil => rw [List.map_nil, List.append_nil] at hacc; subst hacc; exact ⟨rfl, gh, g, rfl⟩
  | cons y ys => cases he
 ·rintro p rest acc gh g K ⟨ys, he, hys, hacc⟩ hK
  cases ys with
  | nil => cases he
  | cons y ys =>
   cases he
   refine hround y acc gh g K _ (hys y (List.mem_cons_self ..)) ?_ fun s' al hh' => hK s' (acc ++ [line y]) al ⟨ys, rfl, fun z hz => hys z (List.mem_cons_of_mem _ hz), by rw [← hacc]; simp⟩ hh'
   have := congrArg List.length hacc
   simp only [List.length_append, List.length_map, List.length_cons] at this
   omega
 ·obtain ⟨ex, s3, μ3, Z3, rfl, ⟨rfl, gh, g, rfl⟩, hr3, ha3, hd3, hz3, ho3⟩ := hE
  show (Code.seq R5 .ret).wpIn (Fq none) 0 C.P _ a3 w3
  have ha123 := ha12.trans ha3
  have hlt : w2.heap.size < w3.heap.size := (Array.getElem?_eq_some_iff.1 hd3).1
  refine wpIn_mono (Ai0 (dl := [markD w2.heap.size]) (ro := none) hA hC (.seq R5 .ret) _ _ (h5 gh g) μ3 Z3 a3 w3 hr3) fun e a4 w4 hE => ?_
  obtain ⟨ex, s4, μ4, Z4, rfl, ⟨hex, hres⟩, hr4, ha4, _⟩ := hE
  refine ⟨?_, w2.heap.size, s4, μ4, Z4, ha12.size, hres, hr4, ha123.trans ha4, ?_, fun o h => ?_, fun ⟨k, g, c, h1, h2⟩ => ?_⟩
  ·rcases hex with rfl | rfl
   ·exact .inl rfl
   ·exact .inr rfl
  ·rw [ha4.b.frame _ hlt ho3]; exact hd3
  ·rcases ha4.znew _ _ h with h | h | ⟨k, g, c, h1, h2⟩
   ·exact hz3 o h
   ·omega
   ·exact ho3 ⟨k, g, c, h1, h2⟩
  ·rcases ha4.own k g c _ h1 h2 with h | ⟨k0, g0, c0, h3, h4⟩
   ·omega
   ·exact ho3 ⟨k0, g0, c0, h3, h4⟩
theorem PFunM.fz {P : Program} {ti : TypeId → Option TR} {ety : TypeId → Option Ty} {gt : Nat → Option (List D)} {ls eq : TypeId → Bool} {a b : Nat → Bool} {f : Nat} {args : List PV} {sto : List En} {r : PV} {sto' : List En} (h : PFunM ⟨P, ti, ety, gt, ls, eq, a⟩ f args sto r sto') : PFunM ⟨P, ti, ety, gt, ls, eq, b⟩ f args sto r sto' := ⟨h.run⟩
end Go.PL
namespace Go.PL
set_option linter.unusedSimpArgs false
set_option linter.unusedVariables false
set_option linter.unusedSectionVars false
open Tys (Ty U)
open Enc (sz enc dflt tb ofB toB)
open Dec (dec dok)
open Classical in
noncomputable def ck {α : Type} (p : Prop) (t : Option α) : Option α := if p then t else none
theorem ck_e {α : Type} {p : Prop} {t : Option α} {v : α} (h : ck p t = some v) : p ∧ t = some v := by
 unfold ck at h
 split at h
 ·exact ⟨by assumption, h⟩
 ·cases h
theorem ck_t {α : Type} {p : Prop} {t : Option α} (h : p) : ck p t = t := if_pos h
def br {α : Type} (b : Bool) (t f : Option α) : Option α := match b with
 | true => t
 | false => f
theorem br_e {α : Type} {b : Bool} {t f : Option α} {v : α} (h : br b t f = some v) : (b = true ∧ t = some v) ∨ (b = false ∧ f = some v) := by
 cases b <;> simp_all [br]
open Classical in
noncomputable def both {α : Type} (c : Bool) (t f : Option α) : Option α := if c = true → t = f then f else none
theorem Azq {α : Type} {c : Bool} {t f : Option α} {v : α} (h : both c t f = some v) : (c = true → t = some v) ∧ f = some v := by
 unfold both at h
 split at h
 ·rename_i h1; exact ⟨fun hc => (h1 hc).trans h, h⟩
 ·cases h
theorem Azr {α : Type} {c : Bool} {t f : Option α} (h : c = true → t = f) : both c t f = f := if_pos h
def bd {α β : Type} (t : Option α) (k : α → Option β) : Option β := match t with
 | some a => k a
 | none => none
theorem bd_e {α β : Type} {t : Option α} {k : α → Option β} {v : β} (h : bd t k = some v) : ∃ a, t = some a ∧ k a = some v := by
 cases t with
 | none => cases h
 | some a => exact ⟨a, rfl, h⟩
@[simp] theorem bd_some {α β : Type} {a : α} {k : α → Option β} : bd (some a) k = k a := rfl
def gd {α : Type} (d : α) (c : Bool) (t : Option α) : Option α := match c with
 | true => t
 | false => some d
theorem gd_e {α : Type} {d : α} {c : Bool} {t : Option α} {v : α} (h : gd d c t = some v) (hc : c = true) : t = some v := by subst hc; exact h
@[simp] theorem gd_t {α : Type} {d : α} {t : Option α} : gd d true t = t := rfl
@[simp] theorem gd_f {α : Type} {d : α} {t : Option α} : gd d false t = some d := rfl
def LoopN {σ ε : Type} (B : σ → Option (σ ⊕ ε)) : Nat → σ → Option ε
 | 0, _ => none
 | n + 1, s => match B s with
  | none => none
  | some (.inl s') => LoopN B n s'
  | some (.inr e) => some e
theorem A19 {σ ε : Type} {B : σ → Option (σ ⊕ ε)} {n : Nat} {s : σ} {e : ε} (h : LoopN B (n + 1) s = some e) : ∃ v, B s = some v ∧ (match v with | .inl s' => LoopN B n s' = some e | .inr e' => e' = e) := by
 unfold LoopN at h
 split at h
 ·cases h
 ·rename_i s' hs; exact ⟨_, hs, h⟩
 ·rename_i e' hs; cases h; exact ⟨_, hs, rfl⟩
theorem LoopN_z {σ ε : Type} {B : σ → Option (σ ⊕ ε)} {s : σ} {e : ε} (h : LoopN B 0 s = some e) : False := by cases h
theorem Ao2 {σ ε : Type} {B : σ → Option (σ ⊕ ε)} {e : ε} : ∀ {n : Nat} {s : σ}, LoopN B n s = some e → ∀ {m : Nat}, n ≤ m → LoopN B m s = some e
 | 0, s, h, m, _ => by cases h
 | n + 1, s, h, 0, hm => by omega
 | n + 1, s, h, m + 1, hm => by
  unfold LoopN at h ⊢
  split at h
  ·cases h
  ·exact Ao2 h (by omega)
  ·exact h
open Classical in
noncomputable def Loop {σ ε : Type} (B : σ → Option (σ ⊕ ε)) (s : σ) : Option ε :=
 if h : ∃ e n, LoopN B n s = some e then some h.choose else none
theorem A2a {σ ε : Type} {B : σ → Option (σ ⊕ ε)} {s : σ} {e : ε} (h : Loop B s = some e) : ∃ n, LoopN B n s = some e := by
 unfold Loop at h
 split at h
 ·rename_i h0
  cases h
  exact h0.choose_spec
 ·cases h
theorem Loop_i {σ ε : Type} {B : σ → Option (σ ⊕ ε)} {s : σ} {e : ε} {n : Nat} (h : LoopN B n s = some e) : Loop B s = some e := by
 have h0 : ∃ e n, LoopN B n s = some e := ⟨e, n, h⟩
 unfold Loop
 rw [dif_pos h0]
 obtain ⟨m, hm⟩ := h0.choose_spec
 have h1 := Ao2 h (Nat.le_max_left n m)
 have h2 := Ao2 hm (Nat.le_max_right n m)
 rw [h1] at h2
 exact h2.symm
theorem Ado {σ ε : Type} {B : σ → Option (σ ⊕ ε)} {s : σ} : Loop B s = match B s with
  | none => none
  | some (.inl s') => Loop B s'
  | some (.inr e) => some e := by
 have key : ∀ e, Loop B s = some e ↔ (match B s with | none => none | some (.inl s') => Loop B s' | some (.inr e) => some e) = some e := by
  intro e
  constructor
  ·intro h
   obtain ⟨n, hn⟩ := A2a h
   cases n with
   | zero => cases hn
   | succ n =>
    obtain ⟨v, hv, h2⟩ := A19 hn
    rw [hv]
    cases v with
    | inl s' => exact Loop_i h2
    | inr e' => exact congrArg some h2
  ·intro h
   split at h
   ·cases h
   ·rename_i s' hs
    obtain ⟨n, hn⟩ := A2a h
    exact Loop_i (n := n + 1) (by unfold LoopN; rw [hs]; exact hn)
   ·rename_i e' hs
    exact Loop_i (n := 1) (by unfold LoopN; rw [hs]; exact h)
 cases h1 : Loop B s with
 | some e => exact ((key e).1 h1).symm
 | none =>
  cases h2 : (match B s with | none => none | some (.inl s') => Loop B s' | some (.inr e) => some e : Option ε) with
  | none => rfl
  | some e => rw [(key e).2 h2] at h1; cases h1
def rt {σ ε : Type} (t : Option ε) : Option (σ ⊕ ε) := match t with
 | some e => some (.inr e)
 | none => none
theorem rt_e {σ ε : Type} {t : Option ε} {v : σ ⊕ ε} (h : rt t = some v) : ∃ e, t = some e ∧ v = .inr e := by
 cases t with
 | none => cases h
 | some e => exact ⟨e, rfl, (Option.some.inj h).symm⟩
@[simp] theorem A5w {σ ε : Type} {e : ε} : (rt (some e) : Option (σ ⊕ ε)) = some (.inr e) := rfl
theorem selT {b : Bool} {p q : Prop} (hb : b = true) (h : p) : (match (generalizing := false) b with | true => p | false => q) := by subst hb; exact h
theorem selF {b : Bool} {p q : Prop} (hb : b = false) (h : q) : (match (generalizing := false) b with | true => p | false => q) := by subst hb; exact h
variable [Tys] [Enc] [Dec]
def capOK (cap : List D) : Prop := cap = [] ∨ ∃ ds, cap = [.ptr ds]
theorem PFunM.walkM {A : Ar} (hA : A = std) {P0 : Program} {ti : TypeId → Option TR} {ety : TypeId → Option Ty} {gt : Nat → Option (List D)} {ls eq : TypeId → Bool} {fz a : Nat → Bool} (hC : (Ctx.mk P0 ti ety gt ls eq a).OK) {f : Nat} {fn : Func} {c : Code} {args : List PV} {sto : List En} {r : PV} {sto' : List En}
  (hf : P0.funcs[f]? = some fn) (hb : fn.body = some c) (hn : (fn.name == "runtime.NumGoroutine") = false)
  (h : ∀ (P : Program) (R : PV → List En → Prop), P = P0 → (∀ p s, (∃ ρ, EndM r sto' ρ p s) → R p s) → code ⟨P, ti, ety, gt, ls, eq, fz⟩ A (max fn.ntmps args.length) c (resM ⟨P, ti, ety, gt, ls, eq, fz⟩ fn.results.toList R) ⟨argE 0 args, sto, 2⟩) : PFunM ⟨P0, ti, ety, gt, ls, eq, a⟩ f args sto r sto' :=
 have hC' : (Ctx.mk P0 ti ety gt ls eq fz).OK := ⟨hC.ti, hC.ety, hC.mixed, hC.eqt, hC.lies⟩
 have := PFunM.walk hC' hf hb hn fun A' P R hA' hP hR => by
  obtain rfl : A' = A := hA'.trans hA.symm
  exact h P R hP hR
 ⟨this.run⟩
theorem PFunM.to {P P0 : Program} (hP : P = P0) {ti : TypeId → Option TR} {ety : TypeId → Option Ty} {gt : Nat → Option (List D)} {ls eq : TypeId → Bool} {a b : Nat → Bool} {f : Nat} {args : List PV} {sto : List En} {r : PV} {sto' : List En} (h : PFunM ⟨P0, ti, ety, gt, ls, eq, a⟩ f args sto r sto') : PFunM ⟨P, ti, ety, gt, ls, eq, b⟩ f args sto r sto' := by
 subst hP; exact ⟨h.run⟩
def lookI {V : Type} (A : Ar) (key : Int) : List (Int × V) → V → V × Bool
 | [], d => (d, false)
 | (k, v) :: l, d => match A.cmp .eql key k with
  | true => (v, true)
  | false => lookI A key l d
theorem Ap4 {V : Type} (A : Ar) (key : Int) (pv : V → PV) (d : V) : ∀ (l : List (Int × V)), lookC A (.int .i64 key) (l.map fun e => (.int .i64 e.1, pv e.2)) (pv d) fun q b => LeQ q (pv (lookI A key l d).1) ∧ b = (lookI A key l d).2
 | [] => ⟨fun _ _ _ _ h => h, rfl⟩
 | (k, v) :: l => by
  simp only [List.map_cons, lookC, keyEq, lookI]
  cases A.cmp .eql key k with
  | true => exact ⟨fun _ _ _ _ h => h, rfl⟩
  | false => exact Ap4 A key pv d l
theorem LeMs.refl : ∀ (l : List (Value × PV)), LeMs l l
 | [] => True.intro
 | (x, p) :: l => ⟨rfl, LeP.refl p, LeMs.refl l⟩
theorem LeMap.of {l m : List (Value × PV)} (h : l = m) : LeMap l m := ⟨h ▸ LeMs.refl l⟩
theorem mesB_snoc {A : Ar} (hA : A = std) (k : ByteArray) (v : Bool) (l : List (ByteArray × Bool)) : A.snoc (A.mesB l) (.string k) (bl v) = A.mesB (l ++ [(k, v)]) := by subst hA; simp [std]; rfl
theorem app_match {α : Type} (l x : List α) : l ++ x = (match l, x with | [], bs => bs | a :: as, bs => a :: as.append bs) := by cases l <;> rfl
theorem mesB_nil {A : Ar} (hA : A = std) : A.mesB [] = [] := by subst hA; rfl
theorem Ae6 {A : Ar} (hA : A = std) (l : List (ByteArray × Bool)) : KeysOK .string (A.mesB l) := by
 subst hA
 refine ⟨?_⟩
 show An4 .string (l.map _) = true
 induction l with
 | nil => rfl
 | cons e l ih => simp [An4, keyOK, ih]
def lookS {V : Type} (A : Ar) (key : ByteArray) : List (ByteArray × V) → V → V × Bool
 | [], d => (d, false)
 | (k, v) :: l, d => match A.scmp .eql key k with
  | true => (v, true)
  | false => lookS A key l d
theorem Azs {V : Type} (A : Ar) (key : ByteArray) (pv : V → PV) (d : V) : ∀ (l : List (ByteArray × V)), lookC A (.string key) (l.map fun e => (.string e.1, pv e.2)) (pv d) fun q b => LeQ q (pv (lookS A key l d).1) ∧ b = (lookS A key l d).2
 | [] => ⟨fun _ _ _ _ h => h, rfl⟩
 | (k, v) :: l => by
  simp only [List.map_cons, lookC, keyEq, lookS]
  cases A.scmp .eql key k with
  | true => exact ⟨fun _ _ _ _ h => h, rfl⟩
  | false => exact Azs A key pv d l
theorem At6 {A : Ar} (hA : A = std) (key : ByteArray) (d : Bool) (l : List (ByteArray × Bool)) : lookC A (.string key) (A.mesB l) (bl d) fun q b => LeQ q (bl (lookS A key l d).1) ∧ b = (lookS A key l d).2 := by
 subst hA; exact Azs std key (fun x => bl x) d l
theorem PFun.to {P P0 : Program} (hP : P = P0) {ti : TypeId → Option TR} {ety : TypeId → Option Ty} {gt : Nat → Option (List D)} {ls eq : TypeId → Bool} {a b : Nat → Bool} {f : Nat} {args : List PV} {r : PV} (h : PFun ⟨P0, ti, ety, gt, ls, eq, a⟩ f args r) : PFun ⟨P, ti, ety, gt, ls, eq, b⟩ f args r := by
 subst hP; exact h.fz
theorem LoopK.q {B : (Ex → St → Prop) → St → Prop} {ws : List Nat} {Q : Ex → St → Prop} {s : St} {X : Type} (news : X → Nat → List (Nat × PV)) (stos : X → Nat → List En) (meas : X → Nat) (x0 : X) (al0 : List (Nat × Nat × Nat)) (h0 : Head s (news x0) (stos x0) al0)
  (round : ∀ (x : X) (gh g : Nat) (K : St → Prop) (Q' : Ex → St → Prop), (∀ s' x' al, meas x' < meas x → Head s' (news x') (stos x') al → K s') → (∀ ex s', Q ex s' → Q' ex s') → B (thenE K Q') ⟨news x gh ++ restE ws s.env, stos x gh, g⟩) : LoopK B ws Q s :=
 .mk news stos meas x0 al0 h0 fun x gh g K hK => round x gh g K Q hK fun _ _ h => h
theorem Adv.foot {μ μ' : Nmap} {m m2 m' : Mem} {Z Z' : Nat → Nat → Prop} {w w' : World} (h : Adv μ m Z w μ' m' Z' w') (hm : ∀ k g, m k g = none ↔ m2 k g = none) : Adv μ m2 Z w μ' m' Z' w' where
 mu := h.mu
 z := h.z
 cell := h.cell
 shp := h.shp
 size := h.size
 frame b hb hn := h.frame b hb fun k g c hc => by
  cases h2 : m2 k g with
  | none => rw [(hm k g).2 h2] at hc; cases hc
  | some c2 => exact hn k g c2 h2
 znew b o hz := (h.znew b o hz).imp id fun h => h.imp id fun ⟨k, g, c, hc, hb⟩ => by
  cases h2 : m2 k g with
  | none => rw [(hm k g).2 h2] at hc; cases hc
  | some c2 => exact ⟨k, g, c2, h2, hb⟩
 own k g c b hc hb := (h.own k g c b hc hb).imp id fun ⟨k, g, c, hc, hb⟩ => by
  cases h2 : m2 k g with
  | none => rw [(hm k g).2 h2] at hc; cases hc
  | some c2 => exact ⟨k, g, c2, h2, hb⟩
 os := h.os
 out := h.out
theorem PFunM.np {C : Ctx} {f : Nat} {args : List PV} {T : TypeId} {vs : List PV} {sto : List En} {r : PV} {sto' : List En}
  (h1 : PFunM C f args (⟨1000, 0, .box T (.d (.v (.pointer none)) :: vs)⟩ :: sto) r sto') (h2 : PFunM C f args (⟨1000, 0, .box T (.bx 1000 0 0 :: vs)⟩ :: sto) r sto') : PFunM C f args (⟨1000, 0, .box T (.np 1000 0 :: vs)⟩ :: sto) r sto' := by
 refine ⟨fun μ w Z vals hv hw hg hμ => ?_⟩
 obtain ⟨b, cs, hb, hh, hr, hz⟩ := hw.ent 1000 0 (.box T (.np 1000 0 :: vs)) (by simp [den])
 have key : ∀ p : PV, (RPs μ w Z cs.toList (p :: vs)) → PFunM C f args (⟨1000, 0, .box T (p :: vs)⟩ :: sto) r sto' → Azc C.P f vals.toArray w fun e w' => ∃ v μ' Z', e = .returned v ∧ RP μ' w' Z' v r ∧ WR μ' (den sto') Z' w' ∧ Adv μ (den (⟨1000, 0, .box T (.np 1000 0 :: vs)⟩ :: sto)) Z w μ' (den sto') Z' w' := by
  intro p hp h
  have hm : ∀ k g, den (⟨1000, 0, .box T (p :: vs)⟩ :: sto) k g = none ↔ den (⟨1000, 0, .box T (.np 1000 0 :: vs)⟩ :: sto) k g = none := by
   intro k g
   simp only [den]
   split <;> simp
  have hold : ∀ k g c, den (⟨1000, 0, .box T (p :: vs)⟩ :: sto) k g = some c → ∃ c', den (⟨1000, 0, .box T (.np 1000 0 :: vs)⟩ :: sto) k g = some c' := by
   intro k g c hc
   cases h : den (⟨1000, 0, .box T (.np 1000 0 :: vs)⟩ :: sto) k g with
   | none => rw [(hm k g).2 h] at hc; cases hc
   | some c' => exact ⟨c', rfl⟩
  have hW : WR μ (den (⟨1000, 0, .box T (p :: vs)⟩ :: sto)) Z w := ⟨fun k g c hc => by
    simp only [den] at hc
    split at hc
    ·rename_i he
     obtain ⟨rfl, rfl⟩ := he
     cases hc
     exact ⟨b, cs, hb, hh, hp, hz⟩
    ·rename_i he
     exact hw.ent k g c (by simp only [den]; rw [if_neg he]; exact hc), fun k g k' g' c c' b1 h1 h2 h3 h4 => by
    obtain ⟨d, hd⟩ := hold k g c h1
    obtain ⟨d', hd'⟩ := hold k' g' c' h2
    exact hw.dis k g k' g' d d' b1 hd hd' h3 h4, hw.zlt⟩
  have hm' : ∀ e w', (∃ v μ' Z', e = Ending.returned v ∧ RP μ' w' Z' v r ∧ WR μ' (den sto') Z' w' ∧ Adv μ (den (⟨1000, 0, .box T (p :: vs)⟩ :: sto)) Z w μ' (den sto') Z' w') → ∃ v μ' Z', e = .returned v ∧ RP μ' w' Z' v r ∧ WR μ' (den sto') Z' w' ∧ Adv μ (den (⟨1000, 0, .box T (.np 1000 0 :: vs)⟩ :: sto)) Z w μ' (den sto') Z' w' := by
   intro e w' ⟨v, μ', Z', h3, h4, h5, h6⟩
   exact ⟨v, μ', Z', h3, h4, h5, h6.foot hm⟩
  rcases h.run μ w Z vals hv hW hg hμ with ⟨h3, h4⟩ | ⟨v, w', h3, h4⟩
  ·exact .inl ⟨h3, h4.mono hm'⟩
  ·exact .inr ⟨v, w', h3, hm' _ _ h4⟩
 obtain ⟨hl, hr'⟩ := hr
 match hcs : cs.toList, hl with
 | c0 :: cr, hl =>
  rw [hcs] at hr'
  have h0 := hr' 0 c0 (.np 1000 0) rfl rfl
  have rest : ∀ p, RP μ w Z c0 p → RPs μ w Z cs.toList (p :: vs) := by
   intro p hp
   rw [hcs]
   refine ⟨by simpa using hl, fun i x q hx hq => ?_⟩
   cases i with
   | zero => cases hx; cases hq; exact hp
   | succ i => exact hr' (i + 1) x q (by simpa using hx) (by simpa using hq)
  generalize hc0 : c0 = y at h0
  cases h0 with
  | npN => exact key _ (rest _ (by rw [hc0]; exact RP.ofVal ..)) h1
  | np _ _ b' hb' => exact key _ (rest _ (by rw [hc0]; exact .bx _ _ _ _ hb')) h2
abbrev Runs {σ ε : Type} (B : σ → Option (σ ⊕ ε)) (e : ε) : Type := {p : Nat × σ // LoopN B p.1 p.2 = some e}
end Go.PL
namespace Go.PL
set_option linter.unusedSimpArgs false
set_option linter.unusedVariables false
set_option linter.unusedSectionVars false
open Tys (Ty U)
open Enc (sz enc dflt tb ofB toB)
open Dec (dec dok)
theorem ez {p : Prop} (h : p := by cbv <;> (try (and_intros <;> (first | exact True.intro | rfl | (subst hA; rfl) | exact LeMap.of rfl | exact LeMap.of (mesB_nil hA) | exact LeMap.of (mesB_nil hA).symm)))) : p := h
theorem ey {p : Prop} (h : p := by cbv <;> (try (and_intros <;> (first | exact True.intro | rfl | exact LeMap.of rfl | exact LeMap.of (mesB_snoc hA ..) | exact LeMap.of ((mesB_snoc hA ..).trans (congrArg A.mesB (app_match ..))))))) : p := h
theorem cj {p q : Prop} (h : q) (h0 : p := by first | exact True.intro | rfl | (and_intros <;> first | exact True.intro | rfl) | (split <;> first | exact True.intro | rfl | assumption)) : p ∧ q := ⟨h0, h⟩
theorem kj {p q : Prop} (h : q) (h0 : p := by exact ⟨by kernel_rfl⟩) : p ∧ q := ⟨h0, h⟩
theorem rq {σ ε : Type} {t : Option ε} {v : σ ⊕ ε} {e : ε} (h : rt t = some v) (hv : ∀ e', v = .inr e' → e' = e) : t = some e := by
 obtain ⟨e', h1, h2⟩ := rt_e h
 rw [h1, hv e' h2]
theorem kk {α : Type} {p q : Prop} {t : Option α} {v : α} (h : ck p t = some v) (k : p → t = some v → q) : p ∧ q := have := ck_e h; ⟨this.1, k this.1 this.2⟩
theorem bc {α : Type} {b : Bool} {p q : Prop} {t f : Option α} {v : α} (h : br b t f = some v) (k : b = true → t = some v → p) (l : b = false → f = some v → q) : (match (generalizing := false) b with | true => p | false => q) := by
 cases b
 ·exact l rfl h
 ·exact k rfl h
variable [Tys] [Enc] [Dec]
theorem le {α : Type} {a r : α} {R : PV → Prop} {pv : α → PV} {p : PV} (h : some a = some r) (hR : R = fun q => LeP q (pv r)) (hle : LeP p (pv a) := by cbv <;> (try (and_intros <;> (first | exact True.intro | rfl | exact LeMap.of rfl)))) : R p := by
 cases h; subst hR; exact hle
theorem hdy {s : St} {n : Nat → List (Nat × PV)} {st : Nat → List En} {al : List (Nat × Nat × Nat)} (a : Head s n st al := by
 refine ⟨?_, ?_, ?_⟩
 ·cbv <;> (try (and_intros <;> (first | exact True.intro | rfl | exact LeMap.of rfl | exact LeMap.of (mesB_snoc hA ..) | exact LeMap.of ((mesB_snoc hA ..).trans (congrArg A.mesB (app_match ..))))))
 ·cbv <;> (try (and_intros <;> (first | exact True.intro | rfl | exact LeMap.of rfl | exact LeMap.of (mesB_snoc hA ..) | exact LeMap.of ((mesB_snoc hA ..).trans (congrArg A.mesB (app_match ..))))))
 ·cbv) : Head s n st al := a
section
variable {P P0 : Program} {ti : TypeId → Option TR} {ety : TypeId → Option Ty} {gt : Nat → Option (List D)} {ls eq : TypeId → Bool} {a b : Nat → Bool} {c ow : Bool} {s : St} {dst : Option Nat} {fl : List Nat × Bool} {f : Nat} {aW as : List PV} {k : PV → List En → Prop} {r : PV}
theorem kc (hP : P = P0) (h : PFun ⟨P0, ti, ety, gt, ls, eq, a⟩ f aW r) (hk : k r s.sto) (hb : bare.bares aW = true := by rfl) : CallK ⟨P, ti, ety, gt, ls, eq, b⟩ c ow s dst fl f aW as k := .mk r hb (fun _ => PFun.to hP h) hk
theorem kg (hP : P = P0) (h : c = true → PFun ⟨P0, ti, ety, gt, ls, eq, a⟩ f aW r) (hk : k r s.sto) (hb : bare.bares aW = true := by rfl) : CallK ⟨P, ti, ety, gt, ls, eq, b⟩ c ow s dst fl f aW as k := .mk r hb (fun hc => PFun.to hP (h hc)) hk
theorem ke (hP : P = P0) {aV : List PV} (h : PFun ⟨P0, ti, ety, gt, ls, eq, a⟩ f aV r) (hk : k r s.sto) (hle : c = true → LeP.LePs aW aV := by intro _; cbv <;> (try (and_intros <;> (first | exact True.intro | rfl | exact LeMap.of rfl)))) (hb : bare.bares aV = true := by rfl) : CallK ⟨P, ti, ety, gt, ls, eq, b⟩ c ow s dst fl f aW as k := .le aV r hb hle (fun _ => PFun.to hP h) hk
theorem kf (hP : P = P0) {aV : List PV} (h : c = true → PFun ⟨P0, ti, ety, gt, ls, eq, a⟩ f aV r) (hk : k r s.sto) (hle : c = true → LeP.LePs aW aV := by intro _; cbv <;> (try (and_intros <;> (first | exact True.intro | rfl | exact LeMap.of rfl)))) (hb : bare.bares aV = true := by rfl) : CallK ⟨P, ti, ety, gt, ls, eq, b⟩ c ow s dst fl f aW as k := .le aV r hb hle (fun hc => PFun.to hP (h hc)) hk
theorem km (hP : P = P0) {d : Nat} (l : List (Nat × Nat)) {pa : List PV} {sto sto' : List En} (h : PFunM ⟨P0, ti, ety, gt, ls, eq, a⟩ f pa sto r sto')
  (hk : k (ren (cout l d s.gen) r) (outE (cout l d s.gen) sto' ++ dels (l.map (·.1)) s.sto)) (ha : rok.roks (cin l) pa = true := by rfl)
  (hle : c = true → LeP.LePs as (ren.rens (cin l) pa) := by intro _; cbv <;> (try (and_intros <;> (first | exact True.intro | rfl | (subst hA; rfl) | exact LeMap.of rfl | exact LeMap.of (mesB_nil hA) | exact LeMap.of (mesB_nil hA).symm))))
  (hi : InOK s.sto (cin l) l sto 0 := by cbv <;> (try (and_intros <;> (first | exact True.intro | rfl | (subst hA; rfl) | exact LeMap.of rfl | exact LeMap.of (mesB_nil hA) | exact LeMap.of (mesB_nil hA).symm)))) (ho : outOK (cout l d s.gen) l.length sto' = true := by rfl) (hnd : (nodupB (l.map (·.1)) && Nat.ble l.length 64 && !fl.2 && (subs d ++ l.map (·.1)).all (fl.1.contains ·)) = true := by rfl) : CallK ⟨P, ti, ety, gt, ls, eq, b⟩ c true s (some d) fl f aW as k :=
 .mem d rfl rfl l pa sto r sto' (fun _ => PFunM.to hP h) ha hle hi ho hnd hk
end
theorem wF {A : Ar} (hA : A = std) {P0 : Program} {ti : TypeId → Option TR} {ety : TypeId → Option Ty} {gt : Nat → Option (List D)} {ls eq : TypeId → Bool} {a : Nat → Bool} (hC0 : (Ctx.mk P0 ti ety gt ls eq a).OK) {f : Nat} {fn : Func} {c : Code} {args : List PV} {r : PV}
  (hf : P0.funcs[f]? = some fn) (h : ∀ (P : Program) (R : PV → Prop), P = P0 → R = (fun p => LeP p r) → code ⟨P, ti, ety, gt, ls, eq, fun _ => false⟩ A (max fn.ntmps args.length) c (resF ⟨P, ti, ety, gt, ls, eq, fun _ => false⟩ A fn.results.toList R) ⟨argE 0 args, [], 0⟩)
  (hb : fn.body = some c := by rfl) (hn : (fn.name == "runtime.NumGoroutine") = false := by rfl) (hbare : bare r = true := by rfl) : PFun ⟨P0, ti, ety, gt, ls, eq, a⟩ f args r := PFun.walkF hA hC0 hf hb hn hbare h
theorem kl {B : (Ex → St → Prop) → St → Prop} {ws : List Nat} {Q : Ex → St → Prop} {s : St} {σ ε : Type} {B0 : σ → Option (σ ⊕ ε)} {x0 : σ} {e : ε} (h : Loop B0 x0 = some e) (news : σ → Nat → List (Nat × PV)) (stos : σ → Nat → List En) (al0 : List (Nat × Nat × Nat))
  (round : ∀ (x : σ) (gh g : Nat) (K : St → Prop) (Q' : Ex → St → Prop) (v : σ ⊕ ε), (∀ s' x' al, v = .inl x' → Head s' (news x') (stos x') al → K s') → (∀ (t : Option ε), rt t = some v → ∀ ex s', (t = some e → Q ex s') → Q' ex s') → B0 x = some v → B (thenE K Q') ⟨news x gh ++ restE ws s.env, stos x gh, g⟩)
  (h0 : Head s (news x0) (stos x0) al0 := by
 refine ⟨?_, ?_, ?_⟩
 ·cbv <;> (try (and_intros <;> (first | exact True.intro | rfl | (subst hA; rfl) | exact LeMap.of rfl | exact LeMap.of (mesB_nil hA) | exact LeMap.of (mesB_nil hA).symm)))
 ·cbv <;> (try (and_intros <;> (first | exact True.intro | rfl | (subst hA; rfl) | exact LeMap.of rfl | exact LeMap.of (mesB_nil hA) | exact LeMap.of (mesB_nil hA).symm)))
 ·cbv) : LoopK B ws Q s := by
 obtain ⟨n, hl⟩ := A2a h
 refine LoopK.q (X := Runs B0 e) (fun x gh => news x.1.2 gh) (fun x gh => stos x.1.2 gh) (fun x => x.1.1) ⟨(n, x0), hl⟩ al0 h0 ?_
 rintro ⟨⟨n, x⟩, hr⟩ gh g K Q' hK hQ
 obtain _ | n := n
 ·exact (LoopN_z hr).elim
 obtain ⟨v, h1, hv⟩ := A19 hr
 refine round x gh g K Q' v (fun s' x' al hx hd => ?_) (fun t ht ex s' hq => hQ _ _ (hq (rq ht fun e' he => ?_))) h1
 ·subst hx; exact hK s' ⟨(n, x'), hv⟩ al (Nat.lt_succ_self _) hd
 ·subst he; exact hv
end Go.PL
