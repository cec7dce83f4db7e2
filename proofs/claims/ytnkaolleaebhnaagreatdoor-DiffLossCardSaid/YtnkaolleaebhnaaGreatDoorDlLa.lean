/- Texts of this claim: plain laws of what the program's functions compute. No condition of their own. -/
import Derived.WalkKit
import Derived.Orders
import Derived.Lib.ConvBytes
import Derived.Deep.AppendSrc
namespace Go.PL
set_option linter.unusedSimpArgs false
set_option linter.unusedVariables false
set_option linter.unusedSectionVars false
class Tys where
 Ty : Type
 U : Ty → Type
open Tys (Ty U)
inductive D [Tys] : Type where
 | v (x : Value)
 | sl (t : Ty) (xs : List (U t))
 | ifc (t : TypeId) (d : D)
 | ag (ds : List D)
 | ptr (ds : List D)
 | fun (f : Fn) (first cap : List D)
 | ar (t : Ty) (xs : List (U t))
class Enc [Tys] where
 sz : Ty → Nat
 enc : (t : Ty) → U t → List D
 dflt : (t : Ty) → U t
 len : ∀ t x, (enc t x).length = sz t
 pos : ∀ t, 0 < sz t
 tb : Ty
 ofB : UInt8 → U tb
 toB : U tb → UInt8
 one : ∀ t x (d : D), d ∈ enc t x → ∀ y, d = .v y → y.oneCell' = true
 agF : ∀ t x (d : D), d ∈ enc t x → ∀ ds, d ≠ .ag ds
 arF : ∀ t x (d : D), d ∈ enc t x → ∀ t' xs, d ≠ .ar t' xs
 encB : ∀ x, enc tb x = [.v (.int .u8 ((toB x).toNat : Int))]
 toOf : ∀ c, toB (ofB c) = c
open Enc (sz enc dflt tb ofB toB)
variable [Tys] [Enc]
inductive RD (w : World) (Z : Nat → Nat → Prop) : Value → D → Prop where
 | v (x : Value) : RD w Z x (.v x)
 | nil (t : Ty) (a : Option Addr) (cap : Nat) : RD w Z (.slice a 0 cap) (.sl t [])
 | sl (t : Ty) (xs : List (U t)) (b off cap : Nat) (vs : Nat → Nat → Value) (hl : xs.length ≤ cap)
   (hc : ∀ j i, j < xs.length → i < sz t → w.cell? ⟨b, off + (j * sz t + i), none⟩ = some (vs j i) ∧ Z b (off + (j * sz t + i)))
   (hr : ∀ j i x d, xs[j]? = some x → (enc t x)[i]? = some d → RD w Z (vs j i) d) :
   RD w Z (.slice (some ⟨b, off, none⟩) xs.length cap) (.sl t xs)
 | ifc (t : TypeId) (x : Value) (d : D) (h : RD w Z x d) : RD w Z (.iface t x) (.ifc t d)
 | ag (vs : List Value) (ds : List D) (hl : vs.length = ds.length)
   (h : ∀ (i : Nat) (x : Value) (d : D), vs[i]? = some x → ds[i]? = some d → RD w Z x d) : RD w Z (.agg vs.toArray) (.ag ds)
 | ptr (ds : List D) (b off : Nat) (vs : Nat → Value) (hc : ∀ i d, ds[i]? = some d → w.cell? ⟨b, off + i, none⟩ = some (vs i) ∧ Z b (off + i))
   (h : ∀ i d, ds[i]? = some d → RD w Z (vs i) d) : RD w Z (.pointer (some ⟨b, off, none⟩)) (.ptr ds)
 | fun (f : Fn) (first cap : List D) (vs us : List Value) (hl : vs.length = first.length) (hm : us.length = cap.length)
   (h : ∀ (i : Nat) (x : Value) (d : D), vs[i]? = some x → first[i]? = some d → RD w Z x d)
   (h' : ∀ (i : Nat) (x : Value) (d : D), us[i]? = some x → cap[i]? = some d → RD w Z x d) : RD w Z (.func f vs.toArray us.toArray) (.fun f first cap)
 | ar (t : Ty) (xs : List (U t)) (vs : List Value) (hl : vs.length = xs.length * sz t)
   (h : ∀ j i x d, xs[j]? = some x → (enc t x)[i]? = some d → RD w Z ((vs[j * sz t + i]?).getD undef) d) : RD w Z (.agg vs.toArray) (.ar t xs)
theorem RD.mono {w w' : World} {Z Z' : Nat → Nat → Prop} {x : Value} {d : D} (hz : ∀ b o, Z b o → Z' b o)
  (hw : ∀ b o, Z b o → w'.cell? ⟨b, o, none⟩ = w.cell? ⟨b, o, none⟩) (h : RD w Z x d) : RD w' Z' x d := by
 induction h with
 | v x => exact .v x
 | nil t a cap => exact .nil t a cap
 | sl t xs b off cap vs hl hc hr ih =>
  refine .sl t xs b off cap vs hl (fun j i hj hi => ?_) (fun j i x d hx hd => ih j i x d hx hd)
  obtain ⟨h1, h2⟩ := hc j i hj hi
  exact ⟨by rw [hw _ _ h2]; exact h1, hz _ _ h2⟩
 | ifc t x d h ih => exact .ifc t x d ih
 | ag vs ds hl h ih => exact .ag vs ds hl ih
 | ptr ds b off vs hc h ih => exact .ptr ds b off vs (fun i d hd => let ⟨h1, h2⟩ := hc i d hd; ⟨by rw [hw _ _ h2]; exact h1, hz _ _ h2⟩) ih
 | «fun» f first cap vs us hl hm h h' ih ih' => exact .fun f first cap vs us hl hm ih ih'
 | ar t xs vs hl h ih => exact .ar t xs vs hl ih
inductive PV where
 | d (d : D)
 | bx (k g off : Nat)
 | ip (ds : List D)
 | os (k g : Nat) (t : Ty) (xs : List (U t))
 | fn (f : Fn) (first cap : List PV)
 | ag (vs : List PV)
 | tu (vs : List PV)
 | mp (k g : Nat)
 | cond (c : Bool) (p : PV)
 | ms (k g : Nat) (t : Ty) (lo n : Int)
 | ep (k g : Nat) (t : Ty) (i : Int) (off : Nat)
 | nz
 | np (k g : Nat)
 | any
def un : D → PV
 | .ptr ds => .ip ds
 | .fun f a b => .fn f (uns a) (uns b)
 | .v x => .d (.v x)
 | .sl t xs => .d (.sl t xs)
 | .ifc t d => .d (.ifc t d)
 | .ag ds => .d (.ag ds)
 | .ar t xs => .d (.ar t xs)
 where uns : List D → List PV
 | [] => []
 | d :: r => un d :: uns r
theorem A4g : ∀ l : List D, un.uns l = l.map un
 | [] => rfl
 | d :: r => by simp [un.uns, A4g r]
abbrev Nmap := Nat → Nat → Option (Option Nat)
inductive RP (μ : Nmap) (w : World) (Z : Nat → Nat → Prop) : Value → PV → Prop where
 | d (x : Value) (d : D) (h : RD w Z x d) : RP μ w Z x (.d d)
 | bx (k g off b : Nat) (h : μ k g = some (some b)) : RP μ w Z (.pointer (some ⟨b, off, none⟩)) (.bx k g off)
 | ip (ds : List D) (b off : Nat) (vs : Nat → Value)
   (h : ∀ i d, ds[i]? = some d → w.cell? ⟨b, off + i, none⟩ = some (vs i) ∧ Z b (off + i) ∧ RD w Z (vs i) d) :
   RP μ w Z (.pointer (some ⟨b, off, none⟩)) (.ip ds)
 | osN (k g : Nat) (t : Ty) (h : μ k g = some none) : RP μ w Z (.slice none 0 0) (.os k g t [])
 | os (k g : Nat) (t : Ty) (xs : List (U t)) (b n cap m : Nat) (T : TypeId) (h : μ k g = some (some b))
   (hr : RD w Z (.slice (some ⟨b, 0, none⟩) n cap) (.sl t xs)) (hn : n = xs.length) (hc : n ≤ cap) (hs : w.shape? b = some (T, m)) (hm : cap * sz t ≤ m) :
   RP μ w Z (.slice (some ⟨b, 0, none⟩) n cap) (.os k g t xs)
 | fn (f : Fn) (first cap : List PV) (vs us : List Value) (hl : vs.length = first.length) (hm : us.length = cap.length)
   (h : ∀ (i : Nat) (x : Value) (p : PV), vs[i]? = some x → first[i]? = some p → RP μ w Z x p)
   (h' : ∀ (i : Nat) (x : Value) (p : PV), us[i]? = some x → cap[i]? = some p → RP μ w Z x p) : RP μ w Z (.func f vs.toArray us.toArray) (.fn f first cap)
 | ag (ps : List PV) (vs : List Value) (hl : vs.length = ps.length)
   (h : ∀ (i : Nat) (x : Value) (p : PV), vs[i]? = some x → ps[i]? = some p → RP μ w Z x p) : RP μ w Z (.agg vs.toArray) (.ag ps)
 | tu (ps : List PV) (vs : List Value) (hl : vs.length = ps.length)
   (h : ∀ (i : Nat) (x : Value) (p : PV), vs[i]? = some x → ps[i]? = some p → RP μ w Z x p) : RP μ w Z (.tuple vs.toArray) (.tu ps)
 | mp (k g b : Nat) (h : μ k g = some (some b)) : RP μ w Z (.map (some b)) (.mp k g)
 | cond (c : Bool) (x : Value) (p : PV) (h : c = true → RP μ w Z x p) (h' : c = false → x = undef) : RP μ w Z x (.cond c p)
 | ms (k g : Nat) (t : Ty) (lo n : Int) (b cap : Nat) (h : μ k g = some (some b)) (h0 : 0 ≤ lo) (h1 : 0 ≤ n) (hc : n.toNat ≤ cap) (T : TypeId) (m : Nat) (hs : w.shape? b = some (T, m)) (hm : (lo.toNat + cap) * sz t ≤ m) : RP μ w Z (.slice (some ⟨b, lo.toNat * sz t, none⟩) n.toNat cap) (.ms k g t lo n)
 | msE (k g : Nat) (t : Ty) (lo n : Int) (a : Option Addr) (h1 : n = 0) : RP μ w Z (.slice a 0 0) (.ms k g t lo n)
 | nz (a : Option Addr) : RP μ w Z (.slice a 0 0) .nz
 | npN (k g : Nat) : RP μ w Z (.pointer none) (.np k g)
 | np (k g b : Nat) (h : μ k g = some (some b)) : RP μ w Z (.pointer (some ⟨b, 0, none⟩)) (.np k g)
 | ep (k g : Nat) (t : Ty) (i : Int) (off b : Nat) (h : μ k g = some (some b)) (h0 : 0 ≤ i) : RP μ w Z (.pointer (some ⟨b, i.toNat * sz t + off, none⟩)) (.ep k g t i off)
 | any (x : Value) : RP μ w Z x .any
theorem un_ok {μ : Nmap} {w : World} {Z : Nat → Nat → Prop} {x : Value} {d : D} (h : RD w Z x d) : RP μ w Z x (un d) := by
 induction h with
 | v x => exact .d _ _ (.v x)
 | nil t a cap => exact .d _ _ (.nil t a cap)
 | sl t xs b off cap vs hl hc hr ih => exact .d _ _ (.sl t xs b off cap vs hl hc hr)
 | ifc t x d h ih => exact .d _ _ (.ifc t x d h)
 | ag vs ds hl h ih => exact .d _ _ (.ag vs ds hl h)
 | ar t xs vs hl h ih => exact .d _ _ (.ar t xs vs hl h)
 | ptr ds b off vs hc h ih => exact .ip ds b off vs fun i d hd => ⟨(hc i d hd).1, (hc i d hd).2, h i d hd⟩
 | «fun» f first cap vs us hl hm h h' ih ih' =>
  simp only [un, A4g]
  refine .fn f _ _ vs us (by simpa using hl) (by simpa using hm) (fun i x p hx hp => ?_) (fun i x p hx hp => ?_)
  ·rw [List.getElem?_map] at hp
   obtain ⟨d, hd, rfl⟩ := Option.map_eq_some_iff.1 hp
   exact ih i x d hx hd
  ·rw [List.getElem?_map] at hp
   obtain ⟨d, hd, rfl⟩ := Option.map_eq_some_iff.1 hp
   exact ih' i x d hx hd
theorem RP.mono {μ μ' : Nmap} {w w' : World} {Z Z' : Nat → Nat → Prop} {x : Value} {p : PV} (hμ : ∀ k g y, μ k g = some y → μ' k g = some y)
  (hz : ∀ b o, Z b o → Z' b o) (hw : ∀ b o, Z b o → w'.cell? ⟨b, o, none⟩ = w.cell? ⟨b, o, none⟩)
  (hs : ∀ b s, w.shape? b = some s → w'.shape? b = some s) (h : RP μ w Z x p) : RP μ' w' Z' x p := by
 induction h with
 | d x d h => exact .d x d (h.mono hz hw)
 | bx k g off b h => exact .bx k g off b (hμ _ _ _ h)
 | ip ds b off vs h => exact .ip ds b off vs fun i d hd => let ⟨h1, h2, h3⟩ := h i d hd; ⟨by rw [hw _ _ h2]; exact h1, hz _ _ h2, h3.mono hz hw⟩
 | osN k g t h => exact .osN k g t (hμ _ _ _ h)
 | os k g t xs b n cap m T h hr hn hc hsh hm => exact .os k g t xs b n cap m T (hμ _ _ _ h) (hr.mono hz hw) hn hc (hs _ _ hsh) hm
 | fn f first cap vs us hl hm h h' ih ih' => exact .fn f first cap vs us hl hm ih ih'
 | ag ps vs hl h ih => exact .ag ps vs hl ih
 | tu ps vs hl h ih => exact .tu ps vs hl ih
 | mp k g b h => exact .mp k g b (hμ _ _ _ h)
 | cond c x p h h' ih => exact .cond c x p ih h'
 | ms k g t lo n b cap h h0 h1 hc T m hsh hm => exact .ms k g t lo n b cap (hμ _ _ _ h) h0 h1 hc T m (hs _ _ hsh) hm
 | msE k g t lo n a h1 => exact .msE k g t lo n a h1
 | nz a => exact .nz a
 | npN k g => exact .npN k g
 | np k g b h => exact .np k g b (hμ _ _ _ h)
 | ep k g t i off b h h0 => exact .ep k g t i off b (hμ _ _ _ h) h0
 | any x => exact .any x
inductive Cell where
 | box (T : TypeId) (vs : List PV)
 | tok (T : TypeId) (t : Ty) (n : Nat)
 | map (es : List (Value × PV))
 | iter (mk mg since stepped : Nat) (seen : List Nat)
 | froz (T : TypeId) (ds : List D)
 | arr (T : TypeId) (t : Ty) (xs : List (U t))
def ArrAt (w : World) (Z : Nat → Nat → Prop) (t : Ty) (xs : List (U t)) (cs : Array Value) : Prop :=
 ∀ (j i : Nat) (x : U t) (d : D), xs[j]? = some x → (enc t x)[i]? = some d → ∃ v, cs[j * sz t + i]? = some v ∧ RD w Z v d
abbrev Mem := Nat → Nat → Option Cell
def RPs (μ : Nmap) (w : World) (Z : Nat → Nat → Prop) (xs : List Value) (ps : List PV) : Prop :=
 xs.length = ps.length ∧ ∀ (i : Nat) (x : Value) (p : PV), xs[i]? = some x → ps[i]? = some p → RP μ w Z x p
theorem RPs.mono {μ μ' : Nmap} {w w' : World} {Z Z' : Nat → Nat → Prop} {xs : List Value} {ps : List PV} (hμ : ∀ k g y, μ k g = some y → μ' k g = some y)
  (hz : ∀ b o, Z b o → Z' b o) (hw : ∀ b o, Z b o → w'.cell? ⟨b, o, none⟩ = w.cell? ⟨b, o, none⟩)
  (hs : ∀ b s, w.shape? b = some s → w'.shape? b = some s) (h : RPs μ w Z xs ps) : RPs μ' w' Z' xs ps :=
 ⟨h.1, fun i x p hx hp => (h.2 i x p hx hp).mono hμ hz hw hs⟩
def EntOK (μ : Nmap) (w : World) (Z : Nat → Nat → Prop) (k g : Nat) : Cell → Prop
 | .box T vs => ∃ b cs, μ k g = some (some b) ∧ w.heap[b]? = some (.cells cs T (0, 0)) ∧ RPs μ w Z cs.toList vs ∧ ∀ o, ¬ Z b o
 | .tok T t n => (μ k g = some none ∧ n = 0) ∨
   ∃ b cs, μ k g = some (some b) ∧ w.heap[b]? = some (.cells cs T (0, 0)) ∧ ∀ o, n * sz t ≤ o → ¬ Z b o
 | .map es => ∃ b ms, μ k g = some (some b) ∧ w.heap[b]? = some (.map ms ms.size) ∧
   (ms.size = es.length ∧ ∀ (i : Nat) (e : MapEntry) (x : Value) (p : PV), ms[i]? = some e → es[i]? = some (x, p) → e.key = x ∧ e.born = i ∧ RP μ w Z e.val p) ∧ ∀ o, ¬ Z b o
 | .iter mk mg since stepped seen => ∃ b bm, μ k g = some (some b) ∧ (μ mk mg = some (some bm) ∧ w.heap[b]? = some (.mapIter (some bm) since seen.reverse.toArray stepped)) ∧ ∀ o, ¬ Z b o
 | .arr T t xs => (μ k g = some none ∧ xs = []) ∨ ∃ b cs, μ k g = some (some b) ∧ w.heap[b]? = some (.cells cs T (0, 0)) ∧ ArrAt w Z t xs cs ∧ ∀ o, ¬ Z b o
 | .froz _ ds => ∃ (b : Nat) (vs : Nat → Value), μ k g = some (some b) ∧ b < w.heap.size ∧ ∀ i d, ds[i]? = some d → w.cell? ⟨b, i, none⟩ = some (vs i) ∧ Z b i ∧ RD w Z (vs i) d
theorem EntOK.name {μ : Nmap} {w : World} {Z : Nat → Nat → Prop} {k g : Nat} {c : Cell} (h : EntOK μ w Z k g c) : ∃ y, μ k g = some y := by
 cases c with
 | box T vs => obtain ⟨b, _, h, _⟩ := h; exact ⟨_, h⟩
 | tok T t n =>
  rcases h with ⟨h, _⟩ | ⟨b, _, h, _⟩
  ·exact ⟨_, h⟩
  ·exact ⟨_, h⟩
 | map es => obtain ⟨b, _, h, _⟩ := h; exact ⟨_, h⟩
 | iter _ _ _ _ _ => obtain ⟨b, _, h, _⟩ := h; exact ⟨_, h⟩
 | arr T t xs =>
  rcases h with ⟨h, _⟩ | ⟨b, _, h, _⟩
  ·exact ⟨_, h⟩
  ·exact ⟨_, h⟩
 | froz _ _ => obtain ⟨b, _, h, _⟩ := h; exact ⟨_, h⟩
theorem EntOK.lt {μ : Nmap} {w : World} {Z : Nat → Nat → Prop} {k g : Nat} {c : Cell} (h : EntOK μ w Z k g c) {b : Nat} (hb : μ k g = some (some b)) : b < w.heap.size := by
 have key : ∀ (b' : Nat) (o : Obj), μ k g = some (some b') → w.heap[b']? = some o → b < w.heap.size := by
  intro b' o h1 h2
  rw [hb] at h1; obtain rfl := Option.some.inj (Option.some.inj h1)
  rcases Nat.lt_or_ge b w.heap.size with h | h
  ·exact h
  ·rw [Array.getElem?_eq_none h] at h2; cases h2
 cases c with
 | box T vs => obtain ⟨b', _, h1, h2, _⟩ := h; exact key _ _ h1 h2
 | tok T t n =>
  rcases h with ⟨h, _⟩ | ⟨b', _, h1, h2, _⟩
  ·rw [hb] at h; cases h
  ·exact key _ _ h1 h2
 | map es => obtain ⟨b', _, h1, h2, _⟩ := h; exact key _ _ h1 h2
 | iter _ _ _ _ _ => obtain ⟨b', _, h1, ⟨_, h2⟩, _⟩ := h; exact key _ _ h1 h2
 | arr T t xs =>
  rcases h with ⟨h, _⟩ | ⟨b', _, h1, h2, _⟩
  ·rw [hb] at h; cases h
  ·exact key _ _ h1 h2
 | froz _ _ => obtain ⟨b', _, h1, h2, _⟩ := h; rw [hb] at h1; obtain rfl := Option.some.inj (Option.some.inj h1); exact h2
theorem EntOK.keep {μ μ' : Nmap} {w w' : World} {Z Z' : Nat → Nat → Prop} {k g : Nat} {c : Cell} (h : EntOK μ w Z k g c) (hμ : ∀ k g y, μ k g = some y → μ' k g = some y)
  (hz : ∀ b o, Z b o → Z' b o) (hw : ∀ b o, Z b o → w'.cell? ⟨b, o, none⟩ = w.cell? ⟨b, o, none⟩) (hs : ∀ b s, w.shape? b = some s → w'.shape? b = some s)
  (hb : ∀ b, μ k g = some (some b) → w'.heap[b]? = w.heap[b]? ∧ ∀ o, Z' b o → Z b o) : EntOK μ' w' Z' k g c := by
 cases c with
 | box T vs =>
  obtain ⟨b, cs, h1, h2, h3, h4⟩ := h
  obtain ⟨b1, b2⟩ := hb b h1
  exact ⟨b, cs, hμ _ _ _ h1, by rw [b1]; exact h2, h3.mono hμ hz hw hs, fun o ho => h4 o (b2 o ho)⟩
 | tok T t n =>
  rcases h with ⟨h1, h2⟩ | ⟨b, cs, h1, h2, h3⟩
  ·exact .inl ⟨hμ _ _ _ h1, h2⟩
  ·obtain ⟨b1, b2⟩ := hb b h1
   exact .inr ⟨b, cs, hμ _ _ _ h1, by rw [b1]; exact h2, fun o ho hz' => h3 o ho (b2 o hz')⟩
 | map es =>
  obtain ⟨b, ms, h1, h2, ⟨h3, h4⟩, h5⟩ := h
  obtain ⟨b1, b2⟩ := hb b h1
  exact ⟨b, ms, hμ _ _ _ h1, by rw [b1]; exact h2, ⟨h3, fun i e x p he hp => let ⟨a1, a2, a3⟩ := h4 i e x p he hp; ⟨a1, a2, a3.mono hμ hz hw hs⟩⟩, fun o ho => h5 o (b2 o ho)⟩
 | iter mk mg since stepped seen =>
  obtain ⟨b, bm, h1, ⟨h2, h3⟩, h5⟩ := h
  obtain ⟨b1, b2⟩ := hb b h1
  exact ⟨b, bm, hμ _ _ _ h1, ⟨hμ _ _ _ h2, by rw [b1]; exact h3⟩, fun o ho => h5 o (b2 o ho)⟩
 | arr T t xs =>
  rcases h with ⟨h1, h2⟩ | ⟨b, cs, h1, h2, h3, h4⟩
  ·exact .inl ⟨hμ _ _ _ h1, h2⟩
  ·obtain ⟨b1, b2⟩ := hb b h1
   exact .inr ⟨b, cs, hμ _ _ _ h1, by rw [b1]; exact h2, fun j i x d hx hd => let ⟨v, a1, a2⟩ := h3 j i x d hx hd; ⟨v, a1, a2.mono hz hw⟩, fun o ho => h4 o (b2 o ho)⟩
 | froz T ds =>
  obtain ⟨b, vs, h1, h2, h3⟩ := h
  obtain ⟨b1, b2⟩ := hb b h1
  refine ⟨b, vs, hμ _ _ _ h1, ?_, fun i d hd => let ⟨a1, a2, a3⟩ := h3 i d hd; ⟨by rw [hw _ _ a2]; exact a1, hz _ _ a2, a3.mono hz hw⟩⟩
  rcases Nat.lt_or_ge b w'.heap.size with h | h
  ·exact h
  ·rw [Array.getElem?_eq_none h, Array.getElem?_eq_getElem h2] at b1; cases b1
structure WR (μ : Nmap) (m : Mem) (Z : Nat → Nat → Prop) (w : World) : Prop where
 ent : ∀ k g c, m k g = some c → EntOK μ w Z k g c
 dis : ∀ k g k' g' c c' b, m k g = some c → m k' g' = some c' → μ k g = some (some b) → μ k' g' = some (some b) → k = k' ∧ g = g'
 zlt : ∀ b o, Z b o → b < w.heap.size
structure Adv (μ : Nmap) (m : Mem) (Z : Nat → Nat → Prop) (w : World) (μ' : Nmap) (m' : Mem) (Z' : Nat → Nat → Prop) (w' : World) : Prop where
 mu : ∀ k g y, μ k g = some y → μ' k g = some y
 z : ∀ b o, Z b o → Z' b o
 cell : ∀ b o, Z b o → w'.cell? ⟨b, o, none⟩ = w.cell? ⟨b, o, none⟩
 shp : ∀ b s, w.shape? b = some s → w'.shape? b = some s
 size : w.heap.size ≤ w'.heap.size
 frame : ∀ b, b < w.heap.size → (∀ k g c, m k g = some c → μ k g ≠ some (some b)) → w'.heap[b]? = w.heap[b]?
 znew : ∀ b o, Z' b o → Z b o ∨ w.heap.size ≤ b ∨ ∃ k g c, m k g = some c ∧ μ k g = some (some b)
 own : ∀ k g c b, m' k g = some c → μ' k g = some (some b) → w.heap.size ≤ b ∨ ∃ k0 g0 c0, m k0 g0 = some c0 ∧ μ k0 g0 = some (some b)
 os : w'.os = w.os
 out : w'.output = w.output
theorem Adv.refl {μ : Nmap} {m : Mem} {Z : Nat → Nat → Prop} {w : World} : Adv μ m Z w μ m Z w :=
 ⟨fun _ _ _ h => h, fun _ _ h => h, fun _ _ _ => rfl, fun _ _ h => h, Nat.le_refl _, fun _ _ _ => rfl, fun _ _ h => .inl h, fun k g c _ h h' => .inr ⟨k, g, c, h, h'⟩, rfl, rfl⟩
theorem Adv.trans {μ μ1 μ2 : Nmap} {m m1 m2 : Mem} {Z Z1 Z2 : Nat → Nat → Prop} {w w1 w2 : World} (a : Adv μ m Z w μ1 m1 Z1 w1) (b : Adv μ1 m1 Z1 w1 μ2 m2 Z2 w2) :
  Adv μ m Z w μ2 m2 Z2 w2 where
 mu k g y h := b.mu _ _ _ (a.mu _ _ _ h)
 z x o h := b.z _ _ (a.z _ _ h)
 cell x o h := by rw [b.cell _ _ (a.z _ _ h), a.cell _ _ h]
 shp x s h := b.shp _ _ (a.shp _ _ h)
 size := Nat.le_trans a.size b.size
 frame x hx hm := by
  rw [b.frame x (Nat.lt_of_lt_of_le hx a.size) ?_, a.frame x hx hm]
  intro k g c hc hμ
  rcases a.own k g c x hc hμ with h | ⟨k0, g0, c0, h1, h2⟩
  ·omega
  ·exact hm _ _ _ h1 h2
 znew x o h := by
  rcases b.znew x o h with h | h | ⟨k, g, c, h1, h2⟩
  ·exact a.znew x o h
  ·exact .inr (.inl (Nat.le_trans a.size h))
  ·exact .inr (a.own k g c x h1 h2)
 own k g c x h1 h2 := by
  rcases b.own k g c x h1 h2 with h | ⟨k0, g0, c0, h3, h4⟩
  ·exact .inl (Nat.le_trans a.size h)
  ·exact a.own k0 g0 c0 x h3 h4
 os := b.os.trans a.os
 out := b.out.trans a.out
theorem RP.adv {μ μ' : Nmap} {m m' : Mem} {w w' : World} {Z Z' : Nat → Nat → Prop} {x : Value} {p : PV} (a : Adv μ m Z w μ' m' Z' w') (h : RP μ w Z x p) : RP μ' w' Z' x p :=
 h.mono a.mu a.z a.cell a.shp
theorem RPs.adv {μ μ' : Nmap} {m m' : Mem} {w w' : World} {Z Z' : Nat → Nat → Prop} {xs : List Value} {ps : List PV} (a : Adv μ m Z w μ' m' Z' w') (h : RPs μ w Z xs ps) :
  RPs μ' w' Z' xs ps := h.mono a.mu a.z a.cell a.shp
def mput (m fp fp' : Mem) : Mem := fun k g => match fp' k g with
 | some c => some c
 | none => if (fp k g).isSome then none else m k g
theorem Amq {μ μ' : Nmap} {m fp fp' : Mem} {Z Z' : Nat → Nat → Prop} {w w' : World} (hw : WR μ m Z w) (hsub : ∀ k g c, fp k g = some c → m k g = some c) (hr : WR μ' fp' Z' w') (ha : Adv μ fp Z w μ' fp' Z' w') :
  WR μ' (mput m fp fp') Z' w' ∧ Adv μ m Z w μ' (mput m fp fp') Z' w' := by
 -- an entry of the rest
 have rest : ∀ k g c, mput m fp fp' k g = some c → fp' k g = none → fp k g = none ∧ m k g = some c := by
  intro k g c h h1
  simp only [mput, h1] at h
  cases h2 : fp k g with
  | none => simp [h2] at h; exact ⟨rfl, h⟩
  | some _ => simp [h2] at h
 have notown : ∀ k g c b, fp k g = none → m k g = some c → μ k g = some (some b) → ∀ k1 g1 c1, fp k1 g1 = some c1 → μ k1 g1 ≠ some (some b) := by
  intro k g c b h1 h2 h3 k1 g1 c1 h4 h5
  obtain ⟨rfl, rfl⟩ := hw.dis k g k1 g1 c c1 b h2 (hsub _ _ _ h4) h3 h5
  rw [h1] at h4; cases h4
 have bound : ∀ k g c b, m k g = some c → μ k g = some (some b) → b < w.heap.size := fun k g c b h1 h2 => (hw.ent k g c h1).lt h2
 have adv : Adv μ m Z w μ' (mput m fp fp') Z' w' := by
  refine ⟨ha.mu, ha.z, ha.cell, ha.shp, ha.size, ?_, ?_, ?_, ha.os, ha.out⟩
  ·intro b hb hn
   exact ha.frame b hb fun k g c h => hn k g c (hsub _ _ _ h)
  ·intro b o h
   rcases ha.znew b o h with h | h | ⟨k, g, c, h1, h2⟩
   ·exact .inl h
   ·exact .inr (.inl h)
   ·exact .inr (.inr ⟨k, g, c, hsub _ _ _ h1, h2⟩)
  ·intro k g c b h1 h2
   cases h3 : fp' k g with
   | some c' =>
    rcases ha.own k g c' b h3 h2 with h | ⟨k0, g0, c0, h4, h5⟩
    ·exact .inl h
    ·exact .inr ⟨k0, g0, c0, hsub _ _ _ h4, h5⟩
   | none =>
    obtain ⟨h4, h5⟩ := rest k g c h1 h3
    have h6 := hw.ent k g c h5
    obtain ⟨y, hy⟩ := h6.name
    have := ha.mu _ _ _ hy
    rw [h2] at this; obtain rfl := Option.some.inj this
    exact .inr ⟨k, g, c, h5, hy⟩
 refine ⟨⟨?_, ?_, hr.zlt⟩, adv⟩
 ·intro k g c h
  cases h1 : fp' k g with
  | some c' =>
   simp only [mput, h1] at h
   obtain rfl := Option.some.inj h
   exact hr.ent k g c' h1
  | none =>
   obtain ⟨h2, h3⟩ := rest k g c h h1
   have h4 := hw.ent k g c h3
   have noz : ∀ b, μ k g = some (some b) → ∀ o, Z' b o → Z b o := by
    intro b hb o hz
    rcases ha.znew b o hz with h | h | ⟨k1, g1, c1, h5, h6⟩
    ·exact h
    ·exact absurd (bound k g c b h3 hb) (by omega)
    ·exact absurd h6 (notown k g c b h2 h3 hb k1 g1 c1 h5)
   exact h4.keep ha.mu ha.z ha.cell ha.shp fun b hb => ⟨ha.frame b (bound k g c b h3 hb) (fun k1 g1 c1 h => notown k g c b h2 h3 hb k1 g1 c1 h), noz b hb⟩
 ·intro k g k' g' c c' b h1 h2 h3 h4
  -- where an entry's block lies: in fp', or in the rest
  have key : ∀ k g c, mput m fp fp' k g = some c → μ' k g = some (some b) → (∃ c, fp' k g = some c) ∨ (fp k g = none ∧ ∃ c, m k g = some c ∧ μ k g = some (some b)) := by
   intro k g c h h'
   cases h5 : fp' k g with
   | some c' => exact .inl ⟨c', rfl⟩
   | none =>
    obtain ⟨h6, h7⟩ := rest k g c h h5
    rcases adv.own k g c b h h' with h8 | ⟨k0, g0, c0, h8, h9⟩
    ·-- the entry is of m, so its block is old
     have h10 := hw.ent k g c h7
     obtain ⟨y, hy⟩ := h10.name
     have := ha.mu _ _ _ hy
     rw [h'] at this; obtain rfl := Option.some.inj this
     exact .inr ⟨h6, c, h7, hy⟩
    ·have h10 := hw.ent k g c h7
     obtain ⟨y, hy⟩ := h10.name
     have := ha.mu _ _ _ hy
     rw [h'] at this; obtain rfl := Option.some.inj this
     exact .inr ⟨h6, c, h7, hy⟩
  rcases key k g c h1 h3 with ⟨c1, h5⟩ | ⟨h5, c1, h6, h7⟩ <;> rcases key k' g' c' h2 h4 with ⟨c2, h8⟩ | ⟨h8, c2, h9, h10⟩
  ·exact hr.dis k g k' g' c1 c2 b h5 h8 h3 h4
  ·rcases ha.own k g c1 b h5 h3 with h | ⟨k0, g0, c0, h11, h12⟩
   ·exact absurd (bound k' g' c2 b h9 h10) (by omega)
   ·exact absurd h12 (notown k' g' c2 b h8 h9 h10 k0 g0 c0 h11)
  ·rcases ha.own k' g' c2 b h8 h4 with h | ⟨k0, g0, c0, h11, h12⟩
   ·exact absurd (bound k g c1 b h6 h7) (by omega)
   ·exact absurd h12 (notown k g c1 b h5 h6 h7 k0 g0 c0 h11)
  ·exact hw.dis k g k' g' c1 c2 b h6 h9 h7 h10
end Go.PL
namespace Go.PL
set_option linter.unusedSimpArgs false
set_option linter.unusedVariables false
set_option linter.unusedSectionVars false
open Tys (Ty U)
open Enc (sz enc dflt tb ofB toB)
def selB (b : Bool) (p q : Prop) : Prop := match b with
 | true => p
 | false => q
inductive TK where
 | int (k : IntKind) | bool | string
 | slice (e : TypeId) | array (n : Nat) (e : TypeId) | struct (fs : List (Nat × TypeId))
 | ptr (e : TypeId) | uns | map (k e : TypeId) | iface | func | other
def TK.agg : TK → Bool
 | .array _ _ | .struct _ => true
 | _ => false
structure TR where
 k : TK
 size : Nat
 bytes : Nat
 zero : List Value
def KOk : TypeDesc → TK → Prop
 | .int k, .int k' => k = k'
 | .bool, .bool => True
 | .string, .string => True
 | .slice e, .slice e' => e = e'
 | .array n e, .array n' e' => n = n' ∧ e = e'
 | .struct fs, .struct l => fs.toList.map (fun f => (f.offset, f.type)) = l
 | .pointer e, .ptr e' => e = e'
 | .unsafePointer, .uns => True
 | .map k e, .map k' e' => k = k' ∧ e = e'
 | .interface _, .iface => True
 | .func _ _ _, .func => True
 | .pointer _, .other | .unsafePointer, .other | .float _, .other | .tuple _, .other | .chan _ _, .other => True
 | _, _ => False
def zeroV (r : TR) : Value := match r.k.agg with
 | true => .agg r.zero.toArray
 | false => match r.zero with
  | [z] => z
  | _ => undef
def TOk (P : Program) (t : TypeId) (r : TR) : Prop :=
 ∃ info d, P.info? t = some info ∧ P.underlying t = some d ∧ info.size = r.size ∧ (info.bytes = r.bytes ∧ r.zero.length = r.size ∧ info.zero = some (zeroV r)) ∧ (∃ z, info.zero = some z ∧ z.cells.toList = r.zero) ∧ KOk d r.k
class Dec [Tys] [Enc] where
 dec : (Int → UInt8) → (t : Ty) → List D → Option (U t)
 dok : (Int → Prop) → (t : Ty) → List D → Prop
 dec_ok : ∀ t ds x, dec (fun n => UInt8.ofNat n.toNat) t ds = some x → ds.length = sz t ∧ (dok (fun n => 0 ≤ n ∧ n < 256) t ds → ∀ (w : World) (Z : Nat → Nat → Prop) (i : Nat) (y : Value) (d d' : D), ds[i]? = some d → (enc t x)[i]? = some d' → RD w Z y d → RD w Z y d')
 cast : (t t' : Ty) → List (U t) → Option (List (U t'))
 cast_ok : ∀ t t' xs ys, cast t t' xs = some ys → (⟨t, xs⟩ : (t : Ty) × List (U t)) = ⟨t', ys⟩
open Dec (dec dok)
variable [Tys] [Enc] [Dec]
structure Ctx where
 P : Program
 ti : TypeId → Option TR
 ety : TypeId → Option Ty
 gt : Nat → Option (List D)
 lies : TypeId → Bool
 eqt : TypeId → Bool
 fz : Nat → Bool
def Ctx.bare (C : Ctx) : Ctx := ⟨C.P, C.ti, C.ety, C.gt, C.lies, C.eqt, fun _ => false⟩
structure Ctx.OK (C : Ctx) : Prop where
 ti : ∀ t r, C.ti t = some r → TOk C.P t r
 ety : ∀ e t, C.ety e = some t → ∃ r, C.ti e = some r ∧ r.size = sz t
 mixed : C.P.follows .mixedOrders = true
 eqt : ∀ t, C.eqt t = true → C.P.stoodInHeld t = false ∧ C.P.eqGuardType C.P.depth t = false ∧ ∀ F, C.P.underlying t = some (.struct F) → (F.toList.all fun f => f.name != "_") = true
 lies : ∀ t, C.lies t = true → ∃ r, C.ti t = some r ∧ liesAt C.P C.P.depth t (r.size / C.P.cellsOf t) 0 t 1 = true
structure Ar where
 ar : BinOp → IntKind → Int → Int → Int
 cmp : BinOp → Int → Int → Bool
 scmp : BinOp → ByteArray → ByteArray → Bool
 cat : ByteArray → ByteArray → ByteArray
 catOk : ByteArray → ByteArray → Prop
 not : Bool → Bool
 and : Bool → Bool → Bool
 or : Bool → Bool → Bool
 eqb : Bool → Bool → Bool
 len : (t : Ty) → List (U t) → Int
 slen : ByteArray → Int
 get : (t : Ty) → List (U t) → Int → U t
 inb : Int → Int → Prop
 sget : ByteArray → Int → Int
 ssub : ByteArray → Int → Int → ByteArray
 lsub : (t : Ty) → List (U t) → Int → Int → List (U t)
 subOk : Int → Int → Int → Prop
 app : (t : Ty) → List (U t) → List (U t) → List (U t)
 appOk : (t : Ty) → Nat → List (U t) → List (U t) → Prop
 nlen : (t : Ty) → List (U t) → Nat
 conv : IntKind → Int → Int
 s2b : ByteArray → List (U tb)
 b2s : List (U tb) → ByteArray
 nz : Int → Prop
 nn : Int → Prop
 mn : Int → Int → Int
 mx : Int → Int → Int
 u8 : Int → UInt8
 u8ok : Int → Prop
 pl : Int → Int → Int
 mi : Int → Int → Int
 set : (t : Ty) → List (U t) → Int → U t → List (U t)
 fill : (t : Ty) → List (U t) → Int → Int → U t → List (U t)
 mesB : List (ByteArray × Bool) → List (Value × PV)
 snoc : List (Value × PV) → Value → PV → List (Value × PV)
 sel : List ByteArray → Int → ByteArray
 rep : (t : Ty) → Int → U t → List (U t)
 put : (t : Ty) → List (U t) → Int → List (U t) → List (U t)
 geti : List Int → Int → Int
def arStd : BinOp → IntKind → Int → Int → Int
 | .add, k, a, b => k.wrap (a + b)
 | .sub, k, a, b => k.wrap (a - b)
 | .mul, k, a, b => k.wrap (a * b)
 | .quo, k, a, b => k.wrap (a.tdiv b)
 | .rem, _, a, b => a.tmod b
 | .and, k, a, b => k.wrap (BitVec.ofInt k.bits a &&& BitVec.ofInt k.bits b).toNat
 | .or, k, a, b => k.wrap (BitVec.ofInt k.bits a ||| BitVec.ofInt k.bits b).toNat
 | .xor, k, a, b => k.wrap (BitVec.ofInt k.bits a ^^^ BitVec.ofInt k.bits b).toNat
 | .andNot, k, a, b => k.wrap (BitVec.ofInt k.bits a &&& ~~~ BitVec.ofInt k.bits b).toNat
 | .shl, k, a, b => k.wrap (a * 2 ^ (min b.toNat k.bits))
 | .shr, k, a, b => a.fdiv (2 ^ (min b.toNat k.bits))
 | _, _, _, _ => 0
def Apb : BinOp → Int → Int → Bool
 | .eql, a, b => a == b
 | .neq, a, b => a != b
 | .lss, a, b => decide (a < b)
 | .leq, a, b => decide (a ≤ b)
 | .gtr, a, b => decide (a > b)
 | .geq, a, b => decide (a ≥ b)
 | _, _, _ => false
def Axa : BinOp → ByteArray → ByteArray → Bool
 | .eql, x, y => x.toList == y.toList
 | .neq, x, y => !(x.toList == y.toList)
 | .lss, x, y => Op.bytesLess x.toList y.toList
 | .leq, x, y => Op.bytesLess x.toList y.toList || x.toList == y.toList
 | .gtr, x, y => !(Op.bytesLess x.toList y.toList || x.toList == y.toList)
 | .geq, x, y => !(Op.bytesLess x.toList y.toList)
 | _, _, _ => false
def std : Ar where
 ar := arStd
 cmp := Apb
 scmp := Axa
 cat x y := x ++ y
 catOk x y := x.size + y.size ≤ 9223372036854775807
 not b := !b
 and a b := a && b
 or a b := a || b
 eqb a b := a == b
 len _ xs := xs.length
 slen s := s.size
 get t xs i := xs.getD i.toNat (dflt t)
 inb i n := 0 ≤ i ∧ i < n
 sget s i := (s.data.getD i.toNat 0).toNat
 ssub s l h := s.extract l.toNat h.toNat
 lsub _ xs l h := (xs.take h.toNat).drop l.toNat
 subOk l h n := 0 ≤ l ∧ l ≤ h ∧ h ≤ n
 app _ xs ys := xs ++ ys
 appOk _ b xs ys := (xs.length + ys.length) * b ≤ 140737488355328 ∧ xs.length + ys.length ≤ 140737488355328
 nlen _ xs := xs.length
 conv k n := k.wrap n
 s2b s := s.data.toList.map ofB
 b2s l := ⟨(l.map toB).toArray⟩
 nz n := n ≠ 0
 nn n := 0 ≤ n
 mn a b := min a b
 mx a b := max a b
 u8 n := UInt8.ofNat n.toNat
 u8ok n := 0 ≤ n ∧ n < 256
 pl a b := a + b
 mi a b := a - b
 set _ xs i x := xs.set i.toNat x
 fill _ xs i n x := xs.take i.toNat ++ List.replicate n.toNat x ++ xs.drop (i.toNat + n.toNat)
 mesB l := l.map fun e => (.string e.1, .d (.v (.bool e.2)))
 snoc l k v := l ++ [(k, v)]
 sel l i := l.getD i.toNat ⟨#[]⟩
 rep _ n x := List.replicate n.toNat x
 put _ xs i ys := xs.take i.toNat ++ ys ++ xs.drop (i.toNat + ys.length)
 geti l i := l.getD i.toNat 0
structure En where
 k : Nat
 g : Nat
 c : Cell
structure St where
 env : List (Nat × PV)
 sto : List En
 gen : Nat
def get : List (Nat × PV) → Nat → PV
 | [], _ => .any
 | (j, v) :: r, i => if j = i then v else get r i
def den : List En → Mem
 | [], _, _ => none
 | e :: r, k, g => if e.k = k ∧ e.g = g then some e.c else den r k g
def find : List En → Nat → Option (Nat × Cell)
 | [], _ => none
 | e :: r, k => if e.k = k then some (e.g, e.c) else find r k
def setc : List En → Nat → Cell → List En
 | [], _, _ => []
 | e :: r, k, c => if e.k = k then ⟨e.k, e.g, c⟩ :: r else e :: setc r k c
def remc : List En → Nat → List En
 | [], _ => []
 | e :: r, k => if e.k = k then r else e :: remc r k
def single (k g : Nat) (c : Cell) : Mem := fun k' g' => if k' = k ∧ g' = g then some c else none
def emp : Mem := fun _ _ => none
theorem Aa6 {l : List En} {k g : Nat} {c : Cell} (h : find l k = some (g, c)) : den l k g = some c := by
 induction l with
 | nil => simp [find] at h
 | cons e r ih =>
  simp only [find] at h
  by_cases he : e.k = k
  ·rw [if_pos he] at h
   cases h
   simp [den, he]
  ·rw [if_neg he] at h
   have : ¬ (e.k = k ∧ e.g = g) := fun x => he x.1
   simp [den, this, ih h]
theorem Aka {l : List En} {k g : Nat} {c : Cell} (c' : Cell) (h : find l k = some (g, c)) :
  den (setc l k c') = mput (den l) (single k g c) (single k g c') := by
 induction l with
 | nil => simp [find] at h
 | cons e r ih =>
  simp only [find] at h
  funext k1 g1
  by_cases he : e.k = k
  ·rw [if_pos he] at h
   cases h
   simp only [setc, he, if_true, den, mput, single]
   by_cases h1 : k1 = k ∧ g1 = e.g
   ·obtain ⟨rfl, rfl⟩ := h1; simp
   ·have h2 : ¬ (k = k1 ∧ e.g = g1) := fun x => h1 ⟨x.1.symm, x.2.symm⟩
    simp [h1, h2]
  ·rw [if_neg he] at h
   have ih' := congrFun (congrFun (ih h) k1) g1
   simp only [setc, he, if_false, den]
   rw [ih']
   simp only [mput, single]
   by_cases h1 : k1 = k ∧ g1 = g
   ·have h2 : ¬ (e.k = k1 ∧ e.g = g1) := fun x => he (x.1.trans h1.1)
    simp [h1, h2]
    intro h3; exact absurd h3 he
   ·simp [h1, den]
theorem den_cons (e : En) (l : List En) : den (e :: l) = mput (den l) emp (single e.k e.g e.c) := by
 funext k g
 simp only [den, mput, single, emp]
 by_cases h : e.k = k ∧ e.g = g
 ·obtain ⟨rfl, rfl⟩ := h; simp
 ·have h2 : ¬ (k = e.k ∧ g = e.g) := fun x => h ⟨x.1.symm, x.2.symm⟩
  simp [h, h2]
def cst : Value → PV
 | .agg cs => .ag (cs.toList.map fun x => .d (.v x))
 | .tuple vs => .tu (vs.toList.map fun x => .d (.v x))
 | x => .d (.v x)
def opd (C : Ctx) (env : List (Nat × PV)) : Operand → PV
 | .tmp t => get env t
 | .const v => cst v
 | .global g => match C.gt g with
  | some ds => .ip ds
  | none => .any
 | .func f => .d (.v (.func (.func f) #[] #[]))
def vc (c : Bool) (p : Prop) : Prop := match c with
 | true => p
 | false => True
theorem Aae {c : Bool} {p : Prop} (h : vc c p) (hc : c = true) : p := by subst hc; exact h
def strip (c : Bool) (p : PV) (k : PV → Prop) : Prop := match p with
 | .cond c' q => vc c (c' = true) ∧ k q
 | q => k q
theorem Aac {μ : Nmap} {w : World} {Z : Nat → Nat → Prop} {c : Bool} {p : PV} {k : PV → Prop} (h : strip c p k) :
  ∃ q, k q ∧ ∀ μ w Z x, c = true → RP μ w Z x p → RP μ w Z x q := by
 cases p <;> simp only [strip] at h
 case cond c' q =>
  refine ⟨q, h.2, fun μ w Z x hc hx => ?_⟩
  cases hx with
  | cond _ _ _ hq _ => exact hq (Aae h.1 hc)
 all_goals exact ⟨_, h, fun _ _ _ _ _ hx => hx⟩
def unc : PV → PV
 | .cond _ q => q
 | q => q
theorem Acz {c : Bool} {p : PV} {k : PV → Prop} (h : strip c p k) :
  ∃ q, q = unc p ∧ k q ∧ ∀ μ w Z x, c = true → RP μ w Z x p → RP μ w Z x q := by
 cases p <;> simp only [strip] at h
 case cond c' q =>
  refine ⟨q, rfl, h.2, fun μ w Z x hc hx => ?_⟩
  cases hx with
  | cond _ _ _ hq _ => exact hq (Aae h.1 hc)
 all_goals exact ⟨_, rfl, h, fun _ _ _ _ _ hx => hx⟩
def keyOf : PV → List Nat
 | .bx k _ _ => [k]
 | .os k _ _ _ => [k]
 | .mp k _ => [k]
 | .ms k _ _ _ _ => [k]
 | .ep k _ _ _ _ => [k]
 | _ => []
def names : PV → List Nat
 | .bx k _ _ => [k]
 | .os k _ _ _ => [k]
 | .mp k _ => [k]
 | .ms k _ _ _ _ => [k]
 | .ep k _ _ _ _ => [k]
 | .fn _ l m => namess l ++ namess m
 | .ag l | .tu l => namess l
 | .cond _ p => names p
 | _ => []
 where namess : List PV → List Nat
 | [] => []
 | p :: r => names p ++ namess r
def grow (sto : List En) : List Nat → List Nat
 | [] => []
 | k :: r => k :: ((match find sto k with
  | some (_, .box _ vs) => names.namess vs
  | some (_, .map es) => names.namess (es.map (·.2))
  | _ => []) ++ grow sto r)
def Ay6 (p : PV) : List Nat := names p
def subs (d : Nat) : List Nat := [d, d + 65536, d + 131072, d + 196608]
def foot (C : Ctx) (env : List (Nat × PV)) (sto : List En) (o : Oper) : List Nat × Bool := match o.op with
 | .load _ x => (keyOf (unc (opd C env x)), true)
 | .store _ x _ => (keyOf (unc (opd C env x)), false)
 | .convert _ _ x => (keyOf (unc (opd C env x)), true)
 | .lookup _ x _ _ => (keyOf (unc (opd C env x)), true)
 | .insert _ x _ _ => (keyOf (unc (opd C env x)), false)
 | .mapUpdate _ x _ _ => (keyOf (unc (opd C env x)), false)
 | .makeMap _ _ => (o.dst.toList, false)
 | .range _ x => (o.dst.toList ++ keyOf (unc (opd C env x)), false)
 | .entry x => ((match unc (opd C env x) with
  | .bx k _ _ => match find sto k with
   | some (_, .iter mk _ _ _ _) => [k, mk]
   | _ => [k]
  | _ => []), true)
 | .assign (.const (.slice none 0 0)) => match o.dst with
  | some d => match C.fz (d + 65536), C.fz (d + 131072) with
   | false, false => ([], true)
   | _, _ => ([d], false)
  | none => ([], true)
 | .alloc _ => (o.dst.toList.flatMap subs, false)
 | .box _ _ | .buildSlice _ _ _ => (o.dst.toList, false)
 | .slice _ x _ _ _ => (match unc (opd C env x) with
  | .bx k _ _ => [k]
  | _ => [], true)
 | .call cl => match cl.callee with
  | .builtin .append => (o.dst.toList ++ (match cl.args.toList with | x :: _ => keyOf (unc (opd C env x)) | [] => []), false)
  | .builtin .copy => (cl.args.toList.flatMap fun x => keyOf (unc (opd C env x)), false)
  | .builtin .clear => ((match cl.args.toList with | x :: _ => keyOf (unc (opd C env x)) | [] => []), false)
  | .value x => (o.dst.toList.flatMap subs ++ grow sto (grow sto (grow sto (cl.args.toList.flatMap (fun y => Ay6 (unc (opd C env y))) ++ Ay6 (unc (opd C env x))))), false)
  | _ => ([], true)
 | _ => ([], true)
def one : PV → Bool
 | .d (.v x) => x.oneCell'
 | .d (.sl _ _) | .d (.ifc _ _) => true
 | .bx _ _ _ | .ip _ | .os _ _ _ _ | .fn _ _ _ | .mp _ _ | .ms _ _ _ _ _ | .ep _ _ _ _ _ | .nz | .np _ _ => true
 | _ => false
theorem A4h {μ : Nmap} {w : World} {Z : Nat → Nat → Prop} {x : Value} {p : PV} (h1 : one p = true) (h : RP μ w Z x p) : x.oneCell' = true := by
 cases h <;> simp_all [one] <;> try rfl
 rename_i d h
 cases h <;> simp_all [one] <;> rfl
def flat : PV → Option (List PV)
 | .ag vs => if vs.all one then some vs else none
 | p => if one p then some [p] else none
theorem Aqq {μ : Nmap} {w : World} {Z : Nat → Nat → Prop} {x : Value} {p : PV} {vs : List PV} (h1 : flat p = some vs) (h : RP μ w Z x p) :
  RPs μ w Z x.cells.toList vs ∧ ∀ y ∈ x.cells.toList, y.oneCell' = true := by
 have single : one p = true → vs = [p] → RPs μ w Z x.cells.toList vs ∧ ∀ y ∈ x.cells.toList, y.oneCell' = true := by
  intro ho hv
  have h2 := A4h ho h
  have h3 : x.cells.toList = [x] := by cases x <;> simp_all [Value.cells, Value.oneCell']
  subst hv
  rw [h3]
  refine ⟨⟨rfl, fun i y q hy hq => ?_⟩, fun y hy => by simp at hy; subst hy; exact h2⟩
  cases i with
  | zero => simp at hy hq; subst hy; subst hq; exact h
  | succ i => simp at hy
 cases p <;> simp only [flat] at h1
 case ag ps =>
  split at h1 <;> simp at h1
  rename_i ho
  subst h1
  cases h with
  | ag _ us hl hh =>
   refine ⟨⟨by simpa [Value.cells] using hl, fun i y q hy hq => hh i y q (by simpa [Value.cells] using hy) hq⟩, fun y hy => ?_⟩
   simp only [Value.cells, List.mem_iff_getElem?] at hy
   obtain ⟨i, hi⟩ := hy
   have hi' : us[i]? = some y := by simpa using hi
   have hlt : i < ps.length := by
    rw [← hl]
    rcases Nat.lt_or_ge i us.length with h | h
    ·exact h
    ·rw [List.getElem?_eq_none h] at hi'; cases hi'
   exact A4h (List.all_eq_true.1 ho ps[i] (List.getElem_mem _)) (hh i y ps[i] hi' (List.getElem?_eq_getElem hlt))
 all_goals
  split at h1 <;> simp at h1
  rename_i ho
  exact single ho h1.symm
end Go.PL
namespace Go.PL
set_option linter.unusedSimpArgs false
set_option linter.unusedVariables false
set_option linter.unusedSectionVars false
open Tys (Ty U)
open Enc (sz enc dflt tb ofB toB)
open Dec (dec dok)
variable [Tys] [Enc] [Dec]
structure GIat (μ : Nmap) (w : World) (Z : Nat → Nat → Prop) (g : Nat) (ds : List D) : Prop where
  rp : RP μ w Z (.pointer (some ⟨g, 0, none⟩)) (.ip ds)
  shp : ∃ T, w.shape? g = some (T, ds.length)
theorem GIat.adv {μ μ' : Nmap} {m m' : Mem} {w w' : World} {Z Z' : Nat → Nat → Prop} {g : Nat} {ds : List D} (h : GIat μ w Z g ds) (a : Adv μ m Z w μ' m' Z' w') : GIat μ' w' Z' g ds :=
  ⟨h.rp.adv a, let ⟨T, hT⟩ := h.shp; ⟨T, a.shp _ _ hT⟩⟩
def GI (C : Ctx) (μ : Nmap) (w : World) (Z : Nat → Nat → Prop) : Prop :=
  ∀ g ds, C.gt g = some ds → GIat μ w Z g ds
def Trip (C : Ctx) (o : Oper) (gen : Nat) (e : Operand → PV) (fp fp' : Mem) (v : PV) : Prop :=
  ∀ (μ : Nmap) (w : World) (Z : Nat → Nat → Prop) (ρ : Operand → Value), GI C μ w Z → (∀ x ∈ o.op.operands, RP μ w Z (ρ x) (e x)) → WR μ fp Z w →
    (∀ d, o.dst = some d → μ d gen = none) →
    ∃ (val : Value) (w' : World) (μ' : Nmap) (Z' : Nat → Nat → Prop),
      ((execOp ρ o).run C.P w = .ok (.value val) w' ∨ ((execOp ρ o).run C.P w = .ok .skip w' ∧ val = undef)) ∧
      RP μ' w' Z' val v ∧ WR μ' fp' Z' w' ∧ Adv μ fp Z w μ' fp' Z' w' ∧ ∀ k g, ¬ (o.dst = some k ∧ g = gen) → μ' k g = μ k g
def OpR (C : Ctx) (o : Oper) (s : St) (v : PV) (sto' : List En) : Prop :=
  ∃ fp fp', Trip C o s.gen (opd C s.env) fp fp' v ∧ (∀ k g c, fp k g = some c → den s.sto k g = some c) ∧ den sto' = mput (den s.sto) fp fp' ∧
    (∀ k g, fp k g ≠ none ∨ fp' k g ≠ none → k ∈ (foot C s.env s.sto o).1) ∧ ((foot C s.env s.sto o).2 = true → fp = fp')
theorem Ala (m : Mem) : mput m emp emp = m := by funext k g; simp [mput, emp]
theorem Ahx {C : Ctx} {o : Oper} {gen : Nat} {e : Operand → PV} {fp : Mem} {v : PV}
    (h : ∀ (μ : Nmap) (w : World) (Z : Nat → Nat → Prop) (ρ : Operand → Value), GI C μ w Z → (∀ x ∈ o.op.operands, RP μ w Z (ρ x) (e x)) → WR μ fp Z w →
      ∃ val, (execOp ρ o).run C.P w = .ok (.value val) w ∧ RP μ w Z val v) : Trip C o gen e fp fp v := by
  intro μ w Z ρ hg hx hw _
  obtain ⟨val, h1, h2⟩ := h μ w Z ρ hg hx hw
  exact ⟨val, w, μ, Z, .inl h1, h2, hw, .refl, fun _ _ _ => rfl⟩
theorem opR_quiet {C : Ctx} {o : Oper} {s : St} {v : PV}
    (h : ∀ (μ : Nmap) (w : World) (Z : Nat → Nat → Prop) (ρ : Operand → Value), GI C μ w Z → (∀ x ∈ o.op.operands, RP μ w Z (ρ x) (opd C s.env x)) →
      ∃ val, (execOp ρ o).run C.P w = .ok (.value val) w ∧ RP μ w Z val v) : OpR C o s v s.sto :=
  ⟨emp, emp, Ahx fun μ w Z ρ hg hx _ => h μ w Z ρ hg hx, fun _ _ _ h => by simp [emp] at h, (Ala _).symm, fun k g h => by simp [emp] at h, fun _ => rfl⟩
def Snd (C : Ctx) (o : Oper) (ow c : Bool) (s : St) (ev : (PV → List En → Prop) → Prop) : Prop :=
  ∀ k, ev k → ∃ v sto', k v sto' ∧ (c = true → OpR C o s v sto') ∧ (ow = false → sto' = s.sto)
/-! ### operations without memory -/
def Ay7 (C : Ctx) (c : Bool) (s : St) (x : Operand) (k : PV → List En → Prop) : Prop := strip c (opd C s.env x) fun p => k p s.sto
theorem opMove_ok {C : Ctx} {o : Oper} {ow c : Bool} {s : St} {x : Operand} (ho : o.op = .move x ∨ o.op = .assign x) : Snd C o ow c s (Ay7 C c s x) := by
  intro k h
  obtain ⟨q, hk, hq⟩ := Aac (μ := fun _ _ => none) (w := default) (Z := fun _ _ => False) h
  refine ⟨q, s.sto, hk, fun hc => opR_quiet fun μ w Z ρ hg hx => ?_, fun _ => rfl⟩
  rcases ho with ho | ho <;> exact ⟨ρ x, by simp [execOp, ho], hq μ w Z _ hc (hx x (by simp [ho, Op.operands]))⟩
def bl (b : Bool) : PV := .d (.v (.bool b))
def it (k : IntKind) (n : Int) : PV := .d (.v (.int k n))
def st (s : ByteArray) : PV := .d (.v (.string s))
theorem RP.val {μ : Nmap} {w : World} {Z : Nat → Nat → Prop} {x y : Value} (h : RP μ w Z x (.d (.v y))) : x = y := by
  cases h with
  | d _ _ h => cases h; rfl
theorem RP.ofVal (μ : Nmap) (w : World) (Z : Nat → Nat → Prop) (y : Value) : RP μ w Z y (.d (.v y)) := .d _ _ (.v _)
def opAnd (C : Ctx) (A : Ar) (c : Bool) (s : St) (x a : Operand) (k : PV → List En → Prop) : Prop :=
  strip c (opd C s.env x) fun p => match p with
  | .d (.v (.bool B)) => match opd C s.env a with
    | .d (.v (.bool X)) => k (bl (A.and B X)) s.sto
    | .cond c' (.d (.v (.bool X))) => vc c (vc B (c' = true)) ∧ k (bl (A.and B X)) s.sto
    | _ => False
  | _ => False
def opOr (C : Ctx) (A : Ar) (c : Bool) (s : St) (x b : Operand) (k : PV → List En → Prop) : Prop :=
  strip c (opd C s.env x) fun p => match p with
  | .d (.v (.bool B)) => match opd C s.env b with
    | .d (.v (.bool X)) => k (bl (A.or B X)) s.sto
    | .cond c' (.d (.v (.bool X))) => vc c (vc (A.not B) (c' = true)) ∧ k (bl (A.or B X)) s.sto
    | _ => False
  | _ => False
theorem A3f {C : Ctx} {A : Ar} {o : Oper} {ow c : Bool} {s : St} {x a : Operand} (hA : A = std) (ho : o.op = .pick x a (.const (.bool false))) : Snd C o ow c s (opAnd C A c s x a) := by
  intro k h
  obtain ⟨q, hk, hq⟩ := Aac (μ := fun _ _ => none) (w := default) (Z := fun _ _ => False) h
  subst hA
  have key : ∀ B X, q = .d (.v (.bool B)) → (∀ μ w Z y, c = true → B = true → RP μ w Z y (opd C s.env a) → y = .bool X) → c = true →
      OpR C o s (bl (std.and B X)) s.sto := by
    intro B X hB hX hc
    refine opR_quiet fun μ w Z ρ hg hx => ?_
    have h1 : ρ x = .bool B := (hB ▸ hq μ w Z _ hc (hx x (by simp [ho, Op.operands]))).val
    have hf : ρ (.const (.bool false)) = .bool false := (hx (.const (.bool false)) (by simp [ho, Op.operands])).val
    cases B with
    | false => exact ⟨.bool false, by simp [execOp, ho, h1, asBool, hf], RP.ofVal ..⟩
    | true => exact ⟨.bool X, by simp [execOp, ho, h1, asBool, hX μ w Z _ hc rfl (hx a (by simp [ho, Op.operands]))], RP.ofVal ..⟩
  split at hk
  · rename_i B
    split at hk
    · rename_i X hX
      exact ⟨_, _, hk, key B X rfl fun μ w Z y _ _ hy => by rw [hX] at hy; exact hy.val, fun _ => rfl⟩
    · rename_i c' X hX
      refine ⟨_, _, hk.2, key B X rfl fun μ w Z y hc hB hy => ?_, fun _ => rfl⟩
      rw [hX] at hy
      cases hy with
      | cond _ _ _ hy _ => exact (hy (Aae (Aae hk.1 hc) hB)).val
    · exact hk.elim
  · exact hk.elim
theorem A4q {C : Ctx} {A : Ar} {o : Oper} {ow c : Bool} {s : St} {x b : Operand} (hA : A = std) (ho : o.op = .pick x (.const (.bool true)) b) : Snd C o ow c s (opOr C A c s x b) := by
  intro k h
  obtain ⟨q, hk, hq⟩ := Aac (μ := fun _ _ => none) (w := default) (Z := fun _ _ => False) h
  subst hA
  have key : ∀ B X, q = .d (.v (.bool B)) → (∀ μ w Z y, c = true → B = false → RP μ w Z y (opd C s.env b) → y = .bool X) → c = true →
      OpR C o s (bl (std.or B X)) s.sto := by
    intro B X hB hX hc
    refine opR_quiet fun μ w Z ρ hg hx => ?_
    have h1 : ρ x = .bool B := (hB ▸ hq μ w Z _ hc (hx x (by simp [ho, Op.operands]))).val
    have hf : ρ (.const (.bool true)) = .bool true := (hx (.const (.bool true)) (by simp [ho, Op.operands])).val
    cases B with
    | true => exact ⟨.bool true, by simp [execOp, ho, h1, asBool, hf], RP.ofVal ..⟩
    | false => exact ⟨.bool X, by simp [execOp, ho, h1, asBool, hX μ w Z _ hc rfl (hx b (by simp [ho, Op.operands]))], RP.ofVal ..⟩
  split at hk
  · rename_i B
    split at hk
    · rename_i X hX
      exact ⟨_, _, hk, key B X rfl fun μ w Z y _ _ hy => by rw [hX] at hy; exact hy.val, fun _ => rfl⟩
    · rename_i c' X hX
      refine ⟨_, _, hk.2, key B X rfl fun μ w Z y hc hB hy => ?_, fun _ => rfl⟩
      rw [hX] at hy
      cases hy with
      | cond _ _ _ hy _ => exact (hy (Aae (Aae hk.1 hc) (by simp [std, hB]))).val
    · exact hk.elim
  · exact hk.elim
def binD (A : Ar) (c : Bool) (op : BinOp) (x y : PV) (k : PV → Prop) : Prop := match x, y with
  | .d (.v (.int ka a)), .d (.v (.int kb b)) => match op with
    | .add | .sub | .mul | .and | .or | .xor | .andNot => (ka = kb) ∧ k (it ka (A.ar op ka a b))
    | .quo | .rem => (ka = kb) ∧ vc c (A.nz b) ∧ k (it ka (A.ar op ka a b))
    | .shl | .shr => vc c (A.nn b) ∧ k (it ka (A.ar op ka a b))
    | .eql | .neq | .lss | .leq | .gtr | .geq => (ka = kb) ∧ k (bl (A.cmp op a b))
  | .d (.v (.string a)), .d (.v (.string b)) => match op with
    | .add => vc c (A.catOk a b) ∧ k (st (A.cat a b))
    | .eql | .neq | .lss | .leq | .gtr | .geq => k (bl (A.scmp op a b))
    | _ => False
  | _, _ => False
def opBin (C : Ctx) (A : Ar) (c : Bool) (s : St) (op : BinOp) (x y : Operand) (k : PV → List En → Prop) : Prop :=
  strip c (opd C s.env x) fun p => strip c (opd C s.env y) fun q => binD A c op p q fun v => k v s.sto
theorem A4r {P : Program} {A : Ar} {c : Bool} {op : BinOp} {x y : PV} {k : PV → Prop} (hA : A = std) (h : binD A c op x y k) :
    ∃ v, k v ∧ (c = true → ∀ (μ : Nmap) (w : World) (Z : Nat → Nat → Prop) (a b : Value) (t : TypeId) (X Y : Operand), RP μ w Z a x → RP μ w Z b y → ∃ val, (do eqGuard op t X Y a b; binOp op t a b : Sem Value).run P w = .ok val w ∧ RP μ w Z val v) := by
  subst hA
  unfold binD at h
  split at h
  · rename_i ka a kb b
    cases op <;> simp only [] at h
    all_goals first
      | (obtain ⟨rfl, hk⟩ := h
         refine ⟨_, hk, fun hc μ w Z x y t X Y hx hy => ?_⟩
         rw [hx.val, hy.val]
         exact ⟨_, by simp [eqGuard, binOp, Op.intArith, Op.intBits, Op.intCmp, Go.Op.intDiv, std, arStd, Apb]; try rfl, RP.ofVal ..⟩)
      | (obtain ⟨rfl, hz, hk⟩ := h
         refine ⟨_, hk, fun hc μ w Z x y t X Y hx hy => ?_⟩
         rw [hx.val, hy.val]
         have hz' : b ≠ 0 := Aae hz hc
         exact ⟨_, by simp [eqGuard, binOp, Op.intArith, Op.intBits, Op.intCmp, Go.Op.intDiv, std, arStd, Apb, hz']; try rfl, RP.ofVal ..⟩)
      | (obtain ⟨hz, hk⟩ := h
         refine ⟨_, hk, fun hc μ w Z x y t X Y hx hy => ?_⟩
         rw [hx.val, hy.val]
         have hz' : ¬ b < 0 := by have : 0 ≤ b := Aae hz hc; omega
         exact ⟨_, by simp [eqGuard, binOp, Op.shift, std, arStd, hz']; try rfl, RP.ofVal ..⟩)
  · rename_i a b
    cases op <;> simp only [] at h
    all_goals first
      | exact h.elim
      | (refine ⟨_, h, fun hc μ w Z x y t X Y hx hy => ?_⟩
         rw [hx.val, hy.val]
         exact ⟨_, by simp [eqGuard, binOp, Op.stringOp, std, Axa]; try rfl, RP.ofVal ..⟩)
      | (obtain ⟨hz, hk⟩ := h
         refine ⟨_, hk, fun hc μ w Z x y t X Y hx hy => ?_⟩
         rw [hx.val, hy.val]
         have hz' : a.size + b.size ≤ 9223372036854775807 := Aae hz hc
         refine ⟨_, ?_, RP.ofVal ..⟩
         have : ¬ (((a.size + b.size : Nat) : Int) > IntKind.i64.max) := by
           have : IntKind.i64.max = 9223372036854775807 := by decide
           rw [this]; omega
         simp [eqGuard, binOp, Op.stringOp, this, std]
         simp at this
         omega)
  · exact h.elim
theorem Ato {C : Ctx} {A : Ar} {o : Oper} {ow c : Bool} {s : St} {op : BinOp} {t t' : TypeId} {x y : Operand} (hA : A = std) (ho : o.op = .binOp op t x y t') : Snd C o ow c s (opBin C A c s op x y) := by
  intro k h
  obtain ⟨p, h, hp⟩ := Aac (μ := fun _ _ => none) (w := default) (Z := fun _ _ => False) h
  obtain ⟨q, h, hq⟩ := Aac (μ := fun _ _ => none) (w := default) (Z := fun _ _ => False) h
  obtain ⟨v, hk, hv⟩ := A4r (P := C.P) hA h
  refine ⟨v, s.sto, hk, fun hc => opR_quiet fun μ w Z ρ hg hx => ?_, fun _ => rfl⟩
  obtain ⟨val, h1, h2⟩ := hv hc μ w Z (ρ x) (ρ y) t x y (hp μ w Z _ hc (hx x (by simp [ho, Op.operands]))) (hq μ w Z _ hc (hx y (by simp [ho, Op.operands])))
  refine ⟨val, ?_, h2⟩
  have he : execOp ρ o = (do let r ← (do eqGuard op t x y (ρ x) (ρ y); binOp op t (ρ x) (ρ y) : Sem Value); pure (Next.value r)) := by simp only [execOp, ho]
  rw [he, Sem.run_bind, h1]; rfl
end Go.PL
namespace Go.PL
set_option linter.unusedSimpArgs false
set_option linter.unusedVariables false
set_option linter.unusedSectionVars false
open Tys (Ty U)
open Enc (sz enc dflt tb ofB toB)
open Dec (dec dok)
variable [Tys] [Enc] [Dec]
theorem addr_add (b o n : Nat) : (⟨b, o, none⟩ : Addr).add n = ⟨b, o + n, none⟩ := by unfold Addr.add; split <;> simp_all
theorem und {P : Program} {t : TypeId} {d : TypeDesc} (h : P.underlying t = some d) (w : World) : (underlying t).run P w = .ok d w := by
 unfold underlying; simp [h]
theorem szOf {P : Program} {t : TypeId} {i : TypeInfo} (h : P.info? t = some i) (w : World) : (sizeOf t).run P w = .ok i.size w := by
 unfold sizeOf typeInfo; simp [h]
theorem KOk.slice {d : TypeDesc} {e : TypeId} (h : KOk d (.slice e)) : d = .slice e := by cases d <;> simp_all [KOk]
theorem KOk.string {d : TypeDesc} (h : KOk d .string) : d = .string := by cases d <;> simp_all [KOk]
theorem KOk.int {d : TypeDesc} {k : IntKind} (h : KOk d (.int k)) : d = .int k := by cases d <;> simp_all [KOk]
theorem KOk.bool {d : TypeDesc} (h : KOk d .bool) : d = .bool := by cases d <;> simp_all [KOk]
theorem KOk.ptr {d : TypeDesc} {e : TypeId} (h : KOk d (.ptr e)) : d = .pointer e := by cases d <;> simp_all [KOk]
theorem KOk.uns {d : TypeDesc} (h : KOk d .uns) : d = .unsafePointer := by cases d <;> simp_all [KOk]
theorem KOk.iface {d : TypeDesc} (h : KOk d .iface) : ∃ ms, d = .interface ms := by cases d <;> simp_all [KOk]
theorem KOk.func {d : TypeDesc} (h : KOk d .func) : ∃ a b c, d = .func a b c := by cases d <;> simp_all [KOk]
theorem KOk.map {d : TypeDesc} {k e : TypeId} (h : KOk d (.map k e)) : d = .map k e := by cases d <;> simp_all [KOk]
theorem KOk.array {d : TypeDesc} {n e : TypeId} (h : KOk d (.array n e)) : d = .array n e := by cases d <;> simp_all [KOk]
theorem KOk.struct {d : TypeDesc} {fs : List (Nat × TypeId)} (h : KOk d (.struct fs)) : ∃ F, d = .struct F ∧ F.toList.map (fun f => (f.offset, f.type)) = fs := by cases d <;> simp_all [KOk]
theorem KOk.agg {d : TypeDesc} {k : TK} (h : KOk d k) : (match d with | .struct _ | .array _ _ => true | _ => false) = k.agg := by
 cases d <;> cases k <;> first | rfl | exact False.elim h
theorem Aju {P : Program} {t : TypeId} {r : TR} (h : TOk P t r) (w : World) : (isAgg t).run P w = .ok r.k.agg w := by
 obtain ⟨i, d, _, h2, _, _, _, h5⟩ := h
 have := h5.agg
 unfold isAgg
 rw [Sem.run_bind, und h2 w]
 cases d <;> simp_all
theorem Ahy {P : Program} {t : TypeId} {r : TR} (h : TOk P t r) (w : World) (b off : Nat) (cs : List Value) (hc : ∀ (j : Nat) (v : Value), cs[j]? = some v → w.cell? ⟨b, off + j, none⟩ = some v)
  (ha : r.k.agg = true) (hl : cs.length = r.size) : (loadVar t ⟨b, off, none⟩).run P w = .ok (.agg cs.toArray) w := by
 obtain ⟨i, d, h1, h2, h3, _, _, h5⟩ := id h
 have hl' := run_loadCells_list (P := P) w ⟨b, off, none⟩ cs (fun j v hv => by rw [addr_add]; exact hc j v hv)
 rw [hl] at hl'
 simp [loadVar, Sem.run_bind, Aju h, ha, szOf h1, h3, hl']
theorem Alb {P : Program} {t : TypeId} {r : TR} (h : TOk P t r) (w : World) (b off : Nat) (x : Value) (hc : w.cell? ⟨b, off, none⟩ = some x)
  (ha : r.k.agg = false) : (loadVar t ⟨b, off, none⟩).run P w = .ok x w := by
 simp [loadVar, Sem.run_bind, Aju h, ha, hc]
/-! ### loads -/
def Aqr (r : TR) (ds : List D) (k : PV → List En → Prop) (sto : List En) : Prop := match r.k.agg with
 | true => (r.size ≤ ds.length) ∧ k (.ag ((ds.take r.size).map un)) sto
 | false => match ds with
  | q :: _ => k (un q) sto
  | [] => False
theorem Au7 {P : Program} {T : TypeId} {r : TR} (hT : TOk P T r) {ds : List D} {k : PV → List En → Prop} {sto : List En} (h : Aqr r ds k sto) :
  ∃ q, k q sto ∧ ∀ μ w Z y, RP μ w Z y (.ip ds) → ∃ v b off, y = .pointer (some ⟨b, off, none⟩) ∧ (loadVar T ⟨b, off, none⟩).run P w = .ok v w ∧ RP μ w Z v q := by
 unfold Aqr at h
 split at h
 ·rename_i ha
  refine ⟨_, h.2, fun μ w Z y hy => ?_⟩
  cases hy with
  | ip _ b off vs hh =>
   have hcs : ∀ (j : Nat) (v : Value), ((List.range r.size).map vs)[j]? = some v → w.cell? ⟨b, off + j, none⟩ = some v := by
    intro j v hv
    rw [List.getElem?_map] at hv
    rcases Nat.lt_or_ge j r.size with h2 | h2
    ·rw [List.getElem?_range h2] at hv
     simp at hv; subst hv
     have h3 : j < ds.length := Nat.lt_of_lt_of_le h2 h.1
     exact (hh j ds[j] (List.getElem?_eq_getElem h3)).1
    ·rw [List.getElem?_eq_none (by simpa using h2)] at hv; cases hv
   refine ⟨_, b, off, rfl, Ahy hT w b off _ hcs ha (by simp), ?_⟩
   refine .ag _ _ (by have := h.1; simp; omega) fun i x q hx hq => ?_
   rw [List.getElem?_map] at hx hq
   rcases Nat.lt_or_ge i r.size with h2 | h2
   ·rw [List.getElem?_range h2] at hx
    have h3 : i < ds.length := Nat.lt_of_lt_of_le h2 h.1
    rw [List.getElem?_take, if_pos h2, List.getElem?_eq_getElem h3] at hq
    simp at hx hq; subst hx; subst hq
    exact un_ok (hh i ds[i] (List.getElem?_eq_getElem h3)).2.2
   ·rw [List.getElem?_eq_none (by simpa using h2)] at hx; cases hx
 ·rename_i ha
  split at h
  ·rename_i q rest
   refine ⟨_, h, fun μ w Z y hy => ?_⟩
   cases hy with
   | ip _ b off vs hh =>
    obtain ⟨h2, h3, h4⟩ := hh 0 q rfl
    exact ⟨_, b, off, rfl, Alb hT w b off _ h2 ha, un_ok h4⟩
  ·exact h.elim
def opLoad (C : Ctx) (c : Bool) (s : St) (T : TypeId) (x : Operand) (k : PV → List En → Prop) : Prop :=
 match C.ti T with
 | none => False
 | some r => strip c (opd C s.env x) fun p => match p with
  | .bx kk g o => match find s.sto kk with
   | some (g', .box _ vs) => vc c (g' = g) ∧ (match r.k.agg with
    | true => (o + r.size ≤ vs.length) ∧ k (.ag ((vs.drop o).take r.size)) s.sto
    | false => match vs[o]? with
     | some q => k q s.sto
     | none => False)
   | some (g', .froz _ ds) => vc c (g' = g) ∧ Aqr r (ds.drop o) k s.sto
   | _ => False
  | .ip ds => Aqr r ds k s.sto
  | _ => False
theorem opLoad_ok {C : Ctx} (hC : C.OK) {o : Oper} {ow c : Bool} {s : St} {T : TypeId} {x : Operand} (ho : o.op = .load T x) : Snd C o ow c s (opLoad C c s T x) := by
 intro k h
 unfold opLoad at h
 split at h
 ·exact h.elim
 rename_i r hr
 have hT := hC.ti T r hr
 obtain ⟨p, hpu, h, hp⟩ := Acz h
 have hrun : ∀ (w : World) (ρ : Operand → Value) (b off : Nat) (v : Value), ρ x = .pointer (some ⟨b, off, none⟩) → (loadVar T ⟨b, off, none⟩).run C.P w = .ok v w →
   (execOp ρ o).run C.P w = .ok (.value v) w := by
  intro w ρ b off v h1 h2
  simp [execOp, ho, h1, Instr.loadAt, Instr.sureAddr, h2]
 split at h
 ·rename_i kk g off
  split at h
  ·rename_i g' TT vs hf
   obtain ⟨hg, h⟩ := h
   -- the cells of the box
   have cells : ∀ (μ : Nmap) (w : World) (Z : Nat → Nat → Prop) (ρ : Operand → Value), c = true → (∀ y ∈ o.op.operands, RP μ w Z (ρ y) (opd C s.env y)) → WR μ (single kk g' (.box TT vs)) Z w →
     ∃ b cs, ρ x = .pointer (some ⟨b, off, none⟩) ∧ RPs μ w Z cs vs ∧ ∀ (j : Nat) (v : Value), cs[j]? = some v → w.cell? ⟨b, j, none⟩ = some v := by
    intro μ w Z ρ hc hx hw
    obtain rfl := Aae hg hc
    have h1 := hp μ w Z _ hc (hx x (by simp [ho, Op.operands]))
    obtain ⟨b, cs, h2, h3, h4, _⟩ := hw.ent kk g' (.box TT vs) (by simp [single])
    generalize hy : ρ x = y at h1
    cases h1 with
    | bx _ _ _ b' h5 =>
     rw [h2] at h5; obtain rfl := Option.some.inj (Option.some.inj h5)
     exact ⟨b, cs.toList, rfl, h4, fun j v hv => by rw [cell_of_row w b j cs TT _ h3]; simpa using hv⟩
   have hden : ∀ k1 g1 c1, single kk g' (.box TT vs) k1 g1 = some c1 → den s.sto k1 g1 = some c1 := by
    intro k1 g1 c1 h1
    simp only [single] at h1
    split at h1 <;> simp at h1
    rename_i h2
    obtain ⟨rfl, rfl⟩ := h2
    subst h1
    exact Aa6 hf
   have hput : den s.sto = mput (den s.sto) (single kk g' (.box TT vs)) (single kk g' (.box TT vs)) := by
    funext k1 g1
    simp only [mput, single]
    split
    ·rename_i c1 h1
     split at h1 <;> simp at h1
     rename_i h2
     obtain ⟨rfl, rfl⟩ := h2
     subst h1
     exact Aa6 hf
    ·rename_i h1
     split at h1 <;> simp at h1
     rename_i h2
     simp [h2]
   have hft : ∀ k1 g1, single kk g' (.box TT vs) k1 g1 ≠ none ∨ single kk g' (.box TT vs) k1 g1 ≠ none → k1 ∈ (foot C s.env s.sto o).1 := by
    intro k1 g1 h1
    simp only [foot, ho, ← hpu, keyOf]
    simp only [single, or_self] at h1
    split at h1
    ·rename_i h2; simp [h2.1]
    ·simp at h1
   split at h
   ·rename_i ha
    refine ⟨_, _, h.2, fun hc => ⟨_, _, Ahx fun μ w Z ρ _ hx hw => ?_, hden, hput, hft, fun _ => rfl⟩, fun _ => rfl⟩
    obtain ⟨b, cs, h1, h2, h3⟩ := cells μ w Z ρ hc hx hw
    have hl : ((cs.drop off).take r.size).length = r.size := by
     have := h2.1; have := h.1
     simp; omega
    refine ⟨_, hrun w ρ b off _ h1 (Ahy hT w b off ((cs.drop off).take r.size) (fun j v hv => ?_) ha hl), ?_⟩
    ·apply h3
     rw [List.getElem?_take] at hv
     split at hv
     ·rw [List.getElem?_drop] at hv; exact hv
     ·cases hv
    ·refine .ag _ _ (by have := h2.1; simp; omega) fun i y q hy hq => ?_
     rw [List.getElem?_take] at hy hq
     split at hy
     ·rename_i hi
      simp only [hi, if_true, List.getElem?_drop] at hq hy
      exact h2.2 (off + i) y q hy hq
     ·cases hy
   ·rename_i ha
    split at h
    ·rename_i q hq
     refine ⟨_, _, h, fun hc => ⟨_, _, Ahx fun μ w Z ρ _ hx hw => ?_, hden, hput, hft, fun _ => rfl⟩, fun _ => rfl⟩
     obtain ⟨b, cs, h1, h2, h3⟩ := cells μ w Z ρ hc hx hw
     have hlt : off < cs.length := by
      rw [h2.1]
      rcases Nat.lt_or_ge off vs.length with h | h
      ·exact h
      ·rw [List.getElem?_eq_none h] at hq; cases hq
     have hy : cs[off]? = some cs[off] := List.getElem?_eq_getElem hlt
     exact ⟨_, hrun w ρ b off _ h1 (Alb hT w b off _ (h3 off _ hy) ha), h2.2 off _ q hy hq⟩
    ·exact h.elim
  ·rename_i g' TT ds hf
   obtain ⟨hg, h⟩ := h
   obtain ⟨q, h, hq⟩ := Au7 hT h
   have cells : ∀ (μ : Nmap) (w : World) (Z : Nat → Nat → Prop) (ρ : Operand → Value), c = true → (∀ y ∈ o.op.operands, RP μ w Z (ρ y) (opd C s.env y)) → WR μ (single kk g' (.froz TT ds)) Z w →
     RP μ w Z (ρ x) (.ip (ds.drop off)) := by
    intro μ w Z ρ hc hx hw
    obtain rfl := Aae hg hc
    have h1 := hp μ w Z _ hc (hx x (by simp [ho, Op.operands]))
    obtain ⟨b, vs, h2, h3, h4⟩ := hw.ent kk g' (.froz TT ds) (by simp [single])
    generalize hy : ρ x = y at h1
    cases h1 with
    | bx _ _ _ b' h5 =>
     rw [h2] at h5; obtain rfl := Option.some.inj (Option.some.inj h5)
     refine .ip _ _ _ (fun i => vs (off + i)) fun i d hd => ?_
     rw [List.getElem?_drop] at hd
     exact h4 _ d hd
   have hden : ∀ k1 g1 c1, single kk g' (.froz TT ds) k1 g1 = some c1 → den s.sto k1 g1 = some c1 := by
    intro k1 g1 c1 h1
    simp only [single] at h1
    split at h1 <;> simp at h1
    rename_i h2
    obtain ⟨rfl, rfl⟩ := h2
    subst h1
    exact Aa6 hf
   have hput : den s.sto = mput (den s.sto) (single kk g' (.froz TT ds)) (single kk g' (.froz TT ds)) := by
    funext k1 g1
    simp only [mput, single]
    split
    ·rename_i c1 h1
     split at h1 <;> simp at h1
     rename_i h2
     obtain ⟨rfl, rfl⟩ := h2
     subst h1
     exact Aa6 hf
    ·rename_i h1
     split at h1 <;> simp at h1
     rename_i h2
     simp [h2]
   have hft : ∀ k1 g1, single kk g' (.froz TT ds) k1 g1 ≠ none ∨ single kk g' (.froz TT ds) k1 g1 ≠ none → k1 ∈ (foot C s.env s.sto o).1 := by
    intro k1 g1 h1
    simp only [foot, ho, ← hpu, keyOf]
    simp only [single, or_self] at h1
    split at h1
    ·rename_i h2; simp [h2.1]
    ·simp at h1
   refine ⟨_, _, h, fun hc => ⟨_, _, Ahx fun μ w Z ρ _ hx hw => ?_, hden, hput, hft, fun _ => rfl⟩, fun _ => rfl⟩
   obtain ⟨v, b, off', h1, h2, h3⟩ := hq μ w Z _ (cells μ w Z ρ hc hx hw)
   exact ⟨v, hrun w ρ b off' v h1 h2, h3⟩
  ·exact h.elim
 ·rename_i ds
  obtain ⟨q, h, hq⟩ := Au7 hT h
  refine ⟨_, _, h, fun hc => opR_quiet fun μ w Z ρ hg hx => ?_, fun _ => rfl⟩
  obtain ⟨v, b, off', h1, h2, h3⟩ := hq μ w Z _ (hp μ w Z _ hc (hx x (by simp [ho, Op.operands])))
  exact ⟨v, hrun w ρ b off' v h1 h2, h3⟩
 ·exact h.elim
/-! ### places -/
def opField (C : Ctx) (c : Bool) (s : St) (T : TypeId) (x : Operand) (f : Nat) (k : PV → List En → Prop) : Prop :=
 match C.ti T with
 | some ⟨.struct fs, _, _, _⟩ => match fs[f]? with
  | some (off, ft) => match C.ti ft with
   | some r => (r.size ≠ 0) ∧ strip c (opd C s.env x) fun p => match p with
    | .bx kk g o => k (.bx kk g (o + off)) s.sto
    | .ip ds => k (.ip (ds.drop off)) s.sto
    | _ => False
   | none => False
  | none => False
 | _ => False
theorem opField_ok {C : Ctx} (hC : C.OK) {o : Oper} {ow c : Bool} {s : St} {T : TypeId} {x : Operand} {f : Nat} (ho : o.op = .fieldAddr T x f) : Snd C o ow c s (opField C c s T x f) := by
 intro k h
 unfold opField at h
 split at h
 ·rename_i fs _ _ _ hT
  split at h
  ·rename_i off ft hf
   split at h
   ·rename_i r hr
    obtain ⟨h0, h⟩ := h
    obtain ⟨p, h, hp⟩ := Aac (μ := fun _ _ => none) (w := default) (Z := fun _ _ => False) h
    obtain ⟨i, d, _, h2, _, _, _, h5⟩ := hC.ti T _ hT
    obtain ⟨F, rfl, hF⟩ := KOk.struct h5
    obtain ⟨i', d', h6, _, h7, _⟩ := hC.ti ft r hr
    have hfi : ∃ g, F[f]? = some g ∧ g.offset = off ∧ g.type = ft := by
     rw [← hF, List.getElem?_map] at hf
     cases hq : F.toList[f]? with
     | none => rw [hq] at hf; simp at hf
     | some g => rw [hq] at hf; simp at hf; exact ⟨g, by simpa using hq, hf.1, hf.2⟩
    obtain ⟨fl, hfl, rfl, rfl⟩ := hfi
    have hrun : ∀ (w : World) (ρ : Operand → Value) (b o' : Nat), ρ x = .pointer (some ⟨b, o', none⟩) → (execOp ρ o).run C.P w = .ok (.value (.pointer (some ⟨b, o' + fl.offset, none⟩))) w := by
     intro w ρ b o' h1
     have h8 : ¬ (i'.size = 0) := by rw [h7]; exact h0
     simp [execOp, ho, h1, Instr.fieldAt, Instr.sureAddr, und h2, hfl, fieldPlace, szOf h6, h8, addr_add]
    split at h
    ·rename_i kk g o'
     refine ⟨_, _, h, fun hc => opR_quiet fun μ w Z ρ hg hx => ?_, fun _ => rfl⟩
     have h1 := hp μ w Z _ hc (hx x (by simp [ho, Op.operands]))
     generalize hy : ρ x = y at h1
     cases h1 with
     | bx _ _ _ b hb => exact ⟨_, hrun w ρ b o' hy, .bx _ _ _ _ hb⟩
    ·rename_i ds
     refine ⟨_, _, h, fun hc => opR_quiet fun μ w Z ρ hg hx => ?_, fun _ => rfl⟩
     have h1 := hp μ w Z _ hc (hx x (by simp [ho, Op.operands]))
     generalize hy : ρ x = y at h1
     cases h1 with
     | ip _ b o' vs hh =>
      refine ⟨_, hrun w ρ b o' hy, .ip _ _ _ (fun i => vs (fl.offset + i)) fun i d hd => ?_⟩
      rw [List.getElem?_drop] at hd
      have := hh _ _ hd
      rw [← Nat.add_assoc] at this
      exact this
    ·exact h.elim
   ·exact h.elim
  ·exact h.elim
 ·exact h.elim
def opIdxA (C : Ctx) (A : Ar) (c : Bool) (s : St) (T : TypeId) (x i : Operand) (k : PV → List En → Prop) : Prop :=
 match C.ti T with
 | some ⟨.slice e, _, _, _⟩ => match C.ti e with
  | some r => strip c (opd C s.env i) fun q => match q with
   | .d (.v (.int _ n)) => strip c (opd C s.env x) fun p => match p with
    | .d (.sl t xs) => (r.size = sz t) ∧ vc c (A.inb n (A.len t xs)) ∧ k (.ip (enc t (A.get t xs n))) s.sto
    | .os _ _ t xs => (r.size = sz t) ∧ vc c (A.inb n (A.len t xs)) ∧ k (.ip (enc t (A.get t xs n))) s.sto
    | _ => False
   | _ => False
  | none => False
 | _ => False
theorem RP.os_sl {μ : Nmap} {w : World} {Z : Nat → Nat → Prop} {x : Value} {k g : Nat} {t : Ty} {xs : List (U t)} (h : RP μ w Z x (.os k g t xs)) : RD w Z x (.sl t xs) := by
 generalize hp : PV.os k g t xs = p at h
 cases h <;> simp at hp
 case osN h =>
  obtain ⟨rfl, rfl, rfl, h⟩ := hp
  simp at h; subst h; exact .nil _ _ _
 case os h1 h2 h3 h4 h5 h6 =>
  obtain ⟨rfl, rfl, rfl, h⟩ := hp
  simp at h; subst h; exact h2
theorem RD.elem {w : World} {Z : Nat → Nat → Prop} {x : Value} {t : Ty} {xs : List (U t)} (h : RD w Z x (.sl t xs)) {n : Int} (h0 : 0 ≤ n) (h1 : n < xs.length) :
  ∃ b off cap, x = .slice (some ⟨b, off, none⟩) xs.length cap ∧ ∀ μ, RP μ w Z (.pointer (some ⟨b, off + n.toNat * sz t, none⟩)) (.ip (enc t (xs.getD n.toNat (dflt t)))) := by
 generalize hp : D.sl t xs = p at h
 cases h <;> simp at hp
 case nil t' a cap =>
  obtain ⟨rfl, h⟩ := hp
  simp at h; subst h; simp at h1; omega
 case sl t' xs' b off cap vs hl hc hr =>
  obtain ⟨rfl, h⟩ := hp
  simp at h; subst h
  have hlt : n.toNat < xs.length := by omega
  refine ⟨b, off, cap, rfl, fun μ => .ip _ b _ (vs n.toNat) fun i d hd => ?_⟩
  have hi : i < sz t := by
   rcases Nat.lt_or_ge i (sz t) with h | h
   ·exact h
   ·rw [List.getElem?_eq_none (by rw [Enc.len]; exact h)] at hd; cases hd
  obtain ⟨h2, h3⟩ := hc n.toNat i hlt hi
  have h4 : xs[n.toNat]? = some (xs.getD n.toNat (dflt t)) := by
   rw [List.getD_eq_getElem?_getD, List.getElem?_eq_getElem hlt]; rfl
  exact ⟨by rw [Nat.add_assoc]; exact h2, by rw [Nat.add_assoc]; exact h3, hr _ i _ d h4 hd⟩
theorem opIdxA_ok {C : Ctx} {A : Ar} (hA : A = std) (hC : C.OK) {o : Oper} {ow c : Bool} {s : St} {T : TypeId} {x i : Operand} (ho : o.op = .indexAddr T x i) : Snd C o ow c s (opIdxA C A c s T x i) := by
 subst hA
 intro k h
 unfold opIdxA at h
 split at h
 ·rename_i e _ _ _ hT
  split at h
  ·rename_i r hr
   obtain ⟨q, h, hq⟩ := Aac (μ := fun _ _ => none) (w := default) (Z := fun _ _ => False) h
   split at h
   ·rename_i kk n
    obtain ⟨p, h, hp⟩ := Aac (μ := fun _ _ => none) (w := default) (Z := fun _ _ => False) h
    obtain ⟨_, d, _, h2, _, _, _, h5⟩ := hC.ti T _ hT
    obtain rfl := KOk.slice h5
    obtain ⟨i', d', h6, _, h7, _⟩ := hC.ti e r hr
    have key : ∀ (t : Ty) (xs : List (U t)), (∀ μ w Z y, c = true → RP μ w Z y (opd C s.env x) → RD w Z y (.sl t xs)) → r.size = sz t → vc c (std.inb n (std.len t xs)) → c = true →
      OpR C o s (.ip (enc t (std.get t xs n))) s.sto := by
     intro t xs hx' hsz hv hc
     obtain ⟨h8, h9⟩ : 0 ≤ n ∧ n < xs.length := Aae hv hc
     refine opR_quiet fun μ w Z ρ hg hx => ?_
     have h1 : ρ i = .int kk n := (hq μ w Z _ hc (hx i (by simp [ho, Op.operands]))).val
     obtain ⟨b, off, cap, h10, h11⟩ := (hx' μ w Z _ hc (hx x (by simp [ho, Op.operands]))).elem h8 h9
     refine ⟨_, ?_, h11 μ⟩
     simp [execOp, ho, h1, h10, Instr.indexAt, asIntOf, und h2, h8, h9, szOf h6, addr_add, h7, hsz]
    split at h
    ·rename_i t xs
     exact ⟨_, _, h.2.2, key t xs (fun μ w Z y hc hy => by
      have := hp μ w Z y hc hy
      cases this with
      | d _ _ h => exact h) h.1 h.2.1, fun _ => rfl⟩
    ·rename_i k' g' t xs
     exact ⟨_, _, h.2.2, key t xs (fun μ w Z y hc hy => (hp μ w Z y hc hy).os_sl) h.1 h.2.1, fun _ => rfl⟩
    ·exact h.elim
   ·exact h.elim
  ·exact h.elim
 ·exact h.elim
end Go.PL
namespace Go.PL
set_option linter.unusedSimpArgs false
set_option linter.unusedVariables false
set_option linter.unusedSectionVars false
open Tys (Ty U)
open Enc (sz enc dflt tb ofB toB)
open Dec (dec dok)
variable [Tys] [Enc] [Dec]
theorem Array.toArray_map_toList {α β : Type} (f : α → β) (a : Array α) : a.map f = (a.toList.map f).toArray := by
 apply Array.ext'; simp
theorem opR_val {C : Ctx} {o : Oper} {s : St} {v : PV} (h : ∀ (μ : Nmap) (w : World) (Z : Nat → Nat → Prop) (ρ : Operand → Value), (∀ x ∈ o.op.operands, RP μ w Z (ρ x) (opd C s.env x)) →
   ∃ val, (execOp ρ o).run C.P w = .ok (.value val) w ∧ RP μ w Z val v) : OpR C o s v s.sto := opR_quiet fun μ w Z ρ _ hx => h μ w Z ρ hx
def strsOf : List PV → Option (List ByteArray)
 | [] => some []
 | .d (.v (.string b)) :: r => match strsOf r with
  | some l => some (b :: l)
  | none => none
 | _ => none
theorem Au8 : ∀ {vs : List PV} {bs : List ByteArray}, strsOf vs = some bs → bs.length = vs.length ∧ ∀ (i : Nat) (p : PV), vs[i]? = some p → ∃ b, bs[i]? = some b ∧ p = .d (.v (.string b))
 | [], bs, h => by cases h; exact ⟨rfl, fun i p h => by simp at h⟩
 | v :: vs, bs, h => by
  unfold strsOf at h
  split at h
  ·rename_i heq
   exact absurd heq (by simp)
  ·rename_i b r heq
   cases heq
   split at h
   ·rename_i l hl
    cases h
    obtain ⟨h1, h2⟩ := Au8 hl
    refine ⟨by simp [h1], fun i p hp => ?_⟩
    cases i with
    | zero => cases hp; exact ⟨b, rfl, rfl⟩
    | succ i => exact h2 i p (by simpa using hp)
   ·cases h
  ·cases h
def colAt (A : Ar) (vs : List PV) (n sz j : Nat) (i : Int) : PV := match strsOf ((List.range n).map fun m => vs.getD (m * sz + j) .any) with
 | some bs => st (A.sel bs i)
 | none => .any
theorem Ay8 {μ : Nmap} {w : World} {Z : Nat → Nat → Prop} {us : List Value} {vs : List PV} {n sz j : Nat} {i : Int} (hl : us.length = vs.length) (hh : ∀ (i : Nat) (x : Value) (p : PV), us[i]? = some x → vs[i]? = some p → RP μ w Z x p)
  (hn : vs.length = n * sz) (hj : j < sz) (hi : 0 ≤ i ∧ i < n) : ∃ v, us[i.toNat * sz + j]? = some v ∧ RP μ w Z v (colAt std vs n sz j i) := by
 have hlt : i.toNat * sz + j < n * sz := by
  have h1 : i.toNat + 1 ≤ n := by omega
  have h2 := Nat.mul_le_mul_right sz h1
  rw [Nat.succ_mul] at h2
  omega
 obtain ⟨v, hv⟩ : ∃ v, us[i.toNat * sz + j]? = some v := ⟨us[i.toNat * sz + j]'(by omega), List.getElem?_eq_getElem _⟩
 refine ⟨v, hv, ?_⟩
 unfold colAt
 split
 ·rename_i bs hb
  obtain ⟨h1, h2⟩ := Au8 hb
  have hin : i.toNat < n := by omega
  have hp : vs[i.toNat * sz + j]? = some (vs[i.toNat * sz + j]'(by omega)) := List.getElem?_eq_getElem _
  have hcol : ((List.range n).map fun m => vs.getD (m * sz + j) .any)[i.toNat]? = some (vs[i.toNat * sz + j]'(by omega)) := by
   rw [List.getElem?_map, List.getElem?_range hin, Option.map_some, List.getD_eq_getElem?_getD, hp]; rfl
  obtain ⟨b, hb1, hb2⟩ := h2 _ _ hcol
  have hr := hh _ _ _ hv hp
  rw [hb2] at hr
  have e : std.sel bs i = b := by
   show bs.getD i.toNat ⟨#[]⟩ = b
   rw [List.getD_eq_getElem?_getD, hb1]; rfl
  rw [e]
  exact hr
 ·exact .any _
def opIdx (C : Ctx) (A : Ar) (c : Bool) (s : St) (T : TypeId) (x i : Operand) (k : PV → List En → Prop) : Prop :=
 match C.ti T with
 | some ⟨.string, _, _, _⟩ => strip c (opd C s.env i) fun q => match q with
  | .d (.v (.int _ n)) => strip c (opd C s.env x) fun p => match p with
   | .d (.v (.string b)) => vc c (A.inb n (A.slen b)) ∧ k (it .u8 (A.sget b n)) s.sto
   | _ => False
  | _ => False
 | some ⟨.array n e, _, _, _⟩ => match C.ti e with
  | some re => strip c (opd C s.env i) fun q => match q with
   | .d (.v (.int _ m)) => strip c (opd C s.env x) fun p => match p with
    | .ag vs => (vs.length = n * re.size ∧ 0 < re.size) ∧ vc c (A.inb m (Int.ofNat n)) ∧ k (match re.k.agg with
     | true => .ag ((List.range re.size).map fun j => colAt A vs n re.size j m)
     | false => colAt A vs n re.size 0 m) s.sto
    | .d (.ar t xs) => (re.size = sz t ∧ sz t = 1 ∧ re.k.agg = false) ∧ vc c (A.inb m (Int.ofNat n)) ∧ vc c (A.inb m (A.len t xs)) ∧ (match enc t (A.get t xs m) with
     | [d] => k (.d d) s.sto
     | _ => False)
    | _ => False
   | _ => False
  | none => False
 | _ => False
theorem A3g {C : Ctx} {A : Ar} (hA : A = std) (hC : C.OK) {o : Oper} {ow c : Bool} {s : St} {T : TypeId} {x i : Operand} (ho : o.op = .index T x i) : Snd C o ow c s (opIdx C A c s T x i) := by
 subst hA
 intro k h
 unfold opIdx at h
 split at h
 ·rename_i hT
  obtain ⟨q, h, hq⟩ := Aac (μ := fun _ _ => none) (w := default) (Z := fun _ _ => False) h
  split at h
  ·rename_i kk n
   obtain ⟨p, h, hp⟩ := Aac (μ := fun _ _ => none) (w := default) (Z := fun _ _ => False) h
   split at h
   ·rename_i b
    obtain ⟨_, d, _, h2, _, _, _, h5⟩ := hC.ti T _ hT
    obtain rfl := KOk.string h5
    refine ⟨_, _, h.2, fun hc => opR_val fun μ w Z ρ hx => ?_, fun _ => rfl⟩
    obtain ⟨h8, h9⟩ : 0 ≤ n ∧ n < b.size := Aae h.1 hc
    have h1 : ρ i = .int kk n := (hq μ w Z _ hc (hx i (by simp [ho, Op.operands]))).val
    have h3 : ρ x = .string b := (hp μ w Z _ hc (hx x (by simp [ho, Op.operands]))).val
    have hlt : n.toNat < b.data.size := by have : b.size = b.data.size := rfl; omega
    have h10 : b[n.toNat]? = some (b.data.getD n.toNat 0) := by
     rw [getElem?_pos b n.toNat hlt]
     have : b[n.toNat] = b.data[n.toNat] := rfl
     rw [this, Array.getD_eq_getD_getElem?, Array.getElem?_eq_getElem hlt]; rfl
    refine ⟨_, ?_, RP.ofVal ..⟩
    simp [execOp, ho, h1, h3, Instr.index, asIntOf, und h2, h8, h10, std]
   ·exact h.elim
  ·exact h.elim
 ·rename_i n e _ _ _ hT
  split at h
  ·rename_i re hre
   obtain ⟨q, h, hq⟩ := Aac (μ := fun _ _ => none) (w := default) (Z := fun _ _ => False) h
   split at h
   ·rename_i kk m
    obtain ⟨p, h, hp⟩ := Aac (μ := fun _ _ => none) (w := default) (Z := fun _ _ => False) h
    split at h
    ·rename_i vs
     obtain ⟨⟨hn, hsz⟩, hin, hk⟩ := h
     obtain ⟨_, d, _, h2, _, _, _, h5⟩ := hC.ti T _ hT
     obtain rfl := KOk.array h5
     obtain ⟨ie, _, h8, _, h9, _⟩ := id (hC.ti _ re hre)
     refine ⟨_, _, hk, fun hc => opR_val fun μ w Z ρ hx => ?_, fun _ => rfl⟩
     have hb : 0 ≤ m ∧ m < (n : Int) := Aae hin hc
     have h1 : ρ i = .int kk m := (hq μ w Z _ hc (hx i (by simp [ho, Op.operands]))).val
     have h3 := hp μ w Z _ hc (hx x (by simp [ho, Op.operands]))
     generalize hy : ρ x = y at h3
     cases h3 with
     | ag _ us hl hh =>
      cases ha : re.k.agg with
      | true =>
       simp only
       refine ⟨.agg (us.toArray.extract (m.toNat * re.size) (m.toNat * re.size + re.size)), ?_, ?_⟩
       ·simp [execOp, ho, h1, hy, Instr.index, asIntOf, und h2, hb, part, Aju (hC.ti _ re hre), ha, szOf h8, h9]
       ·have e : us.toArray.extract (m.toNat * re.size) (m.toNat * re.size + re.size) = ((us.drop (m.toNat * re.size)).take re.size).toArray := by
         apply Array.ext'
         simp [Array.toList_extract, List.extract_eq_take_drop]
        rw [e]
        have hle : m.toNat * re.size + re.size ≤ n * re.size := by
         have h10 : m.toNat + 1 ≤ n := by omega
         have h11 := Nat.mul_le_mul_right re.size h10
         rw [Nat.succ_mul] at h11
         exact h11
        refine .ag _ _ (by simp; omega) fun j v q hv hq => ?_
        rw [List.getElem?_take, List.getElem?_drop] at hv
        split at hv
        ·rename_i hj
         rw [List.getElem?_map, List.getElem?_range hj] at hq
         cases hq
         obtain ⟨v', hv', hr⟩ := Ay8 hl hh hn hj hb
         rw [hv] at hv'
         cases hv'
         exact hr
        ·cases hv
      | false =>
       simp only
       obtain ⟨v, hv, hr⟩ := Ay8 hl hh hn hsz hb
       rw [Nat.add_zero] at hv
       refine ⟨v, ?_, hr⟩
       obtain ⟨hlt, hv2⟩ := List.getElem?_eq_some_iff.1 hv
       simp [execOp, ho, h1, hy, Instr.index, asIntOf, und h2, hb, part, Aju (hC.ti _ re hre), ha, szOf h8, h9, hlt, hv2]
    ·rename_i t xs
     obtain ⟨⟨hn, hs1, ha⟩, hin, hin2, hk⟩ := h
     split at hk
     ·rename_i d hd
      obtain ⟨_, dd, _, h2, _, _, _, h5⟩ := hC.ti T _ hT
      obtain rfl := KOk.array h5
      obtain ⟨ie, _, h8, _, h9, _⟩ := id (hC.ti _ re hre)
      refine ⟨_, _, hk, fun hc => opR_val fun μ w Z ρ hx => ?_, fun _ => rfl⟩
      have hb : 0 ≤ m ∧ m < (n : Int) := Aae hin hc
      have hb2 : 0 ≤ m ∧ m < (xs.length : Int) := Aae hin2 hc
      have h1 : ρ i = .int kk m := (hq μ w Z _ hc (hx i (by simp [ho, Op.operands]))).val
      have h3 := hp μ w Z _ hc (hx x (by simp [ho, Op.operands]))
      generalize hy : ρ x = y at h3
      cases h3 with
      | d _ _ h3 =>
      cases h3 with
      | ar _ _ us hl hh =>
       have hlt : m.toNat < xs.length := by omega
       rw [hs1, Nat.mul_one] at hl
       have hxe : xs[m.toNat]? = some (xs.getD m.toNat (dflt t)) := by
        rw [List.getD_eq_getElem?_getD, List.getElem?_eq_getElem hlt]; rfl
       have hd0 : (enc t (xs.getD m.toNat (dflt t)))[0]? = some d := by
        have e : enc t (xs.getD m.toNat (dflt t)) = [d] := hd
        rw [e]; rfl
       have hr := hh m.toNat 0 _ d hxe hd0
       rw [hs1, Nat.mul_one, Nat.add_zero] at hr
       have hlt' : m.toNat < us.length := by omega
       rw [List.getElem?_eq_getElem hlt', Option.getD_some] at hr
       refine ⟨us[m.toNat], ?_, .d _ _ hr⟩
       simp [execOp, ho, h1, hy, Instr.index, asIntOf, und h2, hb, part, Aju (hC.ti _ re hre), ha, szOf h8, h9, hn, hs1, hlt']
     ·exact hk.elim
    ·exact h.elim
   ·exact h.elim
  ·exact h.elim
 ·exact h.elim
def opExt (C : Ctx) (c : Bool) (s : St) (x : Operand) (j : Nat) (k : PV → List En → Prop) : Prop :=
 strip c (opd C s.env x) fun p => match p with
 | .tu ps => match ps[j]? with
  | some q => k q s.sto
  | none => False
 | _ => False
theorem A3h {C : Ctx} {o : Oper} {ow c : Bool} {s : St} {x : Operand} {j : Nat} (ho : o.op = .extract x j) : Snd C o ow c s (opExt C c s x j) := by
 intro k h
 obtain ⟨p, h, hp⟩ := Aac (μ := fun _ _ => none) (w := default) (Z := fun _ _ => False) h
 split at h
 ·rename_i ps
  split at h
  ·rename_i q hq
   refine ⟨_, _, h, fun hc => opR_val fun μ w Z ρ hx => ?_, fun _ => rfl⟩
   have h1 := hp μ w Z _ hc (hx x (by simp [ho, Op.operands]))
   generalize hy : ρ x = y at h1
   cases h1 with
   | tu _ vs hl hh =>
    have hlt : j < vs.length := by
     rw [hl]
     rcases Nat.lt_or_ge j ps.length with h | h
     ·exact h
     ·rw [List.getElem?_eq_none h] at hq; cases hq
    exact ⟨vs[j], by simp [execOp, ho, hy, Instr.extract, hlt], hh j _ q (List.getElem?_eq_getElem hlt) hq⟩
  ·exact h.elim
 ·exact h.elim
def opUn (C : Ctx) (A : Ar) (c : Bool) (s : St) (op : UnOp) (x : Operand) (k : PV → List En → Prop) : Prop :=
 strip c (opd C s.env x) fun p => match op, p with
 | .not, .d (.v (.bool b)) => k (bl (A.not b)) s.sto
 | .neg, .d (.v (.int kk n)) => k (it kk (A.ar .sub kk 0 n)) s.sto
 | .xor, .d (.v (.int kk n)) => k (it kk (A.ar .xor kk (match kk.signed with | true => -1 | false => kk.max) n)) s.sto
 | _, _ => False
theorem A4s {C : Ctx} {A : Ar} (hA : A = std) {o : Oper} {ow c : Bool} {s : St} {op : UnOp} {T : TypeId} {x : Operand} (ho : o.op = .unOp op T x) : Snd C o ow c s (opUn C A c s op x) := by
 subst hA
 intro k h0
 obtain ⟨p, h, hp⟩ := Aac (μ := fun _ _ => none) (w := default) (Z := fun _ _ => False) h0
 clear h0
 split at h
 ·rename_i b
  refine ⟨_, _, h, fun hc => opR_val fun μ w Z ρ hx => ?_, fun _ => rfl⟩
  have h1 := (hp μ w Z _ hc (hx x (by simp [ho, Op.operands]))).val
  exact ⟨.bool (!b), by simp [execOp, ho, h1, Op.unary], RP.ofVal ..⟩
 ·rename_i kk n
  refine ⟨_, _, h, fun hc => opR_val fun μ w Z ρ hx => ?_, fun _ => rfl⟩
  have h1 := (hp μ w Z _ hc (hx x (by simp [ho, Op.operands]))).val
  exact ⟨.int kk (kk.wrap (0 - n)), by simp [execOp, ho, h1, Op.unary, Op.intArith], RP.ofVal ..⟩
 ·rename_i kk n
  refine ⟨_, _, h, fun hc => opR_val fun μ w Z ρ hx => ?_, fun _ => rfl⟩
  have h1 := (hp μ w Z _ hc (hx x (by simp [ho, Op.operands]))).val
  refine ⟨_, ?_, RP.ofVal ..⟩
  simp [execOp, ho, h1, Op.unary, Op.intBits, std, arStd]
  cases kk.signed <;> simp
 ·exact h.elim
def opFn (C : Ctx) (c : Bool) (s : St) (f : Fn) (first cap : Array Operand) (k : PV → List En → Prop) : Prop :=
 match first.toList, cap.toList with
 | [], [] => k (.d (.v (.func f #[] #[]))) s.sto
 | fs, cs => k (.fn f (fs.map (opd C s.env)) (cs.map (opd C s.env))) s.sto
theorem A4t {C : Ctx} {o : Oper} {ow c : Bool} {s : St} {f : Fn} {first cap : Array Operand} (ho : o.op = .makeFunc f first cap) : Snd C o ow c s (opFn C c s f first cap) := by
 intro k h
 unfold opFn at h
 split at h
 ·rename_i h1 h2
  refine ⟨_, _, h, fun hc => opR_val fun μ w Z ρ hx => ?_, fun _ => rfl⟩
  have e1 : first = #[] := by simpa using h1
  have e2 : cap = #[] := by simpa using h2
  exact ⟨_, by simp [execOp, ho, e1, e2, Instr.makeFunc], RP.ofVal ..⟩
 ·refine ⟨_, _, h, fun hc => opR_val fun μ w Z ρ hx => ?_, fun _ => rfl⟩
  refine ⟨.func f (first.toList.map ρ).toArray (cap.toList.map ρ).toArray, by simp [execOp, ho, Instr.makeFunc]; exact ⟨(Array.toArray_map_toList ρ first), (Array.toArray_map_toList ρ cap)⟩, .fn f _ _ _ _ (by simp) (by simp) ?_ ?_⟩
  ·intro i y p hy hp
   rw [List.getElem?_map] at hy hp
   cases hq : first.toList[i]? with
   | none => rw [hq] at hy; simp at hy
   | some q =>
    rw [hq] at hy hp; simp at hy hp; subst hy; subst hp
    have : q ∈ first := by have := List.mem_of_getElem? hq; simpa using this
    exact hx q (by simp [ho, Op.operands, this])
  ·intro i y p hy hp
   rw [List.getElem?_map] at hy hp
   cases hq : cap.toList[i]? with
   | none => rw [hq] at hy; simp at hy
   | some q =>
    rw [hq] at hy hp; simp at hy hp; subst hy; subst hp
    have : q ∈ cap := by have := List.mem_of_getElem? hq; simpa using this
    exact hx q (by simp [ho, Op.operands, this])
def opNil (C : Ctx) (c : Bool) (s : St) (x : Operand) (k : PV → List En → Prop) : Prop :=
 strip c (opd C s.env x) fun p => match p with
 | .bx a b d => k (.bx a b d) s.sto
 | .ip ds => k (.ip ds) s.sto
 | .fn (.func f) a b => k (.fn (.func f) a b) s.sto
 | .d (.v (.func (.func f) a b)) => k (.d (.v (.func (.func f) a b))) s.sto
 | _ => False
theorem A3i {C : Ctx} {o : Oper} {ow c : Bool} {s : St} {x : Operand} (ho : o.op = .nilCheck x) : Snd C o ow c s (opNil C c s x) := by
 intro k h
 obtain ⟨p, h, hp⟩ := Aac (μ := fun _ _ => none) (w := default) (Z := fun _ _ => False) h
 split at h
 ·refine ⟨_, _, h, fun hc => opR_val fun μ w Z ρ hx => ?_, fun _ => rfl⟩
  have h1 := hp μ w Z _ hc (hx x (by simp [ho, Op.operands]))
  generalize hy : ρ x = y at h1
  cases h1 with
  | bx _ _ _ b hb => exact ⟨_, by simp [execOp, ho, hy], .bx _ _ _ _ hb⟩
 ·refine ⟨_, _, h, fun hc => opR_val fun μ w Z ρ hx => ?_, fun _ => rfl⟩
  have h1 := hp μ w Z _ hc (hx x (by simp [ho, Op.operands]))
  generalize hy : ρ x = y at h1
  cases h1 with
  | ip _ b off vs hb => exact ⟨_, by simp [execOp, ho, hy], .ip _ _ _ _ hb⟩
 ·refine ⟨_, _, h, fun hc => opR_val fun μ w Z ρ hx => ?_, fun _ => rfl⟩
  have h1 := hp μ w Z _ hc (hx x (by simp [ho, Op.operands]))
  generalize hy : ρ x = y at h1
  cases h1 with
  | fn _ _ _ vs us h2 h3 h4 h5 => exact ⟨_, by simp [execOp, ho, hy], .fn _ _ _ _ _ h2 h3 h4 h5⟩
 ·refine ⟨_, _, h, fun hc => opR_val fun μ w Z ρ hx => ?_, fun _ => rfl⟩
  have h1 := (hp μ w Z _ hc (hx x (by simp [ho, Op.operands]))).val
  exact ⟨_, by simp [execOp, ho, h1], RP.ofVal ..⟩
 ·exact h.elim
/-! ### lengths -/
theorem RD.len {w : World} {Z : Nat → Nat → Prop} {x : Value} {t : Ty} {xs : List (U t)} (h : RD w Z x (.sl t xs)) : ∃ a cap, x = .slice a xs.length cap ∧ xs.length ≤ cap ∨ ∃ a cap, x = .slice a xs.length cap ∧ xs = [] := by
 generalize hp : D.sl t xs = p at h
 cases h <;> simp at hp
 case nil t' a cap =>
  obtain ⟨rfl, h⟩ := hp
  simp at h; subst h; exact ⟨a, cap, .inr ⟨a, cap, rfl, rfl⟩⟩
 case sl t' xs' b off cap vs hl hc hr =>
  obtain ⟨rfl, h⟩ := hp
  simp at h; subst h
  exact ⟨_, cap, .inl ⟨rfl, hl⟩⟩
theorem RD.slen {w : World} {Z : Nat → Nat → Prop} {x : Value} {t : Ty} {xs : List (U t)} (h : RD w Z x (.sl t xs)) : ∃ a cap, x = .slice a xs.length cap := by
 obtain ⟨a, cap, h | ⟨a, cap, h, _⟩⟩ := h.len
 ·exact ⟨a, cap, h.1⟩
 ·exact ⟨a, cap, h⟩
def lenD (A : Ar) (p : PV) (k : PV → Prop) : Prop := match p with
 | .d (.v (.string b)) => k (it .i64 (A.slen b))
 | .d (.sl t xs) => k (it .i64 (A.len t xs))
 | .os _ _ t xs => k (it .i64 (A.len t xs))
 | .d (.v (.slice _ n _)) => k (it .i64 n)
 | _ => False
def opLen (C : Ctx) (A : Ar) (c : Bool) (s : St) (T : TypeId) (x : Operand) (k : PV → List En → Prop) : Prop :=
 match C.ti T with
 | some ⟨.string, _, _, _⟩ => strip c (opd C s.env x) fun p => match p with
  | .d (.v (.string b)) => k (it .i64 (A.slen b)) s.sto
  | _ => False
 | some ⟨.slice _, _, _, _⟩ => strip c (opd C s.env x) fun p => match p with
  | .d (.sl t xs) => k (it .i64 (A.len t xs)) s.sto
  | .os _ _ t xs => k (it .i64 (A.len t xs)) s.sto
  | .d (.v (.slice _ n _)) => k (it .i64 n) s.sto
  | _ => False
 | _ => False
theorem opLen_ok {C : Ctx} {A : Ar} (hA : A = std) (hC : C.OK) {o : Oper} {ow c : Bool} {s : St} {T : TypeId} {x : Operand} (ho : o.op = .call { callee := .builtin .len, args := #[x], argTypes := #[T] }) :
  Snd C o ow c s (opLen C A c s T x) := by
 subst hA
 intro k h
 have hrun : ∀ (w : World) (ρ : Operand → Value), (execOp ρ o).run C.P w = ((Builtin.len_ #[T] o.type #[ρ x]).run C.P w).andThen fun v w => .ok (.value v) w := by
  intro w ρ
  simp [execOp, ho, resolve, invoke, builtin]
 have hmem : x ∈ o.op.operands := by simp [ho, Op.operands, Call.operands]
 unfold opLen at h
 split at h
 ·rename_i hT
  obtain ⟨_, d, _, h2, _, _, _, h5⟩ := hC.ti T _ hT
  obtain rfl := KOk.string h5
  obtain ⟨p, h, hp⟩ := Aac (μ := fun _ _ => none) (w := default) (Z := fun _ _ => False) h
  split at h
  ·rename_i b
   refine ⟨_, _, h, fun hc => opR_val fun μ w Z ρ hx => ?_, fun _ => rfl⟩
   have h1 := (hp μ w Z _ hc (hx x hmem)).val
   exact ⟨_, by rw [hrun]; simp [Builtin.len_, und h2, h1]; rfl, RP.ofVal ..⟩
  ·exact h.elim
 ·rename_i e _ _ _ hT
  obtain ⟨_, d, _, h2, _, _, _, h5⟩ := hC.ti T _ hT
  obtain rfl := KOk.slice h5
  obtain ⟨p, h, hp⟩ := Aac (μ := fun _ _ => none) (w := default) (Z := fun _ _ => False) h
  split at h
  ·rename_i t xs
   refine ⟨_, _, h, fun hc => opR_val fun μ w Z ρ hx => ?_, fun _ => rfl⟩
   have h1 := hp μ w Z _ hc (hx x hmem)
   generalize hy : ρ x = y at h1
   cases h1 with
   | d _ _ h1 =>
    obtain ⟨a, cap, rfl⟩ := h1.slen
    exact ⟨_, by rw [hrun]; simp [Builtin.len_, und h2, hy]; rfl, RP.ofVal ..⟩
  ·rename_i k' g' t xs
   refine ⟨_, _, h, fun hc => opR_val fun μ w Z ρ hx => ?_, fun _ => rfl⟩
   have h1 := hp μ w Z _ hc (hx x hmem)
   obtain ⟨a, cap, h3⟩ := h1.os_sl.slen
   exact ⟨_, by rw [hrun]; simp [Builtin.len_, und h2, h3]; rfl, RP.ofVal ..⟩
  ·rename_i a n cap
   refine ⟨_, _, h, fun hc => opR_val fun μ w Z ρ hx => ?_, fun _ => rfl⟩
   have h1 := (hp μ w Z _ hc (hx x hmem)).val
   exact ⟨_, by rw [hrun]; simp [Builtin.len_, und h2, h1]; rfl, RP.ofVal ..⟩
  ·exact h.elim
 ·exact h.elim
/-! ### cuts -/
def bnd (C : Ctx) (c : Bool) (s : St) (x : Option Operand) (dflt : Int) (k : Int → Prop) : Prop := match x with
 | none => k dflt
 | some y => strip c (opd C s.env y) fun q => match q with
  | .d (.v (.int _ n)) => k n
  | _ => False
theorem Apc {C : Ctx} {c : Bool} {s : St} {x : Option Operand} {df : Int} {k : Int → Prop} (h : bnd C c s x df k) :
  ∃ n, k n ∧ (x = none → n = df) ∧ ∀ y, x = some y → ∀ μ w Z v, c = true → RP μ w Z v (opd C s.env y) → ∃ kk, v = .int kk n := by
 cases x with
 | none => exact ⟨df, h, fun _ => rfl, fun y hy => by cases hy⟩
 | some y =>
  obtain ⟨q, h', hq⟩ := Aac (μ := fun _ _ => none) (w := default) (Z := fun _ _ => False) h
  clear h
  split at h'
  ·rename_i kk n
   refine ⟨n, h', ?_, ?_⟩
   ·intro h; cases h
   ·intro y' hy μ w Z v hc hv
    cases hy
    exact ⟨kk, (hq μ w Z v hc hv).val⟩
  ·exact h'.elim
def opCut (C : Ctx) (A : Ar) (c : Bool) (s : St) (T : TypeId) (x : Operand) (lo hi : Option Operand) (k : PV → List En → Prop) : Prop :=
 match C.ti T with
 | some ⟨.string, _, _, _⟩ => strip c (opd C s.env x) fun p => match p with
  | .d (.v (.string b)) => bnd C c s lo 0 fun l => bnd C c s hi (A.slen b) fun h => vc c (A.subOk l h (A.slen b)) ∧ k (st (A.ssub b l h)) s.sto
  | _ => False
 | some ⟨.slice e, _, _, _⟩ => match C.ti e with
  | some r => strip c (opd C s.env x) fun p => match p with
   | .d (.sl t xs) => bnd C c s lo 0 fun l => bnd C c s hi (A.len t xs) fun h => (r.size = sz t) ∧ vc c (A.subOk l h (A.len t xs)) ∧ k (.d (.sl t (A.lsub t xs l h))) s.sto
   | .os _ _ t xs => bnd C c s lo 0 fun l => bnd C c s hi (A.len t xs) fun h => (r.size = sz t) ∧ vc c (A.subOk l h (A.len t xs)) ∧ k (.d (.sl t (A.lsub t xs l h))) s.sto
   | _ => False
  | none => False
 | _ => False
theorem Aqs {P : Program} {w : World} {k : IntKind} {n : Int} : (asIntOf (.int k n)).run P w = .ok (k, n) w := rfl
theorem run_sliceBounds {P : Program} {w : World} {isS : Bool} {len cap : Nat} {lo hi : Option Value} {l h : Int} (hlo : lo = none → l = 0) (hlo' : ∀ v, lo = some v → ∃ k, v = .int k l) (hhi : hi = none → h = len)
  (hhi' : ∀ v, hi = some v → ∃ k, v = .int k h) (h0 : 0 ≤ l) (h1 : l ≤ h) (h2 : h ≤ len) (h3 : len ≤ cap) :
  (Instr.sliceBounds isS len cap lo hi none).run P w = .ok (l.toNat, h.toNat, cap) w := by
 have hh : (match hi with | some v => Instr.sliceBound v cap (if isS then .sliceAcap else .sliceAlen) | none => pure len : Sem Nat).run P w = .ok h.toNat w := by
  cases hi with
  | none => simp [hhi rfl]
  | some v =>
   obtain ⟨k, rfl⟩ := hhi' v rfl
   have h4 : 0 ≤ h := by omega
   have h5 : h ≤ cap := by omega
   simp [Instr.sliceBound, Aqs, h4, h5]
 have hl : (match lo with | some v => Instr.sliceBound v h.toNat .sliceB | none => pure 0 : Sem Nat).run P w = .ok l.toNat w := by
  cases lo with
  | none => simp [hlo rfl]
  | some v =>
   obtain ⟨k, rfl⟩ := hlo' v rfl
   have h5 : l ≤ max h 0 := by omega
   simp [Instr.sliceBound, Aqs, h0, h5]
 unfold Instr.sliceBounds
 cases hi <;> cases lo <;> simp_all
end Go.PL
namespace Go.PL
set_option linter.unusedSimpArgs false
set_option linter.unusedVariables false
set_option linter.unusedSectionVars false
open Tys (Ty U)
open Enc (sz enc dflt tb ofB toB)
open Dec (dec dok)
variable [Tys] [Enc] [Dec]
theorem RD.cut {w : World} {Z : Nat → Nat → Prop} {x : Value} {t : Ty} {xs : List (U t)} (h : RD w Z x (.sl t xs)) {l u : Nat} (h0 : l ≤ u) (h1 : u ≤ xs.length) :
  ∃ a cap, x = .slice a xs.length cap ∧ (xs.length ≤ cap ∨ xs = []) ∧
   (xs.length ≤ cap → RD w Z (.slice (if cap = l then a else a.map (·.add (l * sz t))) (u - l) (cap - l)) (.sl t ((xs.take u).drop l))) := by
 generalize hp : D.sl t xs = p at h
 cases h <;> simp at hp
 case nil t' a cap =>
  obtain ⟨rfl, h⟩ := hp
  simp at h; subst h
  have : u = 0 := by simpa using h1
  subst this
  refine ⟨a, cap, rfl, .inr rfl, fun _ => ?_⟩
  simp
  exact .nil _ _ _
 case sl t' xs' b off cap vs hl hc hr =>
  obtain ⟨rfl, h⟩ := hp
  simp at h; subst h
  refine ⟨_, cap, rfl, .inl hl, fun _ => ?_⟩
  by_cases hlu : l = u
  ·subst hlu
   have : (List.take l xs).drop l = [] := by simp
   rw [this, Nat.sub_self]
   exact .nil _ _ _
  ·have hne : ¬ cap = l := by omega
   have hlen : ((xs.take u).drop l).length = u - l := by simp; omega
   rw [if_neg hne, Option.map_some, addr_add]
   have := RD.sl (w := w) (Z := Z) t ((xs.take u).drop l) b (off + l * sz t) (cap - l) (fun j i => vs (l + j) i) (by rw [hlen]; omega) ?_ ?_
   ·rw [hlen] at this; exact this
   ·intro j i hj hi
    rw [hlen] at hj
    have := hc (l + j) i (by omega) hi
    rw [Nat.add_mul] at this
    have e : off + l * sz t + (j * sz t + i) = off + (l * sz t + j * sz t + i) := by omega
    rw [e]; exact this
   ·intro j i x d hx hd
    rw [List.getElem?_drop, List.getElem?_take] at hx
    split at hx
    ·exact hr (l + j) i x d hx hd
    ·cases hx
theorem opCut_ok {C : Ctx} {A : Ar} (hA : A = std) (hC : C.OK) {o : Oper} {ow c : Bool} {s : St} {T : TypeId} {x : Operand} {lo hi : Option Operand} (ho : o.op = .slice T x lo hi none) :
  Snd C o ow c s (opCut C A c s T x lo hi) := by
 subst hA
 intro k h0
 unfold opCut at h0
 have hmx : x ∈ o.op.operands := by simp [ho, Op.operands]
 have hml : ∀ y, lo = some y → y ∈ o.op.operands := by intro y hy; simp [ho, Op.operands, hy]
 have hmh : ∀ y, hi = some y → y ∈ o.op.operands := by intro y hy; simp [ho, Op.operands, hy]
 split at h0
 ·rename_i hT
  obtain ⟨i, d, hi1, h2, _, _, hz, h5⟩ := hC.ti T _ hT
  obtain rfl := KOk.string h5
  obtain ⟨p, h, hp⟩ := Aac (μ := fun _ _ => none) (w := default) (Z := fun _ _ => False) h0
  clear h0
  split at h
  ·rename_i b
   obtain ⟨l, h, hl1, hl2⟩ := Apc h
   obtain ⟨u, h, hu1, hu2⟩ := Apc h
   refine ⟨_, _, h.2, fun hc => opR_val fun μ w Z ρ hx => ?_, fun _ => rfl⟩
   obtain ⟨ha, hb, hcc⟩ : 0 ≤ l ∧ l ≤ u ∧ u ≤ b.size := Aae h.1 hc
   have h3 : ρ x = .string b := (hp μ w Z _ hc (hx x hmx)).val
   have hag : (TypeDesc.string matches .array _ _) = false := rfl
   refine ⟨.string (b.extract l.toNat u.toNat), ?_, RP.ofVal ..⟩
   have hsb := run_sliceBounds (P := C.P) (w := w) (isS := false) (len := b.size) (cap := b.size) (lo := lo.map ρ) (hi := hi.map ρ) (l := l) (h := u)
    (fun e => hl1 (by cases lo <;> simp_all)) (fun v e => by
     cases hlo : lo with
     | none => simp [hlo] at e
     | some y => simp [hlo] at e; subst e; exact hl2 y hlo μ w Z _ hc (hx y (hml y hlo)))
    (fun e => by have := hu1 (by cases hi <;> simp_all); simpa [std] using this) (fun v e => by
     cases hhi : hi with
     | none => simp [hhi] at e
     | some y => simp [hhi] at e; subst e; exact hu2 y hhi μ w Z _ hc (hx y (hmh y hhi))) ha hb hcc (Nat.le_refl _)
   simp [execOp, ho, h3, Instr.sliceAt, Instr.slice, und h2, hsb]
  ·exact h.elim
 ·rename_i e _ _ _ hT
  split at h0
  ·rename_i r hr
   obtain ⟨i, d, hi1, h2, _, _, hz, h5⟩ := hC.ti T _ hT
   obtain rfl := KOk.slice h5
   obtain ⟨i', d', h6, _, h7, _⟩ := hC.ti e r hr
   obtain ⟨p, h, hp⟩ := Aac (μ := fun _ _ => none) (w := default) (Z := fun _ _ => False) h0
   clear h0
   have key : ∀ (t : Ty) (xs : List (U t)), (∀ μ w Z y, c = true → RP μ w Z y (opd C s.env x) → RD w Z y (.sl t xs)) →
     (bnd C c s lo 0 fun l => bnd C c s hi (std.len t xs) fun h => (r.size = sz t) ∧ vc c (std.subOk l h (std.len t xs)) ∧ k (.d (.sl t (std.lsub t xs l h))) s.sto) →
     ∃ v sto', k v sto' ∧ (c = true → OpR C o s v sto') ∧ (ow = false → sto' = s.sto) := by
    intro t xs hx' h
    obtain ⟨l, h, hl1, hl2⟩ := Apc h
    obtain ⟨u, h, hu1, hu2⟩ := Apc h
    refine ⟨_, _, h.2.2, fun hc => opR_val fun μ w Z ρ hx => ?_, fun _ => rfl⟩
    obtain ⟨ha, hb, hcc⟩ : 0 ≤ l ∧ l ≤ u ∧ u ≤ xs.length := Aae h.2.1 hc
    have hrd := hx' μ w Z _ hc (hx x hmx)
    obtain ⟨a, cap, hxe, hcap, hcut⟩ := hrd.cut (l := l.toNat) (u := u.toNat) (by omega) (by omega)
    have hcap' : xs.length ≤ cap := by
     rcases hcap with h | h
     ·exact h
     ·subst h; simp
    have hsb := run_sliceBounds (P := C.P) (w := w) (isS := true) (len := xs.length) (cap := cap) (lo := lo.map ρ) (hi := hi.map ρ) (l := l) (h := u)
     (fun e => hl1 (by cases lo <;> simp_all)) (fun v e => by
      cases hlo : lo with
      | none => simp [hlo] at e
      | some y => simp [hlo] at e; subst e; exact hl2 y hlo μ w Z _ hc (hx y (hml y hlo)))
     (fun e => by have := hu1 (by cases hi <;> simp_all); simpa [std] using this) (fun v e => by
      cases hhi : hi with
      | none => simp [hhi] at e
      | some y => simp [hhi] at e; subst e; exact hu2 y hhi μ w Z _ hc (hx y (hmh y hhi))) ha hb hcc hcap'
    refine ⟨_, ?_, .d _ _ (hcut hcap')⟩
    simp [execOp, ho, hxe, Instr.sliceAt, Instr.slice, und h2, hsb, szOf h6, h7, h.1]
   split at h
   ·rename_i t xs
    exact key t xs (fun μ w Z y hc hy => by
     have := hp μ w Z y hc hy
     cases this with
     | d _ _ h => exact h) h
   ·rename_i k' g' t xs
    exact key t xs (fun μ w Z y hc hy => (hp μ w Z y hc hy).os_sl) h
   ·exact h.elim
  ·exact h0.elim
 ·exact h0.elim
/-! ### whole numbers turned into others; bytes and texts -/
def opConv (C : Ctx) (A : Ar) (c : Bool) (s : St) (S T : TypeId) (x : Operand) (k : PV → List En → Prop) : Prop :=
 match C.ti T with
 | some ⟨.int kk, _, _, _⟩ => strip c (opd C s.env x) fun p => match p with
  | .d (.v (.int _ n)) => k (it kk (A.conv kk n)) s.sto
  | _ => False
 | _ => False
theorem A03 {C : Ctx} {A : Ar} (hA : A = std) (hC : C.OK) {o : Oper} {ow c : Bool} {s : St} {S T : TypeId} {x : Operand} (hS : ∃ r, C.ti S = some r) (ho : o.op = .convert S T x) :
  Snd C o ow c s (opConv C A c s S T x) := by
 subst hA
 intro k h0
 unfold opConv at h0
 split at h0
 ·rename_i kk _ _ _ hT
  obtain ⟨i, d, hi1, h2, _, _, hz, h5⟩ := hC.ti T _ hT
  obtain rfl := KOk.int h5
  obtain ⟨r, hr⟩ := hS
  obtain ⟨i', d', hi', h2', _⟩ := hC.ti S r hr
  obtain ⟨p, h, hp⟩ := Aac (μ := fun _ _ => none) (w := default) (Z := fun _ _ => False) h0
  clear h0
  split at h
  ·rename_i k' n
   refine ⟨_, _, h, fun hc => opR_val fun μ w Z ρ hx => ?_, fun _ => rfl⟩
   have h1 := (hp μ w Z _ hc (hx x (by simp [ho, Op.operands]))).val
   refine ⟨.int kk (kk.wrap n), ?_, RP.ofVal ..⟩
   cases d' <;> simp [execOp, ho, h1, convert, und h2, und h2', Conv.intToInt]
  ·exact h.elim
 ·exact h0.elim
/-! ### aggregates -/
def splice {α : Type} (cs : List α) (off : Nat) (vs : List α) : List α := cs.take off ++ vs ++ cs.drop (off + vs.length)
theorem Az8 {α : Type} (cs : List α) (n : Nat) (v : α) (vs : List α) (h : n < cs.length) : splice (cs.set n v) (n + 1) vs = splice cs n (v :: vs) := by
 obtain ⟨l1, x, l2, rfl, rfl⟩ : ∃ l1 x l2, cs = l1 ++ x :: l2 ∧ n = l1.length :=
  ⟨cs.take n, cs[n], cs.drop (n + 1), by rw [← List.drop_eq_getElem_cons h, List.take_append_drop], by simp; omega⟩
 have e1 : (l1 ++ x :: l2).set l1.length v = l1 ++ v :: l2 := by simp
 rw [e1]
 simp only [splice, List.length_cons]
 have e2 : (l1 ++ v :: l2).take (l1.length + 1) = l1 ++ [v] := by simp [List.take_append, List.take_of_length_le (Nat.le_succ _)]
 have e3 : (l1 ++ v :: l2).drop (l1.length + 1 + vs.length) = l2.drop vs.length := by
  rw [List.drop_append, List.drop_eq_nil_of_le (by omega)]
  have : l1.length + 1 + vs.length - l1.length = vs.length + 1 := by omega
  rw [this]; simp
 have e4 : (l1 ++ x :: l2).drop (l1.length + (vs.length + 1)) = l2.drop vs.length := by
  rw [List.drop_append, List.drop_eq_nil_of_le (by omega)]
  have : l1.length + (vs.length + 1) - l1.length = vs.length + 1 := by omega
  rw [this]; simp
 rw [e2, e3, e4]
 simp
theorem foldl_set (off : Nat) : ∀ (vs : List Value) (j : Nat) (cs : Array Value), off + j + vs.length ≤ cs.size →
  ((vs.zipIdx j).foldl (fun (cs : Array Value) (p : Value × Nat) => cs.setIfInBounds (off + p.2) p.1) cs).toList = splice cs.toList (off + j) vs
 | [], j, cs, _ => by simp [splice]
 | v :: vs, j, cs, h => by
  have ih := foldl_set off vs (j + 1) (cs.setIfInBounds (off + j) v) (by simp at h ⊢; omega)
  simp only [List.zipIdx_cons, List.foldl_cons, ih]
  have hlt : off + j < cs.toList.length := by simp at h ⊢; omega
  rw [Array.toList_setIfInBounds, ← Nat.add_assoc, Az8 _ _ _ _ hlt]
theorem Ad7 {α : Type} (cs : List α) (off : Nat) (vs : List α) (h : off + vs.length ≤ cs.length) : (splice cs off vs).length = cs.length := by
 simp [splice]; omega
theorem RPs.splice {μ : Nmap} {w : World} {Z : Nat → Nat → Prop} {xs ys : List Value} {ps qs : List PV} {off : Nat} (h : RPs μ w Z xs ps) (h' : RPs μ w Z ys qs) (hl : off + ys.length ≤ xs.length) :
  RPs μ w Z (splice xs off ys) (splice ps off qs) := by
 refine ⟨by rw [Ad7 _ _ _ hl, Ad7 _ _ _ (by rw [← h.1, ← h'.1]; exact hl), h.1], fun i x p hx hp => ?_⟩
 have hq : qs.length = ys.length := h'.1.symm
 have ho : off ≤ xs.length := by omega
 have ho' : off ≤ ps.length := by rw [← h.1]; omega
 simp only [Go.PL.splice, List.append_assoc] at hx hp
 rw [List.getElem?_append] at hx hp
 simp only [List.length_take, Nat.min_eq_left ho, Nat.min_eq_left ho'] at hx hp
 by_cases h1 : i < off
 ·simp only [h1, if_true, List.getElem?_take] at hx hp
  exact h.2 i x p hx hp
 ·simp only [h1, if_false] at hx hp
  rw [List.getElem?_append] at hx hp
  rw [hq] at hp
  by_cases h2 : i - off < ys.length
  ·simp only [h2, if_true] at hx hp
   exact h'.2 _ x p hx hp
  ·simp only [h2, if_false, List.getElem?_drop] at hx hp
   exact h.2 _ x p hx hp
end Go.PL
namespace Go.PL
set_option linter.unusedSimpArgs false
set_option linter.unusedVariables false
set_option linter.unusedSectionVars false
open Tys (Ty U)
open Enc (sz enc dflt tb ofB toB)
open Dec (dec dok)
variable [Tys] [Enc] [Dec]
def mset (μ : Nmap) (k g : Nat) (y : Option Nat) : Nmap := fun k' g' => if k' = k ∧ g' = g then some y else μ k' g'
theorem Aau (μ : Nmap) (k g : Nat) (y : Option Nat) : mset μ k g y k g = some y := by simp [mset]
theorem Af1 {μ : Nmap} {k g : Nat} {y : Option Nat} (h : μ k g = none) : ∀ k' g' z, μ k' g' = some z → mset μ k g y k' g' = some z := by
 intro k' g' z hz
 simp only [mset]
 split
 ·rename_i h1; obtain ⟨rfl, rfl⟩ := h1; rw [h] at hz; cases hz
 ·exact hz
theorem Aec {μ : Nmap} {k g : Nat} {y : Option Nat} (dst : Option Nat) (hd : dst = some k) : ∀ k' g', ¬ (dst = some k' ∧ g' = g) → mset μ k g y k' g' = μ k' g' := by
 intro k' g' h
 simp only [mset]
 split
 ·rename_i h1; obtain ⟨rfl, rfl⟩ := h1; exact absurd ⟨hd, rfl⟩ h
 ·rfl
structure Grown (w w1 : World) (o : Obj) : Prop where
 heap : w1.heap = w.heap.push o
 os : w1.os = w.os := by rfl
 out : w1.output = w.output := by rfl
theorem Grown.new {w w1 : World} {o : Obj} (h : Grown w w1 o) : w1.heap[w.heap.size]? = some o := by rw [h.heap]; simp
theorem Grown.old {w w1 : World} {o : Obj} (h : Grown w w1 o) {b : Nat} (hb : b < w.heap.size) : w1.heap[b]? = w.heap[b]? := by
 rw [h.heap, Array.getElem?_push]
 have : ¬ b = w.heap.size := by omega
 simp [this]
theorem Ajv {μ μ' : Nmap} {m' : Mem} {Z Z' : Nat → Nat → Prop} {w w1 : World} {o : Obj} (hg : Grown w w1 o) (hzl : ∀ b o, Z b o → b < w.heap.size)
  (hμ : ∀ k g y, μ k g = some y → μ' k g = some y) (hz : ∀ b o, Z b o → Z' b o) (hn : ∀ b o, Z' b o → Z b o ∨ b = w.heap.size)
  (hown : ∀ k g c b, m' k g = some c → μ' k g = some (some b) → b = w.heap.size) : Adv μ emp Z w μ' m' Z' w1 where
 mu := hμ
 z := hz
 cell b o h := by have := hg.old (hzl b o h); simp [World.cell?, this]
 shp b s h := by
  have hb : b < w.heap.size := by
   rcases Nat.lt_or_ge b w.heap.size with h1 | h1
   ·exact h1
   ·simp [World.shape?, Array.getElem?_eq_none h1] at h
  simp only [World.shape?, hg.old hb] at h ⊢; exact h
 size := by rw [hg.heap]; simp
 frame b hb _ := hg.old hb
 znew b o h := by
  rcases hn b o h with h | h
  ·exact .inl h
  ·exact .inr (.inl (by omega))
 own k g c b h1 h2 := .inl (by have := hown k g c b h1 h2; omega)
 os := hg.os
 out := hg.out
theorem A04 {μ : Nmap} {Z : Nat → Nat → Prop} {w w1 : World} {d gen : Nat} {cs : List Value} {ps : List PV} {T : TypeId} (hg : Grown w w1 (.cells cs.toArray T (0, 0))) (hw : WR μ emp Z w) (hf : μ d gen = none) (hr : RPs μ w Z cs ps) :
  RP (mset μ d gen (some w.heap.size)) w1 Z (.pointer (some ⟨w.heap.size, 0, none⟩)) (.bx d gen 0) ∧
  WR (mset μ d gen (some w.heap.size)) (single d gen (.box T ps)) Z w1 ∧ Adv μ emp Z w (mset μ d gen (some w.heap.size)) (single d gen (.box T ps)) Z w1 := by
 have ha : Adv μ emp Z w (mset μ d gen (some w.heap.size)) (single d gen (.box T ps)) Z w1 := Ajv hg hw.zlt (Af1 hf) (fun _ _ h => h) (fun _ _ h => .inl h) (by
  intro k g c b h1 h2
  simp only [single] at h1
  split at h1 <;> simp at h1
  rename_i h3
  obtain ⟨rfl, rfl⟩ := h3
  rw [Aau] at h2
  exact (Option.some.inj (Option.some.inj h2)).symm)
 refine ⟨.bx _ _ _ _ (Aau ..), ⟨?_, ?_, fun b o h => Nat.lt_of_lt_of_le (hw.zlt b o h) ha.size⟩, ha⟩
 ·intro k g c h
  simp only [single] at h
  split at h <;> simp at h
  rename_i h3
  obtain ⟨rfl, rfl⟩ := h3
  subst h
  exact ⟨_, _, Aau .., hg.new, by simpa using hr.adv ha, fun o h => absurd (hw.zlt _ o h) (by omega)⟩
 ·intro k g k' g' c c' b h1 h2 _ _
  simp only [single] at h1 h2
  split at h1 <;> simp at h1
  split at h2 <;> simp at h2
  rename_i h3 h4
  exact ⟨h3.1.trans h4.1.symm, h3.2.trans h4.2.symm⟩
def opAlloc (C : Ctx) (ow : Bool) (s : St) (dst : Option Nat) (T : TypeId) (k : PV → List En → Prop) : Prop :=
 match ow, dst, C.ti T with
 | true, some d, some r => k (.bx d s.gen 0) (⟨d, s.gen, .box T (r.zero.map fun v => .d (.v v))⟩ :: s.sto)
 | _, _, _ => False
theorem RPs.vals (μ : Nmap) (w : World) (Z : Nat → Nat → Prop) (vs : List Value) : RPs μ w Z vs (vs.map fun v => .d (.v v)) :=
 ⟨by simp, fun i x p hx hp => by
  rw [List.getElem?_map, hx] at hp
  simp at hp; subst hp; exact RP.ofVal ..⟩
theorem Ast {C : Ctx} (hC : C.OK) {o : Oper} {ow c : Bool} {s : St} {T : TypeId} (ho : o.op = .alloc T) : Snd C o ow c s (opAlloc C ow s o.dst T) := by
 intro k h
 unfold opAlloc at h
 split at h
 ·rename_i d r hd hr
  refine ⟨_, _, h, fun hc => ⟨emp, single d s.gen (.box T (r.zero.map fun v => .d (.v v))), ?_, fun _ _ _ h => by simp [emp] at h, den_cons _ _, fun k g h => by
   simp only [emp, single] at h
   split at h
   ·rename_i h1; simp [foot, ho, hd, h1.1, subs]
   ·simp at h, fun h => by simp [foot, ho] at h⟩, fun h => by cases h⟩
  intro μ w Z ρ hg hx hw hf
  obtain ⟨i, _, h1, _, _, _, ⟨z, hz, hzc⟩, _⟩ := hC.ti T r hr
  have hgr : Grown w (w.alloc (.cells z.cells T)) (.cells r.zero.toArray T (0, 0)) := ⟨by rw [← hzc, Array.toArray_toList]; rfl, rfl, rfl⟩
  obtain ⟨h2, h3, h4⟩ := A04 hgr hw (hf d hd) (RPs.vals μ w Z r.zero)
  refine ⟨_, _, _, Z, .inl ?_, h2, h3, h4, Aec o.dst hd⟩
  simp [execOp, ho, Instr.alloc, zeroValue, typeInfo, h1, hz, newVar, newRow]
 ·exact h.elim
def dnD : PV → Option D
 | .d d => some d
 | .ip ds => some (.ptr ds)
 | .os _ _ t xs => some (.sl t xs)
 | .fn f a b => match dnDs a, dnDs b with
  | some a', some b' => some (.fun f a' b')
  | _, _ => none
 | _ => none
 where dnDs : List PV → Option (List D)
 | [] => some []
 | p :: r => match dnD p, dnDs r with
  | some d, some l => some (d :: l)
  | _, _ => none
theorem Aow : ∀ {l : List PV} {ds : List D}, dnD.dnDs l = some ds → l.length = ds.length ∧ ∀ (i : Nat) (p : PV) (d : D), l[i]? = some p → ds[i]? = some d → dnD p = some d
 | [], ds, h => by simp only [dnD.dnDs, Option.some.injEq] at h; subst h; exact ⟨rfl, fun i p d hp => by simp at hp⟩
 | p :: l, ds, h => by
  simp only [dnD.dnDs] at h
  split at h
  ·rename_i d l' h1 h2
   cases h
   obtain ⟨h3, h4⟩ := Aow h2
   refine ⟨by simp [h3], fun i q e hq he => ?_⟩
   cases i with
   | zero => simp at hq he; subst hq; subst he; exact h1
   | succ i => exact h4 i q e (by simpa using hq) (by simpa using he)
  ·cases h
theorem A05 {μ : Nmap} {w : World} {Z : Nat → Nat → Prop} {x : Value} {p : PV} (h : RP μ w Z x p) : ∀ d, dnD p = some d → RD w Z x d := by
 induction h with
 | d x d h => intro e he; simp only [dnD, Option.some.injEq] at he; subst he; exact h
 | bx => intro e he; simp [dnD] at he
 | ip ds b off vs h =>
  intro e he
  simp only [dnD, Option.some.injEq] at he
  subst he
  exact .ptr ds b off vs (fun i d hd => ⟨(h i d hd).1, (h i d hd).2.1⟩) fun i d hd => (h i d hd).2.2
 | osN k g t h => intro e he; simp only [dnD, Option.some.injEq] at he; subst he; exact .nil _ _ _
 | os k g t xs b n cap m T h hr hn hc hs hm => intro e he; simp only [dnD, Option.some.injEq] at he; subst he; exact hr
 | fn f first cap vs us hl hm h h' ih ih' =>
  intro e he
  simp only [dnD] at he
  split at he
  ·rename_i a' b' h1 h2
   cases he
   obtain ⟨l1, g1⟩ := Aow h1
   obtain ⟨l2, g2⟩ := Aow h2
   refine .fun f a' b' vs us (by rw [hl, l1]) (by rw [hm, l2]) (fun i x d hx hd => ?_) (fun i x d hx hd => ?_)
   ·have hi : i < first.length := by rw [l1]; exact (List.getElem?_eq_some_iff.1 hd).1
    have hp := List.getElem?_eq_getElem hi
    exact ih i x _ hx hp d (g1 i _ d hp hd)
   ·have hi : i < cap.length := by rw [l2]; exact (List.getElem?_eq_some_iff.1 hd).1
    have hp := List.getElem?_eq_getElem hi
    exact ih' i x _ hx hp d (g2 i _ d hp hd)
  ·cases he
 | ag => intro e he; simp [dnD] at he
 | tu => intro e he; simp [dnD] at he
 | mp => intro e he; simp [dnD] at he
 | cond => intro e he; simp [dnD] at he
 | ms => intro e he; simp [dnD] at he
 | msE => intro e he; simp [dnD] at he
 | nz => intro e he; simp [dnD] at he
 | npN => intro e he; simp [dnD] at he
 | np => intro e he; simp [dnD] at he
 | ep => intro e he; simp [dnD] at he
 | any => intro e he; simp [dnD] at he
def opBox (C : Ctx) (ow c : Bool) (s : St) (dst : Option Nat) (T : TypeId) (x : Operand) (k : PV → List En → Prop) : Prop :=
 match ow, dst with
 | true, some d => strip c (opd C s.env x) fun p => match flat p with
  | some vs => match C.fz d with
   | false => k (.bx d s.gen 0) (⟨d, s.gen, .box T vs⟩ :: s.sto)
   | true => match dnD.dnDs vs with
    | some ds => k (.ip ds) s.sto
    | none => False
  | none => False
 | _, _ => False
theorem opBox_ok {C : Ctx} {o : Oper} {ow c : Bool} {s : St} {T : TypeId} {x : Operand} (ho : o.op = .box T x) : Snd C o ow c s (opBox C ow c s o.dst T x) := by
 intro k h0
 unfold opBox at h0
 split at h0
 ·rename_i d hd
  obtain ⟨p, h, hp⟩ := Aac (μ := fun _ _ => none) (w := default) (Z := fun _ _ => False) h0
  clear h0
  split at h
  ·rename_i vs hv
   split at h
   rotate_left
   ·split at h
    ·rename_i ds hds
     refine ⟨_, _, h, fun hc => ⟨emp, emp, ?_, fun _ _ _ h => by simp [emp] at h, (Ala _).symm, fun k g h => by simp [emp] at h, fun _ => rfl⟩, fun _ => rfl⟩
     intro μ w Z ρ hg hx hw hf
     obtain ⟨h5, _⟩ := Aqq hv (hp μ w Z _ hc (hx x (by simp [ho, Op.operands])))
     have hgr : Grown w (w.alloc (.cells (ρ x).cells T)) (.cells (ρ x).cells.toList.toArray T (0, 0)) := ⟨by rw [Array.toArray_toList]; rfl, rfl, rfl⟩
     have ha : Adv μ emp Z w μ emp (fun b o => Z b o ∨ b = w.heap.size) (w.alloc (.cells (ρ x).cells T)) :=
      Ajv hgr hw.zlt (fun _ _ _ h => h) (fun _ _ h => .inl h) (fun _ _ h => h) (fun k g c b h => by simp [emp] at h)
     obtain ⟨hl, hat⟩ := Aow hds
     refine ⟨.pointer (some ⟨w.heap.size, 0, none⟩), _, μ, fun b o => Z b o ∨ b = w.heap.size, .inl ?_, ?_, ⟨fun k g c h => by simp [emp] at h, fun k g k' g' c c' b h => by simp [emp] at h, fun b o h => ?_⟩, ha, fun _ _ _ => rfl⟩
     ·simp [execOp, ho, Instr.box, newVar, newRow]
     ·refine .ip _ _ _ (fun i => (ρ x).cells.getD i undef) fun i d hi => ?_
      have hi' : i < vs.length := by rw [hl]; exact (List.getElem?_eq_some_iff.1 hi).1
      have hic : i < (ρ x).cells.toList.length := by rw [h5.1]; exact hi'
      have hic' : i < (ρ x).cells.size := by simpa using hic
      have e1 : (ρ x).cells[i]? = some ((ρ x).cells.getD i undef) := by simp [hic']
      refine ⟨?_, .inr rfl, ?_⟩
      ·rw [Nat.zero_add, cell_of_row _ _ i _ T _ hgr.new]; simpa using e1
      ·have h6 := (h5.2 i ((ρ x).cells.getD i undef) vs[i] (by simpa using e1) (List.getElem?_eq_getElem hi')).adv ha
       exact A05 h6 d (hat i _ d (List.getElem?_eq_getElem hi') hi)
     ·rcases h with h | rfl
      ·exact Nat.lt_of_lt_of_le (hw.zlt _ _ h) ha.size
      ·rw [hgr.heap]; simp
    ·exact h.elim
   refine ⟨_, _, h, fun hc => ⟨emp, single d s.gen (.box T vs), ?_, fun _ _ _ h => by simp [emp] at h, den_cons _ _, fun k g h => by
   simp only [emp, single] at h
   split at h
   ·rename_i h1; simp [foot, ho, hd, h1.1]
   ·simp at h, fun h => by simp [foot, ho] at h⟩, fun h => by cases h⟩
   intro μ w Z ρ hg hx hw hf
   obtain ⟨h5, _⟩ := Aqq hv (hp μ w Z _ hc (hx x (by simp [ho, Op.operands])))
   have hgr : Grown w (w.alloc (.cells (ρ x).cells T)) (.cells (ρ x).cells.toList.toArray T (0, 0)) := ⟨by rw [Array.toArray_toList]; rfl, rfl, rfl⟩
   obtain ⟨h2, h3, h4⟩ := A04 hgr hw (hf d hd) h5
   refine ⟨_, _, _, Z, .inl ?_, h2, h3, h4, Aec o.dst hd⟩
   simp [execOp, ho, Instr.box, newVar, newRow]
  ·exact h.elim
 ·exact h0.elim
theorem Axb {μ : Nmap} {Z : Nat → Nat → Prop} {w : World} {k g b off : Nat} {us vs : List PV} {ys : List Value} {T : TypeId} (hw : WR μ (single k g (.box T us)) Z w) (hb : μ k g = some (some b)) (hv : RPs μ w Z ys vs)
  (hl : off + ys.length ≤ us.length) :
  ∃ cs, w.heap[b]? = some (.cells cs T (0, 0)) ∧ cs.size = us.length ∧ WR μ (single k g (.box T (splice us off vs))) Z (w.setRow b (splice cs.toList off ys).toArray) ∧
   Adv μ (single k g (.box T us)) Z w μ (single k g (.box T (splice us off vs))) Z (w.setRow b (splice cs.toList off ys).toArray) := by
 obtain ⟨b', cs, h1, h2, h3, h4⟩ := hw.ent k g _ (by simp [single]; rfl)
 rw [hb] at h1; obtain rfl := Option.some.inj (Option.some.inj h1)
 have hsz : cs.size = us.length := by simpa using h3.1
 have hsl : (splice cs.toList off ys).length = cs.size := by rw [Ad7 _ _ _ (by simp; omega)]; simp
 have hsame := setRow_heap w b cs (splice cs.toList off ys).toArray T (0, 0) h2
 have ha : Adv μ (single k g (.box T us)) Z w μ (single k g (.box T (splice us off vs))) Z (w.setRow b (splice cs.toList off ys).toArray) := by
  refine ⟨fun _ _ _ h => h, fun _ _ h => h, ?_, ?_, by simp, ?_, fun _ _ h => .inl h, ?_, rfl, rfl⟩
  ·intro b' o hz
   have hne : b' ≠ b := by intro e; subst e; exact h4 o hz
   exact cell_setRow_other w b _ ⟨b', o, none⟩ hne
  ·intro b' s hs
   by_cases hne : b' = b
   ·subst hne
    simp only [World.shape?, h2] at hs
    simp only [World.shape?, hsame]
    rw [← hs]; simp [hsl]
   ·simp only [World.shape?, setRow_other w b b' _ hne]; exact hs
  ·intro b' _ hn
   have hne : b' ≠ b := by intro e; subst e; exact hn k g (.box T us) (by simp [single]) hb
   exact setRow_other w b b' _ hne
  ·intro k' g' c b' h5 h6
   simp only [single] at h5
   split at h5 <;> simp at h5
   rename_i h7
   obtain ⟨rfl, rfl⟩ := h7
   exact .inr ⟨k', g', .box T us, by simp [single], h6⟩
 refine ⟨cs, h2, hsz, ⟨?_, ?_, fun b o h => by simpa using hw.zlt b o h⟩, ha⟩
 ·intro k' g' c h
  simp only [single] at h
  split at h <;> simp at h
  rename_i h7
  obtain ⟨rfl, rfl⟩ := h7
  subst h
  exact ⟨b, _, hb, hsame, by simpa using (RPs.splice h3 hv (by simp; omega)).adv ha, h4⟩
 ·intro k1 g1 k2 g2 c c' b' h5 h6 _ _
  simp only [single] at h5 h6
  split at h5 <;> simp at h5
  split at h6 <;> simp at h6
  rename_i h7 h8
  exact ⟨h7.1.trans h8.1.symm, h7.2.trans h8.2.symm⟩
def opStore (C : Ctx) (ow c : Bool) (s : St) (T : TypeId) (x y : Operand) (k : PV → List En → Prop) : Prop :=
 match ow, C.ti T with
 | true, some r => strip c (opd C s.env x) fun p => strip c (opd C s.env y) fun q => match p, flat q with
  | .bx kk g o, some vs => match find s.sto kk with
   | some (g', .box TT us) => vc c (g' = g) ∧ (vs.length = r.size) ∧ (o + vs.length ≤ us.length) ∧ k .any (setc s.sto kk (.box TT (splice us o vs)))
   | _ => False
  | _, _ => False
 | _, _ => False
theorem opStore_ok {C : Ctx} (hC : C.OK) {o : Oper} {ow c : Bool} {s : St} {T : TypeId} {x y : Operand} (ho : o.op = .store T x y) : Snd C o ow c s (opStore C ow c s T x y) := by
 intro k h0
 unfold opStore at h0
 split at h0
 ·rename_i r hr
  obtain ⟨p, hpu, h, hp⟩ := Acz h0
  obtain ⟨q, h, hq⟩ := Aac (μ := fun _ _ => none) (w := default) (Z := fun _ _ => False) h
  clear h0
  split at h
  ·rename_i kk g off vs hv _
   split at h
   ·rename_i g' TT us hf
    obtain ⟨hg, hl, hlt, h⟩ := h
    refine ⟨_, _, h, fun hc => ⟨single kk g' (.box TT us), single kk g' (.box TT (splice us off vs)), ?_, ?_, Aka _ hf, ?_, fun h => by simp [foot, ho] at h⟩, fun h => by cases h⟩
    ·intro μ w Z ρ _ hx hw _
     obtain rfl := Aae hg hc
     have h1 := hp μ w Z _ hc (hx x (by simp [ho, Op.operands]))
     obtain ⟨h2, h3⟩ := Aqq hv (hq μ w Z _ hc (hx y (by simp [ho, Op.operands])))
     generalize hxe : ρ x = a at h1
     cases h1 with
     | bx _ _ _ b hb =>
      have hlen : (ρ y).cells.toList.length = vs.length := h2.1
      obtain ⟨cs, h4, h5, h6, h7⟩ := Axb (off := off) hw hb h2 (by omega)
      obtain ⟨i, _, h8, _, h9, _⟩ := hC.ti T r hr
      have hst := run_storeCells_at C.P b off TT (ρ y).cells.toList 0 cs w h4 (by omega) h3
      refine ⟨undef, _, μ, Z, .inr ⟨?_, rfl⟩, .any _, h6, h7, fun _ _ _ => rfl⟩
      have hsz : ¬ ((ρ y).cells.size ≠ i.size) := by rw [h9, ← hl, ← hlen]; simp
      simp only [Nat.add_zero] at hst
      simp at hsz
      simp [execOp, ho, hxe, Instr.storeAt, Instr.sureAddr, storeVar, szOf h8, hsz]
      simp [hst, splice]
    ·intro k1 g1 c1 h1
     simp only [single] at h1
     split at h1 <;> simp at h1
     rename_i h2
     obtain ⟨rfl, rfl⟩ := h2
     subst h1
     exact Aa6 hf
    ·intro k1 g1 h1
     simp only [foot, ho, ← hpu, keyOf]
     simp only [single] at h1
     split at h1
     ·rename_i h2; simp [h2.1]
     ·simp at h1
   ·exact h.elim
  ·exact h.elim
 ·exact h0.elim
end Go.PL
namespace Go.PL
set_option linter.unusedSimpArgs false
set_option linter.unusedVariables false
set_option linter.unusedSectionVars false
open Tys (Ty U)
open Enc (sz enc dflt tb ofB toB)
open Dec (dec dok)
variable [Tys] [Enc] [Dec]
/-! ### aggregates by value -/
def fills {α : Type} : List α → List (Nat × List α) → List α
 | l, [] => l
 | l, (off, vs) :: r => fills (splice l off vs) r
def fillP (place : Nat → Option (Nat × Nat)) (n : Nat) : List (Nat × List PV) → Option (List (Nat × List PV))
 | [] => some []
 | (i, vs) :: r => match place i with
  | some (off, size) => if vs.length = size ∧ off + size ≤ n then (fillP place n r).map fun l => (off, vs) :: l else none
  | none => none
theorem Atp {μ : Nmap} {w : World} {Z : Nat → Nat → Prop} {place : Nat → Option (Nat × Nat)} : ∀ (parts : List (Nat × Value)) (pp qq : List (Nat × List PV)) (cells : Array Value) (ps : List PV),
  parts.length = pp.length → (∀ (i : Nat) (a : Nat × Value) (b : Nat × List PV), parts[i]? = some a → pp[i]? = some b → a.1 = b.1 ∧ RPs μ w Z a.2.cells.toList b.2) →
  fillP place ps.length pp = some qq → RPs μ w Z cells.toList ps → ∃ c', Instr.fill place cells parts = some c' ∧ RPs μ w Z c'.toList (fills ps qq)
 | [], pp, qq, cells, ps, hl, _, hq, hr => by
  have : pp = [] := List.eq_nil_of_length_eq_zero hl.symm
  subst this
  simp [fillP] at hq; subst hq
  exact ⟨cells, rfl, hr⟩
 | (i, v) :: parts, [], qq, cells, ps, hl, _, _, _ => by simp at hl
 | (i, v) :: parts, (i', vs) :: pp, qq, cells, ps, hl, hh, hq, hr => by
  obtain ⟨rfl, h1⟩ := hh 0 _ _ rfl rfl
  simp only [fillP] at hq
  cases hp : place i with
  | none => simp [hp] at hq
  | some p =>
   obtain ⟨off, size⟩ := p
   simp only [hp] at hq
   split at hq
   ·rename_i hc
    obtain ⟨hc1, hc2⟩ := hc
    cases hrest : fillP place ps.length pp with
    | none => simp [hrest] at hq
    | some l =>
     simp [hrest] at hq; subst hq
     have hsz : v.cells.size = size := by rw [← hc1, ← h1.1]; simp
     have hcl : cells.size = ps.length := by simpa using hr.1
     have hfold := foldl_set off v.cells.toList 0 cells (by simp; omega)
     have hspl : RPs μ w Z (splice cells.toList off v.cells.toList) (splice ps off vs) := RPs.splice hr h1 (by simp; omega)
     have hlen : (splice ps off vs).length = ps.length := Ad7 _ _ _ (by omega)
     obtain ⟨c', h2, h3⟩ := Atp parts pp l (splice cells.toList off v.cells.toList).toArray (splice ps off vs) (by simpa using hl)
      (fun j a b ha hb => hh (j + 1) a b (by simpa using ha) (by simpa using hb)) (by rw [hlen]; exact hrest) (by simpa using hspl)
     refine ⟨c', ?_, h3⟩
     simp only [Instr.fill, hp]
     have hbad : ¬ (v.cells.size ≠ size ∨ off + v.cells.size > cells.size) := by omega
     have hbad' : (decide (v.cells.size ≠ size) || decide (off + v.cells.size > cells.size)) = false := by simp; omega
     have he : (v.cells.zipIdx.foldl (fun cs (p : Value × Nat) => cs.setIfInBounds (off + p.2) p.1) cells) = (splice cells.toList off v.cells.toList).toArray := by
      apply Array.ext'
      rw [← Array.foldl_toList]
      simp only [Nat.add_zero] at hfold
      simpa using hfold
     split
     ·rename_i hb; rw [hbad'] at hb; cases hb
     ·rw [← h2]; congr 1
   ·simp at hq
def parts (C : Ctx) (c : Bool) (s : St) : List (Nat × Operand) → (List (Nat × List PV) → Prop) → Prop
 | [], k => k []
 | (i, x) :: r, k => strip c (opd C s.env x) fun p => match flat p with
  | some vs => parts C c s r fun l => k ((i, vs) :: l)
  | none => False
theorem Ap2 {C : Ctx} {c : Bool} {s : St} : ∀ (l : List (Nat × Operand)) (k : List (Nat × List PV) → Prop), parts C c s l k →
  ∃ pp, k pp ∧ pp.length = l.length ∧ ∀ (i : Nat) (a : Nat × Operand) (b : Nat × List PV), l[i]? = some a → pp[i]? = some b → a.1 = b.1 ∧
   ∀ μ w Z x, c = true → RP μ w Z x (opd C s.env a.2) → RPs μ w Z x.cells.toList b.2 ∧ ∀ y ∈ x.cells.toList, y.oneCell' = true
 | [], k, h => ⟨[], h, rfl, fun i a b ha => by simp at ha⟩
 | (i, x) :: r, k, h0 => by
  obtain ⟨p, h, hp⟩ := Aac (μ := fun _ _ => none) (w := default) (Z := fun _ _ => False) h0
  clear h0
  split at h
  ·rename_i vs hv
   obtain ⟨pp, h1, h2, h3⟩ := Ap2 r _ h
   refine ⟨_, h1, by simp [h2], fun j a b ha hb => ?_⟩
   cases j with
   | zero =>
    simp at ha hb; subst ha; subst hb
    exact ⟨rfl, fun μ w Z x' hc hx => Aqq hv (hp μ w Z x' hc hx)⟩
   | succ j => exact h3 j a b (by simpa using ha) (by simpa using hb)
  ·exact h.elim
def Ay9 (C : Ctx) (fs : List (Nat × TypeId)) (i : Nat) : Option (Nat × Nat) := match fs[i]? with
 | some (off, t) => match C.ti t with
  | some r => some (off, r.size)
  | none => none
 | none => none
def opBuild (C : Ctx) (c : Bool) (s : St) (T : TypeId) (ps : Array (Nat × Operand)) (k : PV → List En → Prop) : Prop :=
 match C.ti T with
 | some ⟨.struct fs, _, _, zero⟩ => (fs.all fun f => (C.ti f.2).isSome) = true ∧ parts C c s ps.toList fun pp => match fillP (Ay9 C fs) zero.length pp with
  | some qq => k (.ag (fills (zero.map fun v => .d (.v v)) qq)) s.sto
  | none => False
 | some ⟨.array n e, _, _, zero⟩ => match C.ti e with
  | some re => parts C c s ps.toList fun pp => match fillP (fun i => some (i * re.size, re.size)) zero.length pp with
   | some qq => k (.ag (fills (zero.map fun v => .d (.v v)) qq)) s.sto
   | none => False
  | none => False
 | _ => False
theorem Aza {P : Program} {w : World} {α β : Type} (g : α → Sem β) (v : α → β) : ∀ (l : List α), (∀ a ∈ l, (g a).run P w = .ok (v a) w) → (l.mapM g).run P w = .ok (l.map v) w
 | [], _ => rfl
 | a :: l, h => by
  have ih := Aza g v l (fun b hb => h b (by simp [hb]))
  simp only [List.mapM_cons, Sem.run_bind, h a (by simp), Result.andThen_ok, ih, Sem.run_pure, List.map_cons]
theorem A06 {P : Program} {w : World} {α β : Type} (g : α → Sem β) (v : α → β) (F : Array α) (h : ∀ a ∈ F, (g a).run P w = .ok (v a) w) : (F.mapM g).run P w = .ok (F.map v) w := by
 have := Aza (P := P) (w := w) g v F.toList (fun a ha => h a (by simpa using ha))
 rw [Array.mapM_eq_mapM_toList, Sem.run_map, this]
 simp only [Result.andThen_ok]
 rw [Array.toArray_map_toList]
theorem Az9 {C : Ctx} (hC : C.OK) {o : Oper} {ow c : Bool} {s : St} {T : TypeId} {ps : Array (Nat × Operand)} (ho : o.op = .build T ps) : Snd C o ow c s (opBuild C c s T ps) := by
 intro k h0
 unfold opBuild at h0
 split at h0
 ·rename_i fs _ _ zero hT
  obtain ⟨hall, h0⟩ := h0
  obtain ⟨pp, h, hl, hpp⟩ := Ap2 _ _ h0
  clear h0
  split at h
  ·rename_i qq hq
   refine ⟨_, _, h, fun hc => opR_val fun μ w Z ρ hx => ?_, fun _ => rfl⟩
   obtain ⟨i, d, hi, h2, _, _, ⟨z, hz, hzc⟩, h5⟩ := hC.ti T _ hT
   obtain ⟨F, rfl, hF⟩ := KOk.struct h5
   have hallF : ∀ f ∈ F, ∃ r, C.ti f.type = some r := by
    intro f hf
    have := List.all_eq_true.1 hall (f.offset, f.type) (by rw [← hF]; exact List.mem_map.2 ⟨f, by simpa using hf, rfl⟩)
    exact Option.isSome_iff_exists.1 this
   have hplace : (fun i => (F.map fun f => (f.offset, ((C.ti f.type).map (·.size)).getD 0))[i]?) = Ay9 C fs := by
    funext j
    simp only [Ay9, ← hF, List.getElem?_map, Array.getElem?_map]
    cases hj : F[j]? with
    | none => simp [hj]
    | some f =>
     obtain ⟨r, hr⟩ := hallF f (Array.mem_of_getElem? hj)
     simp [hj, hr]
   obtain ⟨c', h6, h7⟩ := Atp (μ := μ) (w := w) (Z := Z) (place := Ay9 C fs) (ps.toList.map fun (a : Nat × Operand) => (a.1, ρ a.2)) pp qq z.cells (zero.map fun v => .d (.v v)) (by simp [hl])
    (fun j a b ha hb => by
     rw [List.getElem?_map] at ha
     cases hq : ps.toList[j]? with
     | none => simp [hq] at ha
     | some a' =>
      simp [hq] at ha; subst ha
      obtain ⟨h8, h9⟩ := hpp j a' b hq hb
      refine ⟨h8, (h9 μ w Z _ hc (hx a'.2 ?_)).1⟩
      have := List.mem_of_getElem? hq
      simp only [ho, Op.operands]
      simp
      exact ⟨a'.1, by simpa using this⟩)
    (by simpa using hq) (by rw [hzc]; exact RPs.vals ..)
   refine ⟨.agg c', ?_, ?_⟩
   ·have hm := A06 (P := C.P) (w := w) (fun (f : Field) => (do pure (f.offset, ← sizeOf f.type) : Sem (Nat × Nat))) (fun f => (f.offset, ((C.ti f.type).map (·.size)).getD 0)) F (fun f hf => by
     obtain ⟨r, hr⟩ := hallF f hf
     obtain ⟨i, _, h1, _, h2, _⟩ := hC.ti _ r hr
     simp [szOf h1, hr, h2])
    have hfill : Instr.fill (fun i => (F.map fun f => (f.offset, ((C.ti f.type).map (·.size)).getD 0))[i]?) z.cells (ps.toList.map fun (a : Nat × Operand) => (a.1, ρ a.2)) = some c' := by rw [hplace]; exact h6
    simp only [execOp, ho, Instr.build, zeroValue, typeInfo, Sem.run_bind, run_program, Result.andThen_ok, hi, hz, Sem.run_pure, und h2, hm]
    have hfill' : Instr.fill (fun x => (F.map fun f => (f.offset, ((C.ti f.type).map (·.size)).getD 0))[x]?) z.cells (ps.map fun (a : Nat × Operand) => (a.1, ρ a.2)).toList = some c' := by
     rw [← hfill]; simp
    rw [hfill']; rfl
   ·have := RP.ag (μ := μ) (w := w) (Z := Z) _ c'.toList h7.1 h7.2
    simpa using this
  ·exact h.elim
 ·rename_i n e _ _ zero hT
  split at h0
  ·rename_i re hre
   obtain ⟨pp, h, hl, hpp⟩ := Ap2 _ _ h0
   clear h0
   split at h
   ·rename_i qq hq
    refine ⟨_, _, h, fun hc => opR_val fun μ w Z ρ hx => ?_, fun _ => rfl⟩
    obtain ⟨i, d, hi, h2, _, _, ⟨z, hz, hzc⟩, h5⟩ := hC.ti T _ hT
    obtain rfl := KOk.array h5
    obtain ⟨ie, _, h8, _, h9, _⟩ := id (hC.ti _ re hre)
    obtain ⟨c', h6, h7⟩ := Atp (μ := μ) (w := w) (Z := Z) (place := fun i => some (i * re.size, re.size)) (ps.toList.map fun (a : Nat × Operand) => (a.1, ρ a.2)) pp qq z.cells (zero.map fun v => .d (.v v)) (by simp [hl])
     (fun j a b ha hb => by
      rw [List.getElem?_map] at ha
      cases hq : ps.toList[j]? with
      | none => simp [hq] at ha
      | some a' =>
       simp [hq] at ha; subst ha
       obtain ⟨h8, h9⟩ := hpp j a' b hq hb
       refine ⟨h8, (h9 μ w Z _ hc (hx a'.2 ?_)).1⟩
       have := List.mem_of_getElem? hq
       simp only [ho, Op.operands]
       simp
       exact ⟨a'.1, by simpa using this⟩)
     (by simpa using hq) (by rw [hzc]; exact RPs.vals ..)
    refine ⟨.agg c', ?_, ?_⟩
    ·simp only [execOp, ho, Instr.build, zeroValue, typeInfo, Sem.run_bind, run_program, Result.andThen_ok, hi, hz, Sem.run_pure, und h2, szOf h8, h9]
     have hfill' : Instr.fill (fun x => some (x * re.size, re.size)) z.cells (ps.map fun (a : Nat × Operand) => (a.1, ρ a.2)).toList = some c' := by
      rw [← h6]; simp
     rw [hfill']; rfl
    ·have := RP.ag (μ := μ) (w := w) (Z := Z) _ c'.toList h7.1 h7.2
     simpa using this
   ·exact h.elim
  ·exact h0.elim
 ·exact h0.elim
end Go.PL
namespace Go.PL
set_option linter.unusedSimpArgs false
set_option linter.unusedVariables false
set_option linter.unusedSectionVars false
open Tys (Ty U)
open Enc (sz enc dflt tb ofB toB)
open Dec (dec dok)
variable [Tys] [Enc] [Dec]
def Zrow (Z : Nat → Nat → Prop) (nb m : Nat) : Nat → Nat → Prop := fun b o => Z b o ∨ (b = nb ∧ o < m)
theorem A07 {μ μ' : Nmap} {m' : Mem} {Z : Nat → Nat → Prop} {w w1 : World} {cs : Array Value} {T : TypeId} {fr : Nat × Nat} {t : Ty} {xs : List (U t)} {cap : Nat} (hg : Grown w w1 (.cells cs T fr)) (hzl : ∀ b o, Z b o → b < w.heap.size)
  (hμ : ∀ k g y, μ k g = some y → μ' k g = some y) (hown : ∀ k g c b, m' k g = some c → μ' k g = some (some b) → b = w.heap.size)
  (hcap : xs.length ≤ cap) (hc : ∀ j i x d, xs[j]? = some x → (enc t x)[i]? = some d → ∃ v, cs[j * sz t + i]? = some v ∧ RD w Z v d) :
  RD w1 (Zrow Z w.heap.size (xs.length * sz t)) (.slice (some ⟨w.heap.size, 0, none⟩) xs.length cap) (.sl t xs) ∧ Adv μ emp Z w μ' m' (Zrow Z w.heap.size (xs.length * sz t)) w1 ∧
   (∀ b o, Zrow Z w.heap.size (xs.length * sz t) b o → b < w1.heap.size) := by
 have ha : Adv μ emp Z w μ' m' (Zrow Z w.heap.size (xs.length * sz t)) w1 := Ajv hg hzl hμ (fun _ _ h => .inl h) (fun _ _ h => h.imp id And.left) hown
 refine ⟨?_, ha, fun b o h => ?_⟩
 ·refine .sl t xs _ 0 cap (fun j i => (cs[j * sz t + i]?).getD undef) hcap (fun j i hj hi => ?_) (fun j i x d hx hd => ?_)
  ·have hx : xs[j]? = some xs[j] := List.getElem?_eq_getElem hj
   have hd : (enc t xs[j])[i]? = some ((enc t xs[j])[i]'(by rw [Enc.len]; exact hi)) := List.getElem?_eq_getElem _
   obtain ⟨v, h1, _⟩ := hc j i _ _ hx hd
   refine ⟨?_, .inr ⟨rfl, ?_⟩⟩
   ·rw [Nat.zero_add, cell_of_row w1 _ _ cs T fr hg.new, h1]; rfl
   ·rw [Nat.zero_add]
    have : (j + 1) * sz t ≤ xs.length * sz t := Nat.mul_le_mul_right _ hj
    rw [Nat.add_mul] at this
    omega
  ·obtain ⟨v, h1, h2⟩ := hc j i x d hx hd
   simp only [h1, Option.getD_some]
   exact h2.mono ha.z ha.cell
 ·rcases h with h | ⟨rfl, _⟩
  ·exact Nat.lt_of_lt_of_le (hzl b o h) ha.size
  ·rw [hg.heap]; simp
theorem Au9 {μ : Nmap} {Z : Nat → Nat → Prop} {w w1 : World} {cs : Array Value} {T : TypeId} {t : Ty} {xs : List (U t)} {d gen cap : Nat} (hg : Grown w w1 (.cells cs T (0, 0))) (hw : WR μ emp Z w) (hf : μ d gen = none)
  (hcap : xs.length ≤ cap) (hcs : cap * sz t ≤ cs.size) (hc : ∀ j i x d, xs[j]? = some x → (enc t x)[i]? = some d → ∃ v, cs[j * sz t + i]? = some v ∧ RD w Z v d) :
  RP (mset μ d gen (some w.heap.size)) w1 (Zrow Z w.heap.size (xs.length * sz t)) (.slice (some ⟨w.heap.size, 0, none⟩) xs.length cap) (.os d gen t xs) ∧
  WR (mset μ d gen (some w.heap.size)) (single d gen (.tok T t xs.length)) (Zrow Z w.heap.size (xs.length * sz t)) w1 ∧
  Adv μ emp Z w (mset μ d gen (some w.heap.size)) (single d gen (.tok T t xs.length)) (Zrow Z w.heap.size (xs.length * sz t)) w1 := by
 obtain ⟨h1, h2, h3⟩ := A07 (μ := μ) (μ' := mset μ d gen (some w.heap.size)) (m' := single d gen (.tok T t xs.length)) (cap := cap) hg hw.zlt (Af1 hf) (by
  intro k g c b h1 h2
  simp only [single] at h1
  split at h1 <;> simp at h1
  rename_i h3
  obtain ⟨rfl, rfl⟩ := h3
  rw [Aau] at h2
  exact (Option.some.inj (Option.some.inj h2)).symm) hcap hc
 refine ⟨.os d gen t xs _ _ cap cs.size T (Aau ..) h1 rfl hcap (by simp [World.shape?, hg.new]) hcs, ⟨?_, ?_, h3⟩, h2⟩
 ·intro k g c h
  simp only [single] at h
  split at h <;> simp at h
  rename_i h4
  obtain ⟨rfl, rfl⟩ := h4
  subst h
  refine .inr ⟨_, cs, Aau .., hg.new, fun o ho hz => ?_⟩
  rcases hz with hz | ⟨_, hz⟩
  ·exact absurd (hw.zlt _ o hz) (by omega)
  ·omega
 ·intro k g k' g' c c' b h1 h2 _ _
  simp only [single] at h1 h2
  split at h1 <;> simp at h1
  split at h2 <;> simp at h2
  rename_i h3 h4
  exact ⟨h3.1.trans h4.1.symm, h3.2.trans h4.2.symm⟩
theorem Ava {μ : Nmap} {Z : Nat → Nat → Prop} {w w1 : World} {cs : Array Value} {T : TypeId} {fr : Nat × Nat} {t : Ty} {xs : List (U t)} {cap : Nat} (hg : Grown w w1 (.cells cs T fr)) (hw : WR μ emp Z w)
  (hcap : xs.length ≤ cap) (hc : ∀ j i x d, xs[j]? = some x → (enc t x)[i]? = some d → ∃ v, cs[j * sz t + i]? = some v ∧ RD w Z v d) :
  RP μ w1 (Zrow Z w.heap.size (xs.length * sz t)) (.slice (some ⟨w.heap.size, 0, none⟩) xs.length cap) (.d (.sl t xs)) ∧
  WR μ emp (Zrow Z w.heap.size (xs.length * sz t)) w1 ∧ Adv μ emp Z w μ emp (Zrow Z w.heap.size (xs.length * sz t)) w1 := by
 obtain ⟨h1, h2, h3⟩ := A07 (μ := μ) (μ' := μ) (m' := emp) (cap := cap) hg hw.zlt (fun _ _ _ h => h) (by intro k g c b h; simp [emp] at h) hcap hc
 exact ⟨.d _ _ h1, ⟨fun k g c h => by simp [emp] at h, fun k g k' g' c c' b h => by simp [emp] at h, h3⟩, h2⟩
def toD : PV → Option D
 | .d d => some d
 | .os _ _ t xs => some (.sl t xs)
 | _ => none
theorem A5d {μ : Nmap} {w : World} {Z : Nat → Nat → Prop} {x : Value} {p : PV} {d : D} (h : toD p = some d) (hx : RP μ w Z x p) : RD w Z x d := by
 cases p <;> simp [toD] at h
 ·subst h; cases hx with
  | d _ _ h => exact h
 ·subst h; exact hx.os_sl
def toDs : List PV → Option (List D)
 | [] => some []
 | p :: r => match toD p, toDs r with
  | some d, some l => some (d :: l)
  | _, _ => none
theorem A08 : ∀ {ps : List PV} {ds : List D}, toDs ps = some ds → ds.length = ps.length ∧ ∀ (i : Nat) (p : PV) (d : D), ps[i]? = some p → ds[i]? = some d → toD p = some d
 | [], ds, h => by simp [toDs] at h; subst h; simp
 | p :: r, ds, h => by
  simp only [toDs] at h
  split at h
  ·rename_i d l h1 h2
   simp at h; subst h
   obtain ⟨h3, h4⟩ := A08 h2
   refine ⟨by simp [h3], fun i q e hq he => ?_⟩
   cases i with
   | zero => simp at hq he; subst hq; subst he; exact h1
   | succ i => exact h4 i q e (by simpa using hq) (by simpa using he)
  ·cases h
def decs (A : Ar) (t : Ty) : List (Nat × List PV) → Nat → Option (List (U t))
 | [], _ => some []
 | (i, vs) :: r, j => if i = j then match toDs vs with
  | some ds => match dec A.u8 t ds, decs A t r (j + 1) with
   | some x, some xs => some (x :: xs)
   | _, _ => none
  | none => none else none
def doks (A : Ar) (t : Ty) : List (Nat × List PV) → Prop
 | [] => True
 | (_, vs) :: r => (match toDs vs with
  | some ds => dok A.u8ok t ds
  | none => True) ∧ doks A t r
theorem Axc {t : Ty} : ∀ {pp : List (Nat × List PV)} {j : Nat} {xs : List (U t)}, decs std t pp j = some xs → xs.length = pp.length ∧
  ∀ (n : Nat) (a : Nat × List PV), pp[n]? = some a → a.1 = j + n ∧ a.2.length = sz t ∧ (doks std t pp → ∀ x, xs[n]? = some x → ∀ (μ : Nmap) (w : World) (Z : Nat → Nat → Prop) (i : Nat) (y : Value) (p : PV) (d : D), a.2[i]? = some p → (enc t x)[i]? = some d → RP μ w Z y p → RD w Z y d)
 | [], j, xs, h => by simp [decs] at h; subst h; simp
 | (i, vs) :: r, j, xs, h => by
  simp only [decs] at h
  split at h
  ·rename_i hij
   split at h
   ·rename_i ds hds
    split at h
    ·rename_i x xs' h1 h2
     simp at h; subst h
     obtain ⟨h3, h4⟩ := Axc h2
     obtain ⟨h5, h6⟩ := Dec.dec_ok t ds x h1
     obtain ⟨h7, h8⟩ := A08 hds
     refine ⟨by simp [h3], fun n a ha => ?_⟩
     cases n with
     | zero =>
      simp at ha; subst ha
      refine ⟨by simpa using hij, by rw [← h7]; exact h5, fun hok x' hx' μ w Z i y p d hp hd hy => ?_⟩
      simp at hx'; subst hx'
      simp only [doks, hds] at hok
      have hlt : i < ds.length := by
       rw [h7]
       rcases Nat.lt_or_ge i vs.length with h | h
       ·exact h
       ·rw [List.getElem?_eq_none h] at hp; cases hp
      exact h6 hok.1 w Z i y ds[i] d (List.getElem?_eq_getElem hlt) hd (A5d (h8 i p ds[i] hp (List.getElem?_eq_getElem hlt)) hy)
     | succ n =>
      obtain ⟨h9, h10, h11⟩ := h4 n a (by simpa using ha)
      exact ⟨by omega, h10, fun hok x' hx' => h11 hok.2 x' (by simpa using hx')⟩
    ·cases h
   ·cases h
  ·cases h
theorem Asu {α : Type} (sz : Nat) : ∀ (vss : List (List α)) (j : Nat) (l : List α), (∀ vs ∈ vss, vs.length = sz) → l.length = (j + vss.length) * sz →
  ∀ (n i : Nat), i < sz → (fills l (vss.zipIdx j |>.map fun a => (a.2 * sz, a.1)))[n * sz + i]? = if n < j then l[n * sz + i]? else (vss[n - j]?).bind (·[i]?)
 | [], j, l, _, hl, n, i, hi => by
  simp only [List.zipIdx_nil, List.map_nil, fills]
  split
  ·rfl
  ·rename_i hn
   have : l.length ≤ n * sz + i := by
    rw [hl]; simp
    have : j * sz ≤ n * sz := Nat.mul_le_mul_right _ (by omega)
    omega
   simp [List.getElem?_eq_none this]
 | vs :: vss, j, l, hh, hl, n, i, hi => by
  have hvs := hh vs (by simp)
  have hjl : j * sz + sz ≤ l.length := by
   rw [hl]; simp only [List.length_cons]
   have : (j + 1) * sz ≤ (j + (vss.length + 1)) * sz := Nat.mul_le_mul_right _ (by omega)
   rw [Nat.add_mul] at this; omega
  have hs : (splice l (j * sz) vs).length = l.length := Ad7 _ _ _ (by omega)
  have ih := Asu sz vss (j + 1) (splice l (j * sz) vs) (fun v hv => hh v (by simp [hv])) (by rw [hs, hl]; simp only [List.length_cons]; congr 1; omega) n i hi
  simp only [List.zipIdx_cons, List.map_cons, fills]
  rw [ih]
  have hmul : ∀ a b, a < b → a * sz + i < b * sz := by
   intro a b h
   have : (a + 1) * sz ≤ b * sz := Nat.mul_le_mul_right _ h
   rw [Nat.add_mul] at this; omega
  by_cases h1 : n < j
  ·have h2 : n < j + 1 := by omega
   have h3 := hmul n j h1
   simp only [h1, h2, if_true, splice, List.append_assoc]
   rw [List.getElem?_append_left (by simp; omega), List.getElem?_take, if_pos h3]
  ·by_cases h2 : n = j
   ·subst h2
    simp only [Nat.lt_succ_self, if_true, Nat.lt_irrefl, if_false, Nat.sub_self, List.getElem?_cons_zero, Option.bind_some, splice, List.append_assoc]
    rw [List.getElem?_append_right (by simp; omega), List.getElem?_append_left (by simp; omega)]
    congr 1
    simp; omega
   ·have h3 : ¬ n < j + 1 := by omega
    obtain ⟨q, hq⟩ : ∃ q, n - j = q + 1 := ⟨n - j - 1, by omega⟩
    have h4 : n - (j + 1) = q := by omega
    simp [h1, h3, hq, h4]
theorem Asv {size n : Nat} : ∀ {pp qq : List (Nat × List PV)}, fillP (fun i => some (i * size, size)) n pp = some qq → qq = pp.map fun a => (a.1 * size, a.2)
 | [], qq, h => by simp [fillP] at h; subst h; rfl
 | (i, vs) :: pp, qq, h => by
  simp only [fillP] at h
  split at h
  ·cases hr : fillP (fun i => some (i * size, size)) n pp with
   | none => simp [hr] at h
   | some l =>
    simp [hr] at h; subst h
    rw [Asv hr]; rfl
  ·cases h
theorem Asw {size n : Nat} : ∀ {pp : List (Nat × List PV)}, (∀ a ∈ pp, a.2.length = size ∧ a.1 * size + size ≤ n) → ∃ qq, fillP (fun i => some (i * size, size)) n pp = some qq
 | [], _ => ⟨[], rfl⟩
 | (i, vs) :: pp, h => by
  obtain ⟨qq, hq⟩ := Asw (pp := pp) (fun a ha => h a (by simp [ha]))
  obtain ⟨h1, h2⟩ := h (i, vs) (by simp)
  exact ⟨_, by simp only [fillP, hq, h1, h2, and_self, if_true]; rfl⟩
theorem Abt {d gen : Nat} {c : Cell} {k g : Nat} {c' : Cell} (h : single d gen c k g = some c') : k = d ∧ g = gen ∧ c' = c := by
 simp only [single] at h
 split at h <;> simp at h
 rename_i h1
 exact ⟨h1.1, h1.2, h.symm⟩
theorem new_arr {μ : Nmap} {Z : Nat → Nat → Prop} {w w1 : World} {cs : Array Value} {T : TypeId} {t : Ty} {xs : List (U t)} {d gen cap : Nat} (hg : Grown w w1 (.cells cs T (0, 0))) (hw : WR μ emp Z w) (hf : μ d gen = none)
  (hcap : xs.length ≤ cap) (hcs : cap * sz t ≤ cs.size) (hc : ArrAt w Z t xs cs) :
  RP (mset μ d gen (some w.heap.size)) w1 Z (.slice (some ⟨w.heap.size, 0, none⟩) xs.length cap) (.ms d gen t 0 (xs.length : Int)) ∧
  WR (mset μ d gen (some w.heap.size)) (single d gen (.arr T t xs)) Z w1 ∧
  Adv μ emp Z w (mset μ d gen (some w.heap.size)) (single d gen (.arr T t xs)) Z w1 := by
 have ha : Adv μ emp Z w (mset μ d gen (some w.heap.size)) (single d gen (.arr T t xs)) Z w1 := Ajv hg hw.zlt (Af1 hf) (fun _ _ h => h) (fun _ _ h => .inl h) (by
  intro k g c b h1 h2
  obtain ⟨rfl, rfl, _⟩ := Abt h1
  rw [Aau] at h2
  exact (Option.some.inj (Option.some.inj h2)).symm)
 refine ⟨?_, ⟨?_, ?_, fun b o h => Nat.lt_of_lt_of_le (hw.zlt b o h) ha.size⟩, ha⟩
 ·have := RP.ms (μ := mset μ d gen (some w.heap.size)) (w := w1) (Z := Z) d gen t 0 (xs.length : Int) w.heap.size cap (Aau ..) (Int.le_refl _) (by omega) (by omega) T cs.size (by simp [World.shape?, hg.new]) (by simpa using hcs)
  simpa using this
 ·intro k g c h
  obtain ⟨rfl, rfl, rfl⟩ := Abt h
  exact .inr ⟨_, cs, Aau .., hg.new, fun j i x d hx hd => let ⟨v, h1, h2⟩ := hc j i x d hx hd; ⟨v, h1, h2.mono ha.z ha.cell⟩, fun o hz => absurd (hw.zlt _ o hz) (by omega)⟩
 ·intro k g k' g' c c' b h1 h2 _ _
  obtain ⟨rfl, rfl, _⟩ := Abt h1
  obtain ⟨rfl, rfl, _⟩ := Abt h2
  exact ⟨rfl, rfl⟩
def opLit (C : Ctx) (A : Ar) (ow c : Bool) (s : St) (dst : Option Nat) (T : TypeId) (n : Nat) (ps : Array (Nat × Operand)) (k : PV → List En → Prop) : Prop :=
 match C.ti T with
 | some ⟨.slice e, _, _, _⟩ => match C.ti e, C.ety e with
  | some r, some t => (n * r.size ≤ 16777216) ∧ parts C c s ps.toList fun pp => match decs A t pp 0 with
   | some xs => vc c (doks A t pp) ∧ (pp.length = n) ∧ (match ow, dst with
    | true, some d => match C.fz (d + 65536) with
     | true => k (.ms d s.gen t 0 (A.len t xs)) (⟨d, s.gen, .arr e t xs⟩ :: s.sto)
     | false => k (.os d s.gen t xs) (⟨d, s.gen, .tok e t (A.nlen t xs)⟩ :: s.sto)
    | false, _ => k (.d (.sl t xs)) s.sto
    | _, _ => False)
   | none => False
  | _, _ => False
 | _ => False
theorem A3j {C : Ctx} {A : Ar} (hA : A = std) (hC : C.OK) {o : Oper} {ow c : Bool} {s : St} {T : TypeId} {n : Nat} {ps : Array (Nat × Operand)} (ho : o.op = .buildSlice T n ps) : Snd C o ow c s (opLit C A ow c s o.dst T n ps) := by
 subst hA
 intro k h0
 unfold opLit at h0
 split at h0
 ·rename_i e _ _ _ hT
  split at h0
  ·rename_i r t hr ht
   obtain ⟨hn24, h0⟩ := h0
   obtain ⟨pp, h, hl, hpp⟩ := Ap2 _ _ h0
   clear h0
   split at h
   ·rename_i xs hxs
    obtain ⟨hdoks, hn, h⟩ := h
    obtain ⟨r', hr', hsz⟩ := hC.ety e t ht
    rw [hr] at hr'; obtain rfl := Option.some.inj hr'
    obtain ⟨hxl, hdec⟩ := Axc hxs
    obtain ⟨i, d, hi, h2, _, _, hz, h5⟩ := hC.ti T _ hT
    obtain rfl := KOk.slice h5
    obtain ⟨i', d', hi', _, hs', _, ⟨z, hz', hzc⟩, _⟩ := hC.ti e r hr
    -- the cells of the new row
    have cells : ∀ (μ : Nmap) (w : World) (Z : Nat → Nat → Prop) (ρ : Operand → Value), c = true → (∀ x ∈ o.op.operands, RP μ w Z (ρ x) (opd C s.env x)) →
      ∃ cs : Array Value, cs.size = n * sz t ∧ (execOp ρ o).run C.P w = .ok (.value (.slice (some ⟨w.heap.size, 0, none⟩) xs.length xs.length)) (w.alloc (.cells cs e)) ∧
       ∀ j i x d, xs[j]? = some x → (enc t x)[i]? = some d → ∃ v, cs[j * sz t + i]? = some v ∧ RD w Z v d := by
     intro μ w Z ρ hc hx
     have hrow : ∀ a ∈ pp, a.2.length = r.size ∧ a.1 * r.size + r.size ≤ n * r.size := by
      intro a ha
      obtain ⟨m, hm⟩ := List.mem_iff_getElem?.1 ha
      obtain ⟨h6, h7, _⟩ := hdec m a hm
      have hmlt : m < pp.length := by
       rcases Nat.lt_or_ge m pp.length with h | h
       ·exact h
       ·rw [List.getElem?_eq_none h] at hm; cases hm
      refine ⟨by rw [h7, hsz], ?_⟩
      have : (a.1 + 1) * r.size ≤ n * r.size := Nat.mul_le_mul_right _ (by omega)
      rw [Nat.add_mul] at this; omega
     obtain ⟨qq, hqq⟩ := Asw hrow
     generalize hz0 : (if n * i'.size = 0 then (#[] : Array Value) else z.cells) = zc
     obtain ⟨c', h6, h7⟩ := Atp (μ := μ) (w := w) (Z := Z) (place := fun i => some (i * r.size, r.size)) (ps.toList.map fun (a : Nat × Operand) => (a.1, ρ a.2)) pp qq
      ((Array.range (n * r.size)).map (zc[· % zc.size]!)) (List.replicate (n * r.size) .any) (by simp [hl])
      (fun j a b ha hb => by
       rw [List.getElem?_map] at ha
       cases hq : ps.toList[j]? with
       | none => simp [hq] at ha
       | some a' =>
        simp [hq] at ha; subst ha
        obtain ⟨h8, h9⟩ := hpp j a' b hq hb
        refine ⟨h8, (h9 μ w Z _ hc (hx a'.2 ?_)).1⟩
        have := List.mem_of_getElem? hq
        simp only [ho, Op.operands]
        simp
        exact ⟨a'.1, by simpa using this⟩)
      (by simpa using hqq) ⟨by simp, fun i x p _ hp => by
       have := List.mem_of_getElem? hp
       rw [(List.mem_replicate.1 this).2]
       exact .any _⟩
     have hqe := Asv hqq
     have hzip : qq = ((pp.map (·.2)).zipIdx 0).map fun a => (a.2 * r.size, a.1) := by
      rw [hqe]
      apply List.ext_getElem?
      intro m
      simp only [List.getElem?_map, List.getElem?_zipIdx]
      cases hm : pp[m]? with
      | none => simp
      | some a => simp [(hdec m a hm).1]
     have hlen : c'.size = n * sz t := by
      have h8 := h7.1
      have hfl : ∀ (l : List PV) (qq : List (Nat × List PV)), (∀ a ∈ qq, a.1 + a.2.length ≤ l.length) → (fills l qq).length = l.length := by
       intro l qq
       induction qq generalizing l with
       | nil => intro _; rfl
       | cons a qq ih =>
        intro h
        simp only [fills]
        have h9 := h a (by simp)
        have h10 := Ad7 l a.1 a.2 h9
        rw [ih _ (fun b hb => by rw [h10]; exact h b (by simp [hb])), h10]
      rw [hfl _ _ (by
       intro a ha
       rw [hqe] at ha
       obtain ⟨b, hb, rfl⟩ := List.mem_map.1 ha
       obtain ⟨h9, h10⟩ := hrow b hb
       simp only [List.length_replicate, h9]; exact h10)] at h8
      simp only [List.length_replicate] at h8
      rw [← hsz]; simpa using h8
     refine ⟨c', hlen, ?_, ?_⟩
     ·have hlt : ¬ (n * i'.size > 2 ^ 24) := by rw [hs']; omega
      have hfill : Instr.fill (fun i => some (i * i'.size, i'.size)) ((Array.range (n * i'.size)).map (zc[· % zc.size]!)) (ps.map fun (a : Nat × Operand) => (a.1, ρ a.2)).toList = some c' := by
       rw [hs', ← h6]; simp
      have hxn : n = xs.length := by omega
      simp only [execOp, ho, Instr.buildSlice, Sem.run_bind, und h2, Result.andThen_ok, szOf hi', hlt, if_false]
      by_cases h0 : n * i'.size = 0
      ·simp only [h0, if_true] at hz0 hfill ⊢
       subst hz0
       simp only [Sem.run_bind, Sem.run_pure, Result.andThen_ok]
       rw [hfill]
       simp [newRow, hxn]
      ·simp only [h0, if_false] at hz0 hfill ⊢
       subst hz0
       simp only [zeroValue, typeInfo, Sem.run_bind, run_program, Result.andThen_ok, hi', hz', Sem.run_pure]
       rw [hfill]
       simp [newRow, hxn]
     ·intro j i x d hx hd
      have hjx : j < xs.length := by
       rcases Nat.lt_or_ge j xs.length with h | h
       ·exact h
       ·rw [List.getElem?_eq_none h] at hx; cases hx
      have hi : i < sz t := by
       rcases Nat.lt_or_ge i (sz t) with h | h
       ·exact h
       ·rw [List.getElem?_eq_none (by rw [Enc.len]; exact h)] at hd; cases hd
      have ha : pp[j]? = some pp[j] := List.getElem?_eq_getElem (by omega)
      obtain ⟨_, h9, h10⟩ := hdec j _ ha
      have hp : (pp[j]).2[i]? = some ((pp[j]).2[i]'(by omega)) := List.getElem?_eq_getElem _
      have hrows := Asu r.size (pp.map (·.2)) 0 (List.replicate (n * r.size) PV.any) (by
       intro vs hvs
       obtain ⟨a, ha, rfl⟩ := List.mem_map.1 hvs
       exact (hrow a ha).1) (by simp [hn]) j i (by rw [hsz]; exact hi)
      rw [← hzip] at hrows
      simp only [Nat.not_lt_zero, if_false, Nat.sub_zero, List.getElem?_map, ha, Option.map_some, Option.bind_some, hp, hsz] at hrows
      have hlt : j * sz t + i < c'.size := by
       rw [hlen]
       have : (j + 1) * sz t ≤ n * sz t := Nat.mul_le_mul_right _ (by omega)
       rw [Nat.add_mul] at this; omega
      refine ⟨c'[j * sz t + i], Array.getElem?_eq_getElem hlt, h10 (Aae hdoks hc) x hx μ w Z i _ _ d hp hd (h7.2 (j * sz t + i) _ _ (by simp [hlt]) (by rw [hsz]; exact hrows))⟩
    split at h
    ·rename_i d' hd'
     split at h
     ·refine ⟨_, _, h, fun hc => ⟨emp, single d' s.gen (.arr e t xs), ?_, fun _ _ _ h => by simp [emp] at h, den_cons _ _, fun k g h => by
       simp only [emp, single] at h
       split at h
       ·rename_i h1; simp [foot, ho, hd', h1.1]
       ·simp at h, fun h => by simp [foot, ho] at h⟩, fun h => by cases h⟩
      intro μ w Z ρ hg hx hw hf
      obtain ⟨cs, h6, h7, h8⟩ := cells μ w Z ρ hc hx
      have hgr : Grown w (w.alloc (.cells cs e)) (.cells cs e (0, 0)) := ⟨rfl, rfl, rfl⟩
      obtain ⟨h9, h10, h11⟩ := new_arr hgr hw (hf d' hd') (Nat.le_refl _) (by rw [h6, hxl, hn]; exact Nat.le_refl _) h8
      exact ⟨_, _, _, _, .inl h7, h9, h10, h11, Aec o.dst hd'⟩
     refine ⟨_, _, h, fun hc => ⟨emp, single d' s.gen (.tok e t xs.length), ?_, fun _ _ _ h => by simp [emp] at h, den_cons _ _, fun k g h => by
      simp only [emp, single] at h
      split at h
      ·rename_i h1; simp [foot, ho, hd', h1.1]
      ·simp at h, fun h => by simp [foot, ho] at h⟩, fun h => by cases h⟩
     intro μ w Z ρ hg hx hw hf
     obtain ⟨cs, h6, h7, h8⟩ := cells μ w Z ρ hc hx
     have hgr : Grown w (w.alloc (.cells cs e)) (.cells cs e (0, 0)) := ⟨rfl, rfl, rfl⟩
     obtain ⟨h9, h10, h11⟩ := Au9 hgr hw (hf d' hd') (Nat.le_refl _) (by rw [h6, hxl, hn]; exact Nat.le_refl _) h8
     exact ⟨_, _, _, _, .inl h7, h9, h10, h11, Aec o.dst hd'⟩
    ·refine ⟨_, _, h, fun hc => ⟨emp, emp, ?_, fun _ _ _ h => by simp [emp] at h, (Ala _).symm, fun k g h => by simp [emp] at h, fun _ => rfl⟩, fun _ => rfl⟩
     intro μ w Z ρ hg hx hw hf
     obtain ⟨cs, h6, h7, h8⟩ := cells μ w Z ρ hc hx
     have hgr : Grown w (w.alloc (.cells cs e)) (.cells cs e (0, 0)) := ⟨rfl, rfl, rfl⟩
     obtain ⟨h9, h10, h11⟩ := Ava hgr hw (Nat.le_refl _) h8
     exact ⟨_, _, _, _, .inl h7, h9, h10, h11, fun _ _ _ => rfl⟩
    ·exact h.elim
   ·exact h.elim
  ·exact h0.elim
 ·exact h0.elim
end Go.PL
namespace Go.PL
set_option linter.unusedSimpArgs false
set_option linter.unusedVariables false
set_option linter.unusedSectionVars false
open Tys (Ty U)
open Enc (sz enc dflt tb ofB toB)
open Dec (dec dok)
variable [Tys] [Enc] [Dec]
theorem Adv.of_emp {μ μ' : Nmap} {m m' : Mem} {Z Z' : Nat → Nat → Prop} {w w' : World} (a : Adv μ emp Z w μ' m' Z' w') : Adv μ m Z w μ' m' Z' w' where
 mu := a.mu
 z := a.z
 cell := a.cell
 shp := a.shp
 size := a.size
 frame b hb _ := a.frame b hb fun k g c h => by simp [emp] at h
 znew b o h := by
  rcases a.znew b o h with h | h | ⟨k, g, c, h, _⟩
  ·exact .inl h
  ·exact .inr (.inl h)
  ·simp [emp] at h
 own k g c b h1 h2 := by
  rcases a.own k g c b h1 h2 with h | ⟨k, g, c, h, _⟩
  ·exact .inl h
  ·simp [emp] at h
 os := a.os
 out := a.out
theorem Ajw (b : Nat) : ∀ (vs : List Value) (o : Nat) (w : World), (w.setCells b o vs).os = w.os ∧ (w.setCells b o vs).output = w.output
 | [], o, w => ⟨rfl, rfl⟩
 | v :: r, o, w => by
  obtain ⟨h1, h2⟩ := Ajw b r (o + 1) (w.setCell ⟨b, o, none⟩ v)
  exact ⟨h1, h2⟩
theorem Alc (b : Nat) (T : TypeId) : ∀ (vs : List Value) (o : Nat) (w : World) (cs : Array Value), w.heap[b]? = some (.cells cs T (0, 0)) →
  ∃ cs', (w.setCells b o vs).heap[b]? = some (.cells cs' T (0, 0)) ∧ cs'.size = cs.size
 | [], o, w, cs, h => ⟨cs, h, rfl⟩
 | v :: r, o, w, cs, h => by
  obtain ⟨cs', h1, h2⟩ := Alc b T r (o + 1) (w.setCell ⟨b, o, none⟩ v) _ (heap_setCell_same w b o cs T v h)
  exact ⟨cs', h1, by rw [h2]; simp⟩
theorem setCells_other (b : Nat) : ∀ (vs : List Value) (o : Nat) (w : World) (k : Nat), k ≠ b → (w.setCells b o vs).heap[k]? = w.heap[k]?
 | [], o, w, k, h => rfl
 | v :: r, o, w, k, h => by
  rw [World.setCells, setCells_other b r (o + 1) _ k h, heap_setCell_other w _ k v h]
theorem setCells_size (b : Nat) : ∀ (vs : List Value) (o : Nat) (w : World), (w.setCells b o vs).heap.size = w.heap.size
 | [], o, w => rfl
 | v :: r, o, w => by rw [World.setCells, setCells_size b r (o + 1)]; simp
def Rows (w : World) (Z : Nat → Nat → Prop) (t : Ty) (ys : List (U t)) (news : List Value) : Prop :=
 news.length = ys.length * sz t ∧ ∀ j i x d, ys[j]? = some x → (enc t x)[i]? = some d → ∃ v, news[j * sz t + i]? = some v ∧ RD w Z v d
theorem RD.one {w : World} {Z : Nat → Nat → Prop} {v : Value} {d : D} (h : RD w Z v d) (h1 : ∀ y, d = .v y → y.oneCell' = true) (h2 : ∀ ds, d ≠ .ag ds) (h3 : ∀ t xs, d ≠ .ar t xs) : v.oneCell' = true := by
 cases h with
 | v => exact h1 _ rfl
 | nil => rfl
 | sl => rfl
 | ifc => rfl
 | ag vs ds => exact absurd rfl (h2 ds)
 | ptr => rfl
 | «fun» => rfl
 | ar t xs => exact absurd rfl (h3 t xs)
theorem RD.rows {w : World} {Z : Nat → Nat → Prop} {y : Value} {t : Ty} {ys : List (U t)} (h : RD w Z y (.sl t ys)) :
  ∃ a cap news, y = .slice a ys.length cap ∧ Rows w Z t ys news ∧ (∀ u ∈ news, u.oneCell' = true) ∧
   ((news = [] ∧ ys = []) ∨ ∃ b off, a = some ⟨b, off, none⟩ ∧ ∀ (j : Nat) (u : Value), news[j]? = some u → w.cell? ⟨b, off + j, none⟩ = some u) := by
 generalize hp : D.sl t ys = p at h
 cases h <;> simp at hp
 case nil t' a cap =>
  obtain ⟨rfl, h⟩ := hp
  simp at h; subst h
  exact ⟨a, cap, [], rfl, ⟨by simp, fun j i x d hx => by simp at hx⟩, by simp, .inl ⟨rfl, rfl⟩⟩
 case sl t' xs' b off cap vs hl hc hr =>
  obtain ⟨rfl, h⟩ := hp
  simp at h; subst h
  have hpos := Enc.pos t
  have hget : ∀ j i, j < ys.length → i < sz t → ((List.range (ys.length * sz t)).map fun q => vs (q / sz t) (q % sz t))[j * sz t + i]? = some (vs j i) := by
   intro j i hj hi
   have : (j + 1) * sz t ≤ ys.length * sz t := Nat.mul_le_mul_right _ hj
   rw [Nat.add_mul] at this
   rw [List.getElem?_map, List.getElem?_range (by omega)]
   simp only [Option.map_some]
   have e1 : (j * sz t + i) / sz t = j := by rw [Nat.mul_comm, Nat.mul_add_div hpos, Nat.div_eq_of_lt hi, Nat.add_zero]
   have e2 : (j * sz t + i) % sz t = i := by rw [Nat.mul_comm, Nat.mul_add_mod, Nat.mod_eq_of_lt hi]
   rw [e1, e2]
  refine ⟨_, cap, (List.range (ys.length * sz t)).map fun q => vs (q / sz t) (q % sz t), rfl, ⟨by simp, fun j i x d hx hd => ?_⟩, ?_, .inr ⟨b, off, rfl, ?_⟩⟩
  ·have hj : j < ys.length := by
    rcases Nat.lt_or_ge j ys.length with h | h
    ·exact h
    ·rw [List.getElem?_eq_none h] at hx; cases hx
   have hi : i < sz t := by
    rcases Nat.lt_or_ge i (sz t) with h | h
    ·exact h
    ·rw [List.getElem?_eq_none (by rw [Enc.len]; exact h)] at hd; cases hd
   exact ⟨_, hget j i hj hi, hr j i x d hx hd⟩
  ·intro u hu
   obtain ⟨q, hq, rfl⟩ := List.mem_map.1 hu
   have hq' : q < ys.length * sz t := by simpa using hq
   have hj : q / sz t < ys.length := Nat.div_lt_of_lt_mul (by rw [Nat.mul_comm]; exact hq')
   have hi : q % sz t < sz t := Nat.mod_lt _ hpos
   have hx : ys[q / sz t]? = some ys[q / sz t] := List.getElem?_eq_getElem hj
   have hd : (enc t ys[q / sz t])[q % sz t]? = some ((enc t ys[q / sz t])[q % sz t]'(by rw [Enc.len]; exact hi)) := List.getElem?_eq_getElem _
   exact (hr _ _ _ _ hx hd).one (Enc.one t _ _ (List.getElem_mem _)) (Enc.agF t _ _ (List.getElem_mem _)) (Enc.arF t _ _ (List.getElem_mem _))
  ·intro q u hu
   have hq : q < ys.length * sz t := by
    rcases Nat.lt_or_ge q (ys.length * sz t) with h | h
    ·exact h
    ·rw [List.getElem?_eq_none (by simpa using h)] at hu; cases hu
   rw [List.getElem?_map, List.getElem?_range hq] at hu
   simp at hu; subst hu
   have hj : q / sz t < ys.length := Nat.div_lt_of_lt_mul (by rw [Nat.mul_comm]; exact hq)
   have hi : q % sz t < sz t := Nat.mod_lt _ hpos
   have := (hc _ _ hj hi).1
   have e : q / sz t * sz t + q % sz t = q := by rw [Nat.mul_comm]; exact Nat.div_add_mod q (sz t)
   rw [e] at this
   exact this
theorem Src.of_rows {P : Program} {w : World} {size n : Nat} {tx e' : TypeId} {a : Option Addr} {cap : Nat} {news : List Value} (hk : P.underlying tx = some (.slice e')) (hl : news.length = n * size) (h1 : ∀ u ∈ news, u.oneCell' = true)
  (h : (news = [] ∧ n = 0) ∨ ∃ b off, a = some ⟨b, off, none⟩ ∧ ∀ (j : Nat) (u : Value), news[j]? = some u → w.cell? ⟨b, off + j, none⟩ = some u) : Src P size tx (.slice a n cap) n news w := by
 rcases h with ⟨rfl, rfl⟩ | ⟨b, off, rfl, hc⟩
 ·cases a with
  | none => exact Src.ofNil w hk cap
  | some a => exact Src.ofSlice w hk a 0 cap [] (by simp) (by simp) (by simp)
 ·exact Src.ofSlice w hk _ n cap news hl (fun j u hu => by rw [addr_add]; exact hc j u hu) h1
theorem A09 {P : Program} {T tx e ty : TypeId} {i : TypeInfo} {z : Value} (hT : P.underlying T = some (.slice e)) (hi : P.info? e = some i) (hz : i.zero = some z) {t : Ty} (hs : i.size = sz t) (hzs : z.cells.size = sz t)
  {μ : Nmap} {fp : Mem} {Z : Nat → Nat → Prop} {w : World} (hzl : ∀ b o, Z b o → b < w.heap.size) {d gen : Nat} (hf : μ d gen = none) {X y : Value} {xs ys : List (U t)} {news : List Value} (hsrc : Src P (sz t) tx y ys.length news w) (hnews : Rows w Z t ys news)
  (hX : (X = .slice none 0 0 ∧ xs = []) ∨ ∃ b cap cs, X = .slice (some ⟨b, 0, none⟩) xs.length cap ∧ w.heap[b]? = some (.cells cs e (0, 0)) ∧ xs.length ≤ cap ∧ cap * sz t ≤ cs.size ∧ RD w Z X (.sl t xs) ∧
   (∀ o, xs.length * sz t ≤ o → ¬ Z b o) ∧ ∃ k g c, fp k g = some c ∧ μ k g = some (some b))
  (hb : (xs.length + ys.length) * i.bytes ≤ 140737488355328) (h63 : xs.length + ys.length ≤ 140737488355328) :
  ∃ val w' y' Z', (Builtin.append_ #[T, tx] ty #[X, y]).run P w = .ok val w' ∧ RP (mset μ d gen y') w' Z' val (.os d gen t (xs ++ ys)) ∧ WR (mset μ d gen y') (single d gen (.tok e t (xs ++ ys).length)) Z' w' ∧
   Adv μ fp Z w (mset μ d gen y') (single d gen (.tok e t (xs ++ ys).length)) Z' w' := by
 have hlen : (xs ++ ys).length = xs.length + ys.length := by simp
 -- a new row
 have grow : ∀ (olds : List Value) (sCap : Nat), sCap < xs.length + ys.length → Rows w Z t xs olds → (X = .slice none 0 0 ∧ xs = [] ∧ sCap = 0 ∨ ∃ a, X = .slice a xs.length sCap) →
   (Builtin.firstCells i.size xs.length X).run P w.drew = .ok olds.toArray w.drew →
   ∃ val w' y' Z', (Builtin.append_ #[T, tx] ty #[X, y]).run P w = .ok val w' ∧ RP (mset μ d gen y') w' Z' val (.os d gen t (xs ++ ys)) ∧ WR (mset μ d gen y') (single d gen (.tok e t (xs ++ ys).length)) Z' w' ∧
    Adv μ fp Z w (mset μ d gen y') (single d gen (.tok e t (xs ++ ys).length)) Z' w' := by
  intro olds sCap hlt hold hXs hfc
  have hXs' : ∃ a, X = .slice a xs.length sCap := by
   rcases hXs with ⟨rfl, rfl, rfl⟩ | h
   ·exact ⟨none, rfl⟩
   ·exact h
  obtain ⟨a, rfl⟩ := hXs'
  have hr := run_append_grow_src (P := P) w T tx ty e i z hT hi hz a xs.length sCap olds hfc y ys.length news (by rw [hs]; exact hsrc) hlt (by omega) (growslice_fits hlt hb)
  have hge := grownCap_ge w (xs.length + ys.length) sCap e
  generalize grownCap w (xs.length + ys.length) sCap e = nc at hr hge
  have hgr : Grown w (w.drew.alloc (.cells ((olds ++ news).toArray ++ Builtin.zeroCells z.cells (nc - (xs.length + ys.length))) e)) (.cells ((olds ++ news).toArray ++ Builtin.zeroCells z.cells (nc - (xs.length + ys.length))) e (0, 0)) := ⟨rfl, rfl, rfl⟩
  obtain ⟨h1, h2, h3⟩ := Au9 (d := d) (gen := gen) (t := t) (xs := xs ++ ys) (cap := nc) (μ := μ) (Z := Z) hgr ⟨fun k g c h => by simp [emp] at h, fun k g k' g' c c' b h => by simp [emp] at h, hzl⟩ hf (by omega) (by
   simp only [Array.size_append, List.size_toArray, List.length_append, size_zeroCells, hzs, hold.1, hnews.1, ← Nat.add_mul]
   apply Nat.le_of_eq; congr 1; omega) (by
   intro j q x dd hx hd
   have hq : q < sz t := by
    rcases Nat.lt_or_ge q (sz t) with h | h
    ·exact h
    ·rw [List.getElem?_eq_none (by rw [Enc.len]; exact h)] at hd; cases hd
   have hin : ∀ (l : Nat) v, (olds ++ news)[l]? = some v → ((olds ++ news).toArray ++ Builtin.zeroCells z.cells (nc - (xs.length + ys.length)))[l]? = some v := by
    intro l v hv
    have hlt : l < (olds ++ news).length := by
     rcases Nat.lt_or_ge l (olds ++ news).length with h | h
     ·exact h
     ·rw [List.getElem?_eq_none h] at hv; cases hv
    rw [Array.getElem?_append_left (by simpa using hlt)]
    simpa using hv
   rw [List.getElem?_append] at hx
   split at hx
   ·rename_i hj
    obtain ⟨v, h4, h5⟩ := hold.2 j q x dd hx hd
    refine ⟨v, hin _ v ?_, h5⟩
    rw [List.getElem?_append_left]
    ·exact h4
    ·rcases Nat.lt_or_ge (j * sz t + q) olds.length with h | h
     ·exact h
     ·rw [List.getElem?_eq_none h] at h4; cases h4
   ·rename_i hj
    obtain ⟨v, h4, h5⟩ := hnews.2 (j - xs.length) q x dd hx hd
    refine ⟨v, hin _ v ?_, h5⟩
    have e1 : j * sz t = xs.length * sz t + (j - xs.length) * sz t := by rw [← Nat.add_mul]; congr 1; omega
    rw [List.getElem?_append_right (by rw [hold.1]; omega), hold.1]
    have e2 : j * sz t + q - xs.length * sz t = (j - xs.length) * sz t + q := by omega
    rw [e2]; exact h4)
  have hr' : (Builtin.append_ #[T, tx] ty #[.slice a xs.length sCap, y]).run P w = .ok (.slice (some ⟨w.heap.size, 0, none⟩) (xs ++ ys).length nc)
    (w.drew.alloc (.cells ((olds ++ news).toArray ++ Builtin.zeroCells z.cells (nc - (xs.length + ys.length))) e)) := by rw [hlen]; exact hr
  exact ⟨_, _, some w.heap.size, _, hr', h1, h2, h3.of_emp⟩
 rcases hX with ⟨rfl, rfl⟩ | ⟨b, cap, cs, rfl, hh, hnc, hcc, hrd, hnz, k0, g0, c0, hfp, hμb⟩
 ·by_cases hm : ys.length = 0
  ·have hys : ys = [] := List.eq_nil_of_length_eq_zero hm
   subst hys
   have hn : news = [] := List.eq_nil_of_length_eq_zero (by simpa using hnews.1)
   subst hn
   have ha : Adv μ fp Z w (mset μ d gen none) (single d gen (.tok e t 0)) Z w := by
    refine ⟨Af1 hf, fun _ _ h => h, fun _ _ _ => rfl, fun _ _ h => h, Nat.le_refl _, fun _ _ _ => rfl, fun _ _ h => .inl h, ?_, rfl, rfl⟩
    intro k g c b' h1 h2
    simp only [single] at h1
    split at h1 <;> simp at h1
    rename_i h3
    obtain ⟨rfl, rfl⟩ := h3
    rw [Aau] at h2; cases h2
   refine ⟨.slice none 0 0, w, none, Z, ?_, .osN _ _ _ (Aau ..), ⟨?_, ?_, hzl⟩, ha⟩
   ·have hcl := hsrc.cells
    have hle := hsrc.len
    simp only [List.length_nil] at hcl hle
    rcases hsrc.kind with ⟨e', hk⟩ | hk <;>
     simp [Builtin.append_, und hT, und hk, szOf hi, hle, hcl, hs]
   ·intro k g c h
    simp only [single] at h
    split at h <;> simp at h
    rename_i h3
    obtain ⟨rfl, rfl⟩ := h3
    subst h
    exact .inl ⟨Aau .., rfl⟩
   ·intro k g k' g' c c' b' h1 h2 h3 _
    simp only [single] at h1 h2
    split at h1 <;> simp at h1
    rename_i h4
    obtain ⟨rfl, rfl⟩ := h4
    rw [Aau] at h3; cases h3
  ·exact grow [] 0 (by simp; omega) ⟨by simp, fun j i x d hx => by simp at hx⟩ (.inl ⟨rfl, rfl, rfl⟩) (by simp [Builtin.firstCells])
 ·by_cases hroom : xs.length + ys.length ≤ cap
  ·-- in place
   have hfit : xs.length * sz t + news.length ≤ cs.size := by
    rw [hnews.1, ← Nat.add_mul]
    exact Nat.le_trans (Nat.mul_le_mul_right _ hroom) hcc
   have hcell : ∀ j, j < news.length → (w.cell? ⟨b, 0 + xs.length * i.size + j, none⟩).isSome = true := by
    intro j hj
    rw [hs, Nat.zero_add, cell_of_row w b _ cs e _ hh]
    have : xs.length * sz t + j < cs.size := by omega
    simp [this]
   have hr := run_append_room_src (P := P) w T tx ty e i hT hi b 0 xs.length cap y ys.length news (by rw [hs]; exact hsrc) hroom hcell (fun j _ => frozen_of_row w b _ cs e hh)
   rw [hs, Nat.zero_add] at hr hcell
   obtain ⟨cs', hh', hsz'⟩ := Alc b e news (xs.length * sz t) w cs hh
   have hout : ∀ b' o, (b' = b → o < xs.length * sz t) → (w.setCells b (xs.length * sz t) news).cell? ⟨b', o, none⟩ = w.cell? ⟨b', o, none⟩ := by
    intro b' o h
    exact World.cell?_setCells_out b news _ w ⟨b', o, none⟩ (fun h1 _ => .inl (h h1))
   have hzout : ∀ b' o, Z b' o → (b' = b → o < xs.length * sz t) := by
    intro b' o hz he
    subst he
    rcases Nat.lt_or_ge o (xs.length * sz t) with h | h
    ·exact h
    ·exact absurd hz (hnz o h)
   let Z' : Nat → Nat → Prop := fun b' o => Z b' o ∨ (b' = b ∧ o < (xs ++ ys).length * sz t)
   have ha : Adv μ fp Z w (mset μ d gen (some b)) (single d gen (.tok e t (xs ++ ys).length)) Z' (w.setCells b (xs.length * sz t) news) := by
    refine ⟨Af1 hf, fun _ _ h => .inl h, fun b' o h => hout b' o (hzout b' o h), ?_, by rw [setCells_size]; exact Nat.le_refl _, ?_, ?_, ?_, (Ajw ..).1, (Ajw ..).2⟩
    ·intro b' s hsh
     by_cases he : b' = b
     ·subst he
      simp only [World.shape?, hh] at hsh
      simp only [World.shape?, hh', hsz']; exact hsh
     ·simp only [World.shape?, setCells_other b news _ w b' he]; exact hsh
    ·intro b' _ hn
     have he : b' ≠ b := by intro e; subst e; exact hn _ _ _ hfp hμb
     exact setCells_other b news _ w b' he
    ·intro b' o h
     rcases h with h | ⟨rfl, _⟩
     ·exact .inl h
     ·exact .inr (.inr ⟨k0, g0, c0, hfp, hμb⟩)
    ·intro k g c b' h1 h2
     simp only [single] at h1
     split at h1 <;> simp at h1
     rename_i h3
     obtain ⟨rfl, rfl⟩ := h3
     rw [Aau] at h2
     obtain rfl := Option.some.inj (Option.some.inj h2)
     exact .inr ⟨k0, g0, c0, hfp, hμb⟩
   have hblt : b < w.heap.size := by
    rcases Nat.lt_or_ge b w.heap.size with h | h
    ·exact h
    ·rw [Array.getElem?_eq_none h] at hh; cases hh
   refine ⟨_, _, some b, Z', hr, ?_, ⟨?_, ?_, ?_⟩, ha⟩
   ·obtain ⟨a0, cap0, olds, hX0, hold, _, hcase⟩ := hrd.rows
    cases hX0
    have hpos := Enc.pos t
    refine .os d gen t (xs ++ ys) b _ cap cs'.size e (Aau ..) ?_ hlen.symm hroom (by simp [World.shape?, hh']) (by rw [hsz']; exact hcc)
    have := RD.sl (w := w.setCells b (xs.length * sz t) news) (Z := Z') t (xs ++ ys) b 0 cap (fun j q => ((olds ++ news)[j * sz t + q]?).getD undef) (by rw [hlen]; exact hroom) ?_ ?_
    ·rw [hlen] at this; exact this
    ·intro j q hj hq
     rw [hlen] at hj
     have hjq : j * sz t + q < (xs ++ ys).length * sz t := by
      have : (j + 1) * sz t ≤ (xs.length + ys.length) * sz t := Nat.mul_le_mul_right _ hj
      rw [Nat.add_mul] at this; rw [hlen]; omega
     refine ⟨?_, .inr ⟨rfl, by rw [Nat.zero_add]; exact hjq⟩⟩
     rw [Nat.zero_add]
     by_cases hjx : j < xs.length
     ·have hlt : j * sz t + q < xs.length * sz t := by
       have : (j + 1) * sz t ≤ xs.length * sz t := Nat.mul_le_mul_right _ hjx
       rw [Nat.add_mul] at this; omega
      rw [hout b _ (fun _ => hlt), List.getElem?_append_left (by rw [hold.1]; exact hlt)]
      have hlt' : j * sz t + q < olds.length := by rw [hold.1]; exact hlt
      rw [List.getElem?_eq_getElem hlt', Option.getD_some]
      rcases hcase with ⟨_, hx⟩ | ⟨b', off', he, hcc'⟩
      ·subst hx; simp at hjx
      ·cases he
       have := hcc' _ _ (List.getElem?_eq_getElem hlt')
       rw [Nat.zero_add] at this; exact this
     ·have hge : xs.length * sz t ≤ j * sz t + q := by
       have : xs.length * sz t ≤ j * sz t := Nat.mul_le_mul_right _ (by omega)
       omega
      obtain ⟨p, hp⟩ : ∃ p, j * sz t + q = xs.length * sz t + p := ⟨_, (Nat.add_sub_cancel' hge).symm⟩
      have hplt : p < news.length := by rw [hnews.1]; rw [hlen, Nat.add_mul] at hjq; omega
      rw [hp, World.cell?_setCells_in b news _ w (fun l hl => hcell l hl) p hplt, List.getElem?_append_right (by rw [hold.1]; omega), hold.1, Nat.add_sub_cancel_left, List.getElem?_eq_getElem hplt]
      rfl
    ·intro j q x dd hx hd
     have hq : q < sz t := by
      rcases Nat.lt_or_ge q (sz t) with h | h
      ·exact h
      ·rw [List.getElem?_eq_none (by rw [Enc.len]; exact h)] at hd; cases hd
     rw [List.getElem?_append] at hx
     split at hx
     ·rename_i hj
      obtain ⟨v, h4, h5⟩ := hold.2 j q x dd hx hd
      have hlt : j * sz t + q < olds.length := by
       rcases Nat.lt_or_ge (j * sz t + q) olds.length with h | h
       ·exact h
       ·rw [List.getElem?_eq_none h] at h4; cases h4
      show RD _ _ (((olds ++ news)[j * sz t + q]?).getD undef) dd
      rw [List.getElem?_append_left hlt, h4]
      exact h5.mono ha.z ha.cell
     ·rename_i hj
      obtain ⟨v, h4, h5⟩ := hnews.2 (j - xs.length) q x dd hx hd
      have e1 : j * sz t = xs.length * sz t + (j - xs.length) * sz t := by rw [← Nat.add_mul]; congr 1; omega
      have e2 : j * sz t + q - xs.length * sz t = (j - xs.length) * sz t + q := by omega
      show RD _ _ (((olds ++ news)[j * sz t + q]?).getD undef) dd
      rw [List.getElem?_append_right (by rw [hold.1]; omega), hold.1, e2, h4]
      exact h5.mono ha.z ha.cell
   ·intro k g c h
    simp only [single] at h
    split at h <;> simp at h
    rename_i h3
    obtain ⟨rfl, rfl⟩ := h3
    subst h
    refine .inr ⟨b, cs', Aau .., hh', fun o ho hz => ?_⟩
    have hlm : (xs ++ ys).length * sz t = (xs.length + ys.length) * sz t := by rw [hlen]
    rcases hz with hz | ⟨_, hz⟩
    ·have := hzout b o hz rfl
     have h5 : xs.length * sz t ≤ (xs ++ ys).length * sz t := Nat.mul_le_mul_right _ (by rw [hlen]; omega)
     omega
    ·omega
   ·intro k g k' g' c c' b' h1 h2 _ _
    simp only [single] at h1 h2
    split at h1 <;> simp at h1
    split at h2 <;> simp at h2
    rename_i h3 h4
    exact ⟨h3.1.trans h4.1.symm, h3.2.trans h4.2.symm⟩
   ·intro b' o h
    rw [setCells_size]
    rcases h with h | ⟨rfl, _⟩
    ·exact hzl b' o h
    ·exact hblt
  ·obtain ⟨a0, cap0, olds, hX0, hold, hone, hcase⟩ := hrd.rows
   cases hX0
   refine grow olds cap (by omega) hold (.inr ⟨_, rfl⟩) ?_
   rcases hcase with ⟨ho, hx⟩ | ⟨b', off', he, hcc'⟩
   ·subst ho; subst hx
    simp [Builtin.firstCells, loadCells, loadCellsFrom]
   ·cases he
    have := run_firstCells_some (P := P) w.drew i.size xs.length ⟨b, 0, none⟩ xs.length cap olds (by rw [hs]; exact hold.1) (fun j v hv => by rw [addr_add]; simpa using hcc' j v hv)
    exact this
end Go.PL
