/- A logic over the model, second part: append, texts, maps, going over maps, calls. No condition of its own. -/
import Derived.Test.YtmmpeenkjgnhbaaDoorLa
import Derived.Deep.AppendSrc
import Derived.Laws.BytesArg
import Derived.LaidEqlPtr
import Derived.Lib.Builder
import Derived.Laws.Strings
import Derived.Laws.StructEq
import Derived.Maps.RangeRun
/-! append; bytes and texts. -/
namespace Go.PL
set_option linter.unusedSimpArgs false
set_option linter.unusedVariables false
set_option linter.unusedSectionVars false
open Tys (Ty U)
open Enc (sz enc dflt tb ofB toB)
open Dec (dec dok)
variable [Tys] [Enc] [Dec]

theorem Adv.of_emp {μ μ' : Nmap} {m m' : Mem} {Z Z' : Nat → Nat → Prop} {w w' : World} (a : Adv μ emp Z w μ' m' Z' w') : Adv μ m Z w μ' m' Z' w' where
  mu := a.mu
  z := a.z
  cell := a.cell
  shp := a.shp
  size := a.size
  frame b hb _ := a.frame b hb fun k g c h => by simp [emp] at h
  znew b o h := by
    rcases a.znew b o h with h | h | ⟨k, g, c, h, _⟩
    · exact .inl h
    · exact .inr (.inl h)
    · simp [emp] at h
  own k g c b h1 h2 := by
    rcases a.own k g c b h1 h2 with h | ⟨k, g, c, h, _⟩
    · exact .inl h
    · simp [emp] at h
  os := a.os
  out := a.out

theorem setCells_os (b : Nat) : ∀ (vs : List Value) (o : Nat) (w : World), (w.setCells b o vs).os = w.os ∧ (w.setCells b o vs).output = w.output
  | [], o, w => ⟨rfl, rfl⟩
  | v :: r, o, w => by
    obtain ⟨h1, h2⟩ := setCells_os b r (o + 1) (w.setCell ⟨b, o, none⟩ v)
    exact ⟨h1, h2⟩
theorem setCells_heap (b : Nat) (T : TypeId) : ∀ (vs : List Value) (o : Nat) (w : World) (cs : Array Value), w.heap[b]? = some (.cells cs T (0, 0)) →
    ∃ cs', (w.setCells b o vs).heap[b]? = some (.cells cs' T (0, 0)) ∧ cs'.size = cs.size
  | [], o, w, cs, h => ⟨cs, h, rfl⟩
  | v :: r, o, w, cs, h => by
    obtain ⟨cs', h1, h2⟩ := setCells_heap b T r (o + 1) (w.setCell ⟨b, o, none⟩ v) _ (heap_setCell_same w b o cs T v h)
    exact ⟨cs', h1, by rw [h2]; simp⟩
theorem setCells_other (b : Nat) : ∀ (vs : List Value) (o : Nat) (w : World) (k : Nat), k ≠ b → (w.setCells b o vs).heap[k]? = w.heap[k]?
  | [], o, w, k, h => rfl
  | v :: r, o, w, k, h => by
    rw [World.setCells, setCells_other b r (o + 1) _ k h, heap_setCell_other w _ k v h]
theorem setCells_size (b : Nat) : ∀ (vs : List Value) (o : Nat) (w : World), (w.setCells b o vs).heap.size = w.heap.size
  | [], o, w => rfl
  | v :: r, o, w => by rw [World.setCells, setCells_size b r (o + 1)]; simp

/-- the cells of a list of elements -/
def Rows (w : World) (Z : Nat → Nat → Prop) (t : Ty) (ys : List (U t)) (news : List Value) : Prop :=
  news.length = ys.length * sz t ∧ ∀ j i x d, ys[j]? = some x → (enc t x)[i]? = some d → ∃ v, news[j * sz t + i]? = some v ∧ RD w Z v d

theorem RD.one {w : World} {Z : Nat → Nat → Prop} {v : Value} {d : D} (h : RD w Z v d) (h1 : ∀ y, d = .v y → y.oneCell' = true) (h2 : ∀ ds, d ≠ .ag ds) : v.oneCell' = true := by
  cases h with
  | v => exact h1 _ rfl
  | nil => rfl
  | sl => rfl
  | ifc => rfl
  | ag vs ds => exact absurd rfl (h2 ds)

/-- a slice read as rows of cells -/
theorem RD.rows {w : World} {Z : Nat → Nat → Prop} {y : Value} {t : Ty} {ys : List (U t)} (h : RD w Z y (.sl t ys)) :
    ∃ a cap news, y = .slice a ys.length cap ∧ Rows w Z t ys news ∧ (∀ u ∈ news, u.oneCell' = true) ∧
      ((news = [] ∧ ys = []) ∨ ∃ b off, a = some ⟨b, off, none⟩ ∧ ∀ (j : Nat) (u : Value), news[j]? = some u → w.cell? ⟨b, off + j, none⟩ = some u) := by
  generalize hp : D.sl t ys = p at h
  cases h <;> simp at hp
  case nil t' a cap =>
    obtain ⟨rfl, h⟩ := hp
    simp at h; subst h
    exact ⟨a, cap, [], rfl, ⟨by simp, fun j i x d hx => by simp at hx⟩, by simp, .inl ⟨rfl, rfl⟩⟩
  case sl t' xs' b off cap vs hl hc hr =>
    obtain ⟨rfl, h⟩ := hp
    simp at h; subst h
    have hpos := Enc.pos t
    have hget : ∀ j i, j < ys.length → i < sz t → ((List.range (ys.length * sz t)).map fun q => vs (q / sz t) (q % sz t))[j * sz t + i]? = some (vs j i) := by
      intro j i hj hi
      have : (j + 1) * sz t ≤ ys.length * sz t := Nat.mul_le_mul_right _ hj
      rw [Nat.add_mul] at this
      rw [List.getElem?_map, List.getElem?_range (by omega)]
      simp only [Option.map_some]
      have e1 : (j * sz t + i) / sz t = j := by rw [Nat.mul_comm, Nat.mul_add_div hpos, Nat.div_eq_of_lt hi, Nat.add_zero]
      have e2 : (j * sz t + i) % sz t = i := by rw [Nat.mul_comm, Nat.mul_add_mod, Nat.mod_eq_of_lt hi]
      rw [e1, e2]
    refine ⟨_, cap, (List.range (ys.length * sz t)).map fun q => vs (q / sz t) (q % sz t), rfl, ⟨by simp, fun j i x d hx hd => ?_⟩, ?_, .inr ⟨b, off, rfl, ?_⟩⟩
    · have hj : j < ys.length := by
        rcases Nat.lt_or_ge j ys.length with h | h
        · exact h
        · rw [List.getElem?_eq_none h] at hx; cases hx
      have hi : i < sz t := by
        rcases Nat.lt_or_ge i (sz t) with h | h
        · exact h
        · rw [List.getElem?_eq_none (by rw [Enc.len]; exact h)] at hd; cases hd
      exact ⟨_, hget j i hj hi, hr j i x d hx hd⟩
    · intro u hu
      obtain ⟨q, hq, rfl⟩ := List.mem_map.1 hu
      have hq' : q < ys.length * sz t := by simpa using hq
      have hj : q / sz t < ys.length := Nat.div_lt_of_lt_mul (by rw [Nat.mul_comm]; exact hq')
      have hi : q % sz t < sz t := Nat.mod_lt _ hpos
      have hx : ys[q / sz t]? = some ys[q / sz t] := List.getElem?_eq_getElem hj
      have hd : (enc t ys[q / sz t])[q % sz t]? = some ((enc t ys[q / sz t])[q % sz t]'(by rw [Enc.len]; exact hi)) := List.getElem?_eq_getElem _
      exact (hr _ _ _ _ hx hd).one (Enc.one t _ _ (List.getElem_mem _)) (Enc.agF t _ _ (List.getElem_mem _))
    · intro q u hu
      have hq : q < ys.length * sz t := by
        rcases Nat.lt_or_ge q (ys.length * sz t) with h | h
        · exact h
        · rw [List.getElem?_eq_none (by simpa using h)] at hu; cases hu
      rw [List.getElem?_map, List.getElem?_range hq] at hu
      simp at hu; subst hu
      have hj : q / sz t < ys.length := Nat.div_lt_of_lt_mul (by rw [Nat.mul_comm]; exact hq)
      have hi : q % sz t < sz t := Nat.mod_lt _ hpos
      have := (hc _ _ hj hi).1
      have e : q / sz t * sz t + q % sz t = q := by rw [Nat.mul_comm]; exact Nat.div_add_mod q (sz t)
      rw [e] at this
      exact this

theorem Src.of_rows {P : Program} {w : World} {size n : Nat} {tx e' : TypeId} {a : Option Addr} {cap : Nat} {news : List Value} (hk : P.underlying tx = some (.slice e')) (hl : news.length = n * size) (h1 : ∀ u ∈ news, u.oneCell' = true)
    (h : (news = [] ∧ n = 0) ∨ ∃ b off, a = some ⟨b, off, none⟩ ∧ ∀ (j : Nat) (u : Value), news[j]? = some u → w.cell? ⟨b, off + j, none⟩ = some u) : Src P size tx (.slice a n cap) n news w := by
  rcases h with ⟨rfl, rfl⟩ | ⟨b, off, rfl, hc⟩
  · cases a with
    | none => exact Src.ofNil w hk cap
    | some a => exact Src.ofSlice w hk a 0 cap [] (by simp) (by simp) (by simp)
  · exact Src.ofSlice w hk _ n cap news hl (fun j u hu => by rw [addr_add]; exact hc j u hu) h1

/-- append, over whatever is appended -/
theorem app_run {P : Program} {T tx e ty : TypeId} {i : TypeInfo} {z : Value} (hT : P.underlying T = some (.slice e)) (hi : P.info? e = some i) (hz : i.zero = some z) {t : Ty} (hs : i.size = sz t) (hzs : z.cells.size = sz t)
    {μ : Nmap} {fp : Mem} {Z : Nat → Nat → Prop} {w : World} (hzl : ∀ b o, Z b o → b < w.heap.size) {d gen : Nat} (hf : μ d gen = none) {X y : Value} {xs ys : List (U t)} {news : List Value} (hsrc : Src P (sz t) tx y ys.length news w) (hnews : Rows w Z t ys news)
    (hX : (X = .slice none 0 0 ∧ xs = []) ∨ ∃ b cap cs, X = .slice (some ⟨b, 0, none⟩) xs.length cap ∧ w.heap[b]? = some (.cells cs e (0, 0)) ∧ xs.length ≤ cap ∧ cap * sz t ≤ cs.size ∧ RD w Z X (.sl t xs) ∧
      (∀ o, xs.length * sz t ≤ o → ¬ Z b o) ∧ ∃ k g c, fp k g = some c ∧ μ k g = some (some b))
    (hb : (xs.length + ys.length) * i.bytes ≤ 140737488355328) (h63 : xs.length + ys.length ≤ 140737488355328) :
    ∃ val w' y' Z', (Builtin.append_ #[T, tx] ty #[X, y]).run P w = .ok val w' ∧ RP (mset μ d gen y') w' Z' val (.os d gen t (xs ++ ys)) ∧ WR (mset μ d gen y') (single d gen (.tok e t (xs ++ ys).length)) Z' w' ∧
      Adv μ fp Z w (mset μ d gen y') (single d gen (.tok e t (xs ++ ys).length)) Z' w' := by
  have hlen : (xs ++ ys).length = xs.length + ys.length := by simp
  -- a new row
  have grow : ∀ (olds : List Value) (sCap : Nat), sCap < xs.length + ys.length → Rows w Z t xs olds → (X = .slice none 0 0 ∧ xs = [] ∧ sCap = 0 ∨ ∃ a, X = .slice a xs.length sCap) →
      (Builtin.firstCells i.size xs.length X).run P w.drew = .ok olds.toArray w.drew →
      ∃ val w' y' Z', (Builtin.append_ #[T, tx] ty #[X, y]).run P w = .ok val w' ∧ RP (mset μ d gen y') w' Z' val (.os d gen t (xs ++ ys)) ∧ WR (mset μ d gen y') (single d gen (.tok e t (xs ++ ys).length)) Z' w' ∧
        Adv μ fp Z w (mset μ d gen y') (single d gen (.tok e t (xs ++ ys).length)) Z' w' := by
    intro olds sCap hlt hold hXs hfc
    have hXs' : ∃ a, X = .slice a xs.length sCap := by
      rcases hXs with ⟨rfl, rfl, rfl⟩ | h
      · exact ⟨none, rfl⟩
      · exact h
    obtain ⟨a, rfl⟩ := hXs'
    have hr := run_append_grow_src (P := P) w T tx ty e i z hT hi hz a xs.length sCap olds hfc y ys.length news (by rw [hs]; exact hsrc) hlt (by omega) (growslice_fits hlt hb)
    have hge := grownCap_ge w (xs.length + ys.length) sCap e
    generalize grownCap w (xs.length + ys.length) sCap e = nc at hr hge
    have hgr : Grown w (w.drew.alloc (.cells ((olds ++ news).toArray ++ Builtin.zeroCells z.cells (nc - (xs.length + ys.length))) e)) (.cells ((olds ++ news).toArray ++ Builtin.zeroCells z.cells (nc - (xs.length + ys.length))) e (0, 0)) := ⟨rfl, rfl, rfl⟩
    obtain ⟨h1, h2, h3⟩ := new_owned (d := d) (gen := gen) (t := t) (xs := xs ++ ys) (cap := nc) (μ := μ) (Z := Z) hgr ⟨fun k g c h => by simp [emp] at h, fun k g k' g' c c' b h => by simp [emp] at h, hzl⟩ hf (by omega) (by
      simp only [Array.size_append, List.size_toArray, List.length_append, size_zeroCells, hzs, hold.1, hnews.1, ← Nat.add_mul]
      apply Nat.le_of_eq; congr 1; omega) (by
      intro j q x dd hx hd
      have hq : q < sz t := by
        rcases Nat.lt_or_ge q (sz t) with h | h
        · exact h
        · rw [List.getElem?_eq_none (by rw [Enc.len]; exact h)] at hd; cases hd
      have hin : ∀ (l : Nat) v, (olds ++ news)[l]? = some v → ((olds ++ news).toArray ++ Builtin.zeroCells z.cells (nc - (xs.length + ys.length)))[l]? = some v := by
        intro l v hv
        have hlt : l < (olds ++ news).length := by
          rcases Nat.lt_or_ge l (olds ++ news).length with h | h
          · exact h
          · rw [List.getElem?_eq_none h] at hv; cases hv
        rw [Array.getElem?_append_left (by simpa using hlt)]
        simpa using hv
      rw [List.getElem?_append] at hx
      split at hx
      · rename_i hj
        obtain ⟨v, h4, h5⟩ := hold.2 j q x dd hx hd
        refine ⟨v, hin _ v ?_, h5⟩
        rw [List.getElem?_append_left]
        · exact h4
        · rcases Nat.lt_or_ge (j * sz t + q) olds.length with h | h
          · exact h
          · rw [List.getElem?_eq_none h] at h4; cases h4
      · rename_i hj
        obtain ⟨v, h4, h5⟩ := hnews.2 (j - xs.length) q x dd hx hd
        refine ⟨v, hin _ v ?_, h5⟩
        have e1 : j * sz t = xs.length * sz t + (j - xs.length) * sz t := by rw [← Nat.add_mul]; congr 1; omega
        rw [List.getElem?_append_right (by rw [hold.1]; omega), hold.1]
        have e2 : j * sz t + q - xs.length * sz t = (j - xs.length) * sz t + q := by omega
        rw [e2]; exact h4)
    have hr' : (Builtin.append_ #[T, tx] ty #[.slice a xs.length sCap, y]).run P w = .ok (.slice (some ⟨w.heap.size, 0, none⟩) (xs ++ ys).length nc)
        (w.drew.alloc (.cells ((olds ++ news).toArray ++ Builtin.zeroCells z.cells (nc - (xs.length + ys.length))) e)) := by rw [hlen]; exact hr
    exact ⟨_, _, some w.heap.size, _, hr', h1, h2, h3.of_emp⟩
  rcases hX with ⟨rfl, rfl⟩ | ⟨b, cap, cs, rfl, hh, hnc, hcc, hrd, hnz, k0, g0, c0, hfp, hμb⟩
  · by_cases hm : ys.length = 0
    · have hys : ys = [] := List.eq_nil_of_length_eq_zero hm
      subst hys
      have hn : news = [] := List.eq_nil_of_length_eq_zero (by simpa using hnews.1)
      subst hn
      have ha : Adv μ fp Z w (mset μ d gen none) (single d gen (.tok e t 0)) Z w := by
        refine ⟨mset_mono hf, fun _ _ h => h, fun _ _ _ => rfl, fun _ _ h => h, Nat.le_refl _, fun _ _ _ => rfl, fun _ _ h => .inl h, ?_, rfl, rfl⟩
        intro k g c b' h1 h2
        simp only [single] at h1
        split at h1 <;> simp at h1
        rename_i h3
        obtain ⟨rfl, rfl⟩ := h3
        rw [mset_same] at h2; cases h2
      refine ⟨.slice none 0 0, w, none, Z, ?_, .osN _ _ _ (mset_same ..), ⟨?_, ?_, hzl⟩, ha⟩
      · have hcl := hsrc.cells
        have hle := hsrc.len
        simp only [List.length_nil] at hcl hle
        rcases hsrc.kind with ⟨e', hk⟩ | hk <;>
          simp [Builtin.append_, und hT, und hk, szOf hi, hle, hcl, hs]
      · intro k g c h
        simp only [single] at h
        split at h <;> simp at h
        rename_i h3
        obtain ⟨rfl, rfl⟩ := h3
        subst h
        exact .inl ⟨mset_same .., rfl⟩
      · intro k g k' g' c c' b' h1 h2 h3 _
        simp only [single] at h1 h2
        split at h1 <;> simp at h1
        rename_i h4
        obtain ⟨rfl, rfl⟩ := h4
        rw [mset_same] at h3; cases h3
    · exact grow [] 0 (by simp; omega) ⟨by simp, fun j i x d hx => by simp at hx⟩ (.inl ⟨rfl, rfl, rfl⟩) (by simp [Builtin.firstCells])
  · by_cases hroom : xs.length + ys.length ≤ cap
    · -- in place
      have hfit : xs.length * sz t + news.length ≤ cs.size := by
        rw [hnews.1, ← Nat.add_mul]
        exact Nat.le_trans (Nat.mul_le_mul_right _ hroom) hcc
      have hcell : ∀ j, j < news.length → (w.cell? ⟨b, 0 + xs.length * i.size + j, none⟩).isSome = true := by
        intro j hj
        rw [hs, Nat.zero_add, cell_of_row w b _ cs e _ hh]
        have : xs.length * sz t + j < cs.size := by omega
        simp [this]
      have hr := run_append_room_src (P := P) w T tx ty e i hT hi b 0 xs.length cap y ys.length news (by rw [hs]; exact hsrc) hroom hcell (fun j _ => frozen_of_row w b _ cs e hh)
      rw [hs, Nat.zero_add] at hr hcell
      obtain ⟨cs', hh', hsz'⟩ := setCells_heap b e news (xs.length * sz t) w cs hh
      have hout : ∀ b' o, (b' = b → o < xs.length * sz t) → (w.setCells b (xs.length * sz t) news).cell? ⟨b', o, none⟩ = w.cell? ⟨b', o, none⟩ := by
        intro b' o h
        exact World.cell?_setCells_out b news _ w ⟨b', o, none⟩ (fun h1 _ => .inl (h h1))
      have hzout : ∀ b' o, Z b' o → (b' = b → o < xs.length * sz t) := by
        intro b' o hz he
        subst he
        rcases Nat.lt_or_ge o (xs.length * sz t) with h | h
        · exact h
        · exact absurd hz (hnz o h)
      let Z' : Nat → Nat → Prop := fun b' o => Z b' o ∨ (b' = b ∧ o < (xs ++ ys).length * sz t)
      have ha : Adv μ fp Z w (mset μ d gen (some b)) (single d gen (.tok e t (xs ++ ys).length)) Z' (w.setCells b (xs.length * sz t) news) := by
        refine ⟨mset_mono hf, fun _ _ h => .inl h, fun b' o h => hout b' o (hzout b' o h), ?_, by rw [setCells_size]; exact Nat.le_refl _, ?_, ?_, ?_, (setCells_os ..).1, (setCells_os ..).2⟩
        · intro b' s hsh
          by_cases he : b' = b
          · subst he
            simp only [World.shape?, hh] at hsh
            simp only [World.shape?, hh', hsz']; exact hsh
          · simp only [World.shape?, setCells_other b news _ w b' he]; exact hsh
        · intro b' _ hn
          have he : b' ≠ b := by intro e; subst e; exact hn _ _ _ hfp hμb
          exact setCells_other b news _ w b' he
        · intro b' o h
          rcases h with h | ⟨rfl, _⟩
          · exact .inl h
          · exact .inr (.inr ⟨k0, g0, c0, hfp, hμb⟩)
        · intro k g c b' h1 h2
          simp only [single] at h1
          split at h1 <;> simp at h1
          rename_i h3
          obtain ⟨rfl, rfl⟩ := h3
          rw [mset_same] at h2
          obtain rfl := Option.some.inj (Option.some.inj h2)
          exact .inr ⟨k0, g0, c0, hfp, hμb⟩
      have hblt : b < w.heap.size := by
        rcases Nat.lt_or_ge b w.heap.size with h | h
        · exact h
        · rw [Array.getElem?_eq_none h] at hh; cases hh
      refine ⟨_, _, some b, Z', hr, ?_, ⟨?_, ?_, ?_⟩, ha⟩
      · obtain ⟨a0, cap0, olds, hX0, hold, _, hcase⟩ := hrd.rows
        cases hX0
        have hpos := Enc.pos t
        refine .os d gen t (xs ++ ys) b _ cap cs'.size e (mset_same ..) ?_ hlen.symm hroom (by simp [World.shape?, hh']) (by rw [hsz']; exact hcc)
        have := RD.sl (w := w.setCells b (xs.length * sz t) news) (Z := Z') t (xs ++ ys) b 0 cap (fun j q => ((olds ++ news)[j * sz t + q]?).getD undef) (by rw [hlen]; exact hroom) ?_ ?_
        · rw [hlen] at this; exact this
        · intro j q hj hq
          rw [hlen] at hj
          have hjq : j * sz t + q < (xs ++ ys).length * sz t := by
            have : (j + 1) * sz t ≤ (xs.length + ys.length) * sz t := Nat.mul_le_mul_right _ hj
            rw [Nat.add_mul] at this; rw [hlen]; omega
          refine ⟨?_, .inr ⟨rfl, by rw [Nat.zero_add]; exact hjq⟩⟩
          rw [Nat.zero_add]
          by_cases hjx : j < xs.length
          · have hlt : j * sz t + q < xs.length * sz t := by
              have : (j + 1) * sz t ≤ xs.length * sz t := Nat.mul_le_mul_right _ hjx
              rw [Nat.add_mul] at this; omega
            rw [hout b _ (fun _ => hlt), List.getElem?_append_left (by rw [hold.1]; exact hlt)]
            have hlt' : j * sz t + q < olds.length := by rw [hold.1]; exact hlt
            rw [List.getElem?_eq_getElem hlt', Option.getD_some]
            rcases hcase with ⟨_, hx⟩ | ⟨b', off', he, hcc'⟩
            · subst hx; simp at hjx
            · cases he
              have := hcc' _ _ (List.getElem?_eq_getElem hlt')
              rw [Nat.zero_add] at this; exact this
          · have hge : xs.length * sz t ≤ j * sz t + q := by
              have : xs.length * sz t ≤ j * sz t := Nat.mul_le_mul_right _ (by omega)
              omega
            obtain ⟨p, hp⟩ : ∃ p, j * sz t + q = xs.length * sz t + p := ⟨_, (Nat.add_sub_cancel' hge).symm⟩
            have hplt : p < news.length := by rw [hnews.1]; rw [hlen, Nat.add_mul] at hjq; omega
            rw [hp, World.cell?_setCells_in b news _ w (fun l hl => hcell l hl) p hplt, List.getElem?_append_right (by rw [hold.1]; omega), hold.1, Nat.add_sub_cancel_left, List.getElem?_eq_getElem hplt]
            rfl
        · intro j q x dd hx hd
          have hq : q < sz t := by
            rcases Nat.lt_or_ge q (sz t) with h | h
            · exact h
            · rw [List.getElem?_eq_none (by rw [Enc.len]; exact h)] at hd; cases hd
          rw [List.getElem?_append] at hx
          split at hx
          · rename_i hj
            obtain ⟨v, h4, h5⟩ := hold.2 j q x dd hx hd
            have hlt : j * sz t + q < olds.length := by
              rcases Nat.lt_or_ge (j * sz t + q) olds.length with h | h
              · exact h
              · rw [List.getElem?_eq_none h] at h4; cases h4
            show RD _ _ (((olds ++ news)[j * sz t + q]?).getD undef) dd
            rw [List.getElem?_append_left hlt, h4]
            exact h5.mono ha.z ha.cell
          · rename_i hj
            obtain ⟨v, h4, h5⟩ := hnews.2 (j - xs.length) q x dd hx hd
            have e1 : j * sz t = xs.length * sz t + (j - xs.length) * sz t := by rw [← Nat.add_mul]; congr 1; omega
            have e2 : j * sz t + q - xs.length * sz t = (j - xs.length) * sz t + q := by omega
            show RD _ _ (((olds ++ news)[j * sz t + q]?).getD undef) dd
            rw [List.getElem?_append_right (by rw [hold.1]; omega), hold.1, e2, h4]
            exact h5.mono ha.z ha.cell
      · intro k g c h
        simp only [single] at h
        split at h <;> simp at h
        rename_i h3
        obtain ⟨rfl, rfl⟩ := h3
        subst h
        refine .inr ⟨b, cs', mset_same .., hh', fun o ho hz => ?_⟩
        have hlm : (xs ++ ys).length * sz t = (xs.length + ys.length) * sz t := by rw [hlen]
        rcases hz with hz | ⟨_, hz⟩
        · have := hzout b o hz rfl
          have h5 : xs.length * sz t ≤ (xs ++ ys).length * sz t := Nat.mul_le_mul_right _ (by rw [hlen]; omega)
          omega
        · omega
      · intro k g k' g' c c' b' h1 h2 _ _
        simp only [single] at h1 h2
        split at h1 <;> simp at h1
        split at h2 <;> simp at h2
        rename_i h3 h4
        exact ⟨h3.1.trans h4.1.symm, h3.2.trans h4.2.symm⟩
      · intro b' o h
        rw [setCells_size]
        rcases h with h | ⟨rfl, _⟩
        · exact hzl b' o h
        · exact hblt
    · obtain ⟨a0, cap0, olds, hX0, hold, hone, hcase⟩ := hrd.rows
      cases hX0
      refine grow olds cap (by omega) hold (.inr ⟨_, rfl⟩) ?_
      rcases hcase with ⟨ho, hx⟩ | ⟨b', off', he, hcc'⟩
      · subst ho; subst hx
        simp [Builtin.firstCells, loadCells, loadCellsFrom]
      · cases he
        have := run_firstCells_some (P := P) w.drew i.size xs.length ⟨b, 0, none⟩ xs.length cap olds (by rw [hs]; exact hold.1) (fun j v hv => by rw [addr_add]; simpa using hcc' j v hv)
        exact this
end Go.PL
/-! append's evaluator; bytes and texts; min and max. -/
namespace Go.PL
set_option linter.unusedSimpArgs false
set_option linter.unusedVariables false
set_option linter.unusedSectionVars false
open Tys (Ty U)
open Enc (sz enc dflt tb ofB toB)
open Dec (dec dok)
variable [Tys] [Enc] [Dec]

def remk : List En → Nat → List En
  | [], _ => []
  | e :: r, k => if e.k = k then remk r k else e :: remk r k

theorem den_remk (l : List En) (k k' g' : Nat) : den (remk l k) k' g' = if k' = k then none else den l k' g' := by
  induction l with
  | nil => simp [remk, den]
  | cons e r ih =>
    simp only [remk]
    by_cases h : e.k = k
    · rw [if_pos h, ih]
      by_cases h2 : k' = k
      · simp [h2]
      · have : ¬ (e.k = k' ∧ e.g = g') := fun x => h2 (x.1.symm.trans h)
        simp [h2, den, this]
    · rw [if_neg h]
      simp only [den, ih]
      by_cases h2 : k' = k
      · subst h2
        have : ¬ (e.k = k' ∧ e.g = g') := fun x => h x.1
        simp [this]
      · simp [h2]

theorem castD {w : World} {Z : Nat → Nat → Prop} {y : Value} {t t' : Ty} {xs : List (U t)} {ys : List (U t')} (h : Dec.cast t t' xs = some ys) (hy : RD w Z y (.sl t xs)) : RD w Z y (.sl t' ys) := by
  have := Dec.cast_ok t t' xs ys h
  have e : D.sl t xs = D.sl t' ys := by
    have h2 : (fun p : (t : Ty) × List (U t) => D.sl p.1 p.2) ⟨t, xs⟩ = (fun p : (t : Ty) × List (U t) => D.sl p.1 p.2) ⟨t', ys⟩ := by rw [this]
    exact h2
  rw [← e]; exact hy

theorem sz_tb : sz tb = 1 := by
  have h1 := Enc.len tb (ofB 0)
  rw [Enc.encB] at h1
  simpa using h1.symm

/-- what is appended: a list of elements -/
def srcL (A : Ar) (kd : TK) (p : PV) (t : Ty) : Option (List (U t)) := match kd, p with
  | .slice _, .d (.sl t2 ys) => Dec.cast t2 t ys
  | .slice _, .os _ _ t2 ys => Dec.cast t2 t ys
  | .slice _, .d (.v (.slice none 0 0)) => some []
  | .string, .d (.v (.string b)) => Dec.cast tb t (A.s2b b)
  | _, _ => none

theorem rows_string {w : World} {Z : Nat → Nat → Prop} (b : ByteArray) : Rows w Z tb (std.s2b b) (byteCells b) := by
  refine ⟨by rw [byteCells_length, sz_tb, Nat.mul_one]; simp [std], fun j i x d hx hd => ?_⟩
  simp only [std, List.getElem?_map] at hx
  cases hq : b.data.toList[j]? with
  | none => simp [hq] at hx
  | some c =>
    simp [hq] at hx; subst hx
    rw [Enc.encB] at hd
    cases i with
    | zero =>
      simp at hd; subst hd
      refine ⟨.int .u8 c.toNat, ?_, ?_⟩
      · rw [sz_tb, Nat.mul_one, Nat.add_zero]
        simp only [byteCells, List.getElem?_map, hq]
        rfl
      · rw [Enc.toOf]; exact .v _
    | succ i => simp at hd

theorem srcL_ok {P : Program} {T : TypeId} {r : TR} (hT : TOk P T r) {p : PV} {t : Ty} {ys : List (U t)} (h : srcL std r.k p t = some ys) {μ : Nmap} {w : World} {Z : Nat → Nat → Prop} {y : Value} (hy : RP μ w Z y p) :
    ∃ news, Src P (sz t) T y ys.length news w ∧ Rows w Z t ys news := by
  obtain ⟨i, d, _, h2, _, _, _, h5⟩ := hT
  unfold srcL at h
  split at h
  · rename_i e t2 ys2 hk
    rw [hk] at h5
    obtain rfl := KOk.slice h5
    have hd : RD w Z y (.sl t ys) := castD h (by cases hy with | d _ _ h => exact h)
    obtain ⟨a, cap, news, rfl, h6, h7, h8⟩ := hd.rows
    exact ⟨news, Src.of_rows h2 h6.1 h7 (by
      rcases h8 with ⟨h9, h10⟩ | h8
      · exact .inl ⟨h9, by simp [h10]⟩
      · exact .inr h8), h6⟩
  · rename_i e k' g' t2 ys2 hk
    rw [hk] at h5
    obtain rfl := KOk.slice h5
    have hd : RD w Z y (.sl t ys) := castD h hy.os_sl
    obtain ⟨a, cap, news, rfl, h6, h7, h8⟩ := hd.rows
    exact ⟨news, Src.of_rows h2 h6.1 h7 (by
      rcases h8 with ⟨h9, h10⟩ | h8
      · exact .inl ⟨h9, by simp [h10]⟩
      · exact .inr h8), h6⟩
  · rename_i e hk
    rw [hk] at h5
    obtain rfl := KOk.slice h5
    simp at h; subst h
    rw [hy.val]
    exact ⟨[], Src.ofNil w h2 0, ⟨by simp, fun j i x d hx => by simp at hx⟩⟩
  · rename_i b hk
    rw [hk] at h5
    obtain rfl := KOk.string h5
    rw [hy.val]
    have hs := Dec.cast_ok tb t _ _ h
    cases hs
    refine ⟨byteCells b, ?_, rows_string b⟩
    have := Src.ofString (P := P) w h2 b
    rw [sz_tb]
    have hl : (std.s2b b).length = b.size := by simp [std]
    rw [hl]; exact this
  · cases h

def opApp (C : Ctx) (A : Ar) (ow c : Bool) (s : St) (dst : Option Nat) (T T2 : TypeId) (x y : Operand) (k : PV → List En → Prop) : Prop :=
  match ow, dst, C.ti T, C.ti T2 with
  | true, some d, some ⟨.slice e, _, _, _⟩, some r2 => match C.ti e, C.ety e with
    | some r, some te => strip c (opd C s.env x) fun p => strip c (opd C s.env y) fun q => match p with
      | .os kk g t xs => match find s.sto kk, srcL A r2.k q t with
        | some (g', .tok TT t' n), some ys => vc c (g' = g) ∧ (TT = e) ∧ vc c (n = A.nlen t xs) ∧ (sz t' = sz t) ∧ (r.size = sz t) ∧ vc c (A.appOk t r.bytes xs ys) ∧
            k (.os d s.gen t (A.app t xs ys)) (⟨d, s.gen, .tok e t (A.nlen t (A.app t xs ys))⟩ :: remk s.sto kk)
        | _, _ => False
      | .d (.v (.slice none 0 0)) => match srcL A r2.k q te with
        | some ys => vc c (A.appOk te r.bytes [] ys) ∧ k (.os d s.gen te (A.app te [] ys)) (⟨d, s.gen, .tok e te (A.nlen te (A.app te [] ys))⟩ :: s.sto)
        | none => False
      | _ => False
    | _, _ => False
  | _, _, _, _ => False

theorem opApp_ok {C : Ctx} {A : Ar} (hA : A = std) (hC : C.OK) {o : Oper} {ow c : Bool} {s : St} {T T2 : TypeId} {x y : Operand} (ho : o.op = .call { callee := .builtin .append, args := #[x, y], argTypes := #[T, T2] }) :
    Snd C o ow c s (opApp C A ow c s o.dst T T2 x y) := by
  subst hA
  intro k h0
  have hrun : ∀ (w : World) (ρ : Operand → Value), (execOp ρ o).run C.P w = ((Builtin.append_ #[T, T2] o.type #[ρ x, ρ y]).run C.P w).andThen fun v w => .ok (.value v) w := by
    intro w ρ
    simp [execOp, ho, resolve, invoke, builtin]
  have hmx : x ∈ o.op.operands := by simp [ho, Op.operands, Call.operands]
  have hmy : y ∈ o.op.operands := by simp [ho, Op.operands, Call.operands]
  unfold opApp at h0
  split at h0
  · rename_i d e _ _ _ r2 hd hT hT2
    split at h0
    · rename_i r te hr hte
      obtain ⟨r', hr', hsz⟩ := hC.ety e te hte
      rw [hr] at hr'; obtain rfl := Option.some.inj hr'
      obtain ⟨p, hpu, h', hp⟩ := strip_ok' h0
      obtain ⟨q, h, hq⟩ := strip_ok (μ := fun _ _ => none) (w := default) (Z := fun _ _ => False) h'
      clear h0 h'
      obtain ⟨_, _, _, h2, _, _, _, h5⟩ := hC.ti T _ hT
      obtain rfl := KOk.slice h5
      have hT2' := hC.ti T2 _ hT2
      obtain ⟨i', d', hi', _, hs', hby', ⟨z, hz', hzc⟩, hkr⟩ := hC.ti e r hr
      split at h
      · rename_i kk g t xs
        split at h
        · rename_i g' TT t' n ys hf hys
          obtain ⟨hg, hTT, hn, hst, hrs, hok, h⟩ := h
          rw [hTT] at hf
          refine ⟨_, _, h, fun hc => ⟨fun k' g'' => if k' = kk then den s.sto k' g'' else none, single d s.gen (.tok e t (xs ++ ys).length), ?_, ?_, ?_, ?_, fun h => by simp [foot, ho] at h⟩, fun h => by cases h⟩
          · intro μ w Z ρ _ hx hw hfr
            obtain rfl := vc_elim hg hc
            obtain rfl := vc_elim hn hc
            obtain ⟨hb1, hb2⟩ : (xs.length + ys.length) * r.bytes ≤ 140737488355328 ∧ xs.length + ys.length ≤ 140737488355328 := vc_elim hok hc
            obtain ⟨news, h6, h7⟩ := srcL_ok hT2' hys (hq μ w Z _ hc (hx y hmy))
            have hzs : z.cells.size = sz t := by
              have h1 : z.cells.toList.length = z.cells.size := by simp
              rw [← h1, hzc, hby'.2.1, hrs]
            have h8 := hp μ w Z _ hc (hx x hmx)
            have hent := hw.ent kk g' (.tok e t' (std.nlen t xs)) (by simp [den_find hf])
            have hX : (ρ x = .slice none 0 0 ∧ xs = []) ∨ ∃ b cap cs, ρ x = .slice (some ⟨b, 0, none⟩) xs.length cap ∧ w.heap[b]? = some (.cells cs e (0, 0)) ∧ xs.length ≤ cap ∧ cap * sz t ≤ cs.size ∧ RD w Z (ρ x) (.sl t xs) ∧
                (∀ o, xs.length * sz t ≤ o → ¬ Z b o) ∧ ∃ k g c, (fun k' g'' => if k' = kk then den s.sto k' g'' else none : Mem) k g = some c ∧ μ k g = some (some b) := by
              generalize hxe : ρ x = X at h8 ⊢
              generalize hpe : PV.os kk g' t xs = pp at h8
              cases h8 <;> simp at hpe
              case osN k0 g0 t0 h9 =>
                obtain ⟨rfl, rfl, rfl, h10⟩ := hpe
                simp at h10; exact .inl ⟨rfl, h10⟩
              case os k0 g0 t0 xs0 b n0 cap m T0 hμ hrd hn hcap hsh hm =>
                obtain ⟨rfl, rfl, rfl, h10⟩ := hpe
                simp at h10; subst h10
                rcases hent with ⟨h11, _⟩ | ⟨b', cs, h11, h12, h13⟩
                · rw [hμ] at h11; cases h11
                · rw [hμ] at h11; obtain rfl := Option.some.inj (Option.some.inj h11)
                  subst hn
                  simp only [World.shape?, h12, Option.some.injEq, Prod.mk.injEq] at hsh
                  refine .inr ⟨b, cap, cs, rfl, h12, hcap, by rw [hsh.2]; exact hm, hrd, fun o ho => h13 o (by rw [hst]; exact ho), kk, g', .tok e t' (std.nlen t xs), by simp [den_find hf], hμ⟩
            obtain ⟨val, w', y', Z', h9, h10, h11, h12⟩ := app_run (P := C.P) (ty := o.type) h2 hi' hz' (t := t) (by rw [hs', hrs]) hzs hw.zlt (hfr d hd) h6 h7 hX (by rw [hby'.1]; exact hb1) hb2
            refine ⟨val, w', _, Z', .inl ?_, h10, h11, h12, mset_other o.dst hd⟩
            rw [hrun, h9]; rfl
          · intro k1 g1 c1 h1
            simp only at h1
            split at h1
            · exact h1
            · cases h1
          · funext k1 g1
            rw [den_cons]
            simp only [mput, den_remk, emp]
            cases hs1 : single d s.gen (.tok e t (std.nlen t (std.app t xs ys))) k1 g1 with
            | some c1 =>
              have h9 : single d s.gen (.tok e t (xs ++ ys).length) k1 g1 = some c1 := hs1
              rw [h9]
            | none =>
              have : single d s.gen (.tok e t (xs ++ ys).length) k1 g1 = none := hs1
              simp only [this]
              by_cases hk : k1 = kk
              · subst hk
                simp
                cases den s.sto k1 g1 <;> simp
              · simp [hk]
          · intro k1 g1 h1
            simp only [foot, ho, ← hpu, keyOf, hd]
            simp only [single] at h1
            split at h1
            · rename_i h2; simp [h2]
            · split at h1
              · rename_i h2; simp [h2.1]
              · simp at h1
        · exact h.elim
      · split at h
        · rename_i ys hys
          obtain ⟨hok, h⟩ := h
          refine ⟨_, _, h, fun hc => ⟨emp, single d s.gen (.tok e te ([] ++ ys).length), ?_, fun _ _ _ h => by simp [emp] at h, den_cons _ _, fun k g h => by
            simp only [emp, single] at h
            split at h
            · rename_i h1; simp [foot, ho, hd, h1.1]
            · simp at h, fun h => by simp [foot, ho] at h⟩, fun h => by cases h⟩
          intro μ w Z ρ _ hx hw hfr
          obtain ⟨hb1, hb2⟩ : (([] : List (U te)).length + ys.length) * r.bytes ≤ 140737488355328 ∧ ([] : List (U te)).length + ys.length ≤ 140737488355328 := vc_elim hok hc
          obtain ⟨news, h6, h7⟩ := srcL_ok hT2' hys (hq μ w Z _ hc (hx y hmy))
          have hzs : z.cells.size = sz te := by
            have h1 : z.cells.toList.length = z.cells.size := by simp
            rw [← h1, hzc, hby'.2.1, hsz]
          have h8 := (hp μ w Z _ hc (hx x hmx)).val
          obtain ⟨val, w', y', Z', h9, h10, h11, h12⟩ := app_run (P := C.P) (ty := o.type) (fp := emp) (xs := []) h2 hi' hz' (t := te) (by rw [hs', hsz]) hzs hw.zlt (hfr d hd) h6 h7 (.inl ⟨h8, rfl⟩) (by rw [hby'.1]; exact hb1) hb2
          refine ⟨val, w', _, Z', .inl ?_, h10, h11, h12, mset_other o.dst hd⟩
          rw [hrun, h9]; rfl
        · exact h.elim
      · exact h.elim
    · exact h0.elim
  · exact h0.elim
end Go.PL
/-! bytes and texts; the smaller and the greater. -/
namespace Go.PL
set_option linter.unusedSimpArgs false
set_option linter.unusedVariables false
set_option linter.unusedSectionVars false
open Tys (Ty U)
open Enc (sz enc dflt tb ofB toB)
open Dec (dec dok)
open Go.Lib
variable [Tys] [Enc] [Dec]

def opS2B (C : Ctx) (A : Ar) (c : Bool) (s : St) (S T : TypeId) (x : Operand) (k : PV → List En → Prop) : Prop :=
  match C.ti S, C.ti T with
  | some ⟨.string, _, _, _⟩, some ⟨.slice e, _, _, _⟩ => match C.ti e with
    | some ⟨.int .u8, _, _, _⟩ => strip c (opd C s.env x) fun p => match p with
      | .d (.v (.string b)) => k (.d (.sl tb (A.s2b b))) s.sto
      | _ => False
    | _ => False
  | _, _ => False

theorem grown_bytes (w : World) (e : TypeId) (b : ByteArray) : Grown w (bytesWorld w e b) (.cells (bytesCells w e b) e ((bytesCells w e b).size, (bytesCells w e b).size + 1)) := by
  refine ⟨?_, by unfold bytesWorld World.freeze; split <;> rfl, by unfold bytesWorld World.freeze; split <;> rfl⟩
  apply Array.ext_getElem?
  intro i
  rw [Array.getElem?_push]
  by_cases h : i = w.heap.size
  · subst h; simp [bytesWorld_at_new]
  · rw [if_neg h]
    rcases Nat.lt_or_ge i w.heap.size with h1 | h1
    · exact bytesWorld_at_old w e b i h1
    · rw [Array.getElem?_eq_none (by rw [bytesWorld_size]; omega), Array.getElem?_eq_none h1]

theorem opS2B_ok {C : Ctx} {A : Ar} (hA : A = std) (hC : C.OK) {o : Oper} {ow c : Bool} {s : St} {S T : TypeId} {x : Operand} (ho : o.op = .convert S T x) : Snd C o ow c s (opS2B C A c s S T x) := by
  subst hA
  intro k h0
  unfold opS2B at h0
  split at h0
  · rename_i e _ _ _ hS hT
    split at h0
    · rename_i he
      obtain ⟨p, h, hp⟩ := strip_ok (μ := fun _ _ => none) (w := default) (Z := fun _ _ => False) h0
      clear h0
      split at h
      · rename_i b
        obtain ⟨_, _, _, h2, _, _, _, h5⟩ := hC.ti S _ hS
        obtain rfl := KOk.string h5
        obtain ⟨_, _, _, h3, _, _, _, h6⟩ := hC.ti T _ hT
        obtain rfl := KOk.slice h6
        obtain ⟨_, _, _, h4, _, _, _, h7⟩ := hC.ti e _ he
        obtain rfl := KOk.int h7
        refine ⟨_, _, h, fun hc => ⟨emp, emp, ?_, fun _ _ _ h => by simp [emp] at h, (mput_emp _).symm, fun k g h => by simp [emp] at h, fun _ => rfl⟩, fun _ => rfl⟩
        intro μ w Z ρ hg hx hw hf
        have h1 := (hp μ w Z _ hc (hx x (by simp [ho, Op.operands]))).val
        have hr := Go.Lib.run_convert_string_bytes (P := C.P) w S T e b h2 h3 h4
        have hge : b.size ≤ grownCap w b.size 0 e := grownCap_ge w b.size 0 e
        have hl : (std.s2b b).length = b.size := by simp [std]
        obtain ⟨h8, h9, h10⟩ := new_plain (t := tb) (xs := std.s2b b) (cap := grownCap w b.size 0 e) (grown_bytes w e b) hw (by rw [hl]; exact hge) (by
          intro j i y d hy hd
          obtain ⟨v, h11, h12⟩ := (rows_string (w := w) (Z := Z) b).2 j i y d hy hd
          refine ⟨v, ?_, h12⟩
          have hlt : j * sz tb + i < b.size := by
            have : j * sz tb + i < (byteCells b).length := by
              rcases Nat.lt_or_ge (j * sz tb + i) (byteCells b).length with h | h
              · exact h
              · rw [List.getElem?_eq_none h] at h11; cases h11
            rwa [byteCells_length] at this
          have hlt' : j * sz tb + i < b.data.size := hlt
          rw [bytesCells, Array.getElem?_append_left (by simpa using hlt')]
          simp only [byteCells, List.getElem?_map] at h11
          rw [Array.getElem?_map]
          simpa using h11)
        rw [hl] at h8
        refine ⟨_, _, _, _, .inl ?_, by rw [hl]; exact h8, h9, h10, fun _ _ _ => rfl⟩
        simp only [execOp, ho, h1, Sem.run_bind]
        rw [hr]; rfl
      · exact h.elim
    · exact h0.elim
  · exact h0.elim

def opB2S (C : Ctx) (A : Ar) (c : Bool) (s : St) (S T : TypeId) (x : Operand) (k : PV → List En → Prop) : Prop :=
  match C.ti S, C.ti T with
  | some ⟨.slice e, _, _, _⟩, some ⟨.string, _, _, _⟩ => match C.ti e with
    | some ⟨.int .u8, _, _, _⟩ => strip c (opd C s.env x) fun p => match p with
      | .d (.sl t xs) => match Dec.cast t tb xs with
        | some bs => k (st (A.b2s bs)) s.sto
        | none => False
      | .os _ _ t xs => match Dec.cast t tb xs with
        | some bs => k (st (A.b2s bs)) s.sto
        | none => False
      | .d (.v (.slice none 0 0)) => k (st (A.b2s [])) s.sto
      | _ => False
    | _ => False
  | _, _ => False

theorem run_b2s {P : Program} {w : World} {Z : Nat → Nat → Prop} {S T e : TypeId} (h2 : P.underlying S = some (.slice e)) (h3 : P.underlying T = some .string) (h4 : P.underlying e = some (.int .u8)) {y : Value} {bs : List (U tb)}
    (hy : RD w Z y (.sl tb bs)) : (convert S T y).run P w = .ok (.string (std.b2s bs)) w := by
  obtain ⟨a, cap, news, rfl, h6, h7, h8⟩ := hy.rows
  have hnews : ∀ j, j < bs.length → news[j]? = some (.int .u8 ((bs.map fun x => ((toB x).toNat : Int)).getD j 0)) := by
    intro j hj
    have hx : bs[j]? = some bs[j] := List.getElem?_eq_getElem hj
    have hd : (enc tb bs[j])[0]? = some (D.v (.int .u8 ((toB bs[j]).toNat : Int))) := by rw [Enc.encB]; rfl
    obtain ⟨v, h9, h10⟩ := h6.2 j 0 _ _ hx hd
    rw [sz_tb, Nat.mul_one, Nat.add_zero] at h9
    cases h10
    rw [h9]
    simp [List.getD, hx]
  have hb : std.b2s bs = strOfNums (bs.map fun x => ((toB x).toNat : Int)) := by
    simp only [std, strOfNums, List.map_map]
    congr 2
    apply List.map_congr_left
    intro x _
    simp
  rcases h8 with ⟨h9, rfl⟩ | ⟨b, off, rfl, hcell⟩
  · cases a with
    | none =>
      rw [run_convert_bytes_nil (P := P) w S e h2 h4 _ _ T h3, hb]
      rfl
    | some a =>
      have : (loadCells a 0).run P w = .ok (([] : List Int).map (Value.int .u8)).toArray w := rfl
      rw [run_convert_bytes_string w S T e _ _ cap h2 h4 h3]
      have := run_bytesToString (P := P) w a 0 cap [] this
      simp only [List.length_nil] at this ⊢
      rw [this, hb]
      rfl
  · have := run_convert_bytes_arg (P := P) w S e h2 h4 b off bs.length cap (bs.map fun x => ((toB x).toNat : Int)) (by simp) (fun i hi => hcell i _ (hnews i hi)) T h3
    rw [this, hb]

theorem opB2S_ok {C : Ctx} {A : Ar} (hA : A = std) (hC : C.OK) {o : Oper} {ow c : Bool} {s : St} {S T : TypeId} {x : Operand} (ho : o.op = .convert S T x) : Snd C o ow c s (opB2S C A c s S T x) := by
  subst hA
  intro k h0
  unfold opB2S at h0
  split at h0
  · rename_i e _ _ _ _ _ _ hS hT
    split at h0
    · rename_i he
      obtain ⟨p, h, hp⟩ := strip_ok (μ := fun _ _ => none) (w := default) (Z := fun _ _ => False) h0
      clear h0
      obtain ⟨_, _, _, h2, _, _, _, h5⟩ := hC.ti S _ hS
      obtain rfl := KOk.slice h5
      obtain ⟨_, _, _, h3, _, _, _, h6⟩ := hC.ti T _ hT
      obtain rfl := KOk.string h6
      obtain ⟨_, _, _, h4, _, _, _, h7⟩ := hC.ti e _ he
      obtain rfl := KOk.int h7
      have key : ∀ (bs : List (U tb)), (∀ μ w Z y, c = true → RP μ w Z y (opd C s.env x) → RD w Z y (.sl tb bs)) → c = true → OpR C o s (st (std.b2s bs)) s.sto := by
        intro bs hx' hc
        refine opR_val fun μ w Z ρ hx => ⟨_, ?_, RP.ofVal ..⟩
        have := run_b2s (P := C.P) h2 h3 h4 (hx' μ w Z _ hc (hx x (by simp [ho, Op.operands])))
        simp [execOp, ho, this]
      split at h
      · rename_i t xs
        split at h
        · rename_i bs hbs
          exact ⟨_, _, h, key bs fun μ w Z y hc hy => castD hbs (by have := hp μ w Z y hc hy; cases this with | d _ _ h => exact h), fun _ => rfl⟩
        · exact h.elim
      · rename_i k' g' t xs
        split at h
        · rename_i bs hbs
          exact ⟨_, _, h, key bs fun μ w Z y hc hy => castD hbs (hp μ w Z y hc hy).os_sl, fun _ => rfl⟩
        · exact h.elim
      · exact ⟨_, _, h, key [] fun μ w Z y hc hy => by rw [(hp μ w Z y hc hy).val]; exact .nil _ _ _, fun _ => rfl⟩
      · exact h.elim
    · exact h0.elim
  · exact h0.elim

/-- min and max of two whole numbers -/
def opMM (C : Ctx) (A : Ar) (c : Bool) (s : St) (mx : Bool) (x y : Operand) (k : PV → List En → Prop) : Prop :=
  strip c (opd C s.env x) fun p => strip c (opd C s.env y) fun q => match p, q with
  | .d (.v (.int ka a)), .d (.v (.int kb b)) => k (it ka (match mx with | true => A.mx a b | false => A.mn a b)) s.sto
  | _, _ => False

theorem opMin_ok {C : Ctx} {A : Ar} (hA : A = std) {o : Oper} {ow c : Bool} {s : St} {x y : Operand} {ts : Array TypeId} (ho : o.op = .call { callee := .builtin .min, args := #[x, y], argTypes := ts }) : Snd C o ow c s (opMM C A c s false x y) := by
  subst hA
  intro k h0
  obtain ⟨p, h', hp⟩ := strip_ok (μ := fun _ _ => none) (w := default) (Z := fun _ _ => False) h0
  obtain ⟨q, h, hq⟩ := strip_ok (μ := fun _ _ => none) (w := default) (Z := fun _ _ => False) h'
  clear h0 h'
  split at h
  · rename_i ka a kb b
    refine ⟨_, _, h, fun hc => opR_val fun μ w Z ρ hx => ?_, fun _ => rfl⟩
    have h1 := (hp μ w Z _ hc (hx x (by simp [ho, Op.operands, Call.operands]))).val
    have h2 := (hq μ w Z _ hc (hx y (by simp [ho, Op.operands, Call.operands]))).val
    refine ⟨.int ka (min a b), ?_, RP.ofVal ..⟩
    have : (if b < a then b else a) = min a b := by omega
    simp [execOp, ho, resolve, invoke, builtin, Builtin.min_, Builtin.min2, h1, h2, this]
  · exact h.elim

theorem opMax_ok {C : Ctx} {A : Ar} (hA : A = std) {o : Oper} {ow c : Bool} {s : St} {x y : Operand} {ts : Array TypeId} (ho : o.op = .call { callee := .builtin .max, args := #[x, y], argTypes := ts }) : Snd C o ow c s (opMM C A c s true x y) := by
  subst hA
  intro k h0
  obtain ⟨p, h', hp⟩ := strip_ok (μ := fun _ _ => none) (w := default) (Z := fun _ _ => False) h0
  obtain ⟨q, h, hq⟩ := strip_ok (μ := fun _ _ => none) (w := default) (Z := fun _ _ => False) h'
  clear h0 h'
  split at h
  · rename_i ka a kb b
    refine ⟨_, _, h, fun hc => opR_val fun μ w Z ρ hx => ?_, fun _ => rfl⟩
    have h1 := (hp μ w Z _ hc (hx x (by simp [ho, Op.operands, Call.operands]))).val
    have h2 := (hq μ w Z _ hc (hx y (by simp [ho, Op.operands, Call.operands]))).val
    refine ⟨.int ka (max a b), ?_, RP.ofVal ..⟩
    have : (if a < b then b else a) = max a b := by omega
    have : (if b > a then b else a) = max a b := by omega
    simp [execOp, ho, resolve, invoke, builtin, Builtin.max_, Builtin.max2, h1, h2]
    omega
  · exact h.elim

/-- a text turned into one of another type -/
def opS2S (C : Ctx) (c : Bool) (s : St) (S T : TypeId) (x : Operand) (k : PV → List En → Prop) : Prop :=
  match C.ti S, C.ti T with
  | some _, some ⟨.string, _, _, _⟩ => strip c (opd C s.env x) fun p => match p with
    | .d (.v (.string b)) => k (st b) s.sto
    | _ => False
  | _, _ => False

theorem opS2S_ok {C : Ctx} (hC : C.OK) {o : Oper} {ow c : Bool} {s : St} {S T : TypeId} {x : Operand} (ho : o.op = .convert S T x) : Snd C o ow c s (opS2S C c s S T x) := by
  intro k h0
  unfold opS2S at h0
  split at h0
  · rename_i hS hT
    obtain ⟨p, h, hp⟩ := strip_ok (μ := fun _ _ => none) (w := default) (Z := fun _ _ => False) h0
    clear h0
    split at h
    · rename_i b
      obtain ⟨_, d, _, h2, _, _, _, h5⟩ := hC.ti S _ hS
      obtain ⟨_, _, _, h3, _, _, _, h6⟩ := hC.ti T _ hT
      obtain rfl := KOk.string h6
      refine ⟨_, _, h, fun hc => opR_val fun μ w Z ρ hx => ?_, fun _ => rfl⟩
      have h1 := (hp μ w Z _ hc (hx x (by simp [ho, Op.operands]))).val
      refine ⟨_, ?_, RP.ofVal ..⟩
      cases d <;> simp [execOp, ho, h1, convert, und h2, und h3]
    · exact h.elim
  · exact h0.elim
end Go.PL
/-! Comparisons by type; pointers turned about. -/
namespace Go.PL
set_option linter.unusedSimpArgs false
set_option linter.unusedVariables false
set_option linter.unusedSectionVars false
open Tys (Ty U)
open Enc (sz enc dflt tb ofB toB)
open Dec (dec dok)
variable [Tys] [Enc] [Dec]

def isConst : Operand → Bool
  | .const _ => true
  | _ => false

/-- two references: are they one? -/
def refEq (tk : TK) (p q : PV) (cst : Bool) (c : Bool) (k : Bool → Prop) : Prop := match tk, p, q with
  | .ptr _, .d (.v (.pointer none)), .d (.v (.pointer none)) => k true
  | .ptr _, .bx _ _ _, .d (.v (.pointer none)) => k false
  | .ptr _, .d (.v (.pointer none)), .bx _ _ _ => k false
  | .ptr e, .bx a b o, .bx a' b' o' => (a = a') ∧ vc c (b = b') ∧ (o = o') ∧ k true
  | .iface, .d (.v .nilIface), .d (.v .nilIface) => (cst = true) ∧ k true
  | .iface, .d (.ifc _ _), .d (.v .nilIface) => k false
  | .iface, .d (.v .nilIface), .d (.ifc _ _) => k false
  | .func, .d (.v .nilFunc), .d (.v .nilFunc) => k true
  | .func, .fn _ _ _, .d (.v .nilFunc) => k false
  | .func, .d (.v (.func _ _ _)), .d (.v .nilFunc) => k false
  | .map _ _, .d (.v (.map none)), .d (.v (.map none)) => k true
  | .map _ _, .mp _ _, .d (.v (.map none)) => k false
  | _, _, _ => False

theorem equal_of {P : Program} {t : TypeId} {x y : Value} {w : World} {b : Bool} (h : ∀ d, (Op.equalIn (d + 1) t x y).run P w = .ok b w) : (Op.equal t x y).run P w = .ok b w := by
  unfold Op.equal
  exact h 9999

theorem guard_nil {P : Program} {X Y : Operand} {t : TypeId} {w : World} (h : (isConst X || isConst Y) = true) (op : BinOp) : (eqGuard op t X Y .nilIface .nilIface).run P w = .ok () w := by
  unfold eqGuard
  cases op <;> cases X <;> cases Y <;> simp [isConst] at h ⊢

theorem refEq_ok {C : Ctx} (hC : C.OK) {t : TypeId} {r : TR} (ht : C.ti t = some r) {p q : PV} {X Y : Operand} {c : Bool} {k : Bool → Prop} (hp : ∀ e, r.k = .ptr e → ∃ re, C.ti e = some re) (h : refEq r.k p q (isConst X || isConst Y) c k) :
    ∃ b, k b ∧ (c = true → ∀ (μ : Nmap) (w : World) (Z : Nat → Nat → Prop) (x y : Value), RP μ w Z x p → RP μ w Z y q → (do eqGuard .eql t X Y x y; binOp .eql t x y : Sem Value).run C.P w = .ok (.bool b) w ∧ (do eqGuard .neq t X Y x y; binOp .neq t x y : Sem Value).run C.P w = .ok (.bool (!b)) w) := by
  obtain ⟨i, d, hi, hu, _, _, _, hk⟩ := hC.ti t r ht
  have both : ∀ {w : World} {x y : Value} {b : Bool}, (∀ d, (Op.equalIn (d + 1) t x y).run C.P w = .ok b w) → (eqGuard .eql t X Y x y).run C.P w = .ok () w → (eqGuard .neq t X Y x y).run C.P w = .ok () w →
      (binOp .eql t x y = do pure (.bool (← Op.equal t x y))) → (binOp .neq t x y = do pure (.bool (!(← Op.equal t x y)))) →
      (do eqGuard .eql t X Y x y; binOp .eql t x y : Sem Value).run C.P w = .ok (.bool b) w ∧ (do eqGuard .neq t X Y x y; binOp .neq t x y : Sem Value).run C.P w = .ok (.bool (!b)) w := by
    intro w x y b h1 h2 h3 h4 h5
    have h6 := equal_of h1
    exact ⟨by rw [Sem.run_bind, h2, h4]; simp [h6], by rw [Sem.run_bind, h3, h5]; simp [h6]⟩
  unfold refEq at h
  split at h
  all_goals try exact h.elim
  · rename_i heq; rw [heq] at hk; obtain rfl := KOk.ptr hk
    refine ⟨_, h, fun hc μ w Z x y hx hy => ?_⟩
    rw [hx.val, hy.val]
    exact both (fun d => by simp [Op.equalIn, und hu]) (by simp [eqGuard]) (by simp [eqGuard]) rfl rfl
  · rename_i heq; rw [heq] at hk; obtain rfl := KOk.ptr hk
    refine ⟨_, h, fun hc μ w Z x y hx hy => ?_⟩
    rw [hy.val]
    cases hx with
    | bx _ _ _ b hb => exact both (fun d => by simp [Op.equalIn, und hu]) (by simp [eqGuard]) (by simp [eqGuard]) rfl rfl
  · rename_i heq; rw [heq] at hk; obtain rfl := KOk.ptr hk
    refine ⟨_, h, fun hc μ w Z x y hx hy => ?_⟩
    rw [hx.val]
    cases hy with
    | bx _ _ _ b hb => exact both (fun d => by simp [Op.equalIn, und hu]) (by simp [eqGuard]) (by simp [eqGuard]) rfl rfl
  · rename_i e a b o a' b' o' heq
    obtain ⟨rfl, h2, rfl, h⟩ := h
    obtain ⟨re, hre⟩ := hp e heq
    rw [heq] at hk; obtain rfl := KOk.ptr hk
    obtain ⟨ie, de, hie, _⟩ := hC.ti e re hre
    refine ⟨_, h, fun hc μ w Z x y hx hy => ?_⟩
    obtain rfl := vc_elim h2 hc
    cases hx with
    | bx _ _ _ b1 hb =>
      cases hy with
      | bx _ _ _ b2 hb2 =>
        rw [hb] at hb2; obtain rfl := Option.some.inj (Option.some.inj hb2)
        exact both (fun d => by simp [Op.equalIn, und hu, szOf hie, run_sameAddr_same]) (by simp [eqGuard]) (by simp [eqGuard]) rfl rfl
  · rename_i heq; rw [heq] at hk; obtain ⟨ms, rfl⟩ := KOk.iface hk
    obtain ⟨hcst, h⟩ := h
    refine ⟨_, h, fun hc μ w Z x y hx hy => ?_⟩
    rw [hx.val, hy.val]
    exact both (fun d => by simp [Op.equalIn, und hu]) (guard_nil hcst .eql) (guard_nil hcst .neq) rfl rfl
  · rename_i heq; rw [heq] at hk; obtain ⟨ms, rfl⟩ := KOk.iface hk
    refine ⟨_, h, fun hc μ w Z x y hx hy => ?_⟩
    rw [hy.val]
    cases hx with
    | d _ _ hx => cases hx with
      | ifc => exact both (fun d => by simp [Op.equalIn, und hu]) (by simp [eqGuard]) (by simp [eqGuard]) rfl rfl
  · rename_i heq; rw [heq] at hk; obtain ⟨ms, rfl⟩ := KOk.iface hk
    refine ⟨_, h, fun hc μ w Z x y hx hy => ?_⟩
    rw [hx.val]
    cases hy with
    | d _ _ hx => cases hx with
      | ifc => exact both (fun d => by simp [Op.equalIn, und hu]) (by simp [eqGuard]) (by simp [eqGuard]) rfl rfl
  · rename_i heq; rw [heq] at hk; obtain ⟨_, _, _, rfl⟩ := KOk.func hk
    refine ⟨_, h, fun hc μ w Z x y hx hy => ?_⟩
    rw [hx.val, hy.val]
    exact both (fun d => by simp [Op.equalIn, und hu]) (by simp [eqGuard]) (by simp [eqGuard]) rfl rfl
  · rename_i heq; rw [heq] at hk; obtain ⟨_, _, _, rfl⟩ := KOk.func hk
    refine ⟨_, h, fun hc μ w Z x y hx hy => ?_⟩
    rw [hy.val]
    cases hx with
    | fn => exact both (fun d => by simp [Op.equalIn, und hu]) (by simp [eqGuard]) (by simp [eqGuard]) rfl rfl
  · rename_i heq; rw [heq] at hk; obtain ⟨_, _, _, rfl⟩ := KOk.func hk
    refine ⟨_, h, fun hc μ w Z x y hx hy => ?_⟩
    rw [hx.val, hy.val]
    exact both (fun d => by simp [Op.equalIn, und hu]) (by simp [eqGuard]) (by simp [eqGuard]) rfl rfl
  · rename_i heq; rw [heq] at hk; obtain rfl := KOk.map hk
    refine ⟨_, h, fun hc μ w Z x y hx hy => ?_⟩
    rw [hx.val, hy.val]
    exact both (fun d => by simp [Op.equalIn, und hu]) (by simp [eqGuard]) (by simp [eqGuard]) rfl rfl
  · rename_i heq; rw [heq] at hk; obtain rfl := KOk.map hk
    refine ⟨_, h, fun hc μ w Z x y hx hy => ?_⟩
    rw [hy.val]
    cases hx with
    | mp _ _ b hb => exact both (fun d => by simp [Op.equalIn, und hu]) (by simp [eqGuard]) (by simp [eqGuard]) rfl rfl

def eqK (op : BinOp) (k : PV → List En → Prop) (sto : List En) (b : Bool) : Prop := match op with
  | .eql => k (bl b) sto
  | .neq => k (bl (match b with | true => false | false => true)) sto
  | _ => False

/-- '==' and '!=' by the operands' type -/
def opEq (C : Ctx) (A : Ar) (c : Bool) (s : St) (op : BinOp) (T : TypeId) (x y : Operand) (k : PV → List En → Prop) : Prop := match C.ti T with
  | some ⟨.int _, _, _, _⟩ | some ⟨.string, _, _, _⟩ => opBin C A c s op x y k
  | some ⟨.bool, _, _, _⟩ => strip c (opd C s.env x) fun p => strip c (opd C s.env y) fun q => match p, q with
    | .d (.v (.bool a)), .d (.v (.bool b)) => match op with
      | .eql => k (bl (A.eqb a b)) s.sto
      | .neq => k (bl (A.not (A.eqb a b))) s.sto
      | _ => False
    | _, _ => False
  | some ⟨.ptr e, _, _, _⟩ => match C.ti e with
    | some _ => strip c (opd C s.env x) fun p => strip c (opd C s.env y) fun q => refEq (.ptr e) p q (isConst x || isConst y) c fun b => eqK op k s.sto b
    | none => False
  | some ⟨tk, _, _, _⟩ => strip c (opd C s.env x) fun p => strip c (opd C s.env y) fun q => match tk with
    | .iface | .func | .map _ _ => refEq tk p q (isConst x || isConst y) c fun b => eqK op k s.sto b
    | _ => False
  | none => False

theorem opEq_ok {C : Ctx} {A : Ar} (hA : A = std) (hC : C.OK) {o : Oper} {ow c : Bool} {s : St} {op : BinOp} {T T' : TypeId} {x y : Operand} (ho : o.op = .binOp op T x y T') : Snd C o ow c s (opEq C A c s op T x y) := by
  intro k h
  have he : ∀ ρ, execOp ρ o = (do let r ← (do eqGuard op T x y (ρ x) (ρ y); binOp op T (ρ x) (ρ y) : Sem Value); pure (Next.value r)) := fun ρ => by simp only [execOp, ho]
  have hmx : x ∈ o.op.operands := by simp [ho, Op.operands]
  have hmy : y ∈ o.op.operands := by simp [ho, Op.operands]
  have refs : ∀ (tk : TK) (r : TR) (p q : PV), C.ti T = some r → r.k = tk → (∀ e, tk = .ptr e → ∃ re, C.ti e = some re) → (∀ μ w Z x', c = true → RP μ w Z x' (opd C s.env x) → RP μ w Z x' p) → (∀ μ w Z x', c = true → RP μ w Z x' (opd C s.env y) → RP μ w Z x' q) →
      refEq tk p q (isConst x || isConst y) c (eqK op k s.sto) → ∃ v sto', k v sto' ∧ (c = true → OpR C o s v sto') ∧ (ow = false → sto' = s.sto) := by
    intro tk r p q ht hk hpe hp hq h
    subst hk
    obtain ⟨b, hkb, hb⟩ := refEq_ok hC ht hpe h
    cases op
    case eql =>
      refine ⟨_, _, hkb, fun hc => opR_quiet fun μ w Z ρ hg hx => ?_, fun _ => rfl⟩
      obtain ⟨h1, _⟩ := hb hc μ w Z (ρ x) (ρ y) (hp μ w Z _ hc (hx x hmx)) (hq μ w Z _ hc (hx y hmy))
      exact ⟨.bool b, by rw [he, Sem.run_bind, h1]; rfl, RP.ofVal ..⟩
    case neq =>
      refine ⟨_, _, hkb, fun hc => opR_quiet fun μ w Z ρ hg hx => ?_, fun _ => rfl⟩
      obtain ⟨_, h1⟩ := hb hc μ w Z (ρ x) (ρ y) (hp μ w Z _ hc (hx x hmx)) (hq μ w Z _ hc (hx y hmy))
      refine ⟨.bool (!b), by rw [he, Sem.run_bind, h1]; rfl, ?_⟩
      cases b <;> exact RP.ofVal ..
    all_goals exact hkb.elim
  unfold opEq at h
  split at h
  · exact opBin_ok hA ho k h
  · exact opBin_ok hA ho k h
  · rename_i hT
    obtain ⟨p, h', hp⟩ := strip_ok (μ := fun _ _ => none) (w := default) (Z := fun _ _ => False) h
    clear h
    obtain ⟨q, h, hq⟩ := strip_ok (μ := fun _ _ => none) (w := default) (Z := fun _ _ => False) h'
    clear h'
    obtain ⟨i, d, hi, hu, _, _, _, hk⟩ := hC.ti T _ hT
    obtain rfl := KOk.bool hk
    subst hA
    split at h
    · rename_i a b
      have h3 : ∀ w, (Op.equal T (.bool a) (.bool b)).run C.P w = .ok (a == b) w := fun w => equal_of fun d => by simp [Op.equalIn, und hu]
      cases op
      case eql =>
        refine ⟨_, _, h, fun hc => opR_quiet fun μ w Z ρ hg hx => ?_, fun _ => rfl⟩
        have h1 := (hp μ w Z _ hc (hx x hmx)).val
        have h2 := (hq μ w Z _ hc (hx y hmy)).val
        exact ⟨.bool (a == b), by rw [he, h1, h2]; simp [eqGuard, binOp, h3], RP.ofVal ..⟩
      case neq =>
        refine ⟨_, _, h, fun hc => opR_quiet fun μ w Z ρ hg hx => ?_, fun _ => rfl⟩
        have h1 := (hp μ w Z _ hc (hx x hmx)).val
        have h2 := (hq μ w Z _ hc (hx y hmy)).val
        exact ⟨.bool (!(a == b)), by rw [he, h1, h2]; simp [eqGuard, binOp, h3], RP.ofVal ..⟩
      all_goals exact h.elim
    · exact h.elim
  · rename_i e _ _ _ hT
    split at h
    · rename_i re hre
      obtain ⟨p, h', hp⟩ := strip_ok (μ := fun _ _ => none) (w := default) (Z := fun _ _ => False) h
      clear h
      obtain ⟨q, h, hq⟩ := strip_ok (μ := fun _ _ => none) (w := default) (Z := fun _ _ => False) h'
      clear h'
      exact refs _ _ p q hT rfl (fun e' h' => by cases h'; exact ⟨re, hre⟩) hp hq h
    · exact h.elim
  · rename_i tk _ _ _ _ _ _ _ hT
    obtain ⟨p, h', hp⟩ := strip_ok (μ := fun _ _ => none) (w := default) (Z := fun _ _ => False) h
    clear h
    obtain ⟨q, h, hq⟩ := strip_ok (μ := fun _ _ => none) (w := default) (Z := fun _ _ => False) h'
    clear h'
    split at h
    · exact refs _ _ p q hT rfl (fun e' h' => by cases h') hp hq h
    · exact refs _ _ p q hT rfl (fun e' h' => by cases h') hp hq h
    · exact refs _ _ p q hT rfl (fun e' h' => by cases h') hp hq h
    · exact h.elim
  · exact h.elim

/-! ### pointers turned about -/

theorem single_den {s : St} {kk g : Nat} {cl : Cell} (hf : find s.sto kk = some (g, cl)) : ∀ k1 g1 c1, single kk g cl k1 g1 = some c1 → den s.sto k1 g1 = some c1 := by
  intro k1 g1 c1 h1
  simp only [single] at h1
  split at h1 <;> simp at h1
  rename_i h2
  obtain ⟨rfl, rfl⟩ := h2
  subst h1
  exact den_find hf

theorem single_put {s : St} {kk g : Nat} {cl : Cell} (hf : find s.sto kk = some (g, cl)) : den s.sto = mput (den s.sto) (single kk g cl) (single kk g cl) := by
  funext k1 g1
  simp only [mput]
  cases h : single kk g cl k1 g1 with
  | some c1 => exact single_den hf _ _ _ h
  | none => simp

/-- a part of memory that is read alone -/
theorem opR_read {C : Ctx} {o : Oper} {s : St} {v : PV} {kk g : Nat} {cl : Cell} (hf : find s.sto kk = some (g, cl)) (hft : kk ∈ (foot C s.env s.sto o).1)
    (h : ∀ (μ : Nmap) (w : World) (Z : Nat → Nat → Prop) (ρ : Operand → Value), GI C μ w Z → (∀ x ∈ o.op.operands, RP μ w Z (ρ x) (opd C s.env x)) → EntOK μ w Z kk g cl → ∃ val, (execOp ρ o).run C.P w = .ok (.value val) w ∧ RP μ w Z val v) : OpR C o s v s.sto := by
  refine ⟨single kk g cl, single kk g cl, trip_quiet fun μ w Z ρ hg hx hw => h μ w Z ρ hg hx (hw.ent _ _ _ (by simp [single])), single_den hf, single_put hf, fun k1 g1 h1 => ?_, fun _ => rfl⟩
  simp only [single, or_self] at h1
  split at h1
  · rename_i h2; rw [h2.1]; exact hft
  · exact absurd rfl h1

def opPtrConv (C : Ctx) (c : Bool) (s : St) (S T : TypeId) (x : Operand) (k : PV → List En → Prop) : Prop := match C.ti S, C.ti T with
  | some ⟨.ptr e, _, _, _⟩, some ⟨.uns, _, _, _⟩ => match C.ti e with
    | some r => (r.size ≠ 0) ∧ strip c (opd C s.env x) fun p => match p with
      | .bx kk g o => match find s.sto kk with
        | some (g', .box _ vs) => vc c (g' = g) ∧ (o < vs.length) ∧ k (.bx kk g o) s.sto
        | _ => False
      | _ => False
    | none => False
  | some ⟨.uns, _, _, _⟩, some ⟨.ptr u, _, _, _⟩ => match C.ti u with
    | some r => (C.lies u = true) ∧ strip c (opd C s.env x) fun p => match p with
      | .bx kk g 0 => match find s.sto kk with
        | some (g', .box TT vs) => vc c (g' = g) ∧ (TT = u) ∧ (vs.length = r.size) ∧ k (.bx kk g 0) s.sto
        | _ => False
      | _ => False
    | none => False
  | _, _ => False

theorem opPtrConv_ok {C : Ctx} (hC : C.OK) {o : Oper} {ow c : Bool} {s : St} {S T : TypeId} {x : Operand} (ho : o.op = .convert S T x) : Snd C o ow c s (opPtrConv C c s S T x) := by
  intro k h
  have hmx : x ∈ o.op.operands := by simp [ho, Op.operands]
  unfold opPtrConv at h
  split at h
  · rename_i e _ _ _ _ _ _ hS hT
    obtain ⟨_, _, _, hu, _, _, _, hk⟩ := hC.ti S _ hS
    obtain rfl := KOk.ptr hk
    obtain ⟨_, _, _, hu2, _, _, _, hk2⟩ := hC.ti T _ hT
    obtain rfl := KOk.uns hk2
    split at h
    · rename_i r hr
      obtain ⟨hs, h⟩ := h
      obtain ⟨ie, _, hie, _, hsz, _⟩ := hC.ti e r hr
      obtain ⟨p, hpu, h, hp⟩ := strip_ok' h
      split at h
      · rename_i kk g off
        split at h
        · rename_i g' TT vs hf
          obtain ⟨hg, hlt, h⟩ := h
          refine ⟨_, _, h, fun hc => opR_read hf (by simp [foot, ho, ← hpu, keyOf]) fun μ w Z ρ _ hx hent => ?_, fun _ => rfl⟩
          obtain rfl := vc_elim hg hc
          obtain ⟨b, cs, h2, h3, h4, _⟩ := hent
          have h1 := hp μ w Z _ hc (hx x hmx)
          generalize hy : ρ x = y at h1
          cases h1 with
          | bx _ _ _ b' h5 =>
            rw [h2] at h5; obtain rfl := Option.some.inj (Option.some.inj h5)
            have hlen : cs.toList.length = vs.length := h4.1
            have := Lib.run_to_unsafe (P := C.P) w (e := TT) (cells := cs.size) ⟨b, off, none⟩ hu hu2 hie (by rw [hsz]; exact hs) (by simp [World.shape?, h3]) (by simp at hlen; show off < cs.size; omega)
            exact ⟨_, by simp [execOp, ho, hy, this], .bx _ _ _ _ h2⟩
        · exact h.elim
      · exact h.elim
    · exact h.elim
  · rename_i u _ _ _ hS hT
    obtain ⟨_, _, _, hu, _, _, _, hk⟩ := hC.ti S _ hS
    obtain rfl := KOk.uns hk
    obtain ⟨_, _, _, hu2, _, _, _, hk2⟩ := hC.ti T _ hT
    obtain rfl := KOk.ptr hk2
    split at h
    · rename_i r hr
      obtain ⟨hl, h⟩ := h
      obtain ⟨r', hr', hlies⟩ := hC.lies u hl
      rw [hr] at hr'; obtain rfl := Option.some.inj hr'
      obtain ⟨ie, _, hie, _, hsz, _⟩ := hC.ti u r hr
      obtain ⟨p, hpu, h, hp⟩ := strip_ok' h
      split at h
      · rename_i kk g
        split at h
        · rename_i g' TT vs hf
          obtain ⟨hg, rfl, hlen', h⟩ := h
          refine ⟨_, _, h, fun hc => opR_read hf (by simp [foot, ho, ← hpu, keyOf]) fun μ w Z ρ _ hx hent => ?_, fun _ => rfl⟩
          obtain rfl := vc_elim hg hc
          obtain ⟨b, cs, h2, h3, h4, _⟩ := hent
          have h1 := hp μ w Z _ hc (hx x hmx)
          generalize hy : ρ x = y at h1
          cases h1 with
          | bx _ _ _ b' h5 =>
            rw [h2] at h5; obtain rfl := Option.some.inj (Option.some.inj h5)
            have hlen : cs.toList.length = vs.length := h4.1
            have hcs : cs.size = r.size := by rw [← hlen', ← hlen]; simp
            have := Lib.run_from_unsafe (P := C.P) w (e := TT) (cells := cs.size) ⟨b, 0, none⟩ hu hu2 hie (by simp [World.shape?, h3]) (by rw [hcs]; exact hlies)
            exact ⟨_, by simp [execOp, ho, hy, this], .bx _ _ _ _ h2⟩
        · exact h.elim
      · exact h.elim
    · exact h.elim
  · exact h.elim
end Go.PL
/-! Maps. -/
namespace Go.PL
set_option linter.unusedSimpArgs false
set_option linter.unusedVariables false
set_option linter.unusedSectionVars false
open Tys (Ty U)
open Enc (sz enc dflt tb ofB toB)
open Dec (dec dok)
variable [Tys] [Enc] [Dec]

/-- may a value be a key of this kind? -/
def keyOK : TK → Value → Bool
  | .int .i64, .int .i64 _ => true
  | .string, .string _ => true
  | _, _ => false

def keyEq (A : Ar) : Value → Value → Bool
  | .int _ a, .int _ b => A.cmp .eql a b
  | .string a, .string b => A.scmp .eql a b
  | _, _ => false

def keysOK (tk : TK) : List (Value × PV) → Bool
  | [] => true
  | e :: r => keyOK tk e.1 && keysOK tk r

def zeroPV (r : TR) : PV := match r.k.agg with
  | true => .ag (r.zero.map fun v => .d (.v v))
  | false => match r.zero with
    | [z] => .d (.v z)
    | _ => .any

def lookC (A : Ar) (key : Value) (es : List (Value × PV)) (z : PV) (k : PV → Bool → Prop) : Prop := match es with
  | [] => k z false
  | (x, p) :: r => match keyEq A key x with
    | true => k p true
    | false => lookC A key r z k

/-- every value of the one kind is of the other -/
def LeQ (q p : PV) : Prop := ∀ μ w Z x, RP μ w Z x q → RP μ w Z x p
/-- a look-up: entry by entry, or in one go -/
inductive LookK (A : Ar) (key : Value) (es : List (Value × PV)) (z : PV) (k : PV → Bool → Prop) : Prop where
  | each (h : lookC A key es z k)
  | one (p : PV) (ok : Bool) (h : lookC A key es z fun q b => LeQ q p ∧ b = ok) (hk : k p ok)

def opLookup (C : Ctx) (A : Ar) (c : Bool) (s : St) (T : TypeId) (x i : Operand) (ok : Bool) (k : PV → List En → Prop) : Prop := match C.ti T with
  | some ⟨.map kt et, _, _, _⟩ => match C.ti kt, C.ti et with
    | some rk, some re => strip c (opd C s.env x) fun p => strip c (opd C s.env i) fun q => match p, q with
      | .mp kk g, .d (.v key) => match find s.sto kk with
        | some (g', .map es) => vc c (g' = g) ∧ (keyOK rk.k key = true) ∧ (keysOK rk.k es = true) ∧ LookK A key es (zeroPV re) fun v b => match ok with
          | true => k (.tu [v, bl b]) s.sto
          | false => k v s.sto
        | _ => False
      | _, _ => False
    | _, _ => False
  | _ => False

theorem zeroPV_ok {P : Program} {t : TypeId} {r : TR} (h : TOk P t r) (w : World) : ∃ v, (zeroValue t).run P w = .ok v w ∧ ∀ μ Z, RP μ w Z v (zeroPV r) := by
  obtain ⟨i, d, hi, hu, _, ⟨_, _, hz⟩, _, hk⟩ := h
  refine ⟨zeroV r, by simp [zeroValue, typeInfo, hi, hz], fun μ Z => ?_⟩
  unfold zeroPV zeroV
  cases r.k.agg with
  | true =>
    have := RPs.vals μ w Z r.zero
    exact .ag _ _ this.1 this.2
  | false =>
    simp only
    match r.zero with
    | [z] => exact RP.ofVal ..
    | [] => exact .any _
    | _ :: _ :: _ => exact .any _

theorem run_checkKey {P : Program} {t : TypeId} {r : TR} (h : TOk P t r) {key : Value} (hk : keyOK r.k key = true) (e : Bool) (w : World) : (Instr.checkKey e 10000 t key).run P w = .ok () w := by
  obtain ⟨i, d, hi, hu, _, _, _, hK⟩ := h
  have gen : ∀ n, (Instr.checkKey e (n + 1) t key).run P w = .ok () w := by
    intro n
    generalize r.k = tk at hk hK
    unfold keyOK at hk
    split at hk
    · obtain rfl := KOk.int hK
      simp [Instr.checkKey, und hu]
    · obtain rfl := KOk.string hK
      simp [Instr.checkKey, und hu]
    · cases hk
  exact gen 9999

theorem sameNow_ok {A : Ar} (hA : A = std) {d : TypeDesc} {tk : TK} (hK : KOk d tk) {a b : Value} (ha : keyOK tk a = true) (hb : keyOK tk b = true) : Instr.sameNow d a b = some (keyEq A a b) := by
  subst hA
  match tk, a, b, ha, hb, hK with
  | .int .i64, .int .i64 x, .int .i64 y, _, _, hK =>
    obtain rfl := KOk.int hK
    simp [Instr.sameNow, keyEq, std, cmpStd]
  | .string, .string x, .string y, _, _, hK =>
    obtain rfl := KOk.string hK
    simp only [Instr.sameNow, keyEq, std, scmpStd]
    rw [beq_toListBytes]

theorem findNow_ok {A : Ar} (hA : A = std) {d : TypeDesc} {tk : TK} (hK : KOk d tk) {key : Value} (hk : keyOK tk key = true) {z : PV} {k : PV → Bool → Prop} : ∀ (es : List (Value × PV)), keysOK tk es = true → lookC A key es z k →
    ∃ v b, k v b ∧ ∀ (ms : List MapEntry) (i : Nat), ms.length = es.length → (∀ (j : Nat) (e : MapEntry) (x : Value) (p : PV), ms[j]? = some e → es[j]? = some (x, p) → e.key = x) →
      (b = true ∧ ∃ j e, ms[j]? = some e ∧ es[j]? = some (e.key, v) ∧ Instr.findNow d key ms i = some (some (i + j, e.val))) ∨ (b = false ∧ v = z ∧ Instr.findNow d key ms i = some none)
  | [], _, h => ⟨z, false, h, fun ms i hl _ => .inr ⟨rfl, rfl, by cases ms with | nil => rfl | cons => simp at hl⟩⟩
  | (x, p) :: es, hes, h => by
    simp only [keysOK, Bool.and_eq_true] at hes
    have hs := sameNow_ok hA hK hk hes.1
    simp only [lookC] at h
    split at h
    · rename_i hb
      refine ⟨p, true, h, fun ms i hl hm => ?_⟩
      match ms, hl with
      | m :: ms, hl =>
        have hkey := hm 0 m x p rfl rfl
        refine .inl ⟨rfl, 0, m, rfl, by simp [hkey], ?_⟩
        rw [← hkey] at hs hb
        simp [Instr.findNow, hs, hb]
    · rename_i hb
      obtain ⟨v, b, h1, h2⟩ := findNow_ok hA hK hk es hes.2 h
      refine ⟨v, b, h1, fun ms i hl hm => ?_⟩
      match ms, hl with
      | m :: ms, hl =>
        have hkey := hm 0 m x p rfl rfl
        rw [← hkey] at hs hb
        rcases h2 ms (i + 1) (by simpa using hl) (fun j e x p h1 h2 => hm (j + 1) e x p (by simpa using h1) (by simpa using h2)) with ⟨h3, j, e, h4, h5, h6⟩ | ⟨h3, h4, h5⟩
        · exact .inl ⟨h3, j + 1, e, by simpa using h4, by simpa using h5, by simp [Instr.findNow, hs, hb, h6]; omega⟩
        · exact .inr ⟨h3, h4, by simp [Instr.findNow, hs, hb, h5]⟩

theorem opLookup_ok {C : Ctx} {A : Ar} (hA : A = std) (hC : C.OK) {o : Oper} {ow c : Bool} {s : St} {T : TypeId} {x i : Operand} {ok : Bool} (ho : o.op = .lookup T x i ok) : Snd C o ow c s (opLookup C A c s T x i ok) := by
  intro k h
  have hmx : x ∈ o.op.operands := by simp [ho, Op.operands]
  have hmi : i ∈ o.op.operands := by simp [ho, Op.operands]
  unfold opLookup at h
  split at h
  · rename_i kt et _ _ _ hT
    obtain ⟨_, _, _, hu, _, _, _, hk⟩ := hC.ti T _ hT
    obtain rfl := KOk.map hk
    split at h
    · rename_i rk re hrk hre
      obtain ⟨p, hpu, h', hp⟩ := strip_ok' h
      clear h
      obtain ⟨q, h, hq⟩ := strip_ok (μ := fun _ _ => none) (w := default) (Z := fun _ _ => False) h'
      clear h'
      split at h
      · rename_i kk g key
        split at h
        · rename_i g' es hf
          obtain ⟨hg, hkk, hke, h⟩ := h
          have hTk := hC.ti kt rk hrk
          have hTe := hC.ti et re hre
          obtain ⟨_, dk, _, huk, _, _, _, hKk⟩ := id hTk
          obtain ⟨v0, b, v, hkv, himp, hfind⟩ : ∃ v0 b v, (match ok with | true => k (.tu [v, bl b]) s.sto | false => k v s.sto) ∧ LeQ v0 v ∧ ∀ (ms : List MapEntry) (i : Nat), ms.length = es.length → (∀ (j : Nat) (e : MapEntry) (x : Value) (p : PV), ms[j]? = some e → es[j]? = some (x, p) → e.key = x) →
              (b = true ∧ ∃ j e, ms[j]? = some e ∧ es[j]? = some (e.key, v0) ∧ Instr.findNow dk key ms i = some (some (i + j, e.val))) ∨ (b = false ∧ v0 = zeroPV re ∧ Instr.findNow dk key ms i = some none) := by
            cases h with
            | each h =>
              obtain ⟨v, b, h1, h2⟩ := findNow_ok hA hKk hkk es hke h
              exact ⟨v, b, v, h1, fun _ _ _ _ h => h, h2⟩
            | one p okk h hk =>
              obtain ⟨v, b, ⟨h1, rfl⟩, h2⟩ := findNow_ok hA hKk hkk es hke h
              exact ⟨v, b, p, hk, h1, h2⟩
          have hft : kk ∈ (foot C s.env s.sto o).1 := by simp [foot, ho, ← hpu, keyOf]
          -- a run
          have run : ∀ (μ : Nmap) (w : World) (Z : Nat → Nat → Prop) (ρ : Operand → Value), c = true → (∀ x ∈ o.op.operands, RP μ w Z (ρ x) (opd C s.env x)) → EntOK μ w Z kk g' (.map es) →
              ∃ val, RP μ w Z val v ∧ (execOp ρ o).run C.P w = .ok (.value (if ok then .tuple #[val, .bool b] else val)) w := by
            intro μ w Z ρ hc hx hent
            obtain rfl := vc_elim hg hc
            obtain ⟨bm, ms, h1, h2, ⟨h3, h4⟩, h5⟩ := hent
            have hp1 := hp μ w Z _ hc (hx x hmx)
            have hq1 := (hq μ w Z _ hc (hx i hmi)).val
            generalize hy : ρ x = y at hp1
            cases hp1 with
            | mp _ _ bm' h6 =>
              rw [h1] at h6; obtain rfl := Option.some.inj (Option.some.inj h6)
              have hck := run_checkKey hTk hkk ms.isEmpty w
              have hget : (getObj bm).run C.P w = .ok (.map ms ms.size) w := by
                simp [getObj, Sem.run, h2]
              obtain ⟨z0, hz0, hzr⟩ := zeroPV_ok hTe w
              rcases hfind ms.toList 0 (by simpa using h3) (fun j e x p he hp => (h4 j e x p (by simpa using he) hp).1) with ⟨rfl, j, e, h7, h8, h9⟩ | ⟨rfl, rfl, h9⟩
              · refine ⟨e.val, himp _ _ _ _ (h4 j e e.key v0 (by simpa using h7) h8).2.2, ?_⟩
                simp [execOp, ho, hy, hq1, Instr.lookup, und hu, hget, hck, Instr.findKey, und huk, h9]
              · refine ⟨z0, himp _ _ _ _ (hzr μ Z), ?_⟩
                simp [execOp, ho, hy, hq1, Instr.lookup, und hu, hget, hck, Instr.findKey, und huk, h9, hz0]
          cases ok with
          | true =>
            refine ⟨_, _, hkv, fun hc => opR_read hf hft fun μ w Z ρ _ hx hent => ?_, fun _ => rfl⟩
            obtain ⟨val, r1, r2⟩ := run μ w Z ρ hc hx hent
            refine ⟨_, r2, ?_⟩
            refine .tu [v, bl b] [val, .bool b] rfl fun n y q hy hq => ?_
            match n, hy, hq with
            | 0, hy, hq => cases hy; cases hq; exact r1
            | 1, hy, hq => cases hy; cases hq; exact RP.ofVal ..
            | n + 2, hy, hq => simp at hy
          | false =>
            refine ⟨_, _, hkv, fun hc => opR_read hf hft fun μ w Z ρ _ hx hent => ?_, fun _ => rfl⟩
            obtain ⟨val, r1, r2⟩ := run μ w Z ρ hc hx hent
            exact ⟨_, r2, r1⟩
        · exact h.elim
      · exact h.elim
    · exact h.elim
  · exact h.elim

def opMakeMap (C : Ctx) (ow : Bool) (s : St) (dst : Option Nat) (r : Option Operand) (k : PV → List En → Prop) : Prop := match ow, dst, r with
  | true, some d, none => k (.mp d s.gen) (⟨d, s.gen, .map []⟩ :: s.sto)
  | _, _, _ => False

theorem opMakeMap_ok {C : Ctx} {o : Oper} {ow c : Bool} {s : St} {T : TypeId} {r : Option Operand} (ho : o.op = .makeMap T r) : Snd C o ow c s (opMakeMap C ow s o.dst r) := by
  intro k h
  unfold opMakeMap at h
  split at h
  · rename_i d hd
    refine ⟨_, _, h, fun hc => ⟨emp, single d s.gen (.map []), ?_, fun _ _ _ h => by simp [emp] at h, den_cons _ _, fun k g h => by
      simp only [emp, single] at h
      split at h
      · rename_i h1; simp [foot, ho, hd, h1.1]
      · simp at h, fun h => by simp [foot, ho] at h⟩, fun h => by cases h⟩
    intro μ w Z ρ hg hx hw hf
    have hgr : Grown w (w.alloc (.map #[] 0)) (.map #[] 0) := ⟨rfl, rfl, rfl⟩
    have hone : ∀ k g c, single d s.gen (.map [] : Cell) k g = some c → k = d ∧ g = s.gen ∧ c = .map [] := by
      intro k g c h1
      simp only [single] at h1
      split at h1 <;> simp at h1
      rename_i h3
      exact ⟨h3.1, h3.2, h1.symm⟩
    have ha : Adv μ emp Z w (mset μ d s.gen (some w.heap.size)) (single d s.gen (.map [])) Z (w.alloc (.map #[] 0)) := adv_grown hgr hw.zlt (mset_mono (hf d hd)) (fun _ _ h => h) (fun _ _ h => .inl h) (by
      intro k g c b h1 h2
      obtain ⟨rfl, rfl, rfl⟩ := hone k g c h1
      rw [mset_same] at h2
      exact (Option.some.inj (Option.some.inj h2)).symm)
    refine ⟨.map (some w.heap.size), w.alloc (.map #[] 0), mset μ d s.gen (some w.heap.size), Z, .inl ?_, .mp _ _ _ (mset_same ..), ⟨fun k g c h1 => ?_, fun k g k' g' c c' b h1 h2 _ _ => ?_, fun b o h => Nat.lt_of_lt_of_le (hw.zlt b o h) ha.size⟩, ha, mset_other o.dst hd⟩
    · simp [execOp, ho, Instr.makeMap, newObj]
      rfl
    · obtain ⟨rfl, rfl, rfl⟩ := hone k g c h1
      exact ⟨w.heap.size, #[], mset_same .., hgr.new, ⟨rfl, fun i e x p he => by simp at he⟩, fun o h => absurd (hw.zlt _ o h) (by omega)⟩
    · obtain ⟨rfl, rfl, _⟩ := hone k g c h1
      obtain ⟨rfl, rfl, _⟩ := hone k' g' c' h2
      exact ⟨rfl, rfl⟩
  · exact h.elim

/-- a key that is not there -/
def freshK (A : Ar) (c : Bool) (key : Value) : List (Value × PV) → Prop
  | [] => True
  | (x, _) :: r => vc c (keyEq A key x = false) ∧ freshK A c key r

def opInsert (C : Ctx) (A : Ar) (c ow : Bool) (s : St) (T : TypeId) (x i y : Operand) (k : PV → List En → Prop) : Prop := match ow, C.ti T with
  | true, some ⟨.map kt et, _, _, _⟩ => match C.ti kt with
    | some rk => strip c (opd C s.env x) fun p => strip c (opd C s.env i) fun q => strip c (opd C s.env y) fun v => match p, q with
      | .mp kk g, .d (.v key) => match find s.sto kk with
        | some (g', .map es) => vc c (g' = g) ∧ (keyOK rk.k key = true) ∧ (keysOK rk.k es = true) ∧ freshK A c key es ∧ k .any (setc s.sto kk (.map (es ++ [(key, v)])))
        | _ => False
      | _, _ => False
    | _ => False
  | _, _ => False

theorem freshK_ok {A : Ar} (hA : A = std) {d : TypeDesc} {tk : TK} (hK : KOk d tk) {key : Value} (hk : keyOK tk key = true) {c : Bool} (hc : c = true) : ∀ (es : List (Value × PV)) (ms : List MapEntry) (i : Nat), keysOK tk es = true → freshK A c key es → ms.length = es.length →
    (∀ (j : Nat) (e : MapEntry) (x : Value) (p : PV), ms[j]? = some e → es[j]? = some (x, p) → e.key = x) → Instr.findNow d key ms i = some none
  | [], [], i, _, _, _, _ => rfl
  | (x, p) :: es, m :: ms, i, hes, hf, hl, hm => by
    simp only [keysOK, Bool.and_eq_true] at hes
    have hkey := hm 0 m x p rfl rfl
    have hs := sameNow_ok hA hK hk hes.1
    rw [vc_elim hf.1 hc, ← hkey] at hs
    simp [Instr.findNow, hs, freshK_ok hA hK hk hc es ms (i + 1) hes.2 hf.2 (by simpa using hl) (fun j e x p h1 h2 => hm (j + 1) e x p (by simpa using h1) (by simpa using h2))]
  | [], _ :: _, _, _, _, hl, _ => by simp at hl
  | _ :: _, [], _, _, _, hl, _ => by simp at hl

theorem opInsert_ok {C : Ctx} {A : Ar} (hA : A = std) (hC : C.OK) {o : Oper} {ow c : Bool} {s : St} {T : TypeId} {x i y : Operand} (ho : o.op = .insert T x i y) : Snd C o ow c s (opInsert C A c ow s T x i y) := by
  intro k h
  have hmx : x ∈ o.op.operands := by simp [ho, Op.operands]
  have hmi : i ∈ o.op.operands := by simp [ho, Op.operands]
  have hmy : y ∈ o.op.operands := by simp [ho, Op.operands]
  unfold opInsert at h
  split at h
  · rename_i kt et _ _ _ hT
    obtain ⟨_, _, _, hu, _, _, _, hk⟩ := hC.ti T _ hT
    obtain rfl := KOk.map hk
    split at h
    · rename_i rk hrk
      obtain ⟨p, hpu, h', hp⟩ := strip_ok' h
      clear h
      obtain ⟨q, h, hq⟩ := strip_ok (μ := fun _ _ => none) (w := default) (Z := fun _ _ => False) h'
      clear h'
      obtain ⟨v, h', hv⟩ := strip_ok (μ := fun _ _ => none) (w := default) (Z := fun _ _ => False) h
      clear h
      split at h'
      · rename_i kk g key
        split at h'
        · rename_i g' es hf
          obtain ⟨hg, hkk, hke, hfr, h⟩ := h'
          have hTk := hC.ti kt rk hrk
          obtain ⟨_, dk, _, huk, _, _, _, hKk⟩ := id hTk
          refine ⟨_, _, h, fun hc => ⟨single kk g' (.map es), single kk g' (.map (es ++ [(key, v)])), ?_, single_den hf, den_setc _ hf, fun k1 g1 h1 => ?_, fun h => by simp [foot, ho] at h⟩, fun h => by cases h⟩
          · intro μ w Z ρ _ hx hw _
            obtain rfl := vc_elim hg hc
            obtain ⟨bm, ms, h1, h2, ⟨h3, h4⟩, h5⟩ := hw.ent kk g' (.map es) (by simp [single])
            have hp1 := hp μ w Z _ hc (hx x hmx)
            have hq1 := (hq μ w Z _ hc (hx i hmi)).val
            have hv1 := hv μ w Z _ hc (hx y hmy)
            generalize hy : ρ x = yy at hp1
            cases hp1 with
            | mp _ _ bm' h6 =>
              rw [h1] at h6; obtain rfl := Option.some.inj (Option.some.inj h6)
              have hck := run_checkKey hTk hkk false w
              have hget : (getObj bm).run C.P w = .ok (.map ms ms.size) w := by simp [getObj, Sem.run, h2]
              have hfn := freshK_ok hA hKk hkk hc es ms.toList 0 hke hfr (by simpa using h3) (fun j e x p he hp => (h4 j e x p (by simpa using he) hp).1)
              have hblt : bm < w.heap.size := EntOK.lt (c := .map es) ⟨bm, ms, h1, h2, ⟨h3, h4⟩, h5⟩ h1
              let w' : World := { w with heap := w.heap.setIfInBounds bm (.map (ms.push { key, val := ρ y, born := ms.size }) (ms.size + 1)) }
              have hother : ∀ b, b ≠ bm → w'.heap[b]? = w.heap[b]? := fun b hb => by
                simp only [w', Array.getElem?_setIfInBounds]
                rw [if_neg (fun e => hb e.symm)]
              have hself : w'.heap[bm]? = some (.map (ms.push { key, val := ρ y, born := ms.size }) (ms.size + 1)) := by
                simp [w', Array.getElem?_setIfInBounds, hblt]
              have hone : ∀ (cl : Cell) k1 g1 c1, single kk g' cl k1 g1 = some c1 → k1 = kk ∧ g1 = g' ∧ c1 = cl := by
                intro cl k1 g1 c1 h1
                simp only [single] at h1
                split at h1 <;> simp at h1
                rename_i h3
                exact ⟨h3.1, h3.2, h1.symm⟩
              have ha : Adv μ (single kk g' (.map es)) Z w μ (single kk g' (.map (es ++ [(key, v)]))) Z w' := by
                refine ⟨fun _ _ _ h => h, fun _ _ h => h, fun b o hz => ?_, fun b s hs => ?_, by simp [w'], fun b hb hn => hother b (fun e => hn kk g' (.map es) (by simp [single]) (by rw [e]; exact h1)), fun _ _ h => .inl h, fun k1 g1 c1 b h7 h8 => ?_, rfl, rfl⟩
                · have hb : b ≠ bm := fun e => h5 o (by rw [← e]; exact hz)
                  simp only [World.cell?, hother b hb]
                · by_cases hb : b = bm
                  · subst hb; simp [World.shape?, h2] at hs
                  · simp only [World.shape?, hother b hb]; exact hs
                · obtain ⟨rfl, rfl, rfl⟩ := hone _ _ _ _ h7
                  exact .inr ⟨k1, g1, .map es, by simp [single], h8⟩
              refine ⟨undef, w', μ, Z, .inr ⟨?_, rfl⟩, .any _, ⟨fun k1 g1 c1 h7 => ?_, fun k1 g1 k2 g2 c1 c2 b h7 h8 _ _ => ?_, fun b o hz => by have := hw.zlt b o hz; simpa [w'] using this⟩, ha, fun _ _ _ => rfl⟩
              · simp [execOp, ho, hy, hq1, Instr.mapUpdate, und hu, hget, hck, Instr.findKey, und huk, hfn, setObj, Sem.run, h2, w']
              · obtain ⟨rfl, rfl, rfl⟩ := hone _ _ _ _ h7
                refine ⟨bm, ms.push { key := key, val := ρ y, born := ms.size }, h1, by rw [hself]; simp, ⟨by simp [h3], fun j e x p he hp' => ?_⟩, h5⟩
                rw [Array.getElem?_push] at he
                rw [List.getElem?_append] at hp'
                split at he
                · rename_i hj
                  cases he
                  rw [if_neg (by omega)] at hp'
                  have e0 : j - es.length = 0 := by omega
                  rw [e0] at hp'
                  simp only [List.getElem?_cons_zero] at hp'
                  cases hp'
                  exact ⟨rfl, hj.symm, hv1.adv ha⟩
                · rename_i hj
                  have hjl : j < ms.size := by
                    rcases Nat.lt_or_ge j ms.size with h | h
                    · exact h
                    · rw [Array.getElem?_eq_none h] at he; cases he
                  rw [if_pos (by omega)] at hp'
                  obtain ⟨a1, a2, a3⟩ := h4 j e x p he hp'
                  exact ⟨a1, a2, a3.adv ha⟩
              · obtain ⟨rfl, rfl, _⟩ := hone _ _ _ _ h7
                obtain ⟨rfl, rfl, _⟩ := hone _ _ _ _ h8
                exact ⟨rfl, rfl⟩
          · simp only [foot, ho, ← hpu, keyOf]
            simp only [single] at h1
            split at h1
            · rename_i h2; simp [h2.1]
            · simp at h1
        · exact h'.elim
      · exact h'.elim
    · exact h.elim
  · exact h.elim
end Go.PL
/-! Fields of values; going over maps. -/
namespace Go.PL
set_option linter.unusedSimpArgs false
set_option linter.unusedVariables false
set_option linter.unusedSectionVars false
open Tys (Ty U)
open Enc (sz enc dflt tb ofB toB)
open Dec (dec dok)
variable [Tys] [Enc] [Dec]
open Go.ChangeMaps (setBlock)

def opFieldV (C : Ctx) (c : Bool) (s : St) (T : TypeId) (x : Operand) (f : Nat) (k : PV → List En → Prop) : Prop := match C.ti T with
  | some ⟨.struct fs, _, _, _⟩ => match fs[f]? with
    | some (off, t) => match C.ti t with
      | some r => strip c (opd C s.env x) fun p => match p with
        | .ag vs => match r.k.agg with
          | true => (off + r.size ≤ vs.length) ∧ k (.ag ((vs.drop off).take r.size)) s.sto
          | false => match vs[off]? with
            | some q => k q s.sto
            | none => False
        | _ => False
      | none => False
    | none => False
  | _ => False

theorem opFieldV_ok {C : Ctx} (hC : C.OK) {o : Oper} {ow c : Bool} {s : St} {T : TypeId} {x : Operand} {f : Nat} (ho : o.op = .field T x f) : Snd C o ow c s (opFieldV C c s T x f) := by
  intro k h
  unfold opFieldV at h
  split at h
  · rename_i fs _ _ _ hT
    split at h
    · rename_i off t hf
      split at h
      · rename_i r hr
        obtain ⟨p, h, hp⟩ := strip_ok (μ := fun _ _ => none) (w := default) (Z := fun _ _ => False) h
        obtain ⟨_, d, _, h2, _, _, _, h5⟩ := hC.ti T _ hT
        obtain ⟨F, rfl, hF⟩ := KOk.struct h5
        have hfd : ∃ fd, F[f]? = some fd ∧ fd.offset = off ∧ fd.type = t := by
          rw [← hF, List.getElem?_map] at hf
          rw [← Array.getElem?_toList]
          cases hq : F.toList[f]? with
          | none => rw [hq] at hf; cases hf
          | some fd => rw [hq] at hf; cases hf; exact ⟨fd, rfl, rfl, rfl⟩
        obtain ⟨fd, h6, rfl, rfl⟩ := hfd
        obtain ⟨i, _, h8, _, h9, _⟩ := id (hC.ti _ r hr)
        split at h
        · rename_i vs
          split at h
          · rename_i ha
            refine ⟨_, _, h.2, fun hc => opR_val fun μ w Z ρ hx => ?_, fun _ => rfl⟩
            have h1 := hp μ w Z _ hc (hx x (by simp [ho, Op.operands]))
            generalize hy : ρ x = y at h1
            cases h1 with
            | ag _ us hl hh =>
              refine ⟨.agg (us.toArray.extract fd.offset (fd.offset + r.size)), ?_, ?_⟩
              · simp [execOp, ho, hy, Instr.field, und h2, h6, asAgg, part, isAgg_run (hC.ti _ r hr), ha, szOf h8, h9]
              · have e : us.toArray.extract fd.offset (fd.offset + r.size) = ((us.drop fd.offset).take r.size).toArray := by
                  apply Array.ext'
                  simp [Array.toList_extract, List.extract_eq_take_drop]
                rw [e]
                refine .ag _ _ (by simp [hl]) fun j v q hv hq => ?_
                rw [List.getElem?_take, List.getElem?_drop] at hv hq
                split at hv
                · rename_i hj
                  rw [if_pos hj] at hq
                  exact hh _ v q hv hq
                · cases hv
          · rename_i ha
            split at h
            · rename_i q hq
              refine ⟨_, _, h, fun hc => opR_val fun μ w Z ρ hx => ?_, fun _ => rfl⟩
              have h1 := hp μ w Z _ hc (hx x (by simp [ho, Op.operands]))
              generalize hy : ρ x = y at h1
              cases h1 with
              | ag _ us hl hh =>
                have hlt : fd.offset < us.length := by
                  rw [hl]
                  rcases Nat.lt_or_ge fd.offset vs.length with h | h
                  · exact h
                  · rw [List.getElem?_eq_none h] at hq; cases hq
                refine ⟨us[fd.offset], ?_, hh _ _ q (List.getElem?_eq_getElem hlt) hq⟩
                simp [execOp, ho, hy, Instr.field, und h2, h6, asAgg, part, isAgg_run (hC.ti _ r hr), ha, hlt]
            · exact h.elim
        · exact h.elim
      · exact h.elim
    · exact h.elim
  · exact h.elim

/-! ### going over a map -/

def opRange (C : Ctx) (ow c : Bool) (s : St) (dst : Option Nat) (T : TypeId) (x : Operand) (k : PV → List En → Prop) : Prop := match ow, dst, C.ti T with
  | true, some d, some ⟨.map _ _, _, _, _⟩ => strip c (opd C s.env x) fun p => match p with
    | .mp mk g => match find s.sto mk with
      | some (g', .map es) => vc c (g' = g) ∧ k (.bx d s.gen 0) (⟨d, s.gen, .iter mk g' es.length es.length []⟩ :: s.sto)
      | _ => False
    | _ => False
  | _, _, _ => False

theorem opRange_ok {C : Ctx} (hC : C.OK) {o : Oper} {ow c : Bool} {s : St} {T : TypeId} {x : Operand} (ho : o.op = .range T x) : Snd C o ow c s (opRange C ow c s o.dst T x) := by
  intro k h
  unfold opRange at h
  split at h
  · rename_i d _ _ _ _ _ hd hT
    obtain ⟨p, hpu, h, hp⟩ := strip_ok' h
    split at h
    · rename_i mk g
      split at h
      · rename_i g' es hf
        obtain ⟨hg, h⟩ := h
        let it : Cell := .iter mk g' es.length es.length []
        refine ⟨_, _, h, fun hc => ⟨single mk g' (.map es), mput (single mk g' (.map es)) emp (single d s.gen it), ?_, single_den hf, ?_, ?_, fun h => by simp [foot, ho] at h⟩, fun h => by cases h⟩
        · intro μ w Z ρ _ hx hw hfr
          obtain rfl := vc_elim hg hc
          have h1 := hp μ w Z _ hc (hx x (by simp [ho, Op.operands]))
          obtain ⟨b, ms, h2, h3, ⟨h4, h5⟩, h6⟩ := hw.ent mk g' (.map es) (by simp [single])
          obtain ⟨_, dd, _, h7, _, _, _, h8⟩ := hC.ti T _ hT
          obtain rfl := KOk.map h8
          generalize hxe : ρ x = y at h1
          cases h1 with
          | mp _ _ b' hb =>
            rw [h2] at hb; obtain rfl := Option.some.inj (Option.some.inj hb)
            have hrun := run_range_map (P := C.P) w T _ _ b ms ms.size h7 h3
            have hgr : Grown w (w.alloc (.mapIter (some b) ms.size #[] ms.size)) (.mapIter (some b) ms.size #[] ms.size) := ⟨rfl, rfl, rfl⟩
            have hone : ∀ k g c, single d s.gen it k g = some c → k = d ∧ g = s.gen ∧ c = it := by
              intro k g c h1
              simp only [single] at h1
              split at h1 <;> simp at h1
              rename_i h3
              exact ⟨h3.1, h3.2, h1.symm⟩
            have hemp : WR μ emp Z w := ⟨fun k g c h => by simp [emp] at h, fun k g k' g' c c' b h => by simp [emp] at h, hw.zlt⟩
            have ha : Adv μ emp Z w (mset μ d s.gen (some w.heap.size)) (single d s.gen it) Z (w.alloc (.mapIter (some b) ms.size #[] ms.size)) := adv_grown hgr hw.zlt (mset_mono (hfr d hd)) (fun _ _ h => h) (fun _ _ h => .inl h) (by
              intro k g c b h1 h2
              obtain ⟨rfl, rfl, rfl⟩ := hone k g c h1
              rw [mset_same] at h2
              exact (Option.some.inj (Option.some.inj h2)).symm)
            have hwr : WR (mset μ d s.gen (some w.heap.size)) (single d s.gen it) Z (w.alloc (.mapIter (some b) ms.size #[] ms.size)) := by
              refine ⟨fun k g c h1 => ?_, fun k g k' g' c c' b h1 h2 _ _ => ?_, fun b o h => Nat.lt_of_lt_of_le (hw.zlt b o h) ha.size⟩
              · obtain ⟨rfl, rfl, rfl⟩ := hone k g c h1
                refine ⟨w.heap.size, b, mset_same .., ⟨mset_mono (hfr _ hd) _ _ _ h2, ?_⟩, fun o h => absurd (hw.zlt _ o h) (by omega)⟩
                rw [hgr.new, h4]; rfl
              · obtain ⟨rfl, rfl, _⟩ := hone k g c h1
                obtain ⟨rfl, rfl, _⟩ := hone k' g' c' h2
                exact ⟨rfl, rfl⟩
            obtain ⟨h9, h10⟩ := frame_rule hw (fun k g c h => by simp [emp] at h) hwr ha
            refine ⟨_, _, _, Z, .inl ?_, .bx _ _ _ _ (mset_same ..), h9, h10, mset_other o.dst hd⟩
            simp only [execOp, ho, hxe, Sem.run_bind, hrun]; rfl
        · rw [den_cons]
          funext k1 g1
          simp only [mput, emp, single]
          by_cases e1 : k1 = d ∧ g1 = s.gen
          · simp [e1, it]
          · by_cases e2 : k1 = mk ∧ g1 = g'
            · obtain ⟨rfl, rfl⟩ := e2
              simp only [e1, if_false]
              simp [den_find hf]
            · simp [e1, e2]
        · intro k1 g1 h1
          have hm : mk ∈ keyOf (unc (opd C s.env x)) := by rw [← hpu]; simp [keyOf]
          simp only [foot, ho, hd, Option.toList, List.mem_append, List.mem_singleton]
          simp only [mput, emp, single] at h1
          by_cases e1 : k1 = d ∧ g1 = s.gen
          · exact .inl e1.1
          · by_cases e2 : k1 = mk ∧ g1 = g'
            · exact .inr (by rw [e2.1]; exact hm)
            · simp [e1, e2] at h1
      · exact h.elim
    · exact h.elim
  · exact h.elim

def opEntry (C : Ctx) (c : Bool) (s : St) (x : Operand) (k : PV → List En → Prop) : Prop :=
  strip c (opd C s.env x) fun p => match p with
  | .bx ki gi 0 => match find s.sto ki with
    | some (gi', .iter mk mg _ stepped (j :: _)) => match find s.sto mk with
      | some (mg', .map es) => match es[j]? with
        | some (y, q) => vc c (gi' = gi) ∧ vc c (mg' = mg) ∧ vc c (stepped = es.length) ∧ k (.tu [.d (.v y), q]) s.sto
        | none => False
      | _ => False
    | _ => False
  | _ => False

/-- two entries that are read -/
theorem opR_read2 {C : Ctx} {o : Oper} {s : St} {v : PV} {k1 g1 k2 g2 : Nat} {c1 c2 : Cell} (hf1 : find s.sto k1 = some (g1, c1)) (hf2 : find s.sto k2 = some (g2, c2)) (hft1 : k1 ∈ (foot C s.env s.sto o).1) (hft2 : k2 ∈ (foot C s.env s.sto o).1)
    (h : ∀ (μ : Nmap) (w : World) (Z : Nat → Nat → Prop) (ρ : Operand → Value), GI C μ w Z → (∀ x ∈ o.op.operands, RP μ w Z (ρ x) (opd C s.env x)) → EntOK μ w Z k1 g1 c1 → EntOK μ w Z k2 g2 c2 → ∃ val, (execOp ρ o).run C.P w = .ok (.value val) w ∧ RP μ w Z val v) : OpR C o s v s.sto := by
  let fp : Mem := fun k g => if k = k1 ∧ g = g1 then some c1 else single k2 g2 c2 k g
  have hden : ∀ k g c, fp k g = some c → den s.sto k g = some c := by
    intro k g c hh
    simp only [fp] at hh
    split at hh
    · rename_i e; obtain ⟨rfl, rfl⟩ := e; cases hh; exact den_find hf1
    · exact single_den hf2 k g c hh
  refine ⟨fp, fp, trip_quiet fun μ w Z ρ hg hx hw => h μ w Z ρ hg hx (hw.ent _ _ _ (by simp [fp])) ?_, hden, ?_, fun k g hh => ?_, fun _ => rfl⟩
  · by_cases e : k2 = k1 ∧ g2 = g1
    · obtain ⟨rfl, rfl⟩ := e
      rw [hf1] at hf2; cases hf2
      exact hw.ent _ _ _ (by simp [fp])
    · exact hw.ent _ _ _ (by simp [fp, e, single])
  · funext k g
    simp only [mput]
    cases hq : fp k g with
    | none => simp
    | some c => exact hden k g c hq
  · simp only [or_self] at hh
    simp only [fp, single] at hh
    split at hh
    · rename_i e; rw [e.1]; exact hft1
    · split at hh
      · rename_i e; rw [e.1]; exact hft2
      · exact absurd rfl hh

theorem opEntry_ok {C : Ctx} (hC : C.OK) {o : Oper} {ow c : Bool} {s : St} {x : Operand} (ho : o.op = .entry x) : Snd C o ow c s (opEntry C c s x) := by
  intro k h
  obtain ⟨p, hpu, h, hp⟩ := strip_ok' h
  split at h
  · rename_i ki gi
    split at h
    · rename_i gi' mk mg since stepped j seen hf1
      split at h
      · rename_i mg' es hf2
        split at h
        · rename_i y q hj
          obtain ⟨hg1, hg2, hst, hk⟩ := h
          have hfoot : (foot C s.env s.sto o).1 = [ki, mk] := by simp [foot, ho, ← hpu, keyOf, hf1]
          refine ⟨_, _, hk, fun hc => opR_read2 hf1 hf2 (by simp [hfoot]) (by simp [hfoot]) fun μ w Z ρ _ hx he1 he2 => ?_, fun _ => rfl⟩
          obtain rfl := vc_elim hg1 hc
          obtain rfl := vc_elim hg2 hc
          obtain rfl := vc_elim hst hc
          have h1 := hp μ w Z _ hc (hx x (by simp [ho, Op.operands]))
          obtain ⟨b, bm, a1, ⟨a2, a3⟩, _⟩ := he1
          obtain ⟨bm', ms, b1, b2, ⟨b3, b4⟩, _⟩ := he2
          rw [a2] at b1; obtain rfl := Option.some.inj (Option.some.inj b1)
          generalize hxe : ρ x = z at h1
          cases h1 with
          | bx _ _ _ b' hb =>
            rw [a1] at hb; obtain rfl := Option.some.inj (Option.some.inj hb)
            have hlt : j < ms.size := by
              rw [b3]
              rcases Nat.lt_or_ge j es.length with h | h
              · exact h
              · rw [List.getElem?_eq_none h] at hj; cases hj
            have hms : ms[j]? = some ms[j] := Array.getElem?_eq_getElem hlt
            obtain ⟨c1, c2, c3⟩ := b4 j ms[j] y q hms hj
            have hnd : (ms.toList.map (·.born)).Nodup := by
              have : ms.toList.map (·.born) = List.range ms.size := by
                apply List.ext_getElem?
                intro i
                rw [List.getElem?_map]
                rcases Nat.lt_or_ge i ms.size with hi | hi
                · have hi' : i < es.length := by omega
                  obtain ⟨_, d2, _⟩ := b4 i ms[i] es[i].1 es[i].2 (Array.getElem?_eq_getElem hi) (by rw [List.getElem?_eq_getElem hi'])
                  rw [Array.getElem?_toList, Array.getElem?_eq_getElem hi]
                  simp [d2, hi]
                · rw [Array.getElem?_toList, Array.getElem?_eq_none hi, List.getElem?_eq_none (by simpa using hi)]; rfl
              rw [this]; exact List.nodup_range
            have e3 : (j :: seen).reverse.toArray = (seen.reverse.toArray).push ms[j].born := by simp [c2]
            rw [e3, ← b3] at a3
            have hrun := run_entry_at (P := C.P) w b bm since seen.reverse.toArray ms ms.size ms[j] a3 b2 (by simp) hnd
            refine ⟨.tuple #[ms[j].key, ms[j].val], ?_, ?_⟩
            · simp only [execOp, ho, hxe, Sem.run_bind, hrun]; rfl
            · refine .tu _ [ms[j].key, ms[j].val] rfl fun i v p hv hp => ?_
              match i, hv, hp with
              | 0, hv, hp => cases hv; cases hp; rw [c1]; exact RP.ofVal ..
              | 1, hv, hp => cases hv; cases hp; exact c3
              | i + 2, hv, hp => simp at hv
        · exact h.elim
      · exact h.elim
    · exact h.elim
  · exact h.elim
end Go.PL
/-! Contracts, calls, regions in the text's order. -/
namespace Go.PL
set_option linter.unusedSimpArgs false
set_option linter.unusedVariables false
set_option linter.unusedSectionVars false
open Tys (Ty U)
open Enc (sz enc dflt tb ofB toB)
open Dec (dec dok)
variable [Tys] [Enc] [Dec]

def noNames : Nmap := fun _ _ => none

/-- does a value mention no name? -/
def bare : PV → Bool
  | .d _ | .ip _ | .any => true
  | .fn _ l m => bares l && bares m
  | .ag l | .tu l => bares l
  | .cond _ p => bare p
  | _ => false
 where bares : List PV → Bool
  | [] => true
  | p :: r => bare p && bares r

theorem bares_mem : ∀ {l : List PV}, bare.bares l = true → ∀ (i : Nat) (p : PV), l[i]? = some p → bare p = true
  | [], _, i, p, h => by simp at h
  | q :: r, hb, i, p, h => by
    simp only [bare.bares, Bool.and_eq_true] at hb
    cases i with
    | zero => simp at h; subst h; exact hb.1
    | succ i => exact bares_mem hb.2 i p (by simpa using h)

theorem RP.bare {μ μ' : Nmap} {w : World} {Z : Nat → Nat → Prop} {x : Value} {p : PV} (h : RP μ w Z x p) (hb : bare p = true) : RP μ' w Z x p := by
  induction h with
  | d x d h => exact .d x d h
  | bx => simp [Go.PL.bare] at hb
  | ip ds b off vs h => exact .ip ds b off vs h
  | osN => simp [Go.PL.bare] at hb
  | os => simp [Go.PL.bare] at hb
  | fn f first cap vs us hl hm h h' ih ih' =>
    simp only [Go.PL.bare, Bool.and_eq_true] at hb
    exact .fn f first cap vs us hl hm (fun i x p hx hp => ih i x p hx hp (bares_mem hb.1 i p hp)) (fun i x p hx hp => ih' i x p hx hp (bares_mem hb.2 i p hp))
  | ag ps vs hl h ih => exact .ag ps vs hl fun i x p hx hp => ih i x p hx hp (bares_mem hb i p hp)
  | tu ps vs hl h ih => exact .tu ps vs hl fun i x p hx hp => ih i x p hx hp (bares_mem hb i p hp)
  | mp => simp [Go.PL.bare] at hb
  | cond c x p h h' ih => exact .cond c x p (fun hc => ih hc hb) h'
  | any x => exact .any x

theorem GIat.bare {μ μ' : Nmap} {w : World} {Z : Nat → Nat → Prop} {g : Nat} {ds : List D} (h : GIat μ w Z g ds) (_ : true = true) : GIat μ' w Z g ds := ⟨h.rp.bare rfl, h.shp⟩

theorem RPs.bare {μ μ' : Nmap} {w : World} {Z : Nat → Nat → Prop} {xs : List Value} {ps : List PV} (h : RPs μ w Z xs ps) (hb : bare.bares ps = true) : RPs μ' w Z xs ps :=
  ⟨h.1, fun i x p hx hp => (h.2 i x p hx hp).bare (bares_mem hb i p hp)⟩

def ZLt (Z : Nat → Nat → Prop) (w : World) : Prop := ∀ b o, Z b o → b < w.heap.size

/-- A call of a function: by its own code, or at once. -/
def CallsF (P : Program) (f : Nat) (vals : Array Value) (w : World) (R : Ending → World → Prop) : Prop :=
  ((callFunc f vals).run P w = .ok (.enter f vals) w ∧ Calls P f vals w R) ∨ ∃ v w', (callFunc f vals).run P w = .ok (.value v) w' ∧ R (.returned v) w'

/-- A function of data: what it answers. Nothing that was there changes. -/
structure PFun (C : Ctx) (f : Nat) (args : List PV) (r : PV) : Prop where
  run : ∀ (w : World) (Z : Nat → Nat → Prop) (vals : List Value), RPs noNames w Z vals args → GI C noNames w Z → ZLt Z w →
    CallsF C.P f vals.toArray w fun e w' => ∃ v Z', e = .returned v ∧ RP noNames w' Z' v r ∧ ZLt Z' w' ∧ Adv noNames emp Z w noNames emp Z' w'

/-- a weaker datum -/
def LeD (x y : D) : Prop := match x, y with
  | .v (.int k n), .v (.int k' n') => k = k' ∧ n = n'
  | .v (.bool a), .v (.bool b) => a = b
  | .v (.string a), .v (.string b) => a = b
  | .v (.slice none 0 0), .sl t ys => ys = []
  | .sl t xs, .sl t' ys => (⟨t, xs⟩ : (t : Ty) × List (U t)) = ⟨t', ys⟩
  | x, y => x = y

theorem LeD.rd {x y : D} (h : LeD x y) {w : World} {Z : Nat → Nat → Prop} {v : Value} (hv : RD w Z v x) : RD w Z v y := by
  unfold LeD at h
  split at h
  · obtain ⟨rfl, rfl⟩ := h; exact hv
  · subst h; exact hv
  · subst h; exact hv
  · subst h; cases hv; exact .nil _ _ _
  · rename_i t xs t' ys
    have e : D.sl t xs = D.sl t' ys := by
      have h2 : (fun p : (t : Ty) × List (U t) => D.sl p.1 p.2) ⟨t, xs⟩ = (fun p : (t : Ty) × List (U t) => D.sl p.1 p.2) ⟨t', ys⟩ := by rw [h]
      exact h2
    rw [← e]; exact hv
  · subst h; exact hv

def LeP : PV → PV → Prop
  | _, .any => True
  | .d x, .d y => LeD x y
  | .os _ _ t xs, .d y => LeD (.sl t xs) y
  | .ag l, .ag m => LePs l m
  | .tu l, .tu m => LePs l m
  | p, q => p = q
 where LePs : List PV → List PV → Prop
  | [], [] => True
  | p :: l, q :: m => LeP p q ∧ LePs l m
  | _, _ => False

mutual
theorem LeP.rp {μ : Nmap} {w : World} {Z : Nat → Nat → Prop} : ∀ (p q : PV), LeP p q → ∀ v, RP μ w Z v p → RP μ w Z v q
  | p, .any, _, v, _ => .any v
  | .d x, .d y, h, v, hv => by
    simp only [LeP] at h
    cases hv with
    | d _ _ hd => exact .d _ _ (LeD.rd h hd)
  | .os k g t xs, .d y, h, v, hv => by
    simp only [LeP] at h
    exact .d _ _ (LeD.rd h hv.os_sl)
  | .ag l, .ag m, h, v, hv => by
    simp only [LeP] at h
    cases hv with
    | ag _ vs hl hh => exact .ag _ _ (by rw [hl]; exact LePs.len l m h) fun i x q hx hq => LePs.rp l m h vs hl hh i x q hx hq
  | .tu l, .tu m, h, v, hv => by
    simp only [LeP] at h
    cases hv with
    | tu _ vs hl hh => exact .tu _ _ (by rw [hl]; exact LePs.len l m h) fun i x q hx hq => LePs.rp l m h vs hl hh i x q hx hq
  | .d x, .bx .., h, v, hv | .d x, .ip .., h, v, hv | .d x, .os .., h, v, hv | .d x, .fn .., h, v, hv | .d x, .ag .., h, v, hv | .d x, .tu .., h, v, hv | .d x, .mp .., h, v, hv | .d x, .cond .., h, v, hv => by simp [LeP] at h
  | .os k g t xs, .bx .., h, v, hv | .os k g t xs, .ip .., h, v, hv | .os k g t xs, .fn .., h, v, hv | .os k g t xs, .ag .., h, v, hv | .os k g t xs, .tu .., h, v, hv | .os k g t xs, .mp .., h, v, hv | .os k g t xs, .cond .., h, v, hv => by simp [LeP] at h
  | .os k g t xs, .os .., h, v, hv => by rw [← (show _ = _ from h)]; exact hv
  | .ag l, .d _, h, v, hv | .ag l, .bx .., h, v, hv | .ag l, .ip .., h, v, hv | .ag l, .os .., h, v, hv | .ag l, .fn .., h, v, hv | .ag l, .tu .., h, v, hv | .ag l, .mp .., h, v, hv | .ag l, .cond .., h, v, hv => by simp [LeP] at h
  | .tu l, .d _, h, v, hv | .tu l, .bx .., h, v, hv | .tu l, .ip .., h, v, hv | .tu l, .os .., h, v, hv | .tu l, .fn .., h, v, hv | .tu l, .ag .., h, v, hv | .tu l, .mp .., h, v, hv | .tu l, .cond .., h, v, hv => by simp [LeP] at h
  | .bx .., .d _, h, v, hv | .bx .., .bx .., h, v, hv | .bx .., .ip .., h, v, hv | .bx .., .os .., h, v, hv | .bx .., .fn .., h, v, hv | .bx .., .ag .., h, v, hv | .bx .., .tu .., h, v, hv | .bx .., .mp .., h, v, hv | .bx .., .cond .., h, v, hv => by rw [← (show _ = _ from h)]; exact hv
  | .ip .., .d _, h, v, hv | .ip .., .bx .., h, v, hv | .ip .., .ip .., h, v, hv | .ip .., .os .., h, v, hv | .ip .., .fn .., h, v, hv | .ip .., .ag .., h, v, hv | .ip .., .tu .., h, v, hv | .ip .., .mp .., h, v, hv | .ip .., .cond .., h, v, hv => by rw [← (show _ = _ from h)]; exact hv
  | .fn .., .d _, h, v, hv | .fn .., .bx .., h, v, hv | .fn .., .ip .., h, v, hv | .fn .., .os .., h, v, hv | .fn .., .fn .., h, v, hv | .fn .., .ag .., h, v, hv | .fn .., .tu .., h, v, hv | .fn .., .mp .., h, v, hv | .fn .., .cond .., h, v, hv => by rw [← (show _ = _ from h)]; exact hv
  | .mp .., .d _, h, v, hv | .mp .., .bx .., h, v, hv | .mp .., .ip .., h, v, hv | .mp .., .os .., h, v, hv | .mp .., .fn .., h, v, hv | .mp .., .ag .., h, v, hv | .mp .., .tu .., h, v, hv | .mp .., .mp .., h, v, hv | .mp .., .cond .., h, v, hv => by rw [← (show _ = _ from h)]; exact hv
  | .cond .., .d _, h, v, hv | .cond .., .bx .., h, v, hv | .cond .., .ip .., h, v, hv | .cond .., .os .., h, v, hv | .cond .., .fn .., h, v, hv | .cond .., .ag .., h, v, hv | .cond .., .tu .., h, v, hv | .cond .., .mp .., h, v, hv | .cond .., .cond .., h, v, hv => by rw [← (show _ = _ from h)]; exact hv
  | .any, .d _, h, v, hv | .any, .bx .., h, v, hv | .any, .ip .., h, v, hv | .any, .os .., h, v, hv | .any, .fn .., h, v, hv | .any, .ag .., h, v, hv | .any, .tu .., h, v, hv | .any, .mp .., h, v, hv | .any, .cond .., h, v, hv => by rw [← (show _ = _ from h)]; exact hv
theorem LePs.len : ∀ (l m : List PV), LeP.LePs l m → l.length = m.length
  | [], [], _ => rfl
  | p :: l, q :: m, h => by simp only [LeP.LePs] at h; simp [LePs.len l m h.2]
  | [], q :: m, h => by simp [LeP.LePs] at h
  | p :: l, [], h => by simp [LeP.LePs] at h
theorem LePs.rp {μ : Nmap} {w : World} {Z : Nat → Nat → Prop} : ∀ (l m : List PV), LeP.LePs l m → ∀ (vs : List Value), vs.length = l.length → (∀ (i : Nat) (x : Value) (p : PV), vs[i]? = some x → l[i]? = some p → RP μ w Z x p) →
    ∀ (i : Nat) (x : Value) (q : PV), vs[i]? = some x → m[i]? = some q → RP μ w Z x q
  | [], [], _, vs, hl, hh, i, x, q, hx, hq => by simp at hq
  | p :: l, q' :: m, h, v :: vs, hl, hh, i, x, q, hx, hq => by
    simp only [LeP.LePs] at h
    cases i with
    | zero => simp at hx hq; subst hx; subst hq; exact LeP.rp p q' h.1 v (hh 0 v p rfl rfl)
    | succ i => exact LePs.rp l m h.2 vs (by simpa using hl) (fun i x p hx hp => hh (i + 1) x p (by simpa using hx) (by simpa using hp)) i x q (by simpa using hx) (by simpa using hq)
  | p :: l, q' :: m, h, [], hl, hh, i, x, q, hx, hq => by simp at hl
  | [], q' :: m, h, vs, hl, hh, i, x, q, hx, hq => by simp [LeP.LePs] at h
  | p :: l, [], h, vs, hl, hh, i, x, q, hx, hq => by simp [LeP.LePs] at h
end

/-- a value that is called -/
inductive PFunV (C : Ctx) : PV → List PV → PV → Prop where
  | fn (f : Nat) (first cap args : List PV) (r : PV) (h : PFun C f (first ++ args ++ cap) r) : PFunV C (.fn (.func f) first cap) args r
  | val (f : Nat) (args : List PV) (r : PV) (h : PFun C f args r) : PFunV C (.d (.v (.func (.func f) #[] #[]))) args r

/-! ### contracts with memory: names put for names -/

def ren (f : Nat → Nat → Option (Nat × Nat)) : PV → PV
  | .bx k g o => match f k g with
    | some (k', g') => .bx k' g' o
    | none => .any
  | .os k g t xs => match f k g with
    | some (k', g') => .os k' g' t xs
    | none => .d (.sl t xs)
  | .mp k g => match f k g with
    | some (k', g') => .mp k' g'
    | none => .any
  | .fn h l m => .fn h (rens l) (rens m)
  | .ag l => .ag (rens l)
  | .tu l => .tu (rens l)
  | .cond c p => .cond c (ren f p)
  | .d d => .d d
  | .ip ds => .ip ds
  | .any => .any
 where rens : List PV → List PV
  | [] => []
  | p :: r => ren f p :: rens r

def rok (f : Nat → Nat → Option (Nat × Nat)) : PV → Bool
  | .bx k g _ | .os k g _ _ | .mp k g => (f k g).isSome
  | .fn _ l m => roks l && roks m
  | .ag l | .tu l => roks l
  | .cond _ p => rok f p
  | _ => true
 where roks : List PV → Bool
  | [] => true
  | p :: r => rok f p && roks r

theorem rens_eq (f : Nat → Nat → Option (Nat × Nat)) : ∀ l, ren.rens f l = l.map (ren f)
  | [] => rfl
  | p :: r => by simp [ren.rens, rens_eq f r]

theorem roks_mem {f : Nat → Nat → Option (Nat × Nat)} : ∀ {l : List PV}, rok.roks f l = true → ∀ (i : Nat) (p : PV), l[i]? = some p → rok f p = true
  | [], _, i, p, h => by simp at h
  | q :: r, hb, i, p, h => by
    simp only [rok.roks, Bool.and_eq_true] at hb
    cases i with
    | zero => simp at h; subst h; exact hb.1
    | succ i => exact roks_mem hb.2 i p (by simpa using h)

theorem RP.ren {f : Nat → Nat → Option (Nat × Nat)} {μ μ' : Nmap} {w : World} {Z : Nat → Nat → Prop} {x : Value} {p : PV} (hf : ∀ k g k' g' y, f k g = some (k', g') → μ k g = some y → μ' k' g' = some y) (h : RP μ w Z x p) :
    RP μ' w Z x (Go.PL.ren f p) := by
  induction h with
  | d x d h => exact .d x d h
  | bx k g off b h =>
    simp only [Go.PL.ren]
    cases hn : f k g with
    | none => exact .any _
    | some n => exact .bx _ _ off b (hf _ _ _ _ _ hn h)
  | ip ds b off vs h => exact .ip ds b off vs h
  | osN k g t h =>
    simp only [Go.PL.ren]
    cases hn : f k g with
    | none => exact .d _ _ (.nil _ _ _)
    | some n => exact .osN _ _ t (hf _ _ _ _ _ hn h)
  | os k g t xs b n cap m T h hr hn hc hs hm =>
    simp only [Go.PL.ren]
    cases hn' : f k g with
    | none => exact .d _ _ hr
    | some n' => exact .os _ _ t xs b n cap m T (hf _ _ _ _ _ hn' h) hr hn hc hs hm
  | fn g first cap vs us hl hm h h' ih ih' =>
    simp only [Go.PL.ren, rens_eq]
    refine .fn g _ _ vs us (by simpa using hl) (by simpa using hm) (fun i x p hx hp => ?_) (fun i x p hx hp => ?_)
    · rw [List.getElem?_map] at hp
      cases hq : first[i]? with
      | none => rw [hq] at hp; cases hp
      | some q => rw [hq] at hp; cases hp; exact ih i x q hx hq
    · rw [List.getElem?_map] at hp
      cases hq : cap[i]? with
      | none => rw [hq] at hp; cases hp
      | some q => rw [hq] at hp; cases hp; exact ih' i x q hx hq
  | ag ps vs hl h ih =>
    simp only [Go.PL.ren, rens_eq]
    refine .ag _ vs (by simpa using hl) fun i x p hx hp => ?_
    rw [List.getElem?_map] at hp
    cases hq : ps[i]? with
    | none => rw [hq] at hp; cases hp
    | some q => rw [hq] at hp; cases hp; exact ih i x q hx hq
  | tu ps vs hl h ih =>
    simp only [Go.PL.ren, rens_eq]
    refine .tu _ vs (by simpa using hl) fun i x p hx hp => ?_
    rw [List.getElem?_map] at hp
    cases hq : ps[i]? with
    | none => rw [hq] at hp; cases hp
    | some q => rw [hq] at hp; cases hp; exact ih i x q hx hq
  | mp k g b h =>
    simp only [Go.PL.ren]
    cases hn : f k g with
    | none => exact .any _
    | some n => exact .mp _ _ b (hf _ _ _ _ _ hn h)
  | cond c x p h h' ih => exact .cond c x _ ih h'
  | any x => exact .any x

theorem RP.unren {f : Nat → Nat → Option (Nat × Nat)} {μ μ' : Nmap} {w : World} {Z : Nat → Nat → Prop} (hf : ∀ k g k' g' y, f k g = some (k', g') → μ' k' g' = some y → μ k g = some y) {x : Value} {q : PV} (h : RP μ' w Z x q) :
    ∀ p, rok f p = true → Go.PL.ren f p = q → RP μ w Z x p := by
  have some_of : ∀ {k g}, (f k g).isSome = true → ∃ n, f k g = some n := fun h => Option.isSome_iff_exists.1 h
  induction h with
  | d x d h =>
    intro p hk hq
    cases p <;> simp only [Go.PL.ren, rok] at hk hq <;> try cases hq
    · exact .d _ _ h
    · obtain ⟨n, hn⟩ := some_of hk; rw [hn] at hq; cases hq
    · obtain ⟨n, hn⟩ := some_of hk; rw [hn] at hq; cases hq
    · obtain ⟨n, hn⟩ := some_of hk; rw [hn] at hq; cases hq
  | bx k g off b h =>
    intro p hk hq
    cases p <;> simp only [Go.PL.ren, rok] at hk hq <;> try cases hq
    · obtain ⟨n, hn⟩ := some_of hk; rw [hn] at hq; cases hq; exact .bx _ _ _ _ (hf _ _ _ _ _ hn h)
    · obtain ⟨n, hn⟩ := some_of hk; rw [hn] at hq; cases hq
    · obtain ⟨n, hn⟩ := some_of hk; rw [hn] at hq; cases hq
  | ip ds b off vs h =>
    intro p hk hq
    cases p <;> simp only [Go.PL.ren, rok] at hk hq <;> try cases hq
    · obtain ⟨n, hn⟩ := some_of hk; rw [hn] at hq; cases hq
    · exact .ip _ _ _ _ h
    · obtain ⟨n, hn⟩ := some_of hk; rw [hn] at hq; cases hq
    · obtain ⟨n, hn⟩ := some_of hk; rw [hn] at hq; cases hq
  | osN k g t h =>
    intro p hk hq
    cases p <;> simp only [Go.PL.ren, rok] at hk hq <;> try cases hq
    · obtain ⟨n, hn⟩ := some_of hk; rw [hn] at hq; cases hq
    · obtain ⟨n, hn⟩ := some_of hk; rw [hn] at hq; cases hq; exact .osN _ _ _ (hf _ _ _ _ _ hn h)
    · obtain ⟨n, hn⟩ := some_of hk; rw [hn] at hq; cases hq
  | os k g t xs b n cap m T h hr hn hc hs hm =>
    intro p hk hq
    cases p <;> simp only [Go.PL.ren, rok] at hk hq <;> try cases hq
    · obtain ⟨n, hn⟩ := some_of hk; rw [hn] at hq; cases hq
    · obtain ⟨n', hn'⟩ := some_of hk; rw [hn'] at hq; cases hq; exact .os _ _ _ _ b n cap m T (hf _ _ _ _ _ hn' h) hr hn hc hs hm
    · obtain ⟨n, hn⟩ := some_of hk; rw [hn] at hq; cases hq
  | fn g first cap vs us hl hm h h' ih ih' =>
    intro p hk hq
    cases p <;> simp only [Go.PL.ren, rok] at hk hq <;> try cases hq
    · obtain ⟨n, hn⟩ := some_of hk; rw [hn] at hq; cases hq
    · obtain ⟨n, hn⟩ := some_of hk; rw [hn] at hq; cases hq
    · rename_i l m
      simp only [Bool.and_eq_true] at hk
      simp only [rens_eq] at *
      refine .fn _ _ _ vs us (by simpa using hl) (by simpa using hm) (fun i x p hx hp => ih i x (Go.PL.ren f p) hx (by rw [List.getElem?_map, hp]; rfl) p (roks_mem hk.1 i p hp) rfl) (fun i x p hx hp => ih' i x (Go.PL.ren f p) hx (by rw [List.getElem?_map, hp]; rfl) p (roks_mem hk.2 i p hp) rfl)
    · obtain ⟨n, hn⟩ := some_of hk; rw [hn] at hq; cases hq
  | ag ps vs hl h ih =>
    intro p hk hq
    cases p <;> simp only [Go.PL.ren, rok] at hk hq <;> try cases hq
    · obtain ⟨n, hn⟩ := some_of hk; rw [hn] at hq; cases hq
    · obtain ⟨n, hn⟩ := some_of hk; rw [hn] at hq; cases hq
    · simp only [rens_eq] at *
      exact .ag _ vs (by simpa using hl) fun i x p hx hp => ih i x (Go.PL.ren f p) hx (by rw [List.getElem?_map, hp]; rfl) p (roks_mem hk i p hp) rfl
    · obtain ⟨n, hn⟩ := some_of hk; rw [hn] at hq; cases hq
  | tu ps vs hl h ih =>
    intro p hk hq
    cases p <;> simp only [Go.PL.ren, rok] at hk hq <;> try cases hq
    · obtain ⟨n, hn⟩ := some_of hk; rw [hn] at hq; cases hq
    · obtain ⟨n, hn⟩ := some_of hk; rw [hn] at hq; cases hq
    · simp only [rens_eq] at *
      exact .tu _ vs (by simpa using hl) fun i x p hx hp => ih i x (Go.PL.ren f p) hx (by rw [List.getElem?_map, hp]; rfl) p (roks_mem hk i p hp) rfl
    · obtain ⟨n, hn⟩ := some_of hk; rw [hn] at hq; cases hq
  | mp k g b h =>
    intro p hk hq
    cases p <;> simp only [Go.PL.ren, rok] at hk hq <;> try cases hq
    · obtain ⟨n, hn⟩ := some_of hk; rw [hn] at hq; cases hq
    · obtain ⟨n, hn⟩ := some_of hk; rw [hn] at hq; cases hq
    · obtain ⟨n, hn⟩ := some_of hk; rw [hn] at hq; cases hq; exact .mp _ _ _ (hf _ _ _ _ _ hn h)
  | cond c x p h h' ih =>
    intro p hk hq
    cases p <;> simp only [Go.PL.ren, rok] at hk hq <;> try cases hq
    · obtain ⟨n, hn⟩ := some_of hk; rw [hn] at hq; cases hq
    · obtain ⟨n, hn⟩ := some_of hk; rw [hn] at hq; cases hq
    · obtain ⟨n, hn⟩ := some_of hk; rw [hn] at hq; cases hq
    · exact .cond _ _ _ (fun hc => ih hc _ hk rfl) h'
  | any x =>
    intro p hk hq
    cases p <;> simp only [Go.PL.ren, rok] at hk hq <;> try cases hq
    · obtain ⟨n, hn⟩ := some_of hk; rw [hn] at hq; cases hq
    · obtain ⟨n, hn⟩ := some_of hk; rw [hn] at hq; cases hq
    · obtain ⟨n, hn⟩ := some_of hk; rw [hn] at hq; cases hq
    · exact .any _

def renC (f : Nat → Nat → Option (Nat × Nat)) : Cell → Cell
  | .box T vs => .box T (ren.rens f vs)
  | .map es => .map (renM es)
  | c => c
 where renM : List (Value × PV) → List (Value × PV)
  | [] => []
  | (x, p) :: r => (x, ren f p) :: renM r
def rokC (f : Nat → Nat → Option (Nat × Nat)) : Cell → Bool
  | .box _ vs => rok.roks f vs
  | .map es => rokM es
  | .tok _ _ _ => true
  | .iter _ _ _ _ _ => false
 where rokM : List (Value × PV) → Bool
  | [] => true
  | (_, p) :: r => rok f p && rokM r

theorem renM_eq (f : Nat → Nat → Option (Nat × Nat)) : ∀ l, renC.renM f l = l.map fun a => (a.1, ren f a.2)
  | [] => rfl
  | (x, p) :: r => by simp [renC.renM, renM_eq f r]

theorem rokM_mem {f : Nat → Nat → Option (Nat × Nat)} : ∀ {l : List (Value × PV)}, rokC.rokM f l = true → ∀ (i : Nat) (x : Value) (p : PV), l[i]? = some (x, p) → rok f p = true
  | [], _, i, x, p, h => by simp at h
  | (y, q) :: r, hb, i, x, p, h => by
    simp only [rokC.rokM, Bool.and_eq_true] at hb
    cases i with
    | zero => simp at h; obtain ⟨rfl, rfl⟩ := h; exact hb.1
    | succ i => exact rokM_mem hb.2 i x p (by simpa using h)

/-- A function that works on memory. The names that it is handed are (1000 + i, 0), i = 0, 1, ..; those that it makes, and that last, (2000 + j, 1), j < 4. -/
structure PFunM (C : Ctx) (f : Nat) (args : List PV) (sto : List En) (r : PV) (sto' : List En) : Prop where
  run : ∀ (μ : Nmap) (w : World) (Z : Nat → Nat → Prop) (vals : List Value), RPs μ w Z vals args → WR μ (den sto) Z w → GI C μ w Z → (∀ k g, 1 ≤ g → μ k g = none) →
    CallsF C.P f vals.toArray w fun e w' => ∃ v μ' Z', e = .returned v ∧ RP μ' w' Z' v r ∧ WR μ' (den sto') Z' w' ∧ Adv μ (den sto) Z w μ' (den sto') Z' w'

/-- the place of a name in a row of names -/
def lk (l : List (Nat × Nat)) (i k : Nat) : Option (Nat × Nat) := match l with
  | [] => none
  | x :: r => if i = k then some x else lk r (i + 1) k

theorem lk_some : ∀ {l : List (Nat × Nat)} {i k : Nat} {n : Nat × Nat}, lk l i k = some n → ∃ j, l[j]? = some n ∧ k = i + j
  | [], i, k, n, h => by simp [lk] at h
  | x :: r, i, k, n, h => by
    simp only [lk] at h
    split at h
    · rename_i e; cases h; exact ⟨0, rfl, by omega⟩
    · obtain ⟨j, h1, h2⟩ := lk_some h
      exact ⟨j + 1, by simpa using h1, by omega⟩

theorem lk_of : ∀ {l : List (Nat × Nat)} {i j : Nat} {n : Nat × Nat}, l[j]? = some n → lk l i (i + j) = some n
  | [], i, j, n, h => by simp at h
  | x :: r, i, j, n, h => by
    simp only [lk]
    cases j with
    | zero => simp at h; simp [h]
    | succ j =>
      have : ¬ i = i + (j + 1) := by omega
      rw [if_neg this]
      have e : i + (j + 1) = i + 1 + j := by omega
      rw [e]; exact lk_of (by simpa using h)

/-- where the names that are handed on lie, at the caller's -/
def cin (l : List (Nat × Nat)) (k g : Nat) : Option (Nat × Nat) := match g with
  | 0 => lk l 1000 k
  | _ => none
/-- the names that a call makes -/
def nn (d k : Nat) : Option Nat := if k = 2000 then some d else if k = 2001 then some (d + 65536) else if k = 2002 then some (d + 131072) else if k = 2003 then some (d + 196608) else none
/-- where all the call's names lie behind it -/
def cout (l : List (Nat × Nat)) (d gen : Nat) (k g : Nat) : Option (Nat × Nat) := match g with
  | 0 => lk l 1000 k
  | 1 => match nn d k with
    | some n => some (n, gen)
    | none => none
  | _ => none

def LeC : Cell → Cell → Prop
  | .box T vs, .box T' us => (T = T') ∧ LeP.LePs vs us
  | .tok T t n, .tok T' t' n' => (T = T') ∧ (sz t = sz t') ∧ n = n'
  | .map es, .map es' => LeMs es es'
  | .iter a b c d e, .iter a' b' c' d' e' => (a = a') ∧ (b = b') ∧ (c = c') ∧ (d = d') ∧ e = e'
  | _, _ => False
 where LeMs : List (Value × PV) → List (Value × PV) → Prop
  | [], [] => True
  | (x, p) :: l, (y, q) :: m => (x = y) ∧ LeP p q ∧ LeMs l m
  | _, _ => False

/-- the call's memory, as the caller has it -/
def InOK (sto0 : List En) (f : Nat → Nat → Option (Nat × Nat)) : List (Nat × Nat) → List En → Nat → Prop
  | [], [], _ => True
  | (k, g) :: l, e :: sto, i => (e.k = 1000 + i) ∧ (e.g = 0) ∧ (rokC f e.c = true) ∧ (match find sto0 k with
    | some (g', c') => (g' = g) ∧ LeC c' (renC f e.c)
    | none => False) ∧ InOK sto0 f l sto (i + 1)
  | _, _, _ => False

/-- the call's memory behind it -/
def outOK (f : Nat → Nat → Option (Nat × Nat)) (n : Nat) : List En → Bool
  | [] => true
  | e :: r => rokC f e.c && (f e.k e.g).isSome && !((r.map (·.k)).contains e.k) && outOK f n r

def outE (f : Nat → Nat → Option (Nat × Nat)) : List En → List En
  | [] => []
  | e :: r => match f e.k e.g with
    | some (k, g) => ⟨k, g, renC f e.c⟩ :: outE f r
    | none => outE f r

def dels (ks : List Nat) : List En → List En
  | [] => []
  | e :: r => match ks.contains e.k with
    | true => dels ks r
    | false => e :: dels ks r

theorem find_den {l : List En} {k g : Nat} {c : Cell} (h : find l k = some (g, c)) : den l k g = some c := den_find h

theorem LeMs.at : ∀ {es fs : List (Value × PV)}, LeC.LeMs es fs → es.length = fs.length ∧ ∀ (i : Nat) (x : Value) (q : PV), fs[i]? = some (x, q) → ∃ p, es[i]? = some (x, p) ∧ LeP p q
  | [], [], _ => ⟨rfl, fun i x q h => by simp at h⟩
  | (x, p) :: l, (y, q) :: m, h => by
    obtain ⟨rfl, h2, h3⟩ := h
    obtain ⟨h4, h5⟩ := LeMs.at h3
    refine ⟨by simp [h4], fun i z r hr => ?_⟩
    cases i with
    | zero => simp at hr; obtain ⟨rfl, rfl⟩ := hr; exact ⟨p, rfl, h2⟩
    | succ i => simpa using h5 i z r (by simpa using hr)
  | [], _ :: _, h => h.elim
  | _ :: _, [], h => h.elim

theorem LeC.ent {μ : Nmap} {w : World} {Z : Nat → Nat → Prop} {k g : Nat} {c c' : Cell} (h : LeC c c') (he : EntOK μ w Z k g c) : EntOK μ w Z k g c' := by
  cases c <;> cases c' <;> simp only [LeC] at h
  · obtain ⟨rfl, h⟩ := h
    obtain ⟨b, cs, h1, h2, h3, h4⟩ := he
    exact ⟨b, cs, h1, h2, ⟨by rw [h3.1]; exact LePs.len _ _ h, fun i x p hx hp => LePs.rp _ _ h _ h3.1 h3.2 i x p hx hp⟩, h4⟩
  · obtain ⟨rfl, h1, rfl⟩ := h
    simp only [EntOK] at he ⊢
    rw [← h1]; exact he
  · obtain ⟨b, ms, h1, h2, ⟨h3, h4⟩, h5⟩ := he
    obtain ⟨h6, h7⟩ := LeMs.at h
    refine ⟨b, ms, h1, h2, ⟨by rw [h3, h6], fun i e x q hx hq => ?_⟩, h5⟩
    obtain ⟨p, hp, hle⟩ := h7 i x q hq
    obtain ⟨a1, a2, a3⟩ := h4 i e x p hx hp
    exact ⟨a1, a2, LeP.rp _ _ hle _ a3⟩
  · obtain ⟨rfl, rfl, rfl, rfl, rfl⟩ := h
    exact he

theorem EntOK.ren {f : Nat → Nat → Option (Nat × Nat)} {μ μ' : Nmap} {w : World} {Z : Nat → Nat → Prop} {k g k' g' : Nat} {c : Cell} (hf : ∀ k g k' g' y, f k g = some (k', g') → μ k g = some y → μ' k' g' = some y) (hn : f k g = some (k', g'))
    (hok : rokC f c = true) (h : EntOK μ w Z k g c) : EntOK μ' w Z k' g' (renC f c) := by
  cases c with
  | box T vs =>
    obtain ⟨b, cs, h1, h2, h3, h4⟩ := h
    refine ⟨b, cs, hf _ _ _ _ _ hn h1, h2, ⟨by simp [rens_eq]; simpa using h3.1, fun i x p hx hp => ?_⟩, h4⟩
    rw [rens_eq, List.getElem?_map] at hp
    cases hq : vs[i]? with
    | none => rw [hq] at hp; cases hp
    | some q => rw [hq] at hp; cases hp; exact (h3.2 i x q hx hq).ren hf
  | tok T t n =>
    rcases h with ⟨h1, h2⟩ | ⟨b, cs, h1, h2⟩
    · exact .inl ⟨hf _ _ _ _ _ hn h1, h2⟩
    · exact .inr ⟨b, cs, hf _ _ _ _ _ hn h1, h2⟩
  | map es =>
    obtain ⟨b, ms, h1, h2, ⟨h3, h4⟩, h5⟩ := h
    refine ⟨b, ms, hf _ _ _ _ _ hn h1, h2, ⟨by rw [renM_eq]; simpa using h3, fun i e x p he hp => ?_⟩, h5⟩
    rw [renM_eq, List.getElem?_map] at hp
    cases hq : es[i]? with
    | none => rw [hq] at hp; cases hp
    | some q =>
      rw [hq] at hp; cases hp
      obtain ⟨a1, a2, a3⟩ := h4 i e q.1 q.2 he hq
      exact ⟨a1, a2, a3.ren hf⟩
  | iter => simp [rokC] at hok

theorem EntOK.unren {f : Nat → Nat → Option (Nat × Nat)} {μ μ' : Nmap} {w : World} {Z : Nat → Nat → Prop} {k g k' g' : Nat} {c : Cell} (hf : ∀ k g k' g' y, f k g = some (k', g') → μ' k' g' = some y → μ k g = some y) (hn : f k g = some (k', g'))
    (hok : rokC f c = true) (h : EntOK μ' w Z k' g' (renC f c)) : EntOK μ w Z k g c := by
  cases c with
  | box T vs =>
    obtain ⟨b, cs, h1, h2, h3, h4⟩ := h
    refine ⟨b, cs, hf _ _ _ _ _ hn h1, h2, ⟨by have := h3.1; simpa [rens_eq] using this, fun i x p hx hp => ?_⟩, h4⟩
    exact (h3.2 i x (Go.PL.ren f p) hx (by rw [rens_eq, List.getElem?_map, hp]; rfl)).unren hf p (roks_mem hok i p hp) rfl
  | tok T t n =>
    rcases h with ⟨h1, h2⟩ | ⟨b, cs, h1, h2⟩
    · exact .inl ⟨hf _ _ _ _ _ hn h1, h2⟩
    · exact .inr ⟨b, cs, hf _ _ _ _ _ hn h1, h2⟩
  | map es =>
    obtain ⟨b, ms, h1, h2, ⟨h3, h4⟩, h5⟩ := h
    refine ⟨b, ms, hf _ _ _ _ _ hn h1, h2, ⟨by rw [renM_eq] at h3; simpa using h3, fun i e x p he hp => ?_⟩, h5⟩
    obtain ⟨a1, a2, a3⟩ := h4 i e x (Go.PL.ren f p) he (by rw [renM_eq, List.getElem?_map, hp]; rfl)
    exact ⟨a1, a2, a3.unren hf p (rokM_mem hok i x p hp) rfl⟩
  | iter => simp [rokC] at hok

theorem InOK.at {sto0 : List En} {f : Nat → Nat → Option (Nat × Nat)} : ∀ {l : List (Nat × Nat)} {sto : List En} {i : Nat}, InOK sto0 f l sto i → ∀ k g c, den sto k g = some c →
    g = 0 ∧ rokC f c = true ∧ ∃ j k' g' c', k = 1000 + (i + j) ∧ l[j]? = some (k', g') ∧ find sto0 k' = some (g', c') ∧ LeC c' (renC f c)
  | [], [], i, _, k, g, c, hc => by simp [den] at hc
  | (k1, g1) :: l, e :: sto, i, h, k, g, c, hc => by
    obtain ⟨h1, h2, h3, h4, h5⟩ := h
    simp only [den] at hc
    split at hc
    · rename_i he
      cases hc
      split at h4
      · rename_i g' c' hfi
        obtain ⟨rfl, h4⟩ := h4
        exact ⟨by omega, h3, 0, k1, g', c', by omega, rfl, hfi, h4⟩
      · exact h4.elim
    · obtain ⟨h7, h8, j, k', g', c', h6, h9, h10⟩ := InOK.at h5 k g c hc
      exact ⟨h7, h8, j + 1, k', g', c', by omega, by simpa using h9, h10⟩
  | [], _ :: _, _, h, _, _, _, _ => h.elim
  | _ :: _, [], _, h, _, _, _, _ => h.elim

theorem outE_den {f : Nat → Nat → Option (Nat × Nat)} : ∀ {l : List En} {k' g' : Nat} {c' : Cell}, den (outE f l) k' g' = some c' → ∃ k g c, (∃ e ∈ l, e.k = k ∧ e.g = g ∧ e.c = c) ∧ f k g = some (k', g') ∧ c' = renC f c
  | [], k', g', c', h => by simp [outE, den] at h
  | e :: r, k', g', c', h => by
    simp only [outE] at h
    split at h
    · rename_i k1 g1 hf
      simp only [den] at h
      split at h
      · rename_i he
        obtain ⟨rfl, rfl⟩ := he
        cases h
        exact ⟨e.k, e.g, e.c, ⟨e, by simp, rfl, rfl, rfl⟩, hf, rfl⟩
      · obtain ⟨k, g, c, ⟨e', h1, h2⟩, h3⟩ := outE_den h
        exact ⟨k, g, c, ⟨e', by simp [h1], h2⟩, h3⟩
    · obtain ⟨k, g, c, ⟨e', h1, h2⟩, h3⟩ := outE_den h
      exact ⟨k, g, c, ⟨e', by simp [h1], h2⟩, h3⟩

theorem outOK.mem {f : Nat → Nat → Option (Nat × Nat)} {n : Nat} : ∀ {l : List En}, outOK f n l = true → ∀ e ∈ l, rokC f e.c = true ∧ den l e.k e.g = some e.c
  | [], _, e, he => by cases he
  | x :: r, h, e, he => by
    simp only [outOK, Bool.and_eq_true, Bool.not_eq_true'] at h
    obtain ⟨⟨⟨h0, h1⟩, h3⟩, h4⟩ := h
    rcases List.mem_cons.1 he with rfl | he
    · exact ⟨h0, by simp [den]⟩
    · obtain ⟨h00, h7⟩ := outOK.mem h4 e he
      refine ⟨h00, ?_⟩
      simp only [den]
      have : ¬ (x.k = e.k ∧ x.g = e.g) := by
        rintro ⟨h8, _⟩
        have : (r.map (·.k)).contains x.k = true := by
          simp only [List.contains_iff_mem, List.mem_map]
          exact ⟨e, he, h8.symm⟩
        rw [this] at h3; cases h3
      rw [if_neg this]; exact h7

theorem den_dels (ks : List Nat) : ∀ (l : List En) (k g : Nat), den (dels ks l) k g = if ks.contains k then none else den l k g
  | [], k, g => by simp [dels, den]
  | e :: r, k, g => by
    simp only [dels]
    split
    · rename_i h
      rw [den_dels ks r k g]
      simp only [den]
      by_cases he : e.k = k ∧ e.g = g
      · obtain ⟨rfl, rfl⟩ := he
        have h' : e.k ∈ ks := by simpa using h
        simp [h']
      · rw [if_neg he]
    · rename_i h
      simp only [den]
      rw [den_dels ks r k g]
      by_cases he : e.k = k ∧ e.g = g
      · obtain ⟨rfl, rfl⟩ := he
        rw [if_pos ⟨rfl, rfl⟩, if_neg (by simpa using h), if_pos ⟨rfl, rfl⟩]
      · rw [if_neg he, if_neg he]

theorem den_app (l m : List En) (k g : Nat) : den (l ++ m) k g = match den l k g with | some c => some c | none => den m k g := by
  induction l with
  | nil => rfl
  | cons e r ih =>
    simp only [List.cons_append, den]
    split
    · rfl
    · exact ih

/-- exact: a value without memory -/
def exact : PV → Bool
  | .d (.v _) => true
  | .ag l | .tu l => exacts l
  | _ => false
 where exacts : List PV → Bool
  | [] => true
  | p :: r => exact p && exacts r


def nodupB : List Nat → Bool
  | [] => true
  | x :: l => !l.contains x && nodupB l
theorem nodupB_ok : ∀ {l : List Nat}, nodupB l = true → l.Nodup
  | [], _ => List.nodup_nil
  | x :: l, h => by
    simp only [nodupB, Bool.and_eq_true] at h
    exact List.nodup_cons.2 ⟨by simpa using h.1, nodupB_ok h.2⟩

/-- what a call wants: the function's contract; c: under what -/
inductive CallK (C : Ctx) (c ow : Bool) (s : St) (dst : Option Nat) (fl : List Nat × Bool) (f : Nat) (args : List PV) (k : PV → List En → Prop) : Prop where
  | mk (r : PV) (hb : bare.bares args = true) (h : c = true → PFun C f args r) (hk : k r s.sto)
  | le (args' : List PV) (r : PV) (hb : bare.bares args' = true) (hle : c = true → LeP.LePs args args') (h : c = true → PFun C f args' r) (hk : k r s.sto)
  | mem (d : Nat) (hd : dst = some d) (how : ow = true) (l : List (Nat × Nat)) (pa : List PV) (sto : List En) (r : PV) (sto' : List En) (h : c = true → PFunM C f pa sto r sto') (ha : rok.roks (cin l) pa = true)
      (hle : c = true → LeP.LePs args (ren.rens (cin l) pa)) (hi : InOK s.sto (cin l) l sto 0) (ho : outOK (cout l d s.gen) l.length sto' = true) (hnd : (nodupB (l.map (·.1)) && Nat.ble l.length 64 && !fl.2 && (subs d ++ l.map (·.1)).all (fl.1.contains ·)) = true)
      (hk : k (ren (cout l d s.gen) r) (outE (cout l d s.gen) sto' ++ dels (l.map (·.1)) s.sto))

inductive CallV (C : Ctx) (c : Bool) (fv : PV) (args : List PV) (k : PV → Prop) : Prop where
  | mk (r : PV) (hb : bare.bares args = true) (h : c = true → PFunV C fv args r) (hk : k r)
  | le (args' : List PV) (r : PV) (hb : bare.bares args' = true) (hle : c = true → LeP.LePs args args') (h : c = true → PFunV C fv args' r) (hk : k r)

/-- an argument as it is handed on -/
def wk : PV → PV
  | .os _ _ t xs => .d (.sl t xs)
  | p => p

/-- operands, stripped -/
def args (C : Ctx) (c : Bool) (s : St) : List Operand → (List PV → Prop) → Prop
  | [], k => k []
  | x :: r, k => strip c (opd C s.env x) fun p => args C c s r fun l => k (wk p :: l)

theorem args_ok {C : Ctx} {c : Bool} {s : St} : ∀ (l : List Operand) (k : List PV → Prop), args C c s l k →
    ∃ ps, k ps ∧ ∀ μ w Z (ρ : Operand → Value), c = true → (∀ x ∈ l, RP μ w Z (ρ x) (opd C s.env x)) → RPs μ w Z (l.map ρ) ps
  | [], k, h => ⟨[], h, fun μ w Z ρ _ _ => ⟨rfl, fun i x p hx => by simp at hx⟩⟩
  | x :: r, k, h0 => by
    obtain ⟨p, h, hp⟩ := strip_ok (μ := fun _ _ => none) (w := default) (Z := fun _ _ => False) h0
    clear h0
    obtain ⟨ps, h1, h2⟩ := args_ok r _ h
    refine ⟨_, h1, fun μ w Z ρ hc hx => ?_⟩
    obtain ⟨h3, h4⟩ := h2 μ w Z ρ hc (fun y hy => hx y (by simp [hy]))
    refine ⟨by simpa using h3, fun i y q hy hq => ?_⟩
    cases i with
    | zero =>
      simp at hy hq; subst hy; subst hq
      have h5 := hp μ w Z _ hc (hx x (by simp))
      cases p <;> simp only [wk] <;> first | exact h5 | exact .d _ _ h5.os_sl
    | succ i => exact h4 i y q (by simpa using hy) (by simpa using hq)
end Go.PL
