/- Texts of this claim: plain laws of what the program's functions compute. No condition of their own. -/
import Derived.Test.YtnkaolleaebhnaaGreatDoorDlWb
import Derived.Test.YtnkaolleaebhnaaGreatDoorRows
import Derived.ChangeSame
import Derived.ChangeVars
import Derived.JoinedOf
import Derived.RowKit
import Derived.RowKitTokens
import Derived.LaidLaws
import Derived.Stop.Joined
import Derived.Lay
import Derived.LaidOnce
import Derived.Carry
import Derived.Handed
import Derived.ProofKit
import Derived.PinnedBridge
import Derived.HandedShaped
import Derived.Shelf.Vars
import Derived.OpenShut
import Derived.Lib.LaidU8
import Derived.Test.YtnkaolleaebhnaaGreatDoorCards
import Derived.Test.YtnkaolleaebhnaaGreatDoorTie
namespace Go.PL
set_option linter.unusedSimpArgs false
set_option linter.unusedVariables false
set_option linter.unusedSectionVars false
open Tys (Ty U)
open Enc (sz enc dflt tb ofB toB)
open Dec (dec dok)
set_option maxRecDepth 100000
open Go.Proofs
section
variable {H : Type} {enc0 : TypeId × Value → H}
def ZW (W : World) : Nat → Nat → Prop := fun b _ => b < W.heap.size
theorem cell_lt {W : World} {a : Addr} {v : Value} (h : W.cell? a = some v) : a.block < W.heap.size := by
  rcases Nat.lt_or_ge a.block W.heap.size with h1 | h1
  · exact h1
  · simp [World.cell?, Array.getElem?_eq_none h1] at h
theorem cell_spot {W : World} {a : Addr} {v : Value} (h : W.cell? a = some v) : a.spot = none := by
  unfold World.cell? at h
  split at h
  · split at h
    · cases h
    · rename_i hs; simpa using hs
  · cases h
def Rd (W : World) (t : TyS) (cs : List Value) (x : US t) : Prop := cs.length = szS t ∧ ∀ (k : Nat) (v : Value) (d : D), cs[k]? = some v → (encS t x)[k]? = some d → RD W (ZW W) v d
theorem cells_at {W : World} {a : Addr} {n : Nat} {cs : List Value} (h : W.cells? 0 a n = some cs) : cs.length = n ∧ ∀ i, i < n → W.cell? (a.add i) = cs[i]? := by
  unfold World.cells? at h
  rw [if_pos (Nat.zero_le _)] at h
  have hl := Lib.mapM_length h
  simp only [List.length_range] at hl
  refine ⟨hl, fun i hi => ?_⟩
  obtain ⟨b, h1, h2⟩ := Lib.mapM_at h i i (by simp [hi])
  rw [h2, h1]
theorem Ahz {P : Program} {W : World} {T e : TypeId} {te : TyS} {Q : US te → Prop} {spare : Nat → Bool} {held : Bool} {fuel : Nat} {cs : List Value} {x : DataW H × List MemPlace} (ht : P.underlying T = some (.slice e)) (hce : P.cellsOf e = szS te)
    (elem : ∀ m, m < fuel → ∀ cs x, DataW.trod enc0 P W 0 spare held m e cs = some x → ∃ u : US te, Rd W te cs u ∧ Q u) (h : DataW.trod enc0 P W 0 spare held fuel T cs = some x) : ∃ v xs, cs = [v] ∧ RD W (ZW W) v (.sl te xs) ∧ fitL Q xs := by
  rcases DataW.trod_slice ht h with ⟨rfl, _⟩ | ⟨a, len, cap, elems, rest, n, hfu, rfl, -, -, hlc, hcap, hlen, hel, -, -⟩
  · exact ⟨_, [], rfl, .nil _ _ _, Aft⟩
  · rw [hce] at hel
    -- each element
    have each : ∀ i, i < len → ∃ (u : US te) (c : List Value), W.cells? 0 (a.add (i * szS te)) (szS te) = some c ∧ Rd W te c u ∧ Q u := by
      intro i hi
      have h1 := hel i hi
      have h2 : ∃ y, elems[i]? = some y := ⟨elems[i], List.getElem?_eq_getElem (by omega)⟩
      obtain ⟨y, hy⟩ := h2
      rw [hy] at h1
      obtain ⟨c, hc, hx⟩ := Option.bind_eq_some_iff.1 h1
      obtain ⟨u, hu, hq⟩ := elem n (by omega) c y hx
      exact ⟨u, c, hc, hu, hq⟩
    have hall : ∃ xs : List (US te), xs.length = len ∧ ∀ i, i < len → ∃ (u : US te) (c : List Value), xs[i]? = some u ∧ W.cells? 0 (a.add (i * szS te)) (szS te) = some c ∧ Rd W te c u ∧ Q u := by
      clear h hel hlen hlc hcap
      induction len with
      | zero => exact ⟨[], rfl, fun i hi => absurd hi (Nat.not_lt_zero _)⟩
      | succ m ih =>
        obtain ⟨xs, h1, h2⟩ := ih fun i hi => each i (by omega)
        obtain ⟨u, c, h3, h4, hq⟩ := each m (by omega)
        refine ⟨xs ++ [u], by simp [h1], fun i hi => ?_⟩
        by_cases hm : i < m
        · obtain ⟨u', c', h5, h6⟩ := h2 i hm
          exact ⟨u', c', by rw [List.getElem?_append_left (by omega)]; exact h5, h6⟩
        · obtain rfl : i = m := by omega
          exact ⟨u, c, by rw [List.getElem?_append_right (by omega)]; simp [h1], h3, h4, hq⟩
    obtain ⟨xs, h1, h2'⟩ := hall
    have h2 : ∀ i, i < len → ∃ (u : US te) (c : List Value), xs[i]? = some u ∧ W.cells? 0 (a.add (i * szS te)) (szS te) = some c ∧ Rd W te c u := fun i hi => by
      obtain ⟨u, c, h3, h4, h5, _⟩ := h2' i hi
      exact ⟨u, c, h3, h4, h5⟩
    have hfit : fitL Q xs := ⟨by rw [h1]; exact Nat.le_trans hlc (Nat.le_trans hcap (by decide)), fun x hx => by
      obtain ⟨i, hi, rfl⟩ := List.getElem_of_mem hx
      obtain ⟨u, c, h3, _, _, h6⟩ := h2' i (by omega)
      rw [List.getElem?_eq_getElem hi] at h3
      cases h3; exact h6⟩
    have hp : 0 < szS te := by cases te <;> decide
    refine ⟨_, xs, rfl, ?_, hfit⟩
    rw [← h1]
    cases xs with
    | nil => exact .nil _ _ _
    | cons x0 xs =>
      have hspot : a.spot = none := by
        obtain ⟨u, c, _, h4, h5⟩ := h2 0 (by rw [← h1]; simp)
        obtain ⟨h6, h7⟩ := cells_at h4
        have h8 := h7 0 hp
        have : ∃ v, c[0]? = some v := ⟨c[0], List.getElem?_eq_getElem (by omega)⟩
        obtain ⟨v, hv⟩ := this
        rw [hv] at h8
        simp only [Nat.zero_mul, Addr.add, if_true] at h8
        exact cell_spot h8
      obtain ⟨b, off, sp⟩ := a
      simp only at hspot
      subst hspot
      let vs : Nat → Nat → Value := fun j i => (W.cell? ⟨b, off + (j * szS te + i), none⟩).getD undef
      have at' : ∀ j i, j < len → i < szS te → ∃ (u : US te) (c : List Value) (v : Value), (x0 :: xs)[j]? = some u ∧ c[i]? = some v ∧ W.cell? ⟨b, off + (j * szS te + i), none⟩ = some v ∧ Rd W te c u := by
        intro j i hj hi
        obtain ⟨u, c, h3, h4, h5⟩ := h2 j hj
        obtain ⟨h6, h7⟩ := cells_at h4
        have h8 := h7 i hi
        have : ∃ v, c[i]? = some v := ⟨c[i], List.getElem?_eq_getElem (by omega)⟩
        obtain ⟨v, hv⟩ := this
        rw [hv, addr_add, addr_add, Nat.add_assoc] at h8
        exact ⟨u, c, v, h3, hv, h8, h5⟩
      refine RD.sl te (x0 :: xs) b off cap vs (by rw [h1]; exact hlc) (fun j i hj hi => ?_) fun j i x d hx hd => ?_
      · obtain ⟨u, c, v, _, _, h5, _⟩ := at' j i (by rw [← h1]; exact hj) hi
        exact ⟨by have e : vs j i = v := by show (W.cell? _).getD undef = v; rw [h5]; rfl
                  rw [e]; exact h5, cell_lt h5⟩
      · have hj : j < len := by
          rw [← h1]
          rcases Nat.lt_or_ge j (x0 :: xs).length with h | h
          · exact h
          · rw [List.getElem?_eq_none h] at hx; cases hx
        have hi : i < szS te := by
          rcases Nat.lt_or_ge i (szS te) with h | h
          · exact h
          · rw [List.getElem?_eq_none (by rw [Enc.len]; exact h)] at hd; cases hd
        obtain ⟨u, c, v, h3, h4, h5, h6⟩ := at' j i hj hi
        have : u = x := Option.some.inj (h3.symm.trans hx)
        subst this
        show RD W _ ((W.cell? _).getD undef) d
        rw [h5]
        exact h6.2 i v d h4 hd
theorem Abb {P : Program} {W : World} {spare : Nat → Bool} {held : Bool} {n : Nat} {cs : List Value} {fs : Array Field} {xs : List (DataW H × List MemPlace)} (hl : xs.length = fs.size)
    (hf : ∀ (i : Nat) (f : Field), fs[i]? = some f → DataW.trod enc0 P W 0 spare held n f.type ((cs.drop f.offset).take (P.cellsOf f.type)) = xs[i]?) {i : Nat} {f : Field} (h : fs[i]? = some f) :
    ∃ x, DataW.trod enc0 P W 0 spare held n f.type ((cs.drop f.offset).take (P.cellsOf f.type)) = some x := by
  have hi : i < fs.size := by
    rcases Nat.lt_or_ge i fs.size with h1 | h1
    · exact h1
    · rw [Array.getElem?_eq_none h1] at h; cases h
  rw [hf i f h]
  exact ⟨xs[i], List.getElem?_eq_getElem (by omega)⟩
theorem A3w {P : Program} {W : World} {T : TypeId} {spare : Nat → Bool} {held : Bool} {n : Nat} {cs : List Value} {x : DataW H × List MemPlace} (ht : P.underlying T = some .string) (h : DataW.trod enc0 P W 0 spare held n T cs = some x) : ∃ u : US .str, Rd W .str cs u ∧ fitS u := by
  obtain ⟨m, rfl, _, hs⟩ := DataW.trod_string ht h
  refine ⟨m, ⟨rfl, fun k v d hv hd => ?_⟩, Nat.le_trans hs (by decide)⟩
  match k, hv, hd with
  | 0, hv, hd => cases hv; cases hd; exact .v _
  | k + 1, hv, hd => simp at hv
variable {W : World} {spare : Nat → Bool} {held : Bool}
theorem co3 : Tryz.prog.cellsOf 3 = 1 := by kernel_rfl
theorem co9 : Tryz.prog.cellsOf 9 = 1 := by kernel_rfl
theorem co4 : Tryz.prog.cellsOf 4 = 1 := by kernel_rfl
theorem co24 : Tryz.prog.cellsOf 24 = 1 := by kernel_rfl
theorem Amb {n : Nat} {cs : List Value} {x : DataW H × List MemPlace} (h : DataW.trod enc0 Tryz.prog W 0 spare held n 24 cs = some x) : ∃ v xs, cs = [v] ∧ RD W (ZW W) v (.sl TyS.str xs) ∧ fitL fitS xs :=
  Ahz (te := .str) Tryz.underlying24 co9 (fun m _ cs x h => A3w Tryz.underlying9 h) h
theorem co144 : Tryz.prog.cellsOf 144 = 2 := by kernel_rfl
theorem A0i {n : Nat} {cs : List Value} {x : DataW H × List MemPlace} (h : DataW.trod enc0 Tryz.prog W 0 spare held n 144 cs = some x) : ∃ u : US .label, Rd W .label cs u ∧ Ap6 u := by
  obtain ⟨xs, n', hn, _, hl, hxs, hf⟩ := DataW.trod_struct Tryz.underlying144 h
  rw [co144] at hl
  match cs, hl with
  | [a0, a1], _ =>
    obtain ⟨x0, h0⟩ := Abb hxs hf (i := 0) rfl
    replace h0 : DataW.trod enc0 Tryz.prog W 0 spare held n' 9 (([a0, a1].drop 0).take (Tryz.prog.cellsOf 9)) = some x0 := h0
    rw [co9] at h0
    obtain ⟨k0, e0, _, f0⟩ := DataW.trod_string Tryz.underlying9 h0
    obtain ⟨x1, h1⟩ := Abb hxs hf (i := 1) rfl
    replace h1 : DataW.trod enc0 Tryz.prog W 0 spare held n' 9 (([a0, a1].drop 1).take (Tryz.prog.cellsOf 9)) = some x1 := h1
    rw [co9] at h1
    obtain ⟨k1, e1, _, f1⟩ := DataW.trod_string Tryz.underlying9 h1
    cases e0; cases e1
    refine ⟨⟨k0, k1⟩, ⟨rfl, fun i v d hv hd => ?_⟩, ⟨Nat.le_trans f0 (by decide), Nat.le_trans f1 (by decide)⟩⟩
    match i, hv, hd with
    | 0, hv, hd => cases hv; cases hd; exact .v _
    | 1, hv, hd => cases hv; cases hd; exact .v _
    | i + 2, hv, hd => simp at hv
theorem co97 : Tryz.prog.cellsOf 97 = 3 := by kernel_rfl
theorem Avp {n : Nat} {cs : List Value} {x : DataW H × List MemPlace} (h : DataW.trod enc0 Tryz.prog W 0 spare held n 97 cs = some x) : ∃ u : US .matcher, Rd W .matcher cs u ∧ Aew u := by
  obtain ⟨xs, n', hn, _, hl, hxs, hf⟩ := DataW.trod_struct Tryz.underlying97 h
  rw [co97] at hl
  match cs, hl with
  | [a0, a1, a2], _ =>
    obtain ⟨x0, h0⟩ := Abb hxs hf (i := 0) rfl
    replace h0 : DataW.trod enc0 Tryz.prog W 0 spare held n' 9 (([a0, a1, a2].drop 0).take (Tryz.prog.cellsOf 9)) = some x0 := h0
    rw [co9] at h0
    obtain ⟨k0, e0, _, f0⟩ := DataW.trod_string Tryz.underlying9 h0
    obtain ⟨x1, h1⟩ := Abb hxs hf (i := 1) rfl
    replace h1 : DataW.trod enc0 Tryz.prog W 0 spare held n' 3 (([a0, a1, a2].drop 1).take (Tryz.prog.cellsOf 3)) = some x1 := h1
    rw [co3] at h1
    obtain ⟨k1, e1, _⟩ := DataW.trod_int Tryz.underlying3 h1
    obtain ⟨x2, h2⟩ := Abb hxs hf (i := 2) rfl
    replace h2 : DataW.trod enc0 Tryz.prog W 0 spare held n' 24 (([a0, a1, a2].drop 2).take (Tryz.prog.cellsOf 24)) = some x2 := h2
    rw [co24] at h2
    obtain ⟨v2, l2, e2, r2, f2⟩ := Amb h2
    cases e0; cases e1; cases e2
    refine ⟨⟨k0, k1, l2⟩, ⟨rfl, fun i v d hv hd => ?_⟩, ⟨Nat.le_trans f0 (by decide), f2⟩⟩
    match i, hv, hd with
    | 0, hv, hd => cases hv; cases hd; exact .v _
    | 1, hv, hd => cases hv; cases hd; exact .v _
    | 2, hv, hd => cases hv; cases hd; exact r2
    | i + 3, hv, hd => simp at hv
theorem co65 : Tryz.prog.cellsOf 65 = 4 := by kernel_rfl
theorem A0j {n : Nat} {cs : List Value} {x : DataW H × List MemPlace} (h : DataW.trod enc0 Tryz.prog W 0 spare held n 65 cs = some x) : ∃ u : US .hours, Rd W .hours cs u ∧ Auh u := by
  obtain ⟨xs, n', hn, _, hl, hxs, hf⟩ := DataW.trod_struct Tryz.underlying65 h
  rw [co65] at hl
  match cs, hl with
  | [a0, a1, a2, a3], _ =>
    obtain ⟨x0, h0⟩ := Abb hxs hf (i := 0) rfl
    replace h0 : DataW.trod enc0 Tryz.prog W 0 spare held n' 9 (([a0, a1, a2, a3].drop 0).take (Tryz.prog.cellsOf 9)) = some x0 := h0
    rw [co9] at h0
    obtain ⟨k0, e0, _, f0⟩ := DataW.trod_string Tryz.underlying9 h0
    obtain ⟨x1, h1⟩ := Abb hxs hf (i := 1) rfl
    replace h1 : DataW.trod enc0 Tryz.prog W 0 spare held n' 3 (([a0, a1, a2, a3].drop 1).take (Tryz.prog.cellsOf 3)) = some x1 := h1
    rw [co3] at h1
    obtain ⟨k1, e1, _⟩ := DataW.trod_int Tryz.underlying3 h1
    obtain ⟨x2, h2⟩ := Abb hxs hf (i := 2) rfl
    replace h2 : DataW.trod enc0 Tryz.prog W 0 spare held n' 3 (([a0, a1, a2, a3].drop 2).take (Tryz.prog.cellsOf 3)) = some x2 := h2
    rw [co3] at h2
    obtain ⟨k2, e2, _⟩ := DataW.trod_int Tryz.underlying3 h2
    obtain ⟨x3, h3⟩ := Abb hxs hf (i := 3) rfl
    replace h3 : DataW.trod enc0 Tryz.prog W 0 spare held n' 3 (([a0, a1, a2, a3].drop 3).take (Tryz.prog.cellsOf 3)) = some x3 := h3
    rw [co3] at h3
    obtain ⟨k3, e3, _⟩ := DataW.trod_int Tryz.underlying3 h3
    cases e0; cases e1; cases e2; cases e3
    refine ⟨⟨k0, k1, k2, k3⟩, ⟨rfl, fun i v d hv hd => ?_⟩, Nat.le_trans f0 (by decide)⟩
    match i, hv, hd with
    | 0, hv, hd => cases hv; cases hd; exact .v _
    | 1, hv, hd => cases hv; cases hd; exact .v _
    | 2, hv, hd => cases hv; cases hd; exact .v _
    | 3, hv, hd => cases hv; cases hd; exact .v _
    | i + 4, hv, hd => simp at hv
theorem co36 : Tryz.prog.cellsOf 36 = 8 := by kernel_rfl
theorem co34 : Tryz.prog.cellsOf 34 = 1 := by kernel_rfl
theorem Axt {n : Nat} {cs : List Value} {x : DataW H × List MemPlace} (h : DataW.trod enc0 Tryz.prog W 0 spare held n 34 cs = some x) : ∃ v xs, cs = [v] ∧ RD W (ZW W) v (.sl TyS.label xs) ∧ fitL Ap6 xs :=
  Ahz (te := .label) Tryz.underlying34 co144 (fun m _ cs x h => A0i h) h
theorem A2b {n : Nat} {cs : List Value} {x : DataW H × List MemPlace} (h : DataW.trod enc0 Tryz.prog W 0 spare held n 36 cs = some x) : ∃ u : US .rule, Rd W .rule cs u ∧ Arh u := by
  obtain ⟨xs, n', hn, _, hl, hxs, hf⟩ := DataW.trod_struct Tryz.underlying36 h
  rw [co36] at hl
  match cs, hl with
  | [a0, a1, a2, a3, a4, a5, a6, a7], _ =>
    obtain ⟨x0, h0⟩ := Abb hxs hf (i := 0) rfl
    replace h0 : DataW.trod enc0 Tryz.prog W 0 spare held n' 9 (([a0, a1, a2, a3, a4, a5, a6, a7].drop 0).take (Tryz.prog.cellsOf 9)) = some x0 := h0
    rw [co9] at h0
    obtain ⟨k0, e0, _, f0⟩ := DataW.trod_string Tryz.underlying9 h0
    obtain ⟨x1, h1⟩ := Abb hxs hf (i := 1) rfl
    replace h1 : DataW.trod enc0 Tryz.prog W 0 spare held n' 9 (([a0, a1, a2, a3, a4, a5, a6, a7].drop 1).take (Tryz.prog.cellsOf 9)) = some x1 := h1
    rw [co9] at h1
    obtain ⟨k1, e1, _, f1⟩ := DataW.trod_string Tryz.underlying9 h1
    obtain ⟨x2, h2⟩ := Abb hxs hf (i := 2) rfl
    replace h2 : DataW.trod enc0 Tryz.prog W 0 spare held n' 3 (([a0, a1, a2, a3, a4, a5, a6, a7].drop 2).take (Tryz.prog.cellsOf 3)) = some x2 := h2
    rw [co3] at h2
    obtain ⟨k2, e2, _⟩ := DataW.trod_int Tryz.underlying3 h2
    obtain ⟨x3, h3⟩ := Abb hxs hf (i := 3) rfl
    replace h3 : DataW.trod enc0 Tryz.prog W 0 spare held n' 3 (([a0, a1, a2, a3, a4, a5, a6, a7].drop 3).take (Tryz.prog.cellsOf 3)) = some x3 := h3
    rw [co3] at h3
    obtain ⟨k3, e3, _⟩ := DataW.trod_int Tryz.underlying3 h3
    obtain ⟨x4, h4⟩ := Abb hxs hf (i := 4) rfl
    replace h4 : DataW.trod enc0 Tryz.prog W 0 spare held n' 3 (([a0, a1, a2, a3, a4, a5, a6, a7].drop 4).take (Tryz.prog.cellsOf 3)) = some x4 := h4
    rw [co3] at h4
    obtain ⟨k4, e4, _⟩ := DataW.trod_int Tryz.underlying3 h4
    obtain ⟨x5, h5⟩ := Abb hxs hf (i := 5) rfl
    replace h5 : DataW.trod enc0 Tryz.prog W 0 spare held n' 3 (([a0, a1, a2, a3, a4, a5, a6, a7].drop 5).take (Tryz.prog.cellsOf 3)) = some x5 := h5
    rw [co3] at h5
    obtain ⟨k5, e5, _⟩ := DataW.trod_int Tryz.underlying3 h5
    obtain ⟨x6, h6⟩ := Abb hxs hf (i := 6) rfl
    replace h6 : DataW.trod enc0 Tryz.prog W 0 spare held n' 3 (([a0, a1, a2, a3, a4, a5, a6, a7].drop 6).take (Tryz.prog.cellsOf 3)) = some x6 := h6
    rw [co3] at h6
    obtain ⟨k6, e6, _⟩ := DataW.trod_int Tryz.underlying3 h6
    obtain ⟨x7, h7⟩ := Abb hxs hf (i := 7) rfl
    replace h7 : DataW.trod enc0 Tryz.prog W 0 spare held n' 34 (([a0, a1, a2, a3, a4, a5, a6, a7].drop 7).take (Tryz.prog.cellsOf 34)) = some x7 := h7
    rw [co34] at h7
    obtain ⟨v7, l7, e7, r7, f7⟩ := Axt h7
    cases e0; cases e1; cases e2; cases e3; cases e4; cases e5; cases e6; cases e7
    refine ⟨⟨k0, k1, k2, k3, k4, k5, k6, l7⟩, ⟨rfl, fun i v d hv hd => ?_⟩, ⟨Nat.le_trans f0 (by decide), Nat.le_trans f1 (by decide), f7⟩⟩
    match i, hv, hd with
    | 0, hv, hd => cases hv; cases hd; exact .v _
    | 1, hv, hd => cases hv; cases hd; exact .v _
    | 2, hv, hd => cases hv; cases hd; exact .v _
    | 3, hv, hd => cases hv; cases hd; exact .v _
    | 4, hv, hd => cases hv; cases hd; exact .v _
    | 5, hv, hd => cases hv; cases hd; exact .v _
    | 6, hv, hd => cases hv; cases hd; exact .v _
    | 7, hv, hd => cases hv; cases hd; exact r7
    | i + 8, hv, hd => simp at hv
theorem co27 : Tryz.prog.cellsOf 27 = 9 := by kernel_rfl
theorem co23 : Tryz.prog.cellsOf 23 = 1 := by kernel_rfl
theorem Alg {n : Nat} {cs : List Value} {x : DataW H × List MemPlace} (h : DataW.trod enc0 Tryz.prog W 0 spare held n 23 cs = some x) : ∃ v xs, cs = [v] ∧ RD W (ZW W) v (.sl TyS.matcher xs) ∧ fitL Aew xs :=
  Ahz (te := .matcher) Tryz.underlying23 co97 (fun m _ cs x h => Avp h) h
theorem co25 : Tryz.prog.cellsOf 25 = 1 := by kernel_rfl
theorem Avq : ∀ (n : Nat) (cs : List Value) (x : DataW H × List MemPlace), DataW.trod enc0 Tryz.prog W 0 spare held n 27 cs = some x → ∃ u : US .route, Rd W .route cs u ∧ RouteFit u := by
  intro n
  induction n using Nat.strongRecOn with
  | _ n ih =>
  intro cs x h
  obtain ⟨xs, n', hn, _, hl, hxs, hf⟩ := DataW.trod_struct Tryz.underlying27 h
  rw [co27] at hl
  match cs, hl with
  | [a0, a1, a2, a3, a4, a5, a6, a7, a8], _ =>
    obtain ⟨x0, h0⟩ := Abb hxs hf (i := 0) rfl
    replace h0 : DataW.trod enc0 Tryz.prog W 0 spare held n' 9 (([a0, a1, a2, a3, a4, a5, a6, a7, a8].drop 0).take (Tryz.prog.cellsOf 9)) = some x0 := h0
    rw [co9] at h0
    obtain ⟨k0, e0, _, f0⟩ := DataW.trod_string Tryz.underlying9 h0
    obtain ⟨x1, h1⟩ := Abb hxs hf (i := 1) rfl
    replace h1 : DataW.trod enc0 Tryz.prog W 0 spare held n' 23 (([a0, a1, a2, a3, a4, a5, a6, a7, a8].drop 1).take (Tryz.prog.cellsOf 23)) = some x1 := h1
    rw [co23] at h1
    obtain ⟨v1, l1, e1, r1, f1⟩ := Alg h1
    obtain ⟨x2, h2⟩ := Abb hxs hf (i := 2) rfl
    replace h2 : DataW.trod enc0 Tryz.prog W 0 spare held n' 24 (([a0, a1, a2, a3, a4, a5, a6, a7, a8].drop 2).take (Tryz.prog.cellsOf 24)) = some x2 := h2
    rw [co24] at h2
    obtain ⟨v2, l2, e2, r2, f2⟩ := Amb h2
    obtain ⟨x3, h3⟩ := Abb hxs hf (i := 3) rfl
    replace h3 : DataW.trod enc0 Tryz.prog W 0 spare held n' 3 (([a0, a1, a2, a3, a4, a5, a6, a7, a8].drop 3).take (Tryz.prog.cellsOf 3)) = some x3 := h3
    rw [co3] at h3
    obtain ⟨k3, e3, _⟩ := DataW.trod_int Tryz.underlying3 h3
    obtain ⟨x4, h4⟩ := Abb hxs hf (i := 4) rfl
    replace h4 : DataW.trod enc0 Tryz.prog W 0 spare held n' 3 (([a0, a1, a2, a3, a4, a5, a6, a7, a8].drop 4).take (Tryz.prog.cellsOf 3)) = some x4 := h4
    rw [co3] at h4
    obtain ⟨k4, e4, _⟩ := DataW.trod_int Tryz.underlying3 h4
    obtain ⟨x5, h5⟩ := Abb hxs hf (i := 5) rfl
    replace h5 : DataW.trod enc0 Tryz.prog W 0 spare held n' 3 (([a0, a1, a2, a3, a4, a5, a6, a7, a8].drop 5).take (Tryz.prog.cellsOf 3)) = some x5 := h5
    rw [co3] at h5
    obtain ⟨k5, e5, _⟩ := DataW.trod_int Tryz.underlying3 h5
    obtain ⟨x6, h6⟩ := Abb hxs hf (i := 6) rfl
    replace h6 : DataW.trod enc0 Tryz.prog W 0 spare held n' 24 (([a0, a1, a2, a3, a4, a5, a6, a7, a8].drop 6).take (Tryz.prog.cellsOf 24)) = some x6 := h6
    rw [co24] at h6
    obtain ⟨v6, l6, e6, r6, f6⟩ := Amb h6
    obtain ⟨x7, h7⟩ := Abb hxs hf (i := 7) rfl
    replace h7 : DataW.trod enc0 Tryz.prog W 0 spare held n' 4 (([a0, a1, a2, a3, a4, a5, a6, a7, a8].drop 7).take (Tryz.prog.cellsOf 4)) = some x7 := h7
    rw [co4] at h7
    obtain ⟨k7, e7, _⟩ := DataW.trod_bool Tryz.underlying4 h7
    obtain ⟨x8, h8⟩ := Abb hxs hf (i := 8) rfl
    replace h8 : DataW.trod enc0 Tryz.prog W 0 spare held n' 25 (([a0, a1, a2, a3, a4, a5, a6, a7, a8].drop 8).take (Tryz.prog.cellsOf 25)) = some x8 := h8
    rw [co25] at h8
    obtain ⟨v8, l8, e8, r8, f8⟩ := Ahz (te := .route) (Q := RouteFit) Tryz.underlying25 co27 (fun m hm cs x h => ih m (by omega) cs x h) h8
    cases e0; cases e1; cases e2; cases e3; cases e4; cases e5; cases e6; cases e7; cases e8
    refine ⟨⟨k0, l1, l2, k3, k4, k5, l6, k7, l8⟩, ⟨rfl, fun i v d hv hd => ?_⟩, .mk _ (Nat.le_trans f0 (by decide)) f1 f2 f6 f8.1 f8.2⟩
    match i, hv, hd with
    | 0, hv, hd => cases hv; cases hd; exact .v _
    | 1, hv, hd => cases hv; cases hd; exact r1
    | 2, hv, hd => cases hv; cases hd; exact r2
    | 3, hv, hd => cases hv; cases hd; exact .v _
    | 4, hv, hd => cases hv; cases hd; exact .v _
    | 5, hv, hd => cases hv; cases hd; exact .v _
    | 6, hv, hd => cases hv; cases hd; exact r6
    | 7, hv, hd => cases hv; cases hd; exact .v _
    | 8, hv, hd => cases hv; cases hd; exact r8
    | i + 9, hv, hd => simp at hv
theorem A0k {n : Nat} {cs : List Value} {x : DataW H × List MemPlace} (h : DataW.trod enc0 Tryz.prog W 0 spare held n 27 cs = some x) : ∃ u : US .route, Rd W .route cs u ∧ RouteFit u := Avq n cs x h
theorem co61 : Tryz.prog.cellsOf 61 = 3 := by kernel_rfl
theorem Avr {n : Nat} {cs : List Value} {x : DataW H × List MemPlace} (h : DataW.trod enc0 Tryz.prog W 0 spare held n 61 cs = some x) : ∃ u : US .inhibit, Rd W .inhibit cs u ∧ Ah1 u := by
  obtain ⟨xs, n', hn, _, hl, hxs, hf⟩ := DataW.trod_struct Tryz.underlying61 h
  rw [co61] at hl
  match cs, hl with
  | [a0, a1, a2], _ =>
    obtain ⟨x0, h0⟩ := Abb hxs hf (i := 0) rfl
    replace h0 : DataW.trod enc0 Tryz.prog W 0 spare held n' 23 (([a0, a1, a2].drop 0).take (Tryz.prog.cellsOf 23)) = some x0 := h0
    rw [co23] at h0
    obtain ⟨v0, l0, e0, r0, f0⟩ := Alg h0
    obtain ⟨x1, h1⟩ := Abb hxs hf (i := 1) rfl
    replace h1 : DataW.trod enc0 Tryz.prog W 0 spare held n' 23 (([a0, a1, a2].drop 1).take (Tryz.prog.cellsOf 23)) = some x1 := h1
    rw [co23] at h1
    obtain ⟨v1, l1, e1, r1, f1⟩ := Alg h1
    obtain ⟨x2, h2⟩ := Abb hxs hf (i := 2) rfl
    replace h2 : DataW.trod enc0 Tryz.prog W 0 spare held n' 24 (([a0, a1, a2].drop 2).take (Tryz.prog.cellsOf 24)) = some x2 := h2
    rw [co24] at h2
    obtain ⟨v2, l2, e2, r2, f2⟩ := Amb h2
    cases e0; cases e1; cases e2
    refine ⟨⟨l0, l1, l2⟩, ⟨rfl, fun i v d hv hd => ?_⟩, ⟨f0, f1, f2⟩⟩
    match i, hv, hd with
    | 0, hv, hd => cases hv; cases hd; exact r0
    | 1, hv, hd => cases hv; cases hd; exact r1
    | 2, hv, hd => cases hv; cases hd; exact r2
    | i + 3, hv, hd => simp at hv
theorem co31 : Tryz.prog.cellsOf 31 = 13 := by kernel_rfl
theorem co22 : Tryz.prog.cellsOf 22 = 1 := by kernel_rfl
theorem A0l {n : Nat} {cs : List Value} {x : DataW H × List MemPlace} (h : DataW.trod enc0 Tryz.prog W 0 spare held n 22 cs = some x) : ∃ v xs, cs = [v] ∧ RD W (ZW W) v (.sl TyS.rule xs) ∧ fitL Arh xs :=
  Ahz (te := .rule) Tryz.underlying22 co36 (fun m _ cs x h => A2b h) h
theorem co28 : Tryz.prog.cellsOf 28 = 1 := by kernel_rfl
theorem At7 {n : Nat} {cs : List Value} {x : DataW H × List MemPlace} (h : DataW.trod enc0 Tryz.prog W 0 spare held n 28 cs = some x) : ∃ v xs, cs = [v] ∧ RD W (ZW W) v (.sl TyS.inhibit xs) ∧ fitL Ah1 xs :=
  Ahz (te := .inhibit) Tryz.underlying28 co61 (fun m _ cs x h => Avr h) h
theorem co29 : Tryz.prog.cellsOf 29 = 1 := by kernel_rfl
theorem Axu {n : Nat} {cs : List Value} {x : DataW H × List MemPlace} (h : DataW.trod enc0 Tryz.prog W 0 spare held n 29 cs = some x) : ∃ v xs, cs = [v] ∧ RD W (ZW W) v (.sl TyS.hours xs) ∧ fitL Auh xs :=
  Ahz (te := .hours) Tryz.underlying29 co65 (fun m _ cs x h => A0j h) h
theorem Axv {n : Nat} {cs : List Value} {x : DataW H × List MemPlace} (h : DataW.trod enc0 Tryz.prog W 0 spare held n 31 cs = some x) : ∃ u : Config, RP Aa7 W (ZW W) (.agg cs.toArray) (Afq u) ∧ Ab8 u := by
  obtain ⟨xs, n', hn, _, hl, hxs, hf⟩ := DataW.trod_struct Tryz.underlying31 h
  rw [co31] at hl
  match cs, hl with
  | [a0, a1, a2, a3, a4, a5, a6, a7, a8, a9, a10, a11, a12], _ =>
    obtain ⟨x0, h0⟩ := Abb hxs hf (i := 0) rfl
    replace h0 : DataW.trod enc0 Tryz.prog W 0 spare held n' 22 (([a0, a1, a2, a3, a4, a5, a6, a7, a8, a9, a10, a11, a12].drop 0).take (Tryz.prog.cellsOf 22)) = some x0 := h0
    rw [co22] at h0
    obtain ⟨v0, l0, e0, r0, f0⟩ := A0l h0
    obtain ⟨x1, h1⟩ := Abb hxs hf (i := 1) rfl
    replace h1 : DataW.trod enc0 Tryz.prog W 0 spare held n' 27 (([a0, a1, a2, a3, a4, a5, a6, a7, a8, a9, a10, a11, a12].drop 1).take (Tryz.prog.cellsOf 27)) = some x1 := h1
    rw [co27] at h1
    obtain ⟨u1, ⟨_, r1⟩, f1⟩ := A0k h1
    obtain ⟨x2, h2⟩ := Abb hxs hf (i := 2) rfl
    replace h2 : DataW.trod enc0 Tryz.prog W 0 spare held n' 24 (([a0, a1, a2, a3, a4, a5, a6, a7, a8, a9, a10, a11, a12].drop 10).take (Tryz.prog.cellsOf 24)) = some x2 := h2
    rw [co24] at h2
    obtain ⟨v2, l2, e2, r2, f2⟩ := Amb h2
    obtain ⟨x3, h3⟩ := Abb hxs hf (i := 3) rfl
    replace h3 : DataW.trod enc0 Tryz.prog W 0 spare held n' 28 (([a0, a1, a2, a3, a4, a5, a6, a7, a8, a9, a10, a11, a12].drop 11).take (Tryz.prog.cellsOf 28)) = some x3 := h3
    rw [co28] at h3
    obtain ⟨v3, l3, e3, r3, f3⟩ := At7 h3
    obtain ⟨x4, h4⟩ := Abb hxs hf (i := 4) rfl
    replace h4 : DataW.trod enc0 Tryz.prog W 0 spare held n' 29 (([a0, a1, a2, a3, a4, a5, a6, a7, a8, a9, a10, a11, a12].drop 12).take (Tryz.prog.cellsOf 29)) = some x4 := h4
    rw [co29] at h4
    obtain ⟨v4, l4, e4, r4, f4⟩ := Axu h4
    cases e0; cases e2; cases e3; cases e4
    refine ⟨⟨l0, u1, l2, l3, l4⟩, RP.ag _ _ rfl fun i v p hv hp => ?_, ⟨f0, f1, f2, f3, f4⟩⟩
    match i, hv, hp with
    | 0, hv, hp => cases hv; cases hp; exact .d _ _ (r0)
    | 1, hv, hp => cases hv; cases hp; exact .d _ _ (r1 0 _ _ rfl rfl)
    | 2, hv, hp => cases hv; cases hp; exact .d _ _ (r1 1 _ _ rfl rfl)
    | 3, hv, hp => cases hv; cases hp; exact .d _ _ (r1 2 _ _ rfl rfl)
    | 4, hv, hp => cases hv; cases hp; exact .d _ _ (r1 3 _ _ rfl rfl)
    | 5, hv, hp => cases hv; cases hp; exact .d _ _ (r1 4 _ _ rfl rfl)
    | 6, hv, hp => cases hv; cases hp; exact .d _ _ (r1 5 _ _ rfl rfl)
    | 7, hv, hp => cases hv; cases hp; exact .d _ _ (r1 6 _ _ rfl rfl)
    | 8, hv, hp => cases hv; cases hp; exact .d _ _ (r1 7 _ _ rfl rfl)
    | 9, hv, hp => cases hv; cases hp; exact .d _ _ (r1 8 _ _ rfl rfl)
    | 10, hv, hp => cases hv; cases hp; exact .d _ _ (r2)
    | 11, hv, hp => cases hv; cases hp; exact .d _ _ (r3)
    | 12, hv, hp => cases hv; cases hp; exact .d _ _ (r4)
    | i + 13, hv, hp => simp at hv
end
theorem A4y [GM] {n : Nat} {ps : List PV} (hf : PFun cx n ps (bl true)) (hc : ∀ (args : Array Value) (w : World), (callFunc n args).run Tryz.prog w = .ok (.enter n args) w) {W : World} {vals : List Value} (hv : RPs Aa7 W (ZW W) vals ps) (hg : GI cx Aa7 W (ZW W)) :
    Calls Tryz.prog n vals.toArray W fun e W' => e = .returned (.bool true) ∧ W'.os = W.os ∧ W'.output = W.output ∧ ∀ b, b < W.heap.size → W'.heap[b]? = W.heap[b]? := by
  rcases hf.run W (ZW W) vals hv hg (fun b o h => h) with ⟨_, h⟩ | ⟨v, w', h, _⟩
  · refine h.mono fun e w' h => ?_
    obtain ⟨v, Z', rfl, hr, _, ha⟩ := h
    rw [hr.val]
    exact ⟨rfl, ha.os, ha.out, fun b hb => ha.frame b hb fun k g c h => by simp [emp] at h⟩
  · have h' := (hc vals.toArray W).symm.trans h; cases h'
theorem gi_m {W : World} (h : W.ShapedOpen Tryz.prog) : ∃ m : Int, (letI : GM := ⟨m, false⟩; GI cx Aa7 W (ZW W)) := by
  obtain ⟨m, hm⟩ : ∃ m, W.cell? ⟨2, 0, none⟩ = some (.int .i64 m) := cell_of_shapedOpen_int (t := 3) (zero := #[.int .i64 0]) h (of_decide_eq_true (by kernel_rfl)) (by kernel_rfl) rfl (by kernel_rfl) (by kernel_rfl) (by kernel_rfl)
  obtain ⟨cs2, hb2, hs2, _⟩ := h.1 2 #[.int .i64 0] 3 (of_decide_eq_true (by kernel_rfl)) (by kernel_rfl)
  have lt : ∀ {i : Nat} {o : Obj}, W.heap[i]? = some o → i < W.heap.size := fun {i o} hb => by
    rcases Nat.lt_or_ge i W.heap.size with h1 | h1
    · exact h1
    · rw [Array.getElem?_eq_none h1] at hb; cases hb
  refine ⟨m, fun g ds hg => ?_⟩
  match g, hg with
  | 0, hg => simp [cx, gtS] at hg
  | 1, hg => simp [cx, gtS] at hg
  | 2, hg =>
    cases hg
    refine ⟨RP.ip _ 2 0 (fun _ => .int .i64 m) fun i d hd => ?_, 3, ?_⟩
    · match i, hd with
      | 0, hd => cases hd; exact ⟨hm, lt hb2, .v _⟩
      | i + 1, hd => simp at hd
    · simp only [World.shape?, hb2, hs2]; rfl
  | g + 3, hg => simp [cx, gtS] at hg
end Go.PL
namespace Go.Proofs.YtnkaolleaebhnaaGreatDoor.Rs
set_option linter.unusedSimpArgs false
set_option linter.unusedVariables false
set_option linter.unusedSectionVars false
open Go.PL Go.Proofs Go.ChangeShapes Go.WideShapes Go.RowKit
set_option maxRecDepth 100000
theorem and_t {a b : Bool} (ha : a = true) (hb : b = true) : (a && b) = true := by rw [ha, hb]; rfl
theorem own : ownKnob Tryz.prog.godebug = none := by kernel_rfl
theorem laidOut : laidOutB Tryz.prog = true := by kernel_rfl
theorem A0m {H : Type} {enc : TypeId × Value → H} {a : Assume} {C : Checked} {os : Os} {f : FuncId} {fn : Func} {s : ChangeSpec} {conds : List PathCond} {apart fresh handsOn again : Bool} {X : World → Array Value → Prop}
    (hX : ∀ (w w' : World) (args : Array Value), w.heap = w'.heap → X w args → X w' args)
    (own : ownKnob C.prog.godebug = none) (started : os.Started) (noInit : C.prog.inits.idxOf? f = none) (hfn : C.prog.funcs[f]? = some fn)
    (witness : ∃ (w : World) (tape : Tape) (i : Input), w.os = os ∧ (w.forCall tape i).Shaped C.prog ∧ i.vars = [] ∧ Input.okWide C.prog (w.forCall tape i) .any w.heap.size f i ∧
      ((s.pre enc C.prog fn conds apart (w.forCall tape i).memory i.args ∧ X (w.forCall tape i).memory i.args) ∧ sizedMet enc C.prog fn (OpenSpec.ofChange s) apart (w.forCall tape i).memory i.args) ∧ a.holds C.prog (lone (Frame.enter C.prog f i.args .normal) [] (w.forCall tape i)))
    (contract : ∀ (W : World) (base : Nat) (args : Array Value) (ds gs : List (DataW H)) (before : List MemPlace),
      (∀ (j : Nat) t v, fn.params[j]? = some t → args[j]? = some v → Value.okWide C.prog W .any base t v) →
      DataW.Whole enc C.prog fn.params.toList s.vars apart W args.toList ds gs before →
      X W args → W.ShapedOpen C.prog →
      Calls C.prog f args W fun e W' => ∃ v, e = .returned v ∧ s.post enc C.prog fn apart fresh handsOn again W args v W') :
    ReturnsInHanded a C os f .any (fun w args => (s.pre enc C.prog fn conds apart w args ∧ X w args) ∧ sizedMet enc C.prog fn (OpenSpec.ofChange s) apart w args) (s.post enc C.prog fn apart fresh handsOn again) := by
  refine returnsInHanded_of_calls own started noInit witness ?_
  intro w tape i _ hsh _ hok hpre hholds
  obtain ⟨_, _, _, fn', hfn', _, _, _, _, hval⟩ := hok
  have e : fn' = fn := Option.some.inj (hfn'.symm.trans hfn)
  subst e
  obtain ⟨⟨⟨ds, gs, before, hw, hc⟩, hx⟩, hz⟩ := hpre
  have hw' := DataW.Whole.of_heap (w' := w.forCall tape i) (by rfl) hw
  refine (contract (w.forCall tape i) w.heap.size i.args ds gs before hval hw' (hX _ _ _ (by rfl) hx) hsh).mono fun e W' ⟨v, he, hp⟩ => ?_
  subst he
  exact ChangeSpec.post_blind hp
theorem A40 {W W' : World} (hb : ∀ b, b < W.heap.size → W'.heap[b]? = W.heap[b]?) {x : MemPlace} (hx : x.block < W.heap.size) : W.sameAt W' x := by
  cases x with
  | cell b o => simp only [World.sameAt, World.cell?, hb b hx]
  | map b => exact hb b hx
theorem kept {W W' : World} (h1 : W'.os = W.os) (h2 : W'.output = W.output) (hb : ∀ b, b < W.heap.size → W'.heap[b]? = W.heap[b]?) (may : MemPlace → Prop) : W.keptBut W' may := by
  refine ⟨h1, h2, fun i hi => ?_⟩
  rw [hb i hi]
  split <;> simp_all
end Go.Proofs.YtnkaolleaebhnaaGreatDoor.Rs
