/- From what is read as data to the logic's data, and back. No condition of its own. -/
import Derived.Test.YtmmpeenkjgnhbaaDoorUa
import Derived.Test.YtmmpeenkjgnhbaaDoorRows
import Derived.ChangeSame
import Derived.ChangeVars
import Derived.JoinedOf
import Derived.RowKit
import Derived.RowKitTokens
import Derived.LaidLaws
import Derived.Stop.Joined
import Derived.Lay
import Derived.LaidOnce
import Derived.Carry
import Derived.Handed
import Derived.ProofKit
import Derived.PinnedBridge
import Derived.HandedShaped
import Derived.Shelf.Vars
/-! From what is read to the logic's data, and back. -/
namespace Go.PL
set_option linter.unusedSimpArgs false
set_option linter.unusedVariables false
set_option linter.unusedSectionVars false
open Tys (Ty U)
open Enc (sz enc dflt tb ofB toB)
open Dec (dec dok)
set_option maxRecDepth 100000
open Go.Proofs
section
variable {H : Type} {enc0 : TypeId × Value → H}
/-- all that was there is fixed -/
def ZW (W : World) : Nat → Nat → Prop := fun b _ => b < W.heap.size
theorem cell_lt {W : World} {a : Addr} {v : Value} (h : W.cell? a = some v) : a.block < W.heap.size := by
  rcases Nat.lt_or_ge a.block W.heap.size with h1 | h1
  · exact h1
  · simp [World.cell?, Array.getElem?_eq_none h1] at h
theorem cell_spot {W : World} {a : Addr} {v : Value} (h : W.cell? a = some v) : a.spot = none := by
  unfold World.cell? at h
  split at h
  · split at h
    · cases h
    · rename_i hs; simpa using hs
  · cases h
def Rd (W : World) (t : TyS) (cs : List Value) (x : US t) : Prop := cs.length = szS t ∧ ∀ (k : Nat) (v : Value) (d : D), cs[k]? = some v → (encS t x)[k]? = some d → RD W (ZW W) v d
theorem cells_at {W : World} {a : Addr} {n : Nat} {cs : List Value} (h : W.cells? 0 a n = some cs) : cs.length = n ∧ ∀ i, i < n → W.cell? (a.add i) = cs[i]? := by
  unfold World.cells? at h
  rw [if_pos (Nat.zero_le _)] at h
  have hl := Lib.mapM_length h
  simp only [List.length_range] at hl
  refine ⟨hl, fun i hi => ?_⟩
  obtain ⟨b, h1, h2⟩ := Lib.mapM_at h i i (by simp [hi])
  rw [h2, h1]
theorem slice_read {P : Program} {W : World} {T e : TypeId} {te : TyS} {spare : Nat → Bool} {held : Bool} {fuel : Nat} {cs : List Value} {x : DataW H × List MemPlace} (ht : P.underlying T = some (.slice e)) (hce : P.cellsOf e = szS te)
    (elem : ∀ n cs x, DataW.trod enc0 P W 0 spare held n e cs = some x → ∃ u : US te, Rd W te cs u) (h : DataW.trod enc0 P W 0 spare held fuel T cs = some x) : ∃ v xs, cs = [v] ∧ RD W (ZW W) v (.sl te xs) := by
  rcases DataW.trod_slice ht h with ⟨rfl, _⟩ | ⟨a, len, cap, elems, rest, n, -, rfl, -, -, hlc, -, hlen, hel, -, -⟩
  · exact ⟨_, [], rfl, .nil _ _ _⟩
  · rw [hce] at hel
    -- each element
    have each : ∀ i, i < len → ∃ (u : US te) (c : List Value), W.cells? 0 (a.add (i * szS te)) (szS te) = some c ∧ Rd W te c u := by
      intro i hi
      have h1 := hel i hi
      have h2 : ∃ y, elems[i]? = some y := ⟨elems[i], List.getElem?_eq_getElem (by omega)⟩
      obtain ⟨y, hy⟩ := h2
      rw [hy] at h1
      obtain ⟨c, hc, hx⟩ := Option.bind_eq_some_iff.1 h1
      obtain ⟨u, hu⟩ := elem n c y hx
      exact ⟨u, c, hc, hu⟩
    have hall : ∃ xs : List (US te), xs.length = len ∧ ∀ i, i < len → ∃ (u : US te) (c : List Value), xs[i]? = some u ∧ W.cells? 0 (a.add (i * szS te)) (szS te) = some c ∧ Rd W te c u := by
      clear h hel hlen hlc
      induction len with
      | zero => exact ⟨[], rfl, fun i hi => absurd hi (Nat.not_lt_zero _)⟩
      | succ m ih =>
        obtain ⟨xs, h1, h2⟩ := ih fun i hi => each i (by omega)
        obtain ⟨u, c, h3, h4⟩ := each m (by omega)
        refine ⟨xs ++ [u], by simp [h1], fun i hi => ?_⟩
        by_cases hm : i < m
        · obtain ⟨u', c', h5, h6⟩ := h2 i hm
          exact ⟨u', c', by rw [List.getElem?_append_left (by omega)]; exact h5, h6⟩
        · obtain rfl : i = m := by omega
          exact ⟨u, c, by rw [List.getElem?_append_right (by omega)]; simp [h1], h3, h4⟩
    obtain ⟨xs, h1, h2⟩ := hall
    have hp : 0 < szS te := by cases te <;> decide
    refine ⟨_, xs, rfl, ?_⟩
    rw [← h1]
    cases xs with
    | nil => exact .nil _ _ _
    | cons x0 xs =>
      have hspot : a.spot = none := by
        obtain ⟨u, c, _, h4, h5⟩ := h2 0 (by rw [← h1]; simp)
        obtain ⟨h6, h7⟩ := cells_at h4
        have h8 := h7 0 hp
        have : ∃ v, c[0]? = some v := ⟨c[0], List.getElem?_eq_getElem (by omega)⟩
        obtain ⟨v, hv⟩ := this
        rw [hv] at h8
        simp only [Nat.zero_mul, Addr.add, if_true] at h8
        exact cell_spot h8
      obtain ⟨b, off, sp⟩ := a
      simp only at hspot
      subst hspot
      let vs : Nat → Nat → Value := fun j i => (W.cell? ⟨b, off + (j * szS te + i), none⟩).getD undef
      have at' : ∀ j i, j < len → i < szS te → ∃ (u : US te) (c : List Value) (v : Value), (x0 :: xs)[j]? = some u ∧ c[i]? = some v ∧ W.cell? ⟨b, off + (j * szS te + i), none⟩ = some v ∧ Rd W te c u := by
        intro j i hj hi
        obtain ⟨u, c, h3, h4, h5⟩ := h2 j hj
        obtain ⟨h6, h7⟩ := cells_at h4
        have h8 := h7 i hi
        have : ∃ v, c[i]? = some v := ⟨c[i], List.getElem?_eq_getElem (by omega)⟩
        obtain ⟨v, hv⟩ := this
        rw [hv, addr_add, addr_add, Nat.add_assoc] at h8
        exact ⟨u, c, v, h3, hv, h8, h5⟩
      refine RD.sl te (x0 :: xs) b off cap vs (by rw [h1]; exact hlc) (fun j i hj hi => ?_) fun j i x d hx hd => ?_
      · obtain ⟨u, c, v, _, _, h5, _⟩ := at' j i (by rw [← h1]; exact hj) hi
        exact ⟨by have e : vs j i = v := by show (W.cell? _).getD undef = v; rw [h5]; rfl
                  rw [e]; exact h5, cell_lt h5⟩
      · have hj : j < len := by
          rw [← h1]
          rcases Nat.lt_or_ge j (x0 :: xs).length with h | h
          · exact h
          · rw [List.getElem?_eq_none h] at hx; cases hx
        have hi : i < szS te := by
          rcases Nat.lt_or_ge i (szS te) with h | h
          · exact h
          · rw [List.getElem?_eq_none (by rw [Enc.len]; exact h)] at hd; cases hd
        obtain ⟨u, c, v, h3, h4, h5, h6⟩ := at' j i hj hi
        have : u = x := Option.some.inj (h3.symm.trans hx)
        subst this
        show RD W _ ((W.cell? _).getD undef) d
        rw [h5]
        exact h6.2 i v d h4 hd
theorem int_read {P : Program} {W : World} {T : TypeId} {spare : Nat → Bool} {held : Bool} {n : Nat} {cs : List Value} {x : DataW H × List MemPlace} (ht : P.underlying T = some (.int .i64)) (h : DataW.trod enc0 P W 0 spare held n T cs = some x) : ∃ u : US .int, Rd W .int cs u := by
  obtain ⟨m, rfl, _⟩ := DataW.trod_int ht h
  refine ⟨m, rfl, fun k v d hv hd => ?_⟩
  match k, hv, hd with
  | 0, hv, hd => cases hv; cases hd; exact .v _
  | k + 1, hv, hd => simp at hv
theorem str_read {P : Program} {W : World} {T : TypeId} {spare : Nat → Bool} {held : Bool} {n : Nat} {cs : List Value} {x : DataW H × List MemPlace} (ht : P.underlying T = some .string) (h : DataW.trod enc0 P W 0 spare held n T cs = some x) : ∃ u : US .str, Rd W .str cs u := by
  obtain ⟨m, rfl, _⟩ := DataW.trod_string ht h
  refine ⟨m, rfl, fun k v d hv hd => ?_⟩
  match k, hv, hd with
  | 0, hv, hd => cases hv; cases hd; exact .v _
  | k + 1, hv, hd => simp at hv
/-- a field's reading, out of the struct's -/
theorem field_at {P : Program} {W : World} {spare : Nat → Bool} {held : Bool} {n : Nat} {cs : List Value} {fs : Array Field} {xs : List (DataW H × List MemPlace)} (hl : xs.length = fs.size)
    (hf : ∀ (i : Nat) (f : Field), fs[i]? = some f → DataW.trod enc0 P W 0 spare held n f.type ((cs.drop f.offset).take (P.cellsOf f.type)) = xs[i]?) {i : Nat} {f : Field} (h : fs[i]? = some f) :
    ∃ x, DataW.trod enc0 P W 0 spare held n f.type ((cs.drop f.offset).take (P.cellsOf f.type)) = some x := by
  have hi : i < fs.size := by
    rcases Nat.lt_or_ge i fs.size with h1 | h1
    · exact h1
    · rw [Array.getElem?_eq_none h1] at h; cases h
  rw [hf i f h]
  exact ⟨xs[i], List.getElem?_eq_getElem (by omega)⟩
end
end Go.PL
/-! The seat's readings; a law, out of its contract. -/
namespace Go.PL
set_option linter.unusedSimpArgs false
set_option linter.unusedVariables false
set_option linter.unusedSectionVars false
open Tys (Ty U)
open Enc (sz enc dflt tb ofB toB)
open Dec (dec dok)
set_option maxRecDepth 100000
open Go.Proofs
section
variable {H : Type} {enc0 : TypeId × Value → H} {W : World} {spare : Nat → Bool} {held : Bool}
theorem co3 : Tryd.prog.cellsOf 3 = 1 := by kernel_rfl
theorem co9 : Tryd.prog.cellsOf 9 = 1 := by kernel_rfl
theorem co39 : Tryd.prog.cellsOf 39 = 1 := by kernel_rfl
theorem co40 : Tryd.prog.cellsOf 40 = 1 := by kernel_rfl
theorem co22 : Tryd.prog.cellsOf 22 = 1 := by kernel_rfl
theorem co42 : Tryd.prog.cellsOf 42 = 3 := by kernel_rfl
theorem co24 : Tryd.prog.cellsOf 24 = 4 := by kernel_rfl
theorem ints_read {n : Nat} {cs : List Value} {x : DataW H × List MemPlace} (h : DataW.trod enc0 Tryd.prog W 0 spare held n 39 cs = some x) : ∃ v xs, cs = [v] ∧ RD W (ZW W) v (.sl TyS.int xs) :=
  slice_read (te := .int) Tryd.underlying39 co3 (fun n cs x h => int_read Tryd.underlying3 h) h
theorem strs_read {n : Nat} {cs : List Value} {x : DataW H × List MemPlace} (h : DataW.trod enc0 Tryd.prog W 0 spare held n 40 cs = some x) : ∃ v xs, cs = [v] ∧ RD W (ZW W) v (.sl TyS.str xs) :=
  slice_read (te := .str) Tryd.underlying40 co9 (fun n cs x h => str_read Tryd.underlying9 h) h
theorem deed_read {n : Nat} {cs : List Value} {x : DataW H × List MemPlace} (h : DataW.trod enc0 Tryd.prog W 0 spare held n 42 cs = some x) : ∃ u : US .deed, Rd W .deed cs u := by
  obtain ⟨xs, n', _, _, hl, hxs, hf⟩ := DataW.trod_struct Tryd.underlying42 h
  rw [co42] at hl
  match cs, hl with
  | [a, b, c], _ =>
    obtain ⟨x0, h0⟩ := field_at hxs hf (i := 0) rfl
    obtain ⟨x1, h1⟩ := field_at hxs hf (i := 1) rfl
    obtain ⟨x2, h2⟩ := field_at hxs hf (i := 2) rfl
    replace h0 : DataW.trod enc0 Tryd.prog W 0 spare held n' 3 (([a, b, c].drop 0).take (Tryd.prog.cellsOf 3)) = some x0 := h0
    rw [co3] at h0
    replace h1 : DataW.trod enc0 Tryd.prog W 0 spare held n' 39 (([a, b, c].drop 1).take (Tryd.prog.cellsOf 39)) = some x1 := h1
    rw [co39] at h1
    replace h2 : DataW.trod enc0 Tryd.prog W 0 spare held n' 40 (([a, b, c].drop 2).take (Tryd.prog.cellsOf 40)) = some x2 := h2
    rw [co40] at h2
    obtain ⟨k, hk, _⟩ := DataW.trod_int Tryd.underlying3 h0
    obtain ⟨v1, l1, e1, r1⟩ := ints_read h1
    obtain ⟨v2, l2, e2, r2⟩ := strs_read h2
    cases hk; cases e1; cases e2
    refine ⟨⟨k, l1, l2⟩, rfl, fun i v d hv hd => ?_⟩
    match i, hv, hd with
    | 0, hv, hd => cases hv; cases hd; exact .v _
    | 1, hv, hd => cases hv; cases hd; exact r1
    | 2, hv, hd => cases hv; cases hd; exact r2
    | i + 3, hv, hd => simp at hv
theorem plan_read {n : Nat} {cs : List Value} {x : DataW H × List MemPlace} (h : DataW.trod enc0 Tryd.prog W 0 spare held n 24 cs = some x) : ∃ p : Plan, RP noNames W (ZW W) (.agg cs.toArray) (planPV p) := by
  obtain ⟨xs, n', _, _, hl, hxs, hf⟩ := DataW.trod_struct Tryd.underlying24 h
  rw [co24] at hl
  match cs, hl with
  | [a, b, c, e], _ =>
    obtain ⟨x0, h0⟩ := field_at hxs hf (i := 0) rfl
    obtain ⟨x1, h1⟩ := field_at hxs hf (i := 1) rfl
    obtain ⟨x2, h2⟩ := field_at hxs hf (i := 2) rfl
    obtain ⟨x3, h3⟩ := field_at hxs hf (i := 3) rfl
    replace h0 : DataW.trod enc0 Tryd.prog W 0 spare held n' 3 (([a, b, c, e].drop 0).take (Tryd.prog.cellsOf 3)) = some x0 := h0
    rw [co3] at h0
    replace h1 : DataW.trod enc0 Tryd.prog W 0 spare held n' 9 (([a, b, c, e].drop 1).take (Tryd.prog.cellsOf 9)) = some x1 := h1
    rw [co9] at h1
    replace h2 : DataW.trod enc0 Tryd.prog W 0 spare held n' 9 (([a, b, c, e].drop 2).take (Tryd.prog.cellsOf 9)) = some x2 := h2
    rw [co9] at h2
    replace h3 : DataW.trod enc0 Tryd.prog W 0 spare held n' 22 (([a, b, c, e].drop 3).take (Tryd.prog.cellsOf 22)) = some x3 := h3
    rw [co22] at h3
    obtain ⟨k, hk, _⟩ := DataW.trod_int Tryd.underlying3 h0
    obtain ⟨s1, e1, _⟩ := DataW.trod_string Tryd.underlying9 h1
    obtain ⟨s2, e2, _⟩ := DataW.trod_string Tryd.underlying9 h2
    obtain ⟨v3, l3, e3, r3⟩ := slice_read (te := .deed) Tryd.underlying22 co42 (fun n cs x h => deed_read h) h3
    cases hk; cases e1; cases e2; cases e3
    refine ⟨⟨k, s1, s2, l3⟩, RP.ag _ _ rfl fun i v p hv hp => ?_⟩
    match i, hv, hp with
    | 0, hv, hp => cases hv; cases hp; exact RP.ofVal ..
    | 1, hv, hp => cases hv; cases hp; exact RP.ofVal ..
    | 2, hv, hp => cases hv; cases hp; exact RP.ofVal ..
    | 3, hv, hp => cases hv; cases hp; exact .d _ _ r3
    | i + 4, hv, hp => simp at hv
end
/-- a law's call, out of its contract -/
theorem law_run [GM] {n : Nat} {ps : List PV} (hf : PFun cx n ps (bl true)) (hc : ∀ (args : Array Value) (w : World), (callFunc n args).run Tryd.prog w = .ok (.enter n args) w) {W : World} {vals : List Value} (hv : RPs noNames W (ZW W) vals ps) (hg : GI cx noNames W (ZW W)) :
    Calls Tryd.prog n vals.toArray W fun e W' => e = .returned (.bool true) ∧ W'.os = W.os ∧ W'.output = W.output ∧ ∀ b, b < W.heap.size → W'.heap[b]? = W.heap[b]? := by
  rcases hf.run W (ZW W) vals hv hg (fun b o h => h) with ⟨_, h⟩ | ⟨v, w', h, _⟩
  · refine h.mono fun e w' h => ?_
    obtain ⟨v, Z', rfl, hr, _, ha⟩ := h
    rw [hr.val]
    exact ⟨rfl, ha.os, ha.out, fun b hb => ha.frame b hb fun k g c h => by simp [emp] at h⟩
  · have h' := (hc vals.toArray W).symm.trans h; cases h'
theorem gi_some {W : World} (h : W.ShapedOpen Tryd.prog) : ∃ m : Int, (letI : GM := ⟨m, false⟩; GI cx noNames W (ZW W)) := by
  obtain ⟨cs, hb, hs, _⟩ := h.1 0 #[.int .i64 0] 3 (of_decide_eq_true (by kernel_rfl)) (by kernel_rfl)
  obtain ⟨m, hm⟩ : ∃ m, W.cell? ⟨0, 0, none⟩ = some (.int .i64 m) := cell_of_shapedOpen_int (t := 3) (zero := #[.int .i64 0]) h (of_decide_eq_true (by kernel_rfl)) (by kernel_rfl) rfl (by kernel_rfl) (by kernel_rfl) (by kernel_rfl)
  refine ⟨m, fun g ds hg => ?_⟩
  match g, hg with
  | 0, hg =>
    cases hg
    have hlt : 0 < W.heap.size := cell_lt hm
    refine ⟨RP.ip _ 0 0 (fun _ => .int .i64 m) fun i d hd => ?_, 3, ?_⟩
    · match i, hd with
      | 0, hd => cases hd; exact ⟨hm, hlt, .v _⟩
      | i + 1, hd => simp at hd
    · simp only [World.shape?, hb, hs]; rfl
  | 1, hg => simp [cx, gtS] at hg
  | g + 2, hg => simp [cx, gtS] at hg
end Go.PL
