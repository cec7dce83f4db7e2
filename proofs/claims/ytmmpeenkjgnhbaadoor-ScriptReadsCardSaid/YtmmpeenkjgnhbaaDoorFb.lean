/- Contracts of the program's functions, second part. Conditions: those that each states (sizes). -/
import Derived.Test.YtmmpeenkjgnhbaaDoorFa
namespace Go.PL
set_option linter.unusedSimpArgs false
set_option linter.unusedVariables false
set_option linter.unusedSectionVars false
open Tys (Ty U)
open Enc (sz enc dflt tb ofB toB)
open Dec (dec dok)
set_option maxRecDepth 100000
open Go.Proofs
variable [GM]
theorem size1' {x : UInt8} : (ByteArray.mk #[x]).size = 1 := rfl
theorem shapesM_at (j : Nat) (h : j < 8) : shapesM[j]? = some (.int .i64 ((j + 1 : Nat) : Int), shp (kw (j + 1)) (kn (j + 1) : Nat) (kt (j + 1) : Nat)) := by
  match j, h with
  | 0, _ | 1, _ | 2, _ | 3, _ | 4, _ | 5, _ | 6, _ | 7, _ => rfl
def blank : ByteArray := ⟨#[32]⟩
def pieces (row : ByteArray) : List ByteArray := splitL row blank
/-- does a row's shape fit a kind? -/
def mt (l : List ByteArray) (k : Nat) : Bool := decide (l[0]? = some (kw k)) && l.length == 1 + kn k + kt k
def mkD (l : List ByteArray) (k : Nat) : Deed := ⟨k, ((l.take (1 + kn k)).drop 1).map numS, (l.drop (1 + kn k)).map textS⟩
def lnB (w : ByteArray) (ns : List Int) (ts : List ByteArray) : ByteArray := ⟨(lineL w ns ts).toArray⟩
def okD (row : ByteArray) (w : ByteArray) (d : Deed) : Bool := rightD d && decide (lnB w d.Nums d.Texts = row ++ ⟨#[10]⟩)
def deedR (row : ByteArray) (r : Deed × Bool) : Prop :=
  (∀ k, 1 ≤ k → k ≤ 8 → mt (pieces row) k = true → r = (mkD (pieces row) k, okD row (kw k) (mkD (pieces row) k))) ∧ ((∀ k, 1 ≤ k → k ≤ 8 → mt (pieces row) k = false) → r = (⟨0, [], []⟩, false))
theorem kn_le (k : Nat) : kn k ≤ 3 := by unfold kn; split <;> omega
theorem kt_le (k : Nat) : kt k ≤ 2 := by unfold kt; split <;> omega
theorem mt_eq {A : Ar} (hA : A = std) (l : List ByteArray) (k : Nat) (hl : 0 < l.length) : A.or (A.scmp .neq (kw k) (A.get TyS.str l 0)) (A.cmp .neq (A.len TyS.str l) (A.ar .add .i64 (A.ar .add .i64 1 (kn k : Nat)) (kt k : Nat))) = !mt l k := by
  have h1 := kn_le k
  have h2 := kt_le k
  subst hA
  rw [s_lor, s_sneq, s_neq, s_len, s_get, s_add, s_add, w64 (n := 1 + _) (by omega), w64 (by omega)]
  have hg : l.getD (Int.toNat 0) (Enc.dflt TyS.str) = l[0] := by simp [List.getD, hl]
  have h0 : l[0]? = some l[0] := List.getElem?_eq_getElem hl
  rw [hg, mt, h0]
  generalize kw k = W
  generalize l[0] = X
  generalize kn k = N at *
  generalize kt k = M at *
  rw [Bool.eq_iff_iff]
  simp only [Option.some.injEq, Bool.or_eq_true, decide_eq_true_eq, bne_iff_ne, ne_eq, Bool.not_eq_true', Bool.and_eq_false_iff, decide_eq_false_iff_not, beq_eq_false_iff_ne]
  have : ((l.length : Int) = 1 + N + M) ↔ l.length = 1 + N + M := by omega
  rw [this, eq_comm (a := W)]
theorem pieces_pos (row : ByteArray) : 0 < (pieces row).length := by
  rw [pieces, splitL, Lib.splitB_all _ (by decide) 0 _ _ rfl]; omega
theorem seen_len (l : List Nat) (h : l.Nodup) (hb : ∀ j ∈ l, j < 8) : l.length ≤ 8 := by
  have := h.length_le_of_subset (l₂ := List.range 8) (fun j hj => by simpa using hb j hj)
  simpa using this
theorem LeMs_refl : ∀ l : List (Value × PV), LeC.LeMs l l
  | [] => trivial
  | (x, p) :: r => ⟨rfl, LeP.refl p, LeMs_refl r⟩
theorem pieces_len (row : ByteArray) : (pieces row).length ≤ row.size + 1 := by
  rw [pieces, splitL, Lib.splitB_all _ (by decide) 0 _ _ rfl]
  have := Lib.countB_le blank (by decide) row.size row (Nat.le_refl _)
  omega
theorem pieces_size (row x : ByteArray) (h : x ∈ pieces row) : x.size ≤ row.size := by
  rw [pieces, splitL] at h
  generalize Lib.countB row blank = k at h
  induction k generalizing row with
  | zero => rw [Lib.splitB_zero] at h; simp at h; rw [h]; exact Nat.le_refl _
  | succ k ih =>
    rw [Lib.splitB] at h
    split at h
    · simp at h; rw [h]; exact Nat.le_refl _
    · rcases List.mem_cons.1 h with h | h
      · rw [h]; simp; omega
      · have := ih _ h; simp at this; omega
theorem decB_len (n : Nat) : (decB n).size ≤ n + 1 := by
  induction n using Nat.strongRecOn with
  | _ n ih =>
    unfold decB
    split
    · rw [size1']; omega
    · have := ih (n / 10) (by omega)
      rw [ByteArray.size_append, size1']; omega
theorem lnN_len (B : Int) : ∀ ns : List Int, (∀ n ∈ ns, 0 ≤ n ∧ n ≤ B) → ((lnN ns).length : Int) ≤ ns.length * (B + 2)
  | [], _ => by simp [lnN]
  | n :: ns, h => by
    have := lnN_len B ns fun m hm => h m (by simp [hm])
    have h0 := h n (by simp)
    have h1 := decB_len n.toNat
    have h2 : (decI n).data.toList.length = (decB n.toNat).size := by simp [decI]
    simp only [lnN, List.flatMap_cons, List.length_append, List.length_cons, h2] at this ⊢
    have e : ((ns.length + 1 : Nat) : Int) * (B + 2) = ns.length * (B + 2) + (B + 2) := by rw [Int.natCast_add, Int.add_mul]; simp
    rw [e]
    omega
theorem lnT_len (M : Nat) : ∀ ts : List ByteArray, (∀ t ∈ ts, t.size ≤ M) → (lnT ts).length ≤ ts.length * (2 * M + 2)
  | [], _ => by simp [lnT]
  | t :: ts, h => by
    have := lnT_len M ts fun m hm => h m (by simp [hm])
    have h0 := h t (by simp)
    have h1 := hexB_len t.data.toList
    have h2 : t.data.toList.length = t.size := by simp
    simp only [lnT, List.flatMap_cons, List.length_append, List.length_cons, h1, h2] at this ⊢
    have e : (ts.length + 1) * (2 * M + 2) = ts.length * (2 * M + 2) + (2 * M + 2) := by rw [Nat.add_mul]; simp
    rw [e]
    omega
theorem rightD_nums {d : Deed} (h : rightD d = true) : (∀ n ∈ d.Nums, 0 ≤ n ∧ n ≤ 1099511627776) ∧ ∀ t ∈ d.Texts, t.size ≤ 1000 := by
  unfold rightD at h
  split at h
  · simp only [Bool.and_eq_true, Bool.not_eq_true', List.any_eq_false, far, Bool.or_eq_true, decide_eq_true_eq] at h
    refine ⟨fun n hn => ?_, fun t ht => ?_⟩
    · have := h.1.1.1 n hn; omega
    · have := h.2 t ht; omega
  · cases h
theorem line_fits {w : ByteArray} {ns : List Int} {ts : List ByteArray} (hw : w.size ≤ 10) (hn : ns.length ≤ 4) (ht : ts.length ≤ 4) (h1 : ∀ n ∈ ns, 0 ≤ n ∧ n ≤ 1099511627776) (h2 : ∀ t ∈ ts, t.size ≤ 16384) : (lineL w ns ts).length ≤ 70368744177664 := by
  have a := lnN_len 1099511627776 ns h1
  have b := lnT_len 16384 ts h2
  have c : (lnT ts).length ≤ 4 * (2 * 16384 + 2) := Nat.le_trans b (Nat.mul_le_mul_right _ ht)
  have d : (ns.length : Int) * (1099511627776 + 2) ≤ 4 * (1099511627776 + 2) := Int.mul_le_mul_of_nonneg_right (by omega) (by omega)
  have e : w.data.toList.length = w.size := by simp
  simp only [lineL, List.length_append, List.length_singleton, e]
  omega
theorem kw_size (k : Nat) : (kw k).size ≤ 10 := by unfold kw; split <;> decide
theorem line_b (w : ByteArray) (ns : List Int) (ts : List ByteArray) (hw : w.size ≤ 10) (hn : ns.length ≤ 4) (ht : ts.length ≤ 4) (h1 : ∀ n ∈ ns, 0 ≤ n ∧ n ≤ 1099511627776) (h2 : ∀ t ∈ ts, t.size ≤ 16384) : PFun cx 20 [st w, .d (.sl .int ns), .d (.sl .str ts)] (st (lnB w ns ts)) :=
  line_ok w ns ts (fun n hn => ⟨(h1 n hn).1, by have := (h1 n hn).2; omega⟩) (by omega) (by omega) (line_fits hw hn ht h1 h2)
theorem deed_ok (row : ByteArray) (r : Deed × Bool) (hr : deedR row r) (hs : row.size ≤ 1073741824) : PFun cx 25 [st row] (.tu [deedPV r.1, bl r.2]) := by
  obtain ⟨l, hl⟩ : ∃ l, l = pieces row := ⟨_, rfl⟩
  obtain ⟨⟨rk, rn, rt⟩, rb⟩ := r
  have hll : l.length ≤ 1073741825 := by rw [hl]; have := pieces_len row; omega
  obtain ⟨nm, hnm, c47⟩ : ∃ f : List ByteArray → List Int, f = (fun l => l.map numS) ∧ ∀ l, l.length ≤ 1099511627776 → PFun cx 47 [.d (.sl .str l)] (.d (.sl .int (f l))) := ⟨_, rfl, numbers_ok⟩
  obtain ⟨tx, htx, c48⟩ : ∃ f : List ByteArray → List ByteArray, f = (fun l => l.map textS) ∧ ∀ l, l.length ≤ 1099511627776 → (∀ x ∈ l, x.size ≤ 1099511627776) → PFun cx 48 [.d (.sl .str l)] (.d (.sl .str (f l))) := ⟨_, rfl, texts_ok⟩
  refine PFun.walk cx_ok Tryd.func25 rfl rfl rfl fun A P R hA hP hR => ?_
  cbv
  refine CallK.mk (.d (.sl .str l)) rfl (fun _ => by rw [hP, hl]; exact Split_ok row blank (by omega) (by decide)) ?_
  cbv
  refine CallK.mem 10 rfl rfl [] [] [] (.mp 2000 1) [⟨2000, 1, .map shapesM⟩] (fun _ => by rw [hP]; exact shapes_ok) rfl (fun _ => trivial) trivial rfl rfl ?_
  cbv
  refine LoopK.mk (X := {p : List (Value × PV) × List Nat // p.1 = shapesM ∧ p.2.Nodup ∧ ∀ j ∈ p.2, j < 8 ∧ mt l (j + 1) = false}) (fun _ _ => []) (fun p gh => [⟨2, 0, .box 42 [it .i64 0, nilS, nilS]⟩, ⟨10, 2, .map p.1.1⟩, ⟨11, 2, .iter 10 2 8 8 p.1.2⟩]) (fun p => 8 - p.1.2.length) ⟨(shapesM, []), by simp⟩ [] ⟨?_, ?_, ?_⟩ ?_
  · (cbv <;> (try (and_intros <;> (first | exact True.intro | exact i_succ hA (by omega) | rfl | simp))))
  · (cbv <;> (try (and_intros <;> (first | exact True.intro | rfl | simp))))
  · cbv
  intro ⟨⟨es, seen⟩, hes, hnd, hseen⟩ gh g K hK
  simp only [] at hes hnd hseen
  have hel : es.length = 8 := by rw [hes]; rfl
  cbv
  refine ⟨by rw [hes]; rfl, by rw [hes]; rfl, fun j hj hjs => ?_, fun hall => ?_⟩
  · rw [hel] at hj
    have hrefl := LeMs_refl es
    rw [LeC.LeMs.eq_def] at hrefl
    obtain ⟨w, hw⟩ : ∃ w, w = kw (j + 1) := ⟨_, rfl⟩
    obtain ⟨vn, hvn⟩ : ∃ vn : Int, vn = ((kn (j + 1) : Nat) : Int) := ⟨_, rfl⟩
    obtain ⟨vt, hvt⟩ : ∃ vt : Int, vt = ((kt (j + 1) : Nat) : Int) := ⟨_, rfl⟩
    obtain ⟨vk, hvk⟩ : ∃ vk : Int, vk = ((j + 1 : Nat) : Int) := ⟨_, rfl⟩
    have hat : es[j]? = some (.int .i64 vk, shp w vn vt) := by rw [hes, hvk, hw, hvn, hvt]; exact shapesM_at j hj
    have hat2 : List.get?Internal es j = some (.int .i64 vk, shp w vn vt) := hat
    rw [List.get?Internal.eq_def] at hat2
    cbv
    rw [hat2]
    cbv
    refine ⟨by rw [hes]; rfl, ?_⟩
    have hl0 : 0 < l.length := by rw [hl]; exact pieces_pos row
    have hm : A.or (A.scmp .neq w (A.get TyS.str l 0)) (A.cmp .neq (A.len TyS.str l) (A.ar .add .i64 (A.ar .add .i64 1 vn) vt)) = !mt l (j + 1) := by rw [hw, hvn, hvt]; exact mt_eq hA l (j + 1) hl0
    have hin0 : A.inb 0 (A.len TyS.str l) := by subst hA; simp [std]; omega
    repeat (refine And.intro (by first | exact hin0 | exact True.intro | exact i_in hA (by assumption) | (subst hA; simp [std]; done) | (split <;> first | exact True.intro | rfl | assumption) | (subst hA; simp [std]; omega)) ?_)
    split
    · rename_i h
      have h2 : A.or (A.scmp .neq w (A.get TyS.str l 0)) (A.cmp .neq (A.len TyS.str l) (A.ar .add .i64 (A.ar .add .i64 1 vn) vt)) = true := h
      rw [hm] at h2
      cbv
      refine hK _ ⟨(es, j :: seen), hes, ?_, ?_⟩ [] ?_ ⟨?_, ?_, ?_⟩
      · exact List.nodup_cons.2 ⟨by simpa using hjs, hnd⟩
      · intro i hi
        rcases List.mem_cons.1 hi with rfl | hi
        · exact ⟨hj, by simpa using h2⟩
        · exact hseen i hi
      · have := seen_len (j :: seen) (List.nodup_cons.2 ⟨by simpa using hjs, hnd⟩) (fun i hi => by rcases List.mem_cons.1 hi with rfl | hi; exact hj; exact (hseen i hi).1)
        simp only [List.length_cons] at this ⊢; omega
      · (cbv <;> (try (and_intros <;> (first | exact True.intro | exact i_succ hA (by omega) | exact hrefl | rfl | simp))))
      · (cbv <;> (try (and_intros <;> (first | exact True.intro | exact hrefl | rfl | simp))))
      · cbv
    · rename_i h
      have h2 : A.or (A.scmp .neq w (A.get TyS.str l 0)) (A.cmp .neq (A.len TyS.str l) (A.ar .add .i64 (A.ar .add .i64 1 vn) vt)) = false := h
      rw [hm] at h2
      have hmt : mt l (j + 1) = true := by simpa using h2
      have hkn := kn_le (j + 1)
      have hkt := kt_le (j + 1)
      have hlen : l.length = 1 + kn (j + 1) + kt (j + 1) := by simp only [mt, Bool.and_eq_true, beq_iff_eq] at hmt; exact hmt.2
      replace hvn : vn = ((kn (j + 1) : Nat) : Int) := hvn
      replace hvt : vt = ((kt (j + 1) : Nat) : Int) := hvt
      replace hvk : vk = ((j + 1 : Nat) : Int) := hvk
      have ha1 : A.ar .add .i64 1 vn = ((1 + kn (j + 1) : Nat) : Int) := by
        subst hA; rw [s_add, hvn, w64 (by omega)]; omega
      have hL1 : A.lsub TyS.str l 1 (A.ar .add .i64 1 vn) = (l.take (1 + kn (j + 1))).drop 1 := by rw [ha1]; subst hA; rw [s_lsub, Int.toNat_natCast]; rfl
      have hL2 : A.lsub TyS.str l (A.ar .add .i64 1 vn) (A.len TyS.str l) = l.drop (1 + kn (j + 1)) := by
        rw [ha1]; subst hA; rw [s_lsub, s_len, Int.toNat_natCast, Int.toNat_natCast, List.take_length]
      have ho1 : A.subOk 1 (A.ar .add .i64 1 vn) (A.len TyS.str l) := by rw [ha1]; subst hA; rw [s_subOk, s_len]; omega
      have ho2 : A.subOk (A.ar .add .i64 1 vn) (A.len TyS.str l) (A.len TyS.str l) := by rw [ha1]; subst hA; rw [s_subOk, s_len]; omega
      cbv
      refine ⟨ho1, ?_⟩
      have hX1 : (A.lsub TyS.str l 1 (A.ar .add .i64 1 vn)).length ≤ 1099511627776 := by rw [hL1]; simp; omega
      refine CallK.mk _ rfl (fun _ => by rw [hP]; exact c47 _ hX1) ?_
      cbv
      repeat (refine And.intro (by first | exact ho2 | exact True.intro | exact i_in hA (by assumption) | (subst hA; simp [std]; done) | (split <;> first | exact True.intro | rfl | assumption) | (subst hA; simp [std]; omega)) ?_)
      have hX2 : ∀ x ∈ A.lsub TyS.str l (A.ar .add .i64 1 vn) (A.len TyS.str l), x.size ≤ 1099511627776 := by
        rw [hL2]; intro x hx
        have := pieces_size row x (by rw [← hl]; exact List.mem_of_mem_drop hx)
        omega
      have hX3 : (A.lsub TyS.str l (A.ar .add .i64 1 vn) (A.len TyS.str l)).length ≤ 1099511627776 := by rw [hL2]; simp; omega
      refine CallK.mk _ rfl (fun _ => by rw [hP]; exact c48 _ hX3 hX2) ?_
      cbv
      obtain ⟨ns, hns⟩ : ∃ ns, ns = nm (A.lsub TyS.str l 1 (A.ar .add .i64 1 vn)) := ⟨_, rfl⟩
      obtain ⟨ts, hts⟩ : ∃ ts, ts = tx (A.lsub TyS.str l (A.ar .add .i64 1 vn) (A.len TyS.str l)) := ⟨_, rfl⟩
      have hD : (⟨vk, ns, ts⟩ : Deed) = mkD l (j + 1) := by rw [mkD, hns, hts, hL1, hL2, hnm, htx, hvk]
      obtain ⟨b, hb⟩ : ∃ b, b = rightD ⟨vk, ns, ts⟩ := ⟨_, rfl⟩
      have hnl : ns.length ≤ 4 := by rw [hns, hL1, hnm]; simp; omega
      have htl : ts.length ≤ 2 := by rw [hts, hL2, htx]; simp; omega
      subst hns hts
      refine CallK.mk _ rfl (fun _ => by rw [hP]; exact right_ok ⟨vk, _, _⟩ b hb (by simp only []; omega) (by simp only []; omega)) ?_
      cbv
      obtain ⟨ln, hln, c20⟩ : ∃ f, f = lnB ∧ ∀ (w : ByteArray) (ns : List Int) (ts : List ByteArray), w.size ≤ 10 → ns.length ≤ 4 → ts.length ≤ 4 → (∀ n ∈ ns, 0 ≤ n ∧ n ≤ 1099511627776) → (∀ t ∈ ts, t.size ≤ 16384) → PFun cx 20 [st w, .d (.sl .int ns), .d (.sl .str ts)] (st (f w ns ts)) := ⟨_, rfl, line_b⟩
      repeat (refine And.intro (by first | exact True.intro | exact i_in hA (by assumption) | (subst hA; simp [std]; done) | (split <;> first | exact True.intro | rfl | assumption) | (subst hA; simp [std]; omega)) ?_)
      refine CallK.mk _ rfl (fun hc => by rw [hP]; exact c20 _ _ _ (by rw [hw]; exact kw_size _) hnl (by omega) (rightD_nums (hb.symm.trans hc)).1 (fun t ht => by have := (rightD_nums (hb.symm.trans hc)).2 t ht; omega)) ?_
      cbv
      have hco : A.catOk row ⟨#[10]⟩ := by subst hA; rw [s_catOk, size1']; omega
      repeat (refine And.intro (by first | (split <;> first | exact True.intro | exact hco) | exact True.intro | exact i_in hA (by assumption) | (subst hA; simp [std]; done) | (split <;> first | exact True.intro | rfl | assumption) | (subst hA; simp [std]; omega)) ?_)
      have hq := hr.1 (j + 1) (by omega) (by omega) (by rw [← hl]; exact hmt)
      rw [← hl, ← hD] at hq
      injection hq with hq1 hq2
      injection hq1 with hq3 hq4 hq5
      have hX : A.and b (A.scmp .eql (ln w (nm (A.lsub TyS.str l 1 (A.ar .add .i64 1 vn))) (tx (A.lsub TyS.str l (A.ar .add .i64 1 vn) (A.len TyS.str l)))) (A.cat row ⟨#[10]⟩)) = rb := by
        rw [hq2, hln, okD, ← hb, ← hw]
        generalize A.lsub TyS.str l 1 (A.ar .add .i64 1 vn) = L1
        generalize A.lsub TyS.str l (A.ar .add .i64 1 vn) (A.len TyS.str l) = L2
        subst hA
        rw [s_land, s_seql, s_cat]
      subst hR
      simp only [LeP, LeD, LeP.LePs, deedPV, it, bl]
      exact ⟨⟨⟨trivial, hq3.symm⟩, by rw [hq4], by rw [hq5], trivial⟩, hX, trivial⟩
  · cbv
    have hno : ∀ k, 1 ≤ k → k ≤ 8 → mt (pieces row) k = false := by
      intro k h1 h8
      have := hall (k - 1) (by rw [hel]; omega)
      have := (hseen (k - 1) (by simpa using this)).2
      rw [← hl]
      rwa [show k - 1 + 1 = k by omega] at this
    have := hr.2 hno
    cases this
    subst hR
    simp [LeP, LeD, LeP.LePs, deedPV, it, bl]
end Go.PL
namespace Go.PL
set_option linter.unusedSimpArgs false
set_option linter.unusedVariables false
set_option linter.unusedSectionVars false
open Tys (Ty U)
open Enc (sz enc dflt tb ofB toB)
open Dec (dec dok)
set_option maxRecDepth 100000
open Go.Proofs
variable [GM]
def moveB : ByteArray := ⟨#[109, 111, 118, 101]⟩
def mtB (l : List ByteArray) : Bool := decide (l.length = 4) && decide (l[0]? = some moveB)
def mkP (l : List ByteArray) : Plan := ⟨numS (l.getD 1 .empty), textS (l.getD 2 .empty), textS (l.getD 3 .empty), []⟩
def okP (row : ByteArray) (p : Plan) : Bool := beginsP p && decide (lnB moveB [p.Format] [p.Rules, p.Routes] = row ++ ⟨#[10]⟩)
def beginS (row : ByteArray) : Plan × Bool := if mtB (pieces row) = true then (mkP (pieces row), okP row (mkP (pieces row))) else (⟨0, .empty, .empty, []⟩, false)
theorem mtB_eq {A : Ar} (hA : A = std) (l : List ByteArray) (hl : 0 < l.length) : A.or (A.cmp .neq (A.len TyS.str l) 4) (A.scmp .neq (A.get TyS.str l 0) moveB) = !mtB l := by
  subst hA
  rw [s_lor, s_sneq, s_neq, s_len, s_get]
  have hg : l.getD (Int.toNat 0) (Enc.dflt TyS.str) = l[0] := by simp [List.getD, hl]
  have h0 : l[0]? = some l[0] := List.getElem?_eq_getElem hl
  rw [hg, mtB, h0]
  generalize l[0] = X
  rw [Bool.eq_iff_iff]
  simp only [Option.some.injEq, Bool.or_eq_true, decide_eq_true_eq, bne_iff_ne, ne_eq, Bool.not_eq_true', Bool.and_eq_false_iff, decide_eq_false_iff_not]
  have : ((l.length : Int) = 4) ↔ l.length = 4 := by omega
  rw [this]
theorem begins_fit {p : Plan} (h : beginsP p = true) : (p.Format = 1 ∨ p.Format = 2) ∧ p.Rules.size ≤ 8192 ∧ p.Routes.size ≤ 8192 := by
  simpa [beginsP] using h
def planNP (p : Plan) : PV := .ag [it .i64 p.Format, st p.Rules, st p.Routes, nilS]
theorem begin_ok (row : ByteArray) (r : Plan × Bool) (hr : r = beginS row) (hs : row.size ≤ 1073741824) : PFun cx 24 [st row] (.tu [planNP r.1, bl r.2]) := by
  obtain ⟨l, hl⟩ : ∃ l, l = pieces row := ⟨_, rfl⟩
  obtain ⟨⟨r1, r2, r3, r4⟩, rb⟩ := r
  rw [beginS, ← hl] at hr
  have hll : l.length ≤ 1073741825 := by rw [hl]; have := pieces_len row; omega
  have hl0 : 0 < l.length := by rw [hl]; exact pieces_pos row
  obtain ⟨nm, hnm, c47⟩ : ∃ f : List ByteArray → List Int, f = (fun l => l.map numS) ∧ ∀ l, l.length ≤ 1099511627776 → PFun cx 47 [.d (.sl .str l)] (.d (.sl .int (f l))) := ⟨_, rfl, numbers_ok⟩
  obtain ⟨tx, htx, c48⟩ : ∃ f : List ByteArray → List ByteArray, f = (fun l => l.map textS) ∧ ∀ l, l.length ≤ 1099511627776 → (∀ x ∈ l, x.size ≤ 1099511627776) → PFun cx 48 [.d (.sl .str l)] (.d (.sl .str (f l))) := ⟨_, rfl, texts_ok⟩
  obtain ⟨ln, hln, c20⟩ : ∃ f, f = lnB ∧ ∀ (w : ByteArray) (ns : List Int) (ts : List ByteArray), w.size ≤ 10 → ns.length ≤ 4 → ts.length ≤ 4 → (∀ n ∈ ns, 0 ≤ n ∧ n ≤ 1099511627776) → (∀ t ∈ ts, t.size ≤ 16384) → PFun cx 20 [st w, .d (.sl .int ns), .d (.sl .str ts)] (st (f w ns ts)) := ⟨_, rfl, line_b⟩
  refine PFun.walk cx_ok Tryd.func24 rfl rfl rfl fun A P R hA hP hR => ?_
  cbv
  refine CallK.mk (.d (.sl .str l)) rfl (fun _ => by rw [hP, hl]; exact Split_ok row blank (by omega) (by decide)) ?_
  cbv
  have hin0 : A.inb 0 (A.len TyS.str l) := by subst hA; simp [std]; omega
  repeat (refine And.intro (by first | (split <;> first | exact True.intro | exact hin0) | exact True.intro | exact i_in hA (by assumption) | (subst hA; simp [std]; done) | (split <;> first | exact True.intro | rfl | assumption) | (subst hA; simp [std]; omega)) ?_)
  split
  · rename_i h
    have h2 : A.or (A.cmp .neq (A.len TyS.str l) 4) (A.scmp .neq (A.get TyS.str l 0) moveB) = true := h
    rw [mtB_eq hA l hl0] at h2
    have h3 : mtB l = false := by simpa using h2
    rw [h3] at hr
    cases hr
    cbv
    subst hR
    simp [LeP, LeD, LeP.LePs, planNP, it, bl, st, nilS]
    try rfl
  · rename_i h
    have h2 : A.or (A.cmp .neq (A.len TyS.str l) 4) (A.scmp .neq (A.get TyS.str l 0) moveB) = false := h
    rw [mtB_eq hA l hl0] at h2
    have h3 : mtB l = true := by simpa using h2
    rw [h3, if_pos rfl] at hr
    have h4 : l.length = 4 := by simp only [mtB, Bool.and_eq_true, decide_eq_true_eq] at h3; exact h3.1
    have hsz : ∀ x ∈ l, x.size ≤ 1099511627776 := fun x hx => by rw [hl] at hx; have := pieces_size row x hx; omega
    have hL1 : A.lsub TyS.str l 1 2 = [l.getD 1 .empty] := by
      subst hA; rw [s_lsub]
      match l, h4 with
      | [a, b, c, d], _ => rfl
    have hL2 : A.lsub TyS.str l 2 (A.len TyS.str l) = [l.getD 2 .empty, l.getD 3 .empty] := by
      subst hA; rw [s_lsub]
      match l, h4 with
      | [a, b, c, d], _ => rfl
    have ho1 : A.subOk 1 2 (A.len TyS.str l) := by subst hA; rw [s_subOk, s_len]; omega
    have ho2 : A.subOk 2 (A.len TyS.str l) (A.len TyS.str l) := by subst hA; rw [s_subOk, s_len]; omega
    cbv
    refine ⟨ho1, ?_⟩
    refine CallK.mk _ rfl (fun _ => by rw [hP]; exact c47 (A.lsub TyS.str l 1 2) (by rw [hL1]; simp)) ?_
    cbv
    refine ⟨ho2, ?_⟩
    refine CallK.mk _ rfl (fun _ => by rw [hP]; exact c48 (A.lsub TyS.str l 2 (A.len TyS.str l)) (by rw [hL2]; simp) (by rw [hL2]; intro x hx; apply hsz; simp at hx; rcases hx with rfl | rfl <;> (match l, h4 with | [a, b, c, d], _ => simp))) ?_
    cbv
    have hn0 : A.get TyS.int (nm (A.lsub TyS.str l 1 2)) 0 = numS (l.getD 1 .empty) := by rw [hL1, hnm]; subst hA; rfl
    have ht0 : A.get TyS.str (tx (A.lsub TyS.str l 2 (A.len TyS.str l))) 0 = textS (l.getD 2 .empty) := by rw [hL2, htx]; subst hA; rfl
    have ht1 : A.get TyS.str (tx (A.lsub TyS.str l 2 (A.len TyS.str l))) 1 = textS (l.getD 3 .empty) := by rw [hL2, htx]; subst hA; rfl
    have i1 : A.inb 0 (A.len TyS.int (nm (A.lsub TyS.str l 1 2))) := by rw [hL1, hnm]; subst hA; simp [std]
    have i2 : A.inb 0 (A.len TyS.str (tx (A.lsub TyS.str l 2 (A.len TyS.str l)))) := by rw [hL2, htx]; subst hA; simp [std]
    have i3 : A.inb 1 (A.len TyS.str (tx (A.lsub TyS.str l 2 (A.len TyS.str l)))) := by rw [hL2, htx]; subst hA; simp [std]
    refine ⟨i1, i2, i3, ?_⟩
    have hp : (⟨A.get TyS.int (nm (A.lsub TyS.str l 1 2)) 0, A.get TyS.str (tx (A.lsub TyS.str l 2 (A.len TyS.str l))) 0, A.get TyS.str (tx (A.lsub TyS.str l 2 (A.len TyS.str l))) 1, []⟩ : Plan) = mkP l := by rw [hn0, ht0, ht1, mkP]
    obtain ⟨b, hb⟩ : ∃ b, b = beginsP (mkP l) := ⟨_, rfl⟩
    refine CallK.le [planPV ⟨A.get TyS.int (nm (A.lsub TyS.str l 1 2)) 0, A.get TyS.str (tx (A.lsub TyS.str l 2 (A.len TyS.str l))) 0, A.get TyS.str (tx (A.lsub TyS.str l 2 (A.len TyS.str l))) 1, []⟩] (bl b) rfl (fun _ => by cbv; and_intros <;> first | trivial | rfl) (fun _ => by rw [hP, hp]; exact begins_ok _ b hb) ?_
    cbv
    have hnl : (nm (A.lsub TyS.str l 1 2)) = [(mkP l).Format] := by rw [hL1, hnm]; rfl
    have htl : (tx (A.lsub TyS.str l 2 (A.len TyS.str l))) = [(mkP l).Rules, (mkP l).Routes] := by rw [hL2, htx]; rfl
    repeat (refine And.intro (by first | exact True.intro | exact i_in hA (by assumption) | (subst hA; simp [std]; done) | (split <;> first | exact True.intro | rfl | assumption) | (subst hA; simp [std]; omega)) ?_)
    refine CallK.mk _ rfl (fun hc => by rw [hP]; exact c20 moveB _ _ (by decide) (by rw [hnl]; simp) (by rw [htl]; simp) (by rw [hnl]; intro n hn; have := (begins_fit (hb.symm.trans hc)).1; simp at hn; rw [hn]; omega) (fun t ht => by rw [htl] at ht; have := (begins_fit (hb.symm.trans hc)).2; simp at ht; rcases ht with rfl | rfl <;> omega)) ?_
    cbv
    have hco : A.catOk row ⟨#[10]⟩ := by subst hA; rw [s_catOk, size1']; omega
    repeat (refine And.intro (by first | (split <;> first | exact True.intro | exact hco) | exact True.intro | exact i_in hA (by assumption) | (subst hA; simp [std]; done) | (split <;> first | exact True.intro | rfl | assumption) | (subst hA; simp [std]; omega)) ?_)
    have hX : A.and b (A.scmp .eql (ln moveB (nm (A.lsub TyS.str l 1 2)) (tx (A.lsub TyS.str l 2 (A.len TyS.str l)))) (A.cat row ⟨#[10]⟩)) = rb := by
      have hq := congrArg Prod.snd hr
      simp only [] at hq
      rw [hq, hln, okP, ← hb, hnl, htl]
      subst hA
      rw [s_land, s_seql, s_cat]
    have hq := congrArg Prod.fst hr
    simp only [← hp] at hq
    injection hq with q1 q2 q3 q4
    subst hR
    simp only [LeP, LeD, LeP.LePs, planNP, it, bl, st, nilS]
    exact ⟨⟨⟨trivial, q1.symm⟩, q2.symm, q3.symm, trivial, trivial⟩, hX, trivial⟩
end Go.PL
namespace Go.PL
set_option linter.unusedSimpArgs false
set_option linter.unusedVariables false
set_option linter.unusedSectionVars false
open Tys (Ty U)
open Enc (sz enc dflt tb ofB toB)
open Dec (dec dok)
set_option maxRecDepth 100000
open Go.Proofs
variable [GM]
def kindOf (l : List ByteArray) : Option Nat := (List.range' 1 8).find? (mt l)
def deedS (row : ByteArray) : Deed × Bool := match kindOf (pieces row) with
  | some k => (mkD (pieces row) k, okD row (kw k) (mkD (pieces row) k))
  | none => (⟨0, [], []⟩, false)
theorem kw_inj : ∀ a b : Fin 8, kw (a.val + 1) = kw (b.val + 1) → a = b := by decide
theorem deedR_S (row : ByteArray) : deedR row (deedS row) := by
  refine ⟨fun k h1 h8 hm => ?_, fun h => ?_⟩
  · unfold deedS
    have hs : (kindOf (pieces row)).isSome := by
      simp only [kindOf, List.find?_isSome, List.mem_range']
      exact ⟨k, ⟨k - 1, by omega, by omega⟩, hm⟩
    obtain ⟨k', hk'⟩ := Option.isSome_iff_exists.1 hs
    have hm' := List.find?_some hk'
    have hr := List.mem_of_find?_eq_some hk'
    simp only [List.mem_range'] at hr
    obtain ⟨i, hi, hk⟩ := hr
    have e1 : (pieces row)[0]? = some (kw k) := by simp only [mt, Bool.and_eq_true, decide_eq_true_eq] at hm; exact hm.1
    have e2 : (pieces row)[0]? = some (kw k') := by simp only [mt, Bool.and_eq_true, decide_eq_true_eq] at hm'; exact hm'.1
    rw [e1] at e2
    have e3 := kw_inj ⟨k - 1, by omega⟩ ⟨k' - 1, by omega⟩ (by
      simp only []
      rw [show k - 1 + 1 = k by omega, show k' - 1 + 1 = k' by omega]
      exact Option.some.inj e2)
    have : k = k' := by have := congrArg Fin.val e3; simp only [] at this; omega
    rw [hk', this]
  · unfold deedS
    have : kindOf (pieces row) = none := by
      simp only [kindOf, List.find?_eq_none, List.mem_range']
      rintro k ⟨i, hi, rfl⟩
      simp [h (1 + i) (by omega) (by omega)]
    rw [this]
theorem deed_S (row : ByteArray) (hs : row.size ≤ 1073741824) : PFun cx 25 [st row] (.tu [deedPV (deedS row).1, bl (deedS row).2]) := deed_ok row _ (deedR_S row) hs
def nl : ByteArray := ⟨#[10]⟩
def cutR (s : ByteArray) : ByteArray := ⟨(Lib.cut s.data.toList nl.data.toList).1.toArray⟩
def cutM (s : ByteArray) : ByteArray := ⟨(Lib.cut s.data.toList nl.data.toList).2.1.toArray⟩
def cutE (s : ByteArray) : Bool := (Lib.cut s.data.toList nl.data.toList).2.2
theorem cutR_size (s : ByteArray) : (cutR s).size ≤ s.size := by
  show (Lib.cut s.data.toList nl.data.toList).1.toArray.size ≤ _
  unfold Lib.cut
  split
  · simp; exact Nat.min_le_right _ _
  · simp
theorem index_lt : ∀ (l sub : List UInt8), sub ≠ [] → Lib.index l sub < l.length
  | [], sub, h => by cases sub <;> simp_all [Lib.index]
  | b :: l, sub, h => by
    have := index_lt l sub h
    simp only [Lib.index, List.length_cons]
    split
    · omega
    · split <;> omega
theorem cutM_size (s : ByteArray) (h : cutE s = true) : (cutM s).size < s.size := by
  have hi := index_lt s.data.toList nl.data.toList (by decide)
  unfold cutE Lib.cut at h
  show (Lib.cut s.data.toList nl.data.toList).2.1.toArray.size < _
  unfold Lib.cut
  split at h
  · rename_i h0
    rw [if_pos h0]
    have e : s.data.toList.length = s.size := by simp
    have e2 : nl.data.toList.length = 1 := rfl
    simp only [List.size_toArray, List.length_drop, e, e2] at hi ⊢
    omega
  · cases h
structure PR where
  p : Plan
  e : Int
  no : Int
def parseF : Nat → ByteArray → Plan → Nat → PR
  | 0, _, p, _ => ⟨p, 0, 0⟩
  | f + 1, rest, p, no => if rest.size = 0 then ⟨p, 0, 0⟩ else
    if !cutE rest || !(deedS (cutR rest)).2 || decide (p.Deeds.length = 200) then ⟨⟨0, .empty, .empty, []⟩, 250, (no + 1 : Nat)⟩
    else parseF f (cutM rest) ⟨p.Format, p.Rules, p.Routes, p.Deeds ++ [(deedS (cutR rest)).1]⟩ (no + 1)
def parseS (s : ByteArray) : PR := if cutE s && (beginS (cutR s)).2 then parseF s.size (cutM s) (beginS (cutR s)).1 1 else ⟨⟨0, .empty, .empty, []⟩, 250, 1⟩
theorem begin_deeds (row : ByteArray) : (beginS row).1.Deeds = [] := by unfold beginS; split <;> rfl
theorem ba_empty {s : ByteArray} (h : s.size = 0) : s = ⟨#[]⟩ := by
  obtain ⟨d⟩ := s
  have : d = #[] := Array.eq_empty_of_size_eq_zero h
  rw [this]
theorem parse_ok (s : ByteArray) (r : PR) (hr : r = parseS s) (hs : s.size ≤ 1073741824) : PFun cx 9 [st s] (.tu [planPV r.p, it .i64 r.e, it .i64 r.no]) := by
  obtain ⟨cR, hcR⟩ : ∃ f, f = cutR := ⟨_, rfl⟩
  obtain ⟨cM, hcM⟩ : ∃ f, f = cutM := ⟨_, rfl⟩
  obtain ⟨cE, hcE⟩ : ∃ f, f = cutE := ⟨_, rfl⟩
  have c23 : ∀ s : ByteArray, s.size ≤ 1073741824 → PFun cx 23 [st s, st nl] (.tu [st (cR s), st (cM s), bl (cE s)]) := fun s hs => by rw [hcR, hcM, hcE]; exact Cut_ok s nl (by omega)
  obtain ⟨bF, hbF⟩ : ∃ f : ByteArray → Int, f = fun s => (beginS s).1.Format := ⟨_, rfl⟩
  obtain ⟨bU, hbU⟩ : ∃ f : ByteArray → ByteArray, f = fun s => (beginS s).1.Rules := ⟨_, rfl⟩
  obtain ⟨bO, hbO⟩ : ∃ f : ByteArray → ByteArray, f = fun s => (beginS s).1.Routes := ⟨_, rfl⟩
  obtain ⟨bK, hbK⟩ : ∃ f : ByteArray → Bool, f = fun s => (beginS s).2 := ⟨_, rfl⟩
  have c24 : ∀ s : ByteArray, s.size ≤ 1073741824 → PFun cx 24 [st s] (.tu [.ag [it .i64 (bF s), st (bU s), st (bO s), nilS], bl (bK s)]) := fun s hs => by rw [hbF, hbU, hbO, hbK]; exact begin_ok s _ rfl hs
  obtain ⟨dK, hdK⟩ : ∃ f : ByteArray → Int, f = fun s => (deedS s).1.Kind := ⟨_, rfl⟩
  obtain ⟨dN, hdN⟩ : ∃ f : ByteArray → List Int, f = fun s => (deedS s).1.Nums := ⟨_, rfl⟩
  obtain ⟨dT, hdT⟩ : ∃ f : ByteArray → List ByteArray, f = fun s => (deedS s).1.Texts := ⟨_, rfl⟩
  obtain ⟨dB, hdB⟩ : ∃ f : ByteArray → Bool, f = fun s => (deedS s).2 := ⟨_, rfl⟩
  have c25 : ∀ s : ByteArray, s.size ≤ 1073741824 → PFun cx 25 [st s] (.tu [.ag [it .i64 (dK s), .d (.sl .int (dN s)), .d (.sl .str (dT s))], bl (dB s)]) := fun s hs => by rw [hdK, hdN, hdT, hdB]; exact deed_S s hs
  refine PFun.walk cx_ok Tryd.func9 rfl rfl rfl fun A P R hA hP hR => ?_
  cbv
  refine LoopK.mk (X := {x : Option (ByteArray × Nat × Plan × Nat) // match x with | none => True | some (rest, no, p, n) => rest.size ≤ s.size ∧ 1 ≤ no ∧ no + rest.size ≤ s.size ∧ n = p.Deeds.length ∧ p.Deeds.length ≤ 200 ∧ ∃ f, rest.size ≤ f ∧ parseF f rest p no = r}) (fun x _ => match x.1 with | none => [(7, st s), (6, it .i64 0)] | some (rest, no, p, n) => [(7, st rest), (6, it .i64 no)]) (fun x gh => match x.1 with | none => [⟨2, 0, .box 24 [it .i64 0, st .empty, st .empty, nilS]⟩, ⟨5, 1, .box 24 [it .i64 0, st .empty, st .empty, nilS]⟩] | some (rest, no, p, n) => [⟨2, 0, .box 24 [it .i64 0, st .empty, st .empty, nilS]⟩, ⟨5, 1, .box 24 [it .i64 p.Format, st p.Rules, st p.Routes, .os 900 gh .deed p.Deeds]⟩, ⟨900, gh, .tok 42 .deed n⟩]) (fun x => match x.1 with | none => s.size + 2 | some (rest, no, p, n) => rest.size) ⟨none, trivial⟩ [] ⟨?_, ?_, ?_⟩ ?_
  · (cbv <;> (try (and_intros <;> (first | exact True.intro | exact i_succ hA (by omega) | rfl | simp))))
  · (cbv <;> (try (and_intros <;> (first | exact True.intro | rfl | simp))))
  · cbv
  intro ⟨x, hx⟩ gh g K hK
  cases x with
  | none =>
    cbv
    repeat (refine And.intro (by first | exact True.intro | exact i_in hA (by assumption) | (subst hA; simp [std]; done) | (split <;> first | exact True.intro | rfl | assumption) | (subst hA; simp [std]; omega)) ?_)
    split
    · rename_i h
      cbv
      refine CallK.mk _ rfl (fun _ => by rw [hP]; exact c23 s (by omega)) ?_
      cbv
      split
      · rename_i h'
        cbv
        have hRs : (cR s).size ≤ s.size := by rw [hcR]; exact cutR_size s
        have hMs : cE s = true → (cM s).size < s.size := by rw [hcE, hcM]; exact cutM_size s
        refine CallK.mk _ rfl (fun _ => by rw [hP]; exact c24 (cR s) (by omega)) ?_
        cbv
        repeat (refine And.intro (by first | exact True.intro | exact i_in hA (by assumption) | (subst hA; simp [std]; done) | (split <;> first | exact True.intro | rfl | assumption) | (subst hA; simp [std]; omega)) ?_)
        split
        · rename_i h2
          have h3 : A.and (cE s) (bK (cR s)) = true := h2
          have h4 : cE s = true ∧ bK (cR s) = true := by subst hA; rwa [s_land, Bool.and_eq_true] at h3
          cbv
          have hM := hMs h4.1
          refine hK _ ⟨some (cM s, 1, ⟨bF (cR s), bU (cR s), bO (cR s), []⟩, 0), by omega, by omega, by omega, rfl, by simp, s.size, by omega, ?_⟩ [] ?_ ⟨?_, ?_, ?_⟩
          · simp only [hcE, hbK, hcR] at h4
            rw [hr, parseS, h4.1, h4.2, hbF, hbU, hbO, hcM, hcR]
            simp only [Bool.and_self, if_true]
            rw [← begin_deeds (cutR s)]
          · simp only []; omega
          · (cbv <;> (try (and_intros <;> (first | exact True.intro | exact i_succ hA (by omega) | exact i_succ (i := 0) hA (by omega) | rfl | simp))))
          · (cbv <;> (try (and_intros <;> (first | exact True.intro | exact i_succ (i := 0) hA (by omega) | rfl | simp))))
          · cbv
        · rename_i h2
          have h3 : A.and (cE s) (bK (cR s)) = false := h2
          have h4 : (cE s && bK (cR s)) = false := by subst hA; rwa [s_land] at h3
          cbv
          rw [hcE, hbK, hcR] at h4
          rw [parseS, h4] at hr
          subst hr hR
          simp [LeP, LeD, LeP.LePs, planPV, it, st]
          try rfl
      · rename_i h'
        have h2 : A.cmp .eql (A.ar .add .i64 0 1) 1 = false := h'
        exfalso; subst hA; revert h2; decide
    · rename_i h
      have h2 : A.or (A.scmp .neq s ⟨#[]⟩) (A.cmp .eql 0 0) = false := h
      exfalso; subst hA; rw [s_lor, Bool.or_eq_false_iff] at h2; exact absurd h2.2 (by decide)
  | some x =>
    obtain ⟨rest, no, ⟨pF, pU, pO, pD⟩, n⟩ := x
    obtain ⟨h1, h2, h3, h4, h5, f, h6, h7⟩ := hx
    cbv
    repeat (refine And.intro (by first | exact True.intro | exact i_in hA (by assumption) | (subst hA; simp [std]; done) | (split <;> first | exact True.intro | rfl | assumption) | (subst hA; simp [std]; omega)) ?_)
    split
    · rename_i h
      cbv
      refine CallK.mk _ rfl (fun _ => by rw [hP]; exact c23 rest (by omega)) ?_
      cbv
      split
      · rename_i h'
        have h2 : A.cmp .eql (A.ar .add .i64 (Int.ofNat no) 1) 1 = true := h'
        exfalso; rw [i_succ hA (by omega)] at h2; subst hA; simp [std, cmpStd] at h2; omega
      · rename_i h'
        cbv
        have hRs : (cR rest).size ≤ rest.size := by rw [hcR]; exact cutR_size rest
        have hMs : cE rest = true → (cM rest).size < rest.size := by rw [hcE, hcM]; exact cutM_size rest
        refine CallK.mk _ rfl (fun _ => by rw [hP]; exact c25 (cR rest) (by omega)) ?_
        cbv
        repeat (refine And.intro (by first | exact True.intro | exact i_in hA (by assumption) | (subst hA; simp [std]; done) | (split <;> first | exact True.intro | rfl | assumption) | (subst hA; simp [std]; omega)) ?_)
        have hsc : A.scmp .neq rest ⟨#[]⟩ = true := by
          have h2 : A.or (A.scmp .neq rest ⟨#[]⟩) (A.cmp .eql (Int.ofNat no) 0) = true := h
          subst hA; rw [s_lor, Bool.or_eq_true] at h2
          rcases h2 with h2 | h2
          · exact h2
          · exfalso; simp [std, cmpStd] at h2; omega
        have hne : rest.size ≠ 0 := by
          subst hA; rw [s_sneq, decide_eq_true_eq] at hsc
          exact fun e => hsc (ba_empty e)
        obtain ⟨f, rfl⟩ : ∃ f', f = f' + 1 := ⟨f - 1, by omega⟩
        rw [parseF, if_neg hne] at h7
        split
        · rename_i h8
          have h9 : A.or (A.or (A.not (cE rest)) (A.not (dB (cR rest)))) (A.cmp .eql (A.len TyS.deed pD) 200) = true := h8
          have h10 : (!cE rest || !dB (cR rest) || decide (pD.length = 200)) = true := by
            subst hA
            rw [s_lor, s_lor, s_not, s_not, s_eql, s_len] at h9
            rw [← h9]; congr 1
            rw [Bool.eq_iff_iff]; simp; omega
          cbv
          rw [hcE, hdB, hcR] at h10
          simp only [] at h7
          rw [if_pos h10] at h7
          subst h7 hR
          have := i_succ (A := A) (i := no) hA (by omega)
          simp [LeP, LeD, LeP.LePs, planPV, it, st]
          exact ⟨rfl, this⟩
        · rename_i h8
          have h9 : A.or (A.or (A.not (cE rest)) (A.not (dB (cR rest)))) (A.cmp .eql (A.len TyS.deed pD) 200) = false := h8
          have h10 : (!cE rest || !dB (cR rest) || decide (pD.length = 200)) = false := by
            subst hA
            rw [s_lor, s_lor, s_not, s_not, s_eql, s_len] at h9
            rw [← h9]; congr 1
            rw [Bool.eq_iff_iff]; simp; omega
          cbv
          have h11 := h10
          rw [hcE, hdB, hcR] at h11
          simp only [] at h7
          rw [if_neg (by rw [h11]; simp)] at h7
          simp only [Bool.or_eq_false_iff, Bool.not_eq_false', decide_eq_false_iff_not] at h10
          have hM := hMs h10.1.1
          have hnl : n = A.nlen TyS.deed pD := by subst hA; simpa [std] using h4
          have hpl : pD.length ≤ 200 := h5
          have happ : A.appOk TyS.deed 56 pD [⟨dK (cR rest), dN (cR rest), dT (cR rest)⟩] := by subst hA; simp [std]; omega
          refine ⟨⟨True.intro, trivial⟩, hnl, happ, ?_⟩
          refine hK _ ⟨some (cM rest, no + 1, ⟨pF, pU, pO, A.app TyS.deed pD [⟨dK (cR rest), dN (cR rest), dT (cR rest)⟩]⟩, A.nlen TyS.deed (A.app TyS.deed pD [⟨dK (cR rest), dN (cR rest), dT (cR rest)⟩])), by omega, by omega, by omega, ?_, ?_, f, by omega, ?_⟩ [(900, 67, g + 7)] ?_ ⟨?_, ?_, ?_⟩
          · subst hA; rfl
          · simp only []; subst hA; simp [std]; omega
          · rw [← h7, hcM, hdK, hdN, hdT, hcR]
            subst hA
            rw [s_app]
          · simp only []; omega
          · (cbv <;> (try (and_intros <;> (first | exact True.intro | exact i_succ hA (by omega) | rfl | simp))))
          · (cbv <;> (try (and_intros <;> (first | exact True.intro | rfl | simp))))
          · cbv
    · rename_i h
      have h2 : A.or (A.scmp .neq rest ⟨#[]⟩) (A.cmp .eql (Int.ofNat no) 0) = false := h
      cbv
      have h8 : rest.size = 0 := by
        subst hA; rw [s_lor, Bool.or_eq_false_iff, s_sneq, decide_eq_false_iff_not, Classical.not_not] at h2
        rw [h2.1]; rfl
      have h9 : r = ⟨⟨pF, pU, pO, pD⟩, 0, 0⟩ := by
        rw [← h7]
        cases f with
        | zero => rfl
        | succ f => rw [parseF, if_pos h8]
      subst h9 hR
      simp [LeP, LeD, LeP.LePs, planPV, it, st]
end Go.PL
namespace Go.PL
set_option linter.unusedSimpArgs false
set_option linter.unusedVariables false
set_option linter.unusedSectionVars false
open Tys (Ty U)
open Enc (sz enc dflt tb ofB toB)
open Dec (dec dok)
set_option maxRecDepth 100000
open Go.Proofs
variable [GM]
theorem decB_short : ∀ (k n : Nat), n < 10 ^ (k + 1) → (decB n).size ≤ k + 1
  | 0, n, h => by
    unfold decB
    rw [if_pos (by simpa using h), size1']; omega
  | k + 1, n, h => by
    unfold decB
    split
    · rw [size1']; omega
    · have := decB_short k (n / 10) (by rw [Nat.pow_succ] at h; omega)
      rw [ByteArray.size_append, size1']; omega
theorem lnN_short : ∀ ns : List Int, (∀ n ∈ ns, 0 ≤ n ∧ n ≤ 1099511627776) → (lnN ns).length ≤ ns.length * 14
  | [], _ => by simp [lnN]
  | n :: ns, h => by
    have := lnN_short ns fun m hm => h m (by simp [hm])
    have h0 := h n (by simp)
    have h1 := decB_short 12 n.toNat (by have : (10 : Nat) ^ 13 = 10000000000000 := rfl; omega)
    have h2 : (decI n).data.toList.length = (decB n.toNat).size := by simp [decI]
    simp only [lnN, List.flatMap_cons, List.length_append, List.length_cons, h2] at this ⊢
    omega
theorem line_short {w : ByteArray} {ns : List Int} {ts : List ByteArray} (hw : w.size ≤ 10) (hn : ns.length ≤ 4) (ht : ts.length ≤ 4) (h1 : ∀ n ∈ ns, 0 ≤ n ∧ n ≤ 1099511627776) (h2 : ∀ t ∈ ts, t.size ≤ 16384) : (lnB w ns ts).size ≤ 200000 := by
  have a := lnN_short ns h1
  have b := lnT_len 16384 ts h2
  have c : (lnT ts).length ≤ 4 * (2 * 16384 + 2) := Nat.le_trans b (Nat.mul_le_mul_right _ ht)
  have e : w.data.toList.length = w.size := by simp
  show (lineL w ns ts).toArray.size ≤ _
  simp only [lineL, List.size_toArray, List.length_append, List.length_singleton, e]
  omega
def lineD (d : Deed) : ByteArray := lnB (kw d.Kind.toNat) d.Nums d.Texts
def headP (p : Plan) : ByteArray := lnB moveB [p.Format] [p.Rules, p.Routes]
def textL (p : Plan) : List UInt8 := (headP p).data.toList ++ p.Deeds.flatMap fun d => (lineD d).data.toList
def printS (p : Plan) : ByteArray × Int := if rightP p = true then (⟨(textL p).toArray⟩, 0) else (.empty, 1)
theorem rightP_fit {p : Plan} (h : rightP p = true) : beginsP p = true ∧ p.Deeds.length ≤ 200 ∧ ∀ d ∈ p.Deeds, rightD d = true := by
  simpa [rightP] using h
theorem rightD_lens {d : Deed} (h : rightD d = true) : d.Nums.length ≤ 3 ∧ d.Texts.length ≤ 2 := by
  unfold rightD at h
  rw [kinds_eq] at h
  split at h
  · rename_i n t hk
    split at hk
    · cases hk
      simp only [Bool.and_eq_true, beq_iff_eq] at h
      have := kn_le d.Kind.toNat
      have := kt_le d.Kind.toNat
      omega
    · cases hk
  · cases h
theorem print_ok (p : Plan) (r : ByteArray × Int) (hr : r = printS p) (h : ∀ d ∈ p.Deeds, smallD d) (hl : p.Deeds.length ≤ 4611686018427387904) : PFun cx 8 [planPV p] (.tu [st r.1, it .i64 r.2]) := by
  obtain ⟨pF, pU, pO, ds⟩ := p
  simp only [] at h hl
  obtain ⟨b, hb⟩ : ∃ b, b = rightP ⟨pF, pU, pO, ds⟩ := ⟨_, rfl⟩
  obtain ⟨r1, r2⟩ := r
  obtain ⟨ln, hln, c20⟩ : ∃ f, f = lnB ∧ ∀ (w : ByteArray) (ns : List Int) (ts : List ByteArray), w.size ≤ 10 → ns.length ≤ 4 → ts.length ≤ 4 → (∀ n ∈ ns, 0 ≤ n ∧ n ≤ 1099511627776) → (∀ t ∈ ts, t.size ≤ 16384) → PFun cx 20 [st w, .d (.sl .int ns), .d (.sl .str ts)] (st (f w ns ts)) := ⟨_, rfl, line_b⟩
  obtain ⟨kwF, hkw⟩ : ∃ f : Int → ByteArray, f = fun n => kw n.toNat := ⟨_, rfl⟩
  obtain ⟨knF, hkn⟩ : ∃ f : Int → Int, f = fun n => ((kn n.toNat : Nat) : Int) := ⟨_, rfl⟩
  obtain ⟨ktF, hkt⟩ : ∃ f : Int → Int, f = fun n => ((kt n.toNat : Nat) : Int) := ⟨_, rfl⟩
  obtain ⟨isF, his⟩ : ∃ f : Int → Bool, f = isK := ⟨_, rfl⟩
  refine PFun.walk cx_ok Tryd.func8 rfl rfl rfl fun A P R hA hP hR => ?_
  have hlook : ∀ n, lookC A (.int .i64 n) shapesM (.ag [st .empty, it .i64 0, it .i64 0]) fun q b => LeQ q (shp (kwF n) (knF n) (ktF n)) ∧ b = isF n := by
    intro n; rw [hkw, hkn, hkt, his]; exact shapes_look hA n
  cbv
  refine CallK.mk _ rfl (fun _ => by rw [hP]; exact Right_ok ⟨pF, pU, pO, ds⟩ b hb h hl) ?_
  cbv
  split
  · rename_i h1
    have h2 : b = false := by
      have h2 : A.not b = true := h1
      subst hA; rw [s_not] at h2; simpa using h2
    cbv
    rw [printS, ← hb, h2] at hr
    cases hr
    subst hR
    simp [LeP, LeD, LeP.LePs, it, st]
    try rfl
  · rename_i h1
    have h2 : b = true := by
      have h2 : A.not b = false := h1
      subst hA; rw [s_not] at h2; simpa using h2
    rw [printS, ← hb, h2, if_pos rfl] at hr
    obtain ⟨f1, f2, f3⟩ := rightP_fit (hb.symm.trans h2)
    obtain ⟨f4, f5, f6⟩ := begins_fit f1
    simp only [] at f2 f3 f4 f5 f6
    cbv
    repeat (refine And.intro (by first | exact ⟨True.intro, True.intro⟩ | exact ⟨True.intro, True.intro, True.intro⟩ | exact True.intro | exact i_in hA (by assumption) | (subst hA; simp [std]; done) | (split <;> first | exact True.intro | rfl | assumption) | (subst hA; simp [std]; omega)) ?_)
    obtain ⟨hd, hhd⟩ : ∃ hd, hd = ln moveB [pF] [pU, pO] := ⟨_, rfl⟩
    have hdE : hd = headP ⟨pF, pU, pO, ds⟩ := by rw [hhd, hln]; rfl
    have hd1 : ∀ n ∈ [pF], 0 ≤ n ∧ n ≤ 1099511627776 := fun n hn => by simp at hn; rcases f4 with h | h <;> omega
    have hd2 : ∀ t ∈ [pU, pO], t.size ≤ 16384 := fun t ht => by simp at ht; rcases ht with rfl | rfl <;> omega
    have hds : hd.size ≤ 200000 := by rw [hdE]; exact line_short (by decide) (by simp) (by simp) hd1 hd2
    refine CallK.mk (st hd) rfl (fun _ => by rw [hP, hhd]; exact c20 moveB [pF] [pU, pO] (by decide) (by simp) (by simp) hd1 hd2) ?_
    cbv
    refine wsF hP 4 2 hd (by omega) rfl rfl fun b1 n1 m1 hb1 hn1 => ?_
    cbv
    obtain ⟨T, hT⟩ : ∃ T, T = textL ⟨pF, pU, pO, ds⟩ := ⟨_, rfl⟩
    rw [← hT] at hr
    have hb1l : b1.length ≤ 200000 := by rw [hb1]; simpa using hds
    refine LoopK.mk (X := {p : Nat × List UInt8 × Nat // p.1 ≤ ds.length ∧ p.2.2 = p.2.1.length ∧ p.2.1.length ≤ 200000 * (p.1 + 1) ∧ p.2.1 ++ (ds.drop p.1).flatMap (fun d => (lineD d).data.toList) = T}) (fun p gh => [(23, it .i64 p.1.1)]) (fun p gh => [⟨4, 2, .box 50 [.bx 4 2 0, .os 900 gh .byte p.1.2.1]⟩, ⟨900, gh, .tok 5 .byte p.1.2.2⟩]) (fun p => ds.length - p.1.1) ⟨(0, b1, n1), by simp [hn1, hT, textL, hb1, ← hdE]; simpa using hds⟩ [(900, 19, 3)] ⟨?_, ?_, ?_⟩ ?_
    · (cbv <;> (try (and_intros <;> (first | exact True.intro | exact i_succ hA (by omega) | rfl | simp))))
    · (cbv <;> (try (and_intros <;> (first | exact True.intro | rfl | simp))))
    · cbv
    intro ⟨⟨i, bs, n⟩, hi, hn, hbl, hinv⟩ gh g K hK
    simp only [] at hi hn hinv hbl
    cbv
    split
    · rename_i h5
      have hlt := i_lt hA h5
      obtain ⟨x, hx, hxm, hd, _⟩ := i_at hlt
      have hgx : A.get TyS.deed ds (Int.ofNat i) = x := i_get (t := TyS.deed) hA hx
      have hxr := f3 x hxm
      rw [hd] at hinv
      cbv
      refine ⟨i_in hA hlt, ?_⟩
      refine CallK.mem 27 rfl rfl [] [] [] (.mp 2000 1) [⟨2000, 1, .map shapesM⟩] (fun _ => by rw [hP]; exact shapes_ok) rfl (fun _ => trivial) trivial rfl rfl ?_
      cbv
      refine LookK.one _ _ (hlook _) ?_
      cbv
      obtain ⟨lx, hlx⟩ : ∃ lx, lx = ln (kwF (A.get TyS.deed ds (Int.ofNat i)).Kind) (A.get TyS.deed ds (Int.ofNat i)).Nums (A.get TyS.deed ds (Int.ofNat i)).Texts := ⟨_, rfl⟩
      have hlxE : lx = lineD x := by rw [hlx, hgx, hln, hkw]; rfl
      have e1 := rightD_lens hxr
      obtain ⟨e2, e3⟩ := rightD_nums hxr
      have e4 : ∀ t ∈ x.Texts, t.size ≤ 16384 := fun t ht => by have := e3 t ht; omega
      have hlxs : lx.size ≤ 200000 := by rw [hlxE]; exact line_short (kw_size _) (by omega) (by omega) e2 e4
      have g1 : (A.get TyS.deed ds (Int.ofNat i)).Nums.length ≤ 4 := by rw [hgx]; omega
      have g2 : (A.get TyS.deed ds (Int.ofNat i)).Texts.length ≤ 4 := by rw [hgx]; omega
      have g3 : ∀ n ∈ (A.get TyS.deed ds (Int.ofNat i)).Nums, 0 ≤ n ∧ n ≤ 1099511627776 := by rw [hgx]; exact e2
      have g4 : ∀ t ∈ (A.get TyS.deed ds (Int.ofNat i)).Texts, t.size ≤ 16384 := by rw [hgx]; exact e4
      refine CallK.mk (st lx) rfl (fun _ => by rw [hP, hlx]; exact c20 _ _ _ (by rw [hkw]; exact kw_size _) g1 g2 g3 g4) ?_
      cbv
      refine wsU hP 4 2 900 gh bs n lx hn (by omega) rfl rfl rfl fun b2 n2 m2 hb2 hn2 => ?_
      cbv
      refine hK _ ⟨(i + 1, b2, n2), by simp only []; omega, hn2, ?_, ?_⟩ [(900, 37, g + 2)] ?_ ⟨?_, ?_, ?_⟩
      · rw [hb2]; simp only [List.length_append, Array.length_toList]; have : lx.size = lx.data.size := rfl; omega
      · rw [hb2, ← hinv, List.flatMap_cons, hlxE]; simp
      · simp; omega
      · (cbv <;> (try (and_intros <;> (first | exact True.intro | exact i_succ hA (by omega) | rfl | simp))))
      · (cbv <;> (try (and_intros <;> (first | exact True.intro | rfl | simp))))
      · cbv
    · rename_i h5
      rw [i_end (i_ge hA h5)] at hinv
      cbv
      simp only [List.flatMap_nil, List.append_nil] at hinv
      refine strU hP 4 2 900 gh bs n (by omega) rfl rfl rfl fun r hr' => ?_
      cbv
      subst hR
      cases hr
      simp only [LeP, LeD, LeP.LePs, it, st]
      exact ⟨by rw [hr', hinv], ⟨trivial, trivial⟩, trivial⟩
end Go.PL
namespace Go.PL
set_option linter.unusedSimpArgs false
set_option linter.unusedVariables false
set_option linter.unusedSectionVars false
open Tys (Ty U)
open Enc (sz enc dflt tb ofB toB)
open Dec (dec dok)
set_option maxRecDepth 100000
open Go.Proofs
variable [GM]
def cutS (s : ByteArray) (n : Nat) : ByteArray := s.extract 0 (min s.size n)
def fewD (d : Deed) : Deed := ⟨d.Kind, d.Nums.take 5, (d.Texts.take 4).map fun s => cutS s 1002⟩
def fewP (p : Plan) (m : Nat) : Plan := ⟨p.Format, cutS p.Rules 8200, cutS p.Routes 8200, (p.Deeds.take m).map fewD⟩
theorem take_min {α : Type} (l : List α) (n : Nat) : l.take (min l.length n) = l.take n := by
  rcases Nat.le_total l.length n with h | h
  · rw [Nat.min_eq_left h, List.take_of_length_le (Nat.le_refl _), List.take_of_length_le h]
  · rw [Nat.min_eq_right h]
theorem a_lsub {A : Ar} (hA : A = std) {t : TyS} (xs : List (US t)) (n : Nat) : A.lsub t xs 0 (A.mn (A.len t xs) (n : Int)) = xs.take n := by
  subst hA
  show (xs.take (min (xs.length : Int) (n : Int)).toNat).drop 0 = _
  rw [show (min (xs.length : Int) (n : Int)).toNat = min xs.length n by omega, take_min]; rfl
theorem a_ssub {A : Ar} (hA : A = std) (s : ByteArray) (n : Nat) : A.ssub s 0 (A.mn (A.slen s) (n : Int)) = cutS s n := by
  subst hA
  show s.extract 0 (min (s.size : Int) (n : Int)).toNat = _
  rw [show (min (s.size : Int) (n : Int)).toNat = min s.size n by omega]; rfl
theorem a_subOk {A : Ar} (hA : A = std) {t : TyS} (xs : List (US t)) (n : Nat) : A.subOk 0 (A.mn (A.len t xs) (n : Int)) (A.len t xs) := by
  subst hA
  show 0 ≤ 0 ∧ 0 ≤ min (xs.length : Int) (n : Int) ∧ min (xs.length : Int) (n : Int) ≤ (xs.length : Int)
  omega
theorem a_ssubOk {A : Ar} (hA : A = std) (s : ByteArray) (n : Nat) : A.subOk 0 (A.mn (A.slen s) (n : Int)) (A.slen s) := by
  subst hA
  show 0 ≤ 0 ∧ 0 ≤ min (s.size : Int) (n : Int) ∧ min (s.size : Int) (n : Int) ≤ (s.size : Int)
  omega
theorem few_ok (p : Plan) (m0 : Nat) (hm0 : m0 ≤ 1000) : PFun cx 7 [planPV p, it .i64 m0] (planPV (fewP p m0)) := by
  obtain ⟨pF, pU, pO, ds⟩ := p
  obtain ⟨m, hm⟩ : ∃ m : Int, m = (m0 : Int) := ⟨_, rfl⟩
  obtain ⟨R1, hR1⟩ : ∃ R, R = fewP ⟨pF, pU, pO, ds⟩ m0 := ⟨_, rfl⟩
  rw [← hm, ← hR1]
  refine PFun.walk cx_ok Tryd.func7 rfl rfl rfl fun A P R hA hP hR => ?_
  have hD : (A.lsub TyS.deed ds 0 (A.mn (A.len TyS.deed ds) m)) = ds.take m0 := by rw [hm]; exact a_lsub (t := .deed) hA ds m0
  have hU : (A.ssub pU 0 (A.mn (A.slen pU) 8200)) = cutS pU 8200 := a_ssub hA pU 8200
  have hO : (A.ssub pO 0 (A.mn (A.slen pO) 8200)) = cutS pO 8200 := a_ssub hA pO 8200
  have hk1 : A.subOk 0 (A.mn (A.len TyS.deed ds) m) (A.len TyS.deed ds) := by rw [hm]; exact a_subOk (t := .deed) hA ds m0
  have hk2 := a_ssubOk hA pU 8200
  have hk3 := a_ssubOk hA pO 8200
  obtain ⟨T, hT⟩ : ∃ T, T = (ds.take m0).map fewD := ⟨_, rfl⟩
  have hDl : (ds.take m0).length ≤ 1000 := by simp; omega
  cbv
  repeat (refine And.intro (by first | exact hk1 | exact hk2 | exact hk3 | exact True.intro | exact i_in hA (by assumption) | (subst hA; simp [std]; done) | (split <;> first | exact True.intro | rfl | assumption) | (subst hA; simp [std]; omega)) ?_)
  refine LoopK.mk (X := {p : Nat × List Deed × Nat // p.1 ≤ (ds.take m0).length ∧ p.2.2 = p.2.1.length ∧ p.2.1.length ≤ p.1 ∧ p.2.1 ++ ((ds.take m0).drop p.1).map fewD = T}) (fun p gh => [(39, it .i64 p.1.1)]) (fun p gh => [⟨4, 0, .box 24 [it .i64 0, st .empty, st .empty, nilS]⟩, ⟨5, 1, .box 24 [it .i64 pF, st (A.ssub pU 0 (A.mn (A.slen pU) 8200)), st (A.ssub pO 0 (A.mn (A.slen pO) 8200)), .os 900 gh .deed p.1.2.1]⟩, ⟨900, gh, .tok 42 .deed p.1.2.2⟩]) (fun p => (ds.take m0).length - p.1.1) ⟨(0, [], 0), by simp [hT]⟩ [] ⟨?_, ?_, ?_⟩ ?_
  · (cbv <;> (try (and_intros <;> (first | exact True.intro | exact i_succ hA (by omega) | rfl | simp))))
  · (cbv <;> (try (and_intros <;> (first | exact True.intro | rfl | simp))))
  · cbv
  intro ⟨⟨i, acc, n⟩, hi, hn, ha, hinv⟩ gh g K hK
  simp only [] at hi hn hinv ha
  cbv
  split
  · rename_i h
    have hlt0 : i < (A.lsub TyS.deed ds 0 (A.mn (A.len TyS.deed ds) m)).length := i_lt (t := TyS.deed) hA h
    have hin0 := i_in (t := TyS.deed) hA hlt0
    have hlt := hlt0
    rw [hD] at hlt
    obtain ⟨x, hx, hxm, hd, _⟩ := i_at hlt
    have hgx : (A.get TyS.deed (A.lsub TyS.deed ds 0 (A.mn (A.len TyS.deed ds) m)) (Int.ofNat i)) = x := i_get (t := TyS.deed) hA (by rw [hD]; exact hx)
    rw [hd, List.map_cons] at hinv
    have hN : (A.lsub TyS.int (A.get TyS.deed (A.lsub TyS.deed ds 0 (A.mn (A.len TyS.deed ds) m)) (Int.ofNat i)).Nums 0 (A.mn (A.len TyS.int (A.get TyS.deed (A.lsub TyS.deed ds 0 (A.mn (A.len TyS.deed ds) m)) (Int.ofNat i)).Nums) 5)) = x.Nums.take 5 := by rw [hgx]; exact a_lsub (t := .int) hA x.Nums 5
    have hTt : (A.lsub TyS.str (A.get TyS.deed (A.lsub TyS.deed ds 0 (A.mn (A.len TyS.deed ds) m)) (Int.ofNat i)).Texts 0 (A.mn (A.len TyS.str (A.get TyS.deed (A.lsub TyS.deed ds 0 (A.mn (A.len TyS.deed ds) m)) (Int.ofNat i)).Texts) 4)) = x.Texts.take 4 := by rw [hgx]; exact a_lsub (t := .str) hA x.Texts 4
    have hk4 := a_subOk (t := .int) hA (A.get TyS.deed (A.lsub TyS.deed ds 0 (A.mn (A.len TyS.deed ds) m)) (Int.ofNat i)).Nums 5
    have hk5 := a_subOk (t := .str) hA (A.get TyS.deed (A.lsub TyS.deed ds 0 (A.mn (A.len TyS.deed ds) m)) (Int.ofNat i)).Texts 4
    cbv
    refine ⟨hin0, ?_⟩
    repeat (refine And.intro (by first | exact hk4 | exact True.intro | exact i_in hA (by assumption) | (subst hA; simp [std]; done) | (split <;> first | exact True.intro | rfl | assumption) | (subst hA; simp [std]; omega)) ?_)
    refine LoopK.mk (X := {p : Nat × List Int × Nat // p.1 ≤ (x.Nums.take 5).length ∧ p.2.2 = p.2.1.length ∧ p.2.1.length ≤ p.1 ∧ p.2.1 ++ (x.Nums.take 5).drop p.1 = x.Nums.take 5}) (fun p _ => [(54, it .i64 p.1.1)]) (fun p gh' => [⟨4, 0, .box 24 [it .i64 0, st .empty, st .empty, nilS]⟩, ⟨5, 1, .box 24 [it .i64 pF, st (A.ssub pU 0 (A.mn (A.slen pU) 8200)), st (A.ssub pO 0 (A.mn (A.slen pO) 8200)), .os 900 gh .deed acc]⟩, ⟨900, gh, .tok 42 .deed n⟩, ⟨7, g + 1, .box 42 [it .i64 (A.get TyS.deed (A.lsub TyS.deed ds 0 (A.mn (A.len TyS.deed ds) m)) (Int.ofNat i)).Kind, .d (.sl .int (A.get TyS.deed (A.lsub TyS.deed ds 0 (A.mn (A.len TyS.deed ds) m)) (Int.ofNat i)).Nums), .d (.sl .str (A.get TyS.deed (A.lsub TyS.deed ds 0 (A.mn (A.len TyS.deed ds) m)) (Int.ofNat i)).Texts)]⟩, ⟨8, g + 2, .box 42 [it .i64 (A.get TyS.deed (A.lsub TyS.deed ds 0 (A.mn (A.len TyS.deed ds) m)) (Int.ofNat i)).Kind, .os 901 gh' .int p.1.2.1, nilS]⟩, ⟨901, gh', .tok 3 .int p.1.2.2⟩]) (fun p => (x.Nums.take 5).length - p.1.1) ⟨(0, [], 0), by simp⟩ [] ⟨?_, ?_, ?_⟩ ?_
    · (cbv <;> (try (and_intros <;> (first | exact True.intro | exact i_succ hA (by omega) | rfl | simp))))
    · (cbv <;> (try (and_intros <;> (first | exact True.intro | rfl | simp))))
    · cbv
    intro ⟨⟨j, ns, q⟩, hj, hq, hqa, hjv⟩ gh' g' K' hK'
    simp only [] at hj hq hjv hqa
    cbv
    split
    · rename_i h'
      have hjt0 : j < (A.lsub TyS.int (A.get TyS.deed (A.lsub TyS.deed ds 0 (A.mn (A.len TyS.deed ds) m)) (Int.ofNat i)).Nums 0 (A.mn (A.len TyS.int (A.get TyS.deed (A.lsub TyS.deed ds 0 (A.mn (A.len TyS.deed ds) m)) (Int.ofNat i)).Nums) 5)).length := i_lt (t := TyS.int) hA h'
      have hin1 := i_in (t := TyS.int) hA hjt0
      have hjt := hjt0
      rw [hN] at hjt
      obtain ⟨y, hy, hym, hyd, _⟩ := i_at hjt
      have hgy : A.get TyS.int (A.lsub TyS.int (A.get TyS.deed (A.lsub TyS.deed ds 0 (A.mn (A.len TyS.deed ds) m)) (Int.ofNat i)).Nums 0 (A.mn (A.len TyS.int (A.get TyS.deed (A.lsub TyS.deed ds 0 (A.mn (A.len TyS.deed ds) m)) (Int.ofNat i)).Nums) 5)) (Int.ofNat j) = y := i_get (t := TyS.int) hA (by rw [hN]; exact hy)
      rw [hyd] at hjv
      have hl5 : (x.Nums.take 5).length ≤ 5 := by simp; omega
      cbv
      refine ⟨hin1, ?_⟩
      repeat (refine And.intro (by first | exact ⟨True.intro, True.intro⟩ | (subst hA; simp [std, hq]; done) | exact True.intro | exact i_in hA (by assumption) | (subst hA; simp [std]; done) | (split <;> first | exact True.intro | rfl | assumption) | (subst hA; simp [std]; omega)) ?_)
      refine hK' _ ⟨(j + 1, A.app TyS.int ns [A.get TyS.int (A.lsub TyS.int (A.get TyS.deed (A.lsub TyS.deed ds 0 (A.mn (A.len TyS.deed ds) m)) (Int.ofNat i)).Nums 0 (A.mn (A.len TyS.int (A.get TyS.deed (A.lsub TyS.deed ds 0 (A.mn (A.len TyS.deed ds) m)) (Int.ofNat i)).Nums) 5)) (Int.ofNat j)], A.nlen TyS.int (A.app TyS.int ns [A.get TyS.int (A.lsub TyS.int (A.get TyS.deed (A.lsub TyS.deed ds 0 (A.mn (A.len TyS.deed ds) m)) (Int.ofNat i)).Nums 0 (A.mn (A.len TyS.int (A.get TyS.deed (A.lsub TyS.deed ds 0 (A.mn (A.len TyS.deed ds) m)) (Int.ofNat i)).Nums) 5)) (Int.ofNat j)])), by simp only []; omega, ?_, ?_, ?_⟩ [(901, 62, g' + 2)] ?_ ⟨?_, ?_, ?_⟩
      · subst hA; rfl
      · subst hA; simp [std]; omega
      · refine Eq.trans ?_ hjv; rw [hgy]; subst hA; simp [std]
      · simp only []; omega
      · (cbv <;> (try (and_intros <;> (first | exact True.intro | exact i_succ hA (by omega) | rfl | simp))))
      · (cbv <;> (try (and_intros <;> (first | exact True.intro | rfl | simp))))
      · cbv
    · rename_i h'
      have hge0 : (A.lsub TyS.int (A.get TyS.deed (A.lsub TyS.deed ds 0 (A.mn (A.len TyS.deed ds) m)) (Int.ofNat i)).Nums 0 (A.mn (A.len TyS.int (A.get TyS.deed (A.lsub TyS.deed ds 0 (A.mn (A.len TyS.deed ds) m)) (Int.ofNat i)).Nums) 5)).length ≤ j := i_ge (t := TyS.int) hA h'
      rw [hN] at hge0
      rw [i_end hge0, List.append_nil] at hjv
      cbv
      repeat (refine And.intro (by first | exact hk5 | exact True.intro | exact i_in hA (by assumption) | (subst hA; simp [std]; done) | (split <;> first | exact True.intro | rfl | assumption) | (subst hA; simp [std]; omega)) ?_)
      refine LoopK.mk (X := {p : Nat × List ByteArray × Nat // p.1 ≤ (x.Texts.take 4).length ∧ p.2.2 = p.2.1.length ∧ p.2.1.length ≤ p.1 ∧ p.2.1 ++ ((x.Texts.take 4).drop p.1).map (fun s => cutS s 1002) = (x.Texts.take 4).map fun s => cutS s 1002}) (fun p _ => [(73, it .i64 p.1.1)]) (fun p gh'' => [⟨4, 0, .box 24 [it .i64 0, st .empty, st .empty, nilS]⟩, ⟨5, 1, .box 24 [it .i64 pF, st (A.ssub pU 0 (A.mn (A.slen pU) 8200)), st (A.ssub pO 0 (A.mn (A.slen pO) 8200)), .os 900 gh .deed acc]⟩, ⟨900, gh, .tok 42 .deed n⟩, ⟨8, g + 2, .box 42 [it .i64 (A.get TyS.deed (A.lsub TyS.deed ds 0 (A.mn (A.len TyS.deed ds) m)) (Int.ofNat i)).Kind, .d (.sl .int ns), .os 902 gh'' .str p.1.2.1]⟩, ⟨902, gh'', .tok 9 .str p.1.2.2⟩]) (fun p => (x.Texts.take 4).length - p.1.1) ⟨(0, [], 0), by simp⟩ [] ⟨?_, ?_, ?_⟩ ?_
      · (cbv <;> (try (and_intros <;> (first | exact True.intro | exact i_succ hA (by omega) | rfl | simp))))
      · (cbv <;> (try (and_intros <;> (first | exact True.intro | rfl | simp))))
      · cbv
      intro ⟨⟨k, ts, u⟩, hk, hu, hua, hkv⟩ gh'' g'' K'' hK''
      simp only [] at hk hu hkv hua
      cbv
      split
      · rename_i h2
        have hkt0 : k < (A.lsub TyS.str (A.get TyS.deed (A.lsub TyS.deed ds 0 (A.mn (A.len TyS.deed ds) m)) (Int.ofNat i)).Texts 0 (A.mn (A.len TyS.str (A.get TyS.deed (A.lsub TyS.deed ds 0 (A.mn (A.len TyS.deed ds) m)) (Int.ofNat i)).Texts) 4)).length := i_lt (t := TyS.str) hA h2
        have hin2 := i_in (t := TyS.str) hA hkt0
        have hkt := hkt0
        rw [hTt] at hkt
        obtain ⟨z, hz, hzm, hzd, _⟩ := i_at hkt
        have hgz : (A.get TyS.str (A.lsub TyS.str (A.get TyS.deed (A.lsub TyS.deed ds 0 (A.mn (A.len TyS.deed ds) m)) (Int.ofNat i)).Texts 0 (A.mn (A.len TyS.str (A.get TyS.deed (A.lsub TyS.deed ds 0 (A.mn (A.len TyS.deed ds) m)) (Int.ofNat i)).Texts) 4)) (Int.ofNat k)) = z := i_get (t := TyS.str) hA (by rw [hTt]; exact hz)
        have hss : A.ssub (A.get TyS.str (A.lsub TyS.str (A.get TyS.deed (A.lsub TyS.deed ds 0 (A.mn (A.len TyS.deed ds) m)) (Int.ofNat i)).Texts 0 (A.mn (A.len TyS.str (A.get TyS.deed (A.lsub TyS.deed ds 0 (A.mn (A.len TyS.deed ds) m)) (Int.ofNat i)).Texts) 4)) (Int.ofNat k)) 0 (A.mn (A.slen (A.get TyS.str (A.lsub TyS.str (A.get TyS.deed (A.lsub TyS.deed ds 0 (A.mn (A.len TyS.deed ds) m)) (Int.ofNat i)).Texts 0 (A.mn (A.len TyS.str (A.get TyS.deed (A.lsub TyS.deed ds 0 (A.mn (A.len TyS.deed ds) m)) (Int.ofNat i)).Texts) 4)) (Int.ofNat k))) 1002) = cutS z 1002 := by rw [hgz]; exact a_ssub hA z 1002
        have hk6 := a_ssubOk hA (A.get TyS.str (A.lsub TyS.str (A.get TyS.deed (A.lsub TyS.deed ds 0 (A.mn (A.len TyS.deed ds) m)) (Int.ofNat i)).Texts 0 (A.mn (A.len TyS.str (A.get TyS.deed (A.lsub TyS.deed ds 0 (A.mn (A.len TyS.deed ds) m)) (Int.ofNat i)).Texts) 4)) (Int.ofNat k)) 1002
        rw [hzd] at hkv
        have hl4 : (x.Texts.take 4).length ≤ 4 := by simp; omega
        cbv
        refine ⟨hin2, ?_⟩
        repeat (refine And.intro (by first | exact hk6 | exact ⟨True.intro, True.intro⟩ | (subst hA; simp [std, hu]; done) | exact True.intro | exact i_in hA (by assumption) | (subst hA; simp [std]; done) | (split <;> first | exact True.intro | rfl | assumption) | (subst hA; simp [std]; omega)) ?_)
        refine hK'' _ ⟨(k + 1, A.app TyS.str ts [A.ssub (A.get TyS.str (A.lsub TyS.str (A.get TyS.deed (A.lsub TyS.deed ds 0 (A.mn (A.len TyS.deed ds) m)) (Int.ofNat i)).Texts 0 (A.mn (A.len TyS.str (A.get TyS.deed (A.lsub TyS.deed ds 0 (A.mn (A.len TyS.deed ds) m)) (Int.ofNat i)).Texts) 4)) (Int.ofNat k)) 0 (A.mn (A.slen (A.get TyS.str (A.lsub TyS.str (A.get TyS.deed (A.lsub TyS.deed ds 0 (A.mn (A.len TyS.deed ds) m)) (Int.ofNat i)).Texts 0 (A.mn (A.len TyS.str (A.get TyS.deed (A.lsub TyS.deed ds 0 (A.mn (A.len TyS.deed ds) m)) (Int.ofNat i)).Texts) 4)) (Int.ofNat k))) 1002)], A.nlen TyS.str (A.app TyS.str ts [A.ssub (A.get TyS.str (A.lsub TyS.str (A.get TyS.deed (A.lsub TyS.deed ds 0 (A.mn (A.len TyS.deed ds) m)) (Int.ofNat i)).Texts 0 (A.mn (A.len TyS.str (A.get TyS.deed (A.lsub TyS.deed ds 0 (A.mn (A.len TyS.deed ds) m)) (Int.ofNat i)).Texts) 4)) (Int.ofNat k)) 0 (A.mn (A.slen (A.get TyS.str (A.lsub TyS.str (A.get TyS.deed (A.lsub TyS.deed ds 0 (A.mn (A.len TyS.deed ds) m)) (Int.ofNat i)).Texts 0 (A.mn (A.len TyS.str (A.get TyS.deed (A.lsub TyS.deed ds 0 (A.mn (A.len TyS.deed ds) m)) (Int.ofNat i)).Texts) 4)) (Int.ofNat k))) 1002)])), by simp only []; omega, ?_, ?_, ?_⟩ [(902, 85, g'' + 2)] ?_ ⟨?_, ?_, ?_⟩
        · subst hA; rfl
        · subst hA; simp [std]; omega
        · rw [← hkv, hss, List.map_cons]; subst hA; simp [std]
        · simp only []; omega
        · (cbv <;> (try (and_intros <;> (first | exact True.intro | exact i_succ hA (by omega) | rfl | simp))))
        · (cbv <;> (try (and_intros <;> (first | exact True.intro | rfl | simp))))
        · cbv
      · rename_i h2
        have hge2 : (A.lsub TyS.str (A.get TyS.deed (A.lsub TyS.deed ds 0 (A.mn (A.len TyS.deed ds) m)) (Int.ofNat i)).Texts 0 (A.mn (A.len TyS.str (A.get TyS.deed (A.lsub TyS.deed ds 0 (A.mn (A.len TyS.deed ds) m)) (Int.ofNat i)).Texts) 4)).length ≤ k := i_ge (t := TyS.str) hA h2
        rw [hTt] at hge2
        rw [i_end hge2, List.map_nil, List.append_nil] at hkv
        cbv
        repeat (refine And.intro (by first | exact ⟨True.intro, True.intro⟩ | (subst hA; simp [std, hn]; done) | exact True.intro | exact i_in hA (by assumption) | (subst hA; simp [std]; done) | (split <;> first | exact True.intro | rfl | assumption) | (subst hA; simp [std]; omega)) ?_)
        refine hK _ ⟨(i + 1, A.app TyS.deed acc [⟨(A.get TyS.deed (A.lsub TyS.deed ds 0 (A.mn (A.len TyS.deed ds) m)) (Int.ofNat i)).Kind, ns, ts⟩], A.nlen TyS.deed (A.app TyS.deed acc [⟨(A.get TyS.deed (A.lsub TyS.deed ds 0 (A.mn (A.len TyS.deed ds) m)) (Int.ofNat i)).Kind, ns, ts⟩])), by simp only []; omega, ?_, ?_, ?_⟩ [(900, 92, g'' + 1)] ?_ ⟨?_, ?_, ?_⟩
        · subst hA; rfl
        · subst hA; simp [std]; omega
        · rw [← hinv, hgx, hjv, hkv]; subst hA; simp [std, fewD]
        · simp only []; omega
        · (cbv <;> (try (and_intros <;> (first | exact True.intro | exact i_succ hA (by omega) | rfl | simp))))
        · (cbv <;> (try (and_intros <;> (first | exact True.intro | rfl | simp))))
        · cbv
  · rename_i h
    have hge0 : (A.lsub TyS.deed ds 0 (A.mn (A.len TyS.deed ds) m)).length ≤ i := i_ge (t := TyS.deed) hA h
    rw [hD] at hge0
    rw [i_end hge0, List.map_nil, List.append_nil] at hinv
    cbv
    rw [fewP] at hR1
    subst hR1 hR
    simp only [LeP, LeD, LeP.LePs, planPV, it, st]
    exact ⟨⟨trivial, trivial⟩, hU, hO, by rw [hinv, hT], trivial⟩
end Go.PL
namespace Go.PL
set_option linter.unusedSimpArgs false
set_option linter.unusedVariables false
set_option linter.unusedSectionVars false
open Tys (Ty U)
open Enc (sz enc dflt tb ofB toB)
open Dec (dec dok)
set_option maxRecDepth 100000
open Go.Proofs
variable [GM]
theorem eq_step {α : Type} {a b : List α} {i : Nat} {x y : α} (h : a.take i = b.take i) (hx : a[i]? = some x) (hy : b[i]? = some y) (hxy : x = y) : a.take (i + 1) = b.take (i + 1) := by
  rw [List.take_add_one, List.take_add_one, h, hx, hy, hxy]
theorem ne_at {α : Type} {a b : List α} {i : Nat} {x y : α} (hx : a[i]? = some x) (hy : b[i]? = some y) (hxy : x ≠ y) : a ≠ b := by
  rintro rfl; rw [hx] at hy; exact hxy (Option.some.inj hy)
theorem eq_end {α : Type} {a b : List α} {i : Nat} (hl : a.length = b.length) (hi : a.length ≤ i) (h : a.take i = b.take i) : a = b := by
  rwa [List.take_of_length_le hi, List.take_of_length_le (by omega)] at h
theorem l_ne {A : Ar} (hA : A = std) {t : TyS} {a b : List (US t)} : A.cmp .neq (A.len t a) (A.len t b) = decide (a.length ≠ b.length) := by
  subst hA; rw [s_neq, s_len, s_len, Bool.eq_iff_iff]; simp; omega
theorem s_ne {A : Ar} (hA : A = std) {a b : ByteArray} : A.scmp .neq a b = decide (a ≠ b) := by subst hA; rw [s_sneq]
theorem n_ne {A : Ar} (hA : A = std) {a b : Int} : A.cmp .neq a b = decide (a ≠ b) := by subst hA; rw [s_neq, Bool.eq_iff_iff]; simp
theorem same_ok (a b : List ByteArray) (r : Bool) (hr : r = true ↔ a = b) (hl : a.length ≤ 4611686018427387904) : PFun cx 26 [.d (.sl .str a), .d (.sl .str b)] (bl r) := by
  refine PFun.walk cx_ok Tryd.func26 rfl rfl rfl fun A P R hA hP hR => ?_
  cbv
  split
  · rename_i h
    have h2 : A.cmp .neq (A.len TyS.str a) (A.len TyS.str b) = true := h
    rw [l_ne (t := .str) hA, decide_eq_true_eq] at h2
    cbv
    subst hR
    simp only [LeP, LeD, bl]
    cases r with
    | false => rfl
    | true => exact absurd (congrArg List.length (hr.1 rfl)) h2
  · rename_i h
    have h2 : A.cmp .neq (A.len TyS.str a) (A.len TyS.str b) = false := h
    rw [l_ne (t := .str) hA, decide_eq_false_iff_not, Classical.not_not] at h2
    cbv
    refine LoopK.mk (X := {i : Nat // i ≤ a.length ∧ a.take i = b.take i}) (fun i _ => [(13, it .i64 i.1)]) (fun _ _ => []) (fun i => a.length - i.1) ⟨0, by simp⟩ [] ⟨?_, ?_, ?_⟩ ?_
    · (cbv <;> (try (and_intros <;> (first | exact True.intro | exact i_succ hA (by omega) | rfl | simp))))
    · (cbv <;> (try (and_intros <;> (first | exact True.intro | rfl | simp))))
    · cbv
    intro ⟨i, hi, hinv⟩ gh g K hK
    cbv
    split
    · rename_i h3
      have hlt : i < a.length := i_lt (t := TyS.str) hA h3
      obtain ⟨x, hx, _⟩ := i_at hlt
      obtain ⟨y, hy, _⟩ := i_at (show i < b.length by omega)
      have hgx : A.get TyS.str a (Int.ofNat i) = x := i_get (t := TyS.str) hA hx
      have hgy : A.get TyS.str b (Int.ofNat i) = y := i_get (t := TyS.str) hA hy
      have hin1 := i_in (t := TyS.str) hA hlt
      have hin2 := i_in (t := TyS.str) hA (show i < b.length by omega)
      cbv
      refine ⟨hin1, hin2, ?_⟩
      split
      · rename_i h4
        have h5 : A.scmp .neq (A.get TyS.str a (Int.ofNat i)) (A.get TyS.str b (Int.ofNat i)) = true := h4
        rw [s_ne hA, hgx, hgy, decide_eq_true_eq] at h5
        cbv
        subst hR
        simp only [LeP, LeD, bl]
        cases r with
        | false => rfl
        | true => exact absurd (hr.1 rfl) (ne_at hx hy h5)
      · rename_i h4
        have h5 : A.scmp .neq (A.get TyS.str a (Int.ofNat i)) (A.get TyS.str b (Int.ofNat i)) = false := h4
        rw [s_ne hA, hgx, hgy, decide_eq_false_iff_not, Classical.not_not] at h5
        cbv
        refine hK _ ⟨i + 1, by omega, eq_step hinv hx hy h5⟩ [] ?_ ⟨?_, ?_, ?_⟩
        · simp only []; omega
        · (cbv <;> (try (and_intros <;> (first | exact True.intro | exact i_succ hA (by omega) | rfl | simp))))
        · (cbv <;> (try (and_intros <;> (first | exact True.intro | rfl | simp))))
        · cbv
    · rename_i h3
      have hge : a.length ≤ i := i_ge (t := TyS.str) hA h3
      cbv
      subst hR
      simp only [LeP, LeD, bl]
      exact (hr.2 (eq_end h2 hge hinv)).symm
theorem eq_D (a b : Deed) : a = b ↔ a.Kind = b.Kind ∧ a.Nums = b.Nums ∧ a.Texts = b.Texts := by cases a; cases b; simp
theorem Like_ok (p q : Plan) (r : Bool) (hr : r = true ↔ p = q) (hl : p.Deeds.length ≤ 4611686018427387904) (hd : ∀ d ∈ p.Deeds, smallD d) : PFun cx 10 [planPV p, planPV q] (bl r) := by
  obtain ⟨pF, pU, pO, pD⟩ := p
  obtain ⟨qF, qU, qO, qD⟩ := q
  simp only [] at hl hd
  obtain ⟨sm, hsm, c26⟩ : ∃ f : List ByteArray → List ByteArray → Bool, f = (fun a b => decide (a = b)) ∧ ∀ a b : List ByteArray, a.length ≤ 4611686018427387904 → PFun cx 26 [.d (.sl .str a), .d (.sl .str b)] (bl (f a b)) := ⟨_, rfl, fun a b h => same_ok a b _ (by simp) h⟩
  refine PFun.walk cx_ok Tryd.func10 rfl rfl rfl fun A P R hA hP hR => ?_
  cbv
  repeat (refine And.intro (by first | exact True.intro | exact i_in hA (by assumption) | (subst hA; simp [std]; done) | (split <;> first | exact True.intro | rfl | assumption) | (subst hA; simp [std]; omega)) ?_)
  split
  · rename_i h
    have h2 : A.or (A.or (A.or (A.cmp .neq pF qF) (A.scmp .neq pU qU)) (A.scmp .neq pO qO)) (A.cmp .neq (A.len TyS.deed pD) (A.len TyS.deed qD)) = true := h
    rw [l_ne (t := .deed) hA, s_ne hA, s_ne hA, n_ne hA] at h2
    have h3 : (decide (pF ≠ qF) || decide (pU ≠ qU) || decide (pO ≠ qO) || decide (pD.length ≠ qD.length)) = true := by rw [← h2]; subst hA; rfl
    cbv
    subst hR
    simp only [LeP, LeD, bl]
    cases r with
    | false => rfl
    | true =>
      have := hr.1 rfl
      injection this with e1 e2 e3 e4
      simp [e1, e2, e3, e4] at h3
  · rename_i h
    have h2 : A.or (A.or (A.or (A.cmp .neq pF qF) (A.scmp .neq pU qU)) (A.scmp .neq pO qO)) (A.cmp .neq (A.len TyS.deed pD) (A.len TyS.deed qD)) = false := h
    rw [l_ne (t := .deed) hA, s_ne hA, s_ne hA, n_ne hA] at h2
    have h3 : (decide (pF ≠ qF) || decide (pU ≠ qU) || decide (pO ≠ qO) || decide (pD.length ≠ qD.length)) = false := by rw [← h2]; subst hA; rfl
    simp only [Bool.or_eq_false_iff, decide_eq_false_iff_not, Classical.not_not] at h3
    obtain ⟨⟨⟨e1, e2⟩, e3⟩, e4⟩ := h3
    have hfin : (pD = qD) → r = true := fun e => hr.2 (by rw [e1, e2, e3, e])
    have hbad : pD ≠ qD → false = r := fun e => by
      cases r with
      | false => rfl
      | true => have := hr.1 rfl; injection this; contradiction
    cbv
    refine LoopK.mk (X := {i : Nat // i ≤ pD.length ∧ pD.take i = qD.take i}) (fun i _ => [(40, it .i64 i.1)]) (fun _ _ => [⟨2, 0, .box 24 [it .i64 pF, st pU, st pO, .d (.sl .deed pD)]⟩, ⟨3, 0, .box 24 [it .i64 qF, st qU, st qO, .d (.sl .deed qD)]⟩]) (fun i => pD.length - i.1) ⟨0, by simp⟩ [] ⟨?_, ?_, ?_⟩ ?_
    · (cbv <;> (try (and_intros <;> (first | exact True.intro | exact i_succ hA (by omega) | rfl | simp))))
    · (cbv <;> (try (and_intros <;> (first | exact True.intro | rfl | simp))))
    · cbv
    intro ⟨i, hi, hinv⟩ gh g K hK
    cbv
    split
    · rename_i h3
      have hlt : i < pD.length := i_lt (t := TyS.deed) hA h3
      obtain ⟨x, hx, hxm, _⟩ := i_at hlt
      obtain ⟨y, hy, _⟩ := i_at (show i < qD.length by omega)
      have hgx : (A.get TyS.deed pD (Int.ofNat i)) = x := i_get (t := TyS.deed) hA hx
      have hgy : (A.get TyS.deed qD (Int.ofNat i)) = y := i_get (t := TyS.deed) hA hy
      have hin1 := i_in (t := TyS.deed) hA hlt
      have hin2 := i_in (t := TyS.deed) hA (show i < qD.length by omega)
      have hxs := hd x hxm
      have htl : (A.get TyS.deed pD (Int.ofNat i)).Texts.length ≤ 4611686018427387904 := by rw [hgx]; exact hxs.2
      cbv
      refine ⟨hin1, hin2, ?_⟩
      repeat (refine And.intro (by first | exact True.intro | exact i_in hA (by assumption) | (subst hA; simp [std]; done) | (split <;> first | exact True.intro | rfl | assumption) | (subst hA; simp [std]; omega)) ?_)
      refine CallK.mk _ rfl (fun _ => by rw [hP]; exact c26 _ _ htl) ?_
      cbv
      repeat (refine And.intro (by first | exact True.intro | exact i_in hA (by assumption) | (subst hA; simp [std]; done) | (split <;> first | exact True.intro | rfl | assumption) | (subst hA; simp [std]; omega)) ?_)
      split
      · rename_i h4
        have h5 : A.or (A.or (A.cmp .neq (A.get TyS.deed pD (Int.ofNat i)).Kind (A.get TyS.deed qD (Int.ofNat i)).Kind) (A.cmp .neq (A.len TyS.int (A.get TyS.deed pD (Int.ofNat i)).Nums) (A.len TyS.int (A.get TyS.deed qD (Int.ofNat i)).Nums))) (A.not (sm (A.get TyS.deed pD (Int.ofNat i)).Texts (A.get TyS.deed qD (Int.ofNat i)).Texts)) = true := h4
        rw [hgx, hgy, l_ne (t := .int) hA, n_ne hA, hsm] at h5
        have h6 : (decide (x.Kind ≠ y.Kind) || decide (x.Nums.length ≠ y.Nums.length) || !decide (x.Texts = y.Texts)) = true := by rw [← h5]; subst hA; rfl
        cbv
        subst hR
        simp only [LeP, LeD, bl]
        refine hbad (ne_at hx hy ?_)
        rintro rfl
        simp at h6
      · rename_i h4
        have h5 : A.or (A.or (A.cmp .neq (A.get TyS.deed pD (Int.ofNat i)).Kind (A.get TyS.deed qD (Int.ofNat i)).Kind) (A.cmp .neq (A.len TyS.int (A.get TyS.deed pD (Int.ofNat i)).Nums) (A.len TyS.int (A.get TyS.deed qD (Int.ofNat i)).Nums))) (A.not (sm (A.get TyS.deed pD (Int.ofNat i)).Texts (A.get TyS.deed qD (Int.ofNat i)).Texts)) = false := h4
        rw [hgx, hgy, l_ne (t := .int) hA, n_ne hA, hsm] at h5
        have h6 : (decide (x.Kind ≠ y.Kind) || decide (x.Nums.length ≠ y.Nums.length) || !decide (x.Texts = y.Texts)) = false := by rw [← h5]; subst hA; rfl
        simp only [Bool.or_eq_false_iff, decide_eq_false_iff_not, Classical.not_not, Bool.not_eq_false', decide_eq_true_eq] at h6
        obtain ⟨⟨d1, d2⟩, d3⟩ := h6
        cbv
        refine LoopK.mk (X := {j : Nat // j ≤ x.Nums.length ∧ x.Nums.take j = y.Nums.take j}) (fun j _ => [(78, it .i64 j.1)]) (fun _ _ => [⟨2, 0, .box 24 [it .i64 pF, st pU, st pO, .d (.sl .deed pD)]⟩, ⟨3, 0, .box 24 [it .i64 qF, st qU, st qO, .d (.sl .deed qD)]⟩, ⟨6, g + 2, .box 42 [it .i64 (A.get TyS.deed pD (Int.ofNat i)).Kind, .d (.sl .int (A.get TyS.deed pD (Int.ofNat i)).Nums), .d (.sl .str (A.get TyS.deed pD (Int.ofNat i)).Texts)]⟩, ⟨7, g + 3, .box 42 [it .i64 (A.get TyS.deed qD (Int.ofNat i)).Kind, .d (.sl .int (A.get TyS.deed qD (Int.ofNat i)).Nums), .d (.sl .str (A.get TyS.deed qD (Int.ofNat i)).Texts)]⟩]) (fun j => x.Nums.length - j.1) ⟨0, by simp⟩ [] ⟨?_, ?_, ?_⟩ ?_
        · (cbv <;> (try (and_intros <;> (first | exact True.intro | exact i_succ hA (by omega) | rfl | simp))))
        · (cbv <;> (try (and_intros <;> (first | exact True.intro | rfl | simp))))
        · cbv
        intro ⟨j, hj, hjv⟩ gh' g' K' hK'
        cbv
        split
        · rename_i h7
          have hjt : j < (A.get TyS.deed pD (Int.ofNat i)).Nums.length := i_lt (t := TyS.int) hA h7
          have hjt2 : j < (A.get TyS.deed qD (Int.ofNat i)).Nums.length := by rw [hgx] at hjt; rw [hgy]; omega
          have hi1 := i_in (t := TyS.int) hA hjt
          have hi2 := i_in (t := TyS.int) hA hjt2
          have hjx := hjt
          rw [hgx] at hjx
          have hjy := hjt2
          rw [hgy] at hjy
          obtain ⟨u, hu, _⟩ := i_at hjx
          obtain ⟨v, hv, _⟩ := i_at hjy
          have hgu : (A.get TyS.int (A.get TyS.deed pD (Int.ofNat i)).Nums (Int.ofNat j)) = u := i_get (t := TyS.int) hA (by rw [hgx]; exact hu)
          have hgv : (A.get TyS.int (A.get TyS.deed qD (Int.ofNat i)).Nums (Int.ofNat j)) = v := i_get (t := TyS.int) hA (by rw [hgy]; exact hv)
          cbv
          refine ⟨hi1, hi2, ?_⟩
          split
          · rename_i h8
            have h9 : A.cmp .neq (A.get TyS.int (A.get TyS.deed pD (Int.ofNat i)).Nums (Int.ofNat j)) (A.get TyS.int (A.get TyS.deed qD (Int.ofNat i)).Nums (Int.ofNat j)) = true := h8
            rw [n_ne hA, hgu, hgv, decide_eq_true_eq] at h9
            cbv
            subst hR
            simp only [LeP, LeD, bl]
            refine hbad (ne_at hx hy ?_)
            rintro rfl
            exact ne_at hu hv h9 rfl
          · rename_i h8
            have h9 : A.cmp .neq (A.get TyS.int (A.get TyS.deed pD (Int.ofNat i)).Nums (Int.ofNat j)) (A.get TyS.int (A.get TyS.deed qD (Int.ofNat i)).Nums (Int.ofNat j)) = false := h8
            rw [n_ne hA, hgu, hgv, decide_eq_false_iff_not, Classical.not_not] at h9
            have hb2 : x.Nums.length ≤ 4611686018427387904 := hxs.1
            cbv
            refine hK' _ ⟨j + 1, by omega, eq_step hjv hu hv h9⟩ [] ?_ ⟨?_, ?_, ?_⟩
            · simp only []; omega
            · (cbv <;> (try (and_intros <;> (first | exact True.intro | exact i_succ hA (by omega) | rfl | simp))))
            · (cbv <;> (try (and_intros <;> (first | exact True.intro | rfl | simp))))
            · cbv
        · rename_i h7
          have hge : (A.get TyS.deed pD (Int.ofNat i)).Nums.length ≤ j := i_ge (t := TyS.int) hA h7
          rw [hgx] at hge
          have hN := eq_end d2 hge hjv
          cbv
          refine hK _ ⟨i + 1, by omega, eq_step hinv hx hy ((eq_D x y).2 ⟨d1, hN, d3⟩)⟩ [] ?_ ⟨?_, ?_, ?_⟩
          · simp only []; omega
          · (cbv <;> (try (and_intros <;> (first | exact True.intro | exact i_succ hA (by omega) | rfl | simp))))
          · (cbv <;> (try (and_intros <;> (first | exact True.intro | rfl | simp))))
          · cbv
    · rename_i h3
      have hge : pD.length ≤ i := i_ge (t := TyS.deed) hA h3
      cbv
      subst hR
      simp only [LeP, LeD, bl]
      exact (hfin (eq_end e4 hge hinv)).symm
end Go.PL
