/- The plain law of printing and parsing, and ScriptBack's contract. No condition. -/
import Derived.Test.YtmmpeenkjgnhbaaDoorFb
/-! The plain law of printing and parsing: no program in sight. -/
namespace Go.PL
set_option linter.unusedSimpArgs false
set_option linter.unusedVariables false
set_option linter.unusedSectionVars false
open Tys (Ty U)
open Enc (sz enc dflt tb ofB toB)
open Dec (dec dok)
set_option maxRecDepth 100000
variable [GM]
def bOf (l : List UInt8) : ByteArray := ⟨l.toArray⟩
theorem bOf_data (l : List UInt8) : (bOf l).data.toList = l := by simp [bOf]
theorem bOf_of (s : ByteArray) : bOf s.data.toList = s := by simp [bOf]
theorem bOf_size (l : List UInt8) : (bOf l).size = l.length := by simp [bOf, ByteArray.size]
theorem b_ext {a b : ByteArray} (h : a.data.toList = b.data.toList) : a = b := by rw [← bOf_of a, ← bOf_of b, h]
theorem idx_hit (c : UInt8) : ∀ (a r : List UInt8), c ∉ a → Lib.index (a ++ c :: r) [c] = a.length
  | [], r, _ => by simp [Lib.index]
  | b :: a, r, h => by
    simp only [List.mem_cons, not_or] at h
    have := idx_hit c a r h.2
    simp [Lib.index, h.1, this]
theorem idx_miss (c : UInt8) : ∀ l : List UInt8, c ∉ l → Lib.index l [c] = -1
  | [], _ => by simp [Lib.index]
  | b :: l, h => by
    simp only [List.mem_cons, not_or] at h
    simp [Lib.index, h.1, idx_miss c l h.2]
theorem cut_hit (c : UInt8) (a r : List UInt8) (h : c ∉ a) : Lib.cut (a ++ c :: r) [c] = (a, r, true) := by
  simp [Lib.cut, idx_hit c a r h]
theorem cut_miss (c : UInt8) (l : List UInt8) (h : c ∉ l) : Lib.cut l [c] = (l, [], false) := by
  simp [Lib.cut, idx_miss c l h]
/-- a text, parted at blanks -/
def spl : List UInt8 → List (List UInt8)
  | [] => [[]]
  | c :: l => if c = 32 then [] :: spl l else match spl l with
    | h :: t => (c :: h) :: t
    | [] => [[c]]
theorem spl_miss : ∀ l : List UInt8, 32 ∉ l → spl l = [l]
  | [], _ => rfl
  | c :: l, h => by
    simp only [List.mem_cons, not_or] at h
    have hc : ¬ c = 32 := fun e => h.1 e.symm
    simp [spl, hc, spl_miss l h.2]
theorem spl_hit : ∀ (a r : List UInt8), 32 ∉ a → spl (a ++ 32 :: r) = a :: spl r
  | [], r, _ => by simp [spl]
  | c :: a, r, h => by
    simp only [List.mem_cons, not_or] at h
    have hc : ¬ c = 32 := fun e => h.1 e.symm
    simp [spl, hc, spl_hit a r h.2]
theorem splitK_spl : ∀ (k : Nat) (l : List UInt8), l.count 32 = k → Lib.splitK [32] 0 k l = spl l
  | 0, l, h => by
    rw [spl_miss l (List.count_eq_zero.1 h)]; rfl
  | k + 1, l, h => by
    have hm : (32 : UInt8) ∈ l := List.count_pos_iff.1 (by omega)
    obtain ⟨a, r, rfl, ha⟩ := List.eq_append_cons_of_mem hm
    have hi := idx_hit 32 a r ha
    rw [Lib.splitK, hi, spl_hit a r ha]
    have hr : r.count 32 = k := by
      rw [List.count_append, List.count_eq_zero.2 ha, List.count_cons_self] at h; omega
    have e1 : ((a.length : Int) == -1) = false := by simp
    rw [e1]
    simp only [Bool.false_eq_true, if_false, Int.toNat_natCast, Nat.add_zero, List.length_singleton]
    rw [List.take_left, show (a ++ 32 :: r).drop (a.length + 1) = r by simp, splitK_spl k r hr]
theorem pieces_spl (row : ByteArray) : (pieces row).map (·.data.toList) = spl row.data.toList := by
  rw [pieces, splitL, Lib.splitB_data]
  exact splitK_spl _ _ (by show _ = Lib.count row.data.toList [32]; rw [Lib.count_one])
theorem pieces_of (row : ByteArray) (ps : List (List UInt8)) (h : spl row.data.toList = ps) : pieces row = ps.map bOf := by
  rw [← h, ← pieces_spl, List.map_map]
  conv => lhs; rw [← List.map_id (pieces row)]
  exact List.map_congr_left fun x _ => (bOf_of x).symm
theorem spl_join : ∀ (ps : List (List UInt8)) (w : List UInt8), 32 ∉ w → (∀ p ∈ ps, (32 : UInt8) ∉ p) → spl (w ++ ps.flatMap fun p => 32 :: p) = w :: ps
  | [], w, h, _ => by simp [spl_miss w h]
  | p :: ps, w, h, hp => by
    rw [List.flatMap_cons, List.cons_append, spl_hit w _ h, spl_join ps p (hp p (by simp)) fun q hq => hp q (by simp [hq])]
/-- the signs of numbers and texts -/
def sign (b : UInt8) : Prop := (48 ≤ b.toNat ∧ b.toNat ≤ 57) ∨ (97 ≤ b.toNat ∧ b.toNat ≤ 122)
theorem sign_no {b : UInt8} (h : sign b) : b ≠ 32 ∧ b ≠ 10 := by
  refine ⟨?_, ?_⟩ <;> (rintro rfl; unfold sign at h; revert h; decide)
theorem decB_sign (n : Nat) : ∀ b ∈ (decB n).data.toList, 48 ≤ b.toNat ∧ b.toNat ≤ 57 := by
  induction n using Nat.strongRecOn with
  | _ n ih =>
    unfold decB
    have key : ∀ m, m < 10 → 48 ≤ (UInt8.ofNat (48 + m)).toNat ∧ (UInt8.ofNat (48 + m)).toNat ≤ 57 := by
      intro m hm
      have : (UInt8.ofNat (48 + m)).toNat = 48 + m := by simp; omega
      rw [this]; omega
    have e : ∀ m : Nat, (ByteArray.mk #[UInt8.ofNat (48 + m)]).data.toList = [UInt8.ofNat (48 + m)] := fun _ => rfl
    split
    · intro b hb; rw [e, List.mem_singleton] at hb; subst hb; exact key n (by omega)
    · intro b hb
      rw [ByteArray.data_append, Array.toList_append, List.mem_append] at hb
      rcases hb with hb | hb
      · exact ih (n / 10) (by omega) b hb
      · rw [e, List.mem_singleton] at hb; subst hb; exact key _ (by omega)
theorem hexd_sign : ∀ n : Fin 16, (48 ≤ (hexd n.val).toNat ∧ (hexd n.val).toNat ≤ 57) ∨ (97 ≤ (hexd n.val).toNat ∧ (hexd n.val).toNat ≤ 122) := by decide
theorem hexB_sign (l : List UInt8) : ∀ b ∈ hexB l, sign b := by
  intro b hb
  simp only [hexB, List.mem_flatMap, List.mem_cons, List.not_mem_nil, or_false] at hb
  obtain ⟨c, _, hb⟩ := hb
  have hc := c.toNat_lt
  rcases hb with rfl | rfl
  · exact hexd_sign ⟨c.toNat / 16, by omega⟩
  · exact hexd_sign ⟨c.toNat % 16, by omega⟩
theorem numL_dec (n : Nat) : numL (decB n).data.toList = n := by
  induction n using Nat.strongRecOn with
  | _ n ih =>
    unfold decB
    have key : ∀ m, m < 10 → ((UInt8.ofNat (48 + m)).toNat % 16 : Nat) = m := by
      intro m hm
      have : (UInt8.ofNat (48 + m)).toNat = 48 + m := by simp; omega
      rw [this]; omega
    split
    · have e : (ByteArray.mk #[UInt8.ofNat (48 + n)]).data.toList = [] ++ [UInt8.ofNat (48 + n)] := rfl
      rw [e, numL_snoc, key n (by omega)]; simp [numL]
    · rw [ByteArray.data_append, Array.toList_append]
      have e : (ByteArray.mk #[UInt8.ofNat (48 + n % 10)]).data.toList = [UInt8.ofNat (48 + n % 10)] := rfl
      rw [e, numL_snoc, ih (n / 10) (by omega), key (n % 10) (by omega)]
      omega
theorem numS_dec (n : Int) (h0 : 0 ≤ n) (h1 : n ≤ 1099511627776) : numS (decI n) = n := by
  have hs := decB_short 12 n.toNat (by have : (10 : Nat) ^ 13 = 10000000000000 := rfl; omega)
  have e : (decB n.toNat).data.toList.length = (decB n.toNat).size := by simp
  rw [numS, decI, List.take_of_length_le (by omega), numL_dec]; omega
theorem hv_hexd : ∀ n : Fin 16, hv (hexd n.val) = n.val := by decide
theorem unhL_hex : ∀ l : List UInt8, unhL (hexB l) = l
  | [] => rfl
  | c :: l => by
    have hc := c.toNat_lt
    have h1 := hv_hexd ⟨c.toNat / 16, by omega⟩
    have h2 := hv_hexd ⟨c.toNat % 16, by omega⟩
    have ih := unhL_hex l
    simp only [hexB, List.flatMap_cons] at ih ⊢
    simp only [List.cons_append, List.nil_append, unhL, ih]
    simp only [] at h1 h2
    rw [h1, h2, show c.toNat / 16 * 16 + c.toNat % 16 = c.toNat by omega]
    simp
theorem textS_hex (s : ByteArray) : textS (bOf (120 :: hexB s.data.toList)) = s := by
  rw [textS, bOf_data]
  show bOf (unhL (hexB s.data.toList)) = s
  rw [unhL_hex, bOf_of]
/-- a line without its end -/
def bodyL (w : ByteArray) (ns : List Int) (ts : List ByteArray) : List UInt8 := w.data.toList ++ ((ns.map fun n => (decI n).data.toList) ++ ts.map fun s => 120 :: hexB s.data.toList).flatMap fun p => 32 :: p
theorem line_body (w : ByteArray) (ns : List Int) (ts : List ByteArray) : lineL w ns ts = bodyL w ns ts ++ [10] := by
  simp [lineL, bodyL, lnN, lnT, List.flatMap_append, List.flatMap_map]
theorem lnB_body (w : ByteArray) (ns : List Int) (ts : List ByteArray) : lnB w ns ts = bOf (bodyL w ns ts) ++ ⟨#[10]⟩ := by
  apply b_ext
  rw [ByteArray.data_append, Array.toList_append, bOf_data]
  show (lineL w ns ts).toArray.toList = _
  rw [line_body]
/-- a word: letters -/
def wordy (w : ByteArray) : Prop := ∀ b ∈ w.data.toList, sign b
theorem piece_sign {ns : List Int} {ts : List ByteArray} {p : List UInt8} (h : p ∈ (ns.map fun n => (decI n).data.toList) ++ ts.map fun s => 120 :: hexB s.data.toList) : ∀ b ∈ p, sign b := by
  intro b hb
  simp only [List.mem_append, List.mem_map] at h
  rcases h with ⟨n, _, rfl⟩ | ⟨s, _, rfl⟩
  · exact .inl (decB_sign _ b hb)
  · rcases List.mem_cons.1 hb with rfl | hb
    · exact .inr (by decide)
    · exact hexB_sign _ b hb
theorem body_pieces (w : ByteArray) (ns : List Int) (ts : List ByteArray) (hw : wordy w) : pieces (bOf (bodyL w ns ts)) = w :: ((ns.map decI) ++ ts.map fun s => bOf (120 :: hexB s.data.toList)) := by
  have h := pieces_of (bOf (bodyL w ns ts)) (w.data.toList :: ((ns.map fun n => (decI n).data.toList) ++ ts.map fun s => 120 :: hexB s.data.toList)) (by rw [bOf_data]; exact spl_join _ _ (fun h => (sign_no (hw _ h)).1 rfl) fun p hp h => (sign_no (piece_sign hp _ h)).1 rfl)
  rw [h, List.map_cons, bOf_of, List.map_append, List.map_map, List.map_map]
  congr 2
theorem body_nl (w : ByteArray) (ns : List Int) (ts : List ByteArray) (hw : wordy w) : (10 : UInt8) ∉ bodyL w ns ts := by
  intro h
  simp only [bodyL, List.mem_append, List.mem_flatMap] at h
  rcases h with h | ⟨p, hp, h⟩
  · exact (sign_no (hw _ h)).2 rfl
  · rcases List.mem_cons.1 h with h | h
    · cases h
    · exact (sign_no (piece_sign (by simpa using hp) _ h)).2 rfl
theorem kw_wordy : ∀ k, wordy (kw k) := by
  intro k
  unfold kw wordy sign
  split <;> decide
theorem move_wordy : wordy moveB := by unfold moveB wordy sign; decide
end Go.PL
namespace Go.PL
set_option linter.unusedSimpArgs false
set_option linter.unusedVariables false
set_option linter.unusedSectionVars false
open Tys (Ty U)
open Enc (sz enc dflt tb ofB toB)
open Dec (dec dok)
set_option maxRecDepth 100000
variable [GM]
theorem cut_line (w : ByteArray) (ns : List Int) (ts : List ByteArray) (hw : wordy w) (r : List UInt8) (s : ByteArray) (hs : s.data.toList = (lnB w ns ts).data.toList ++ r) :
    cutR s = bOf (bodyL w ns ts) ∧ cutM s = bOf r ∧ cutE s = true := by
  have e : s.data.toList = bodyL w ns ts ++ 10 :: r := by
    rw [hs, lnB_body, ByteArray.data_append, Array.toList_append, bOf_data, List.append_assoc]; rfl
  have := cut_hit 10 (bodyL w ns ts) r (body_nl w ns ts hw)
  rw [cutR, cutM, cutE, e]
  show (⟨(Lib.cut (bodyL w ns ts ++ 10 :: r) [10]).1.toArray⟩ : ByteArray) = _ ∧ (⟨(Lib.cut (bodyL w ns ts ++ 10 :: r) [10]).2.1.toArray⟩ : ByteArray) = _ ∧ (Lib.cut (bodyL w ns ts ++ 10 :: r) [10]).2.2 = _
  rw [this]
  exact ⟨rfl, rfl, rfl⟩
theorem deed_back (d : Deed) (h : rightD d = true) : deedS (bOf (bodyL (kw d.Kind.toNat) d.Nums d.Texts)) = (d, true) := by
  obtain ⟨dk, dn, dt⟩ := d
  simp only []
  have hr := h
  rw [rightD, kinds_eq] at h
  simp only [] at h
  by_cases hk : isK dk = true
  · rw [if_pos hk] at h
    simp only [Bool.and_eq_true, beq_iff_eq] at h
    have hk2 : 1 ≤ dk ∧ dk ≤ 8 := by simpa [isK] using hk
    have hp := body_pieces (kw dk.toNat) dn dt (kw_wordy _)
    obtain ⟨h1, h2⟩ := rightD_nums hr
    have hm : mt (pieces (bOf (bodyL (kw dk.toNat) dn dt))) dk.toNat = true := by
      rw [hp, mt]
      simp [h.1.1.2, h.1.2]
      omega
    have hD : mkD (pieces (bOf (bodyL (kw dk.toNat) dn dt))) dk.toNat = ⟨dk, dn, dt⟩ := by
      rw [hp, mkD]
      have e1 : ((kw dk.toNat :: (dn.map decI ++ dt.map fun s => bOf (120 :: hexB s.data.toList))).take (1 + kn dk.toNat)).drop 1 = dn.map decI := by
        rw [Nat.add_comm, List.take_succ_cons, List.drop_succ_cons, List.drop_zero, List.take_append_of_le_length (by simp [h.1.1.2])]
        rw [List.take_of_length_le (by simp [h.1.1.2])]
      have e2 : (kw dk.toNat :: (dn.map decI ++ dt.map fun s => bOf (120 :: hexB s.data.toList))).drop (1 + kn dk.toNat) = dt.map fun s => bOf (120 :: hexB s.data.toList) := by
        rw [Nat.add_comm, List.drop_succ_cons, List.drop_append_of_le_length (by simp [h.1.1.2]), List.drop_of_length_le (by simp [h.1.1.2])]; rfl
      rw [e1, e2, List.map_map, List.map_map]
      congr 1
      · omega
      · conv => rhs; rw [← List.map_id dn]
        exact List.map_congr_left fun n hn => numS_dec n (h1 n hn).1 (h1 n hn).2
      · conv => rhs; rw [← List.map_id dt]
        exact List.map_congr_left fun t _ => textS_hex t
    have := (deedR_S (bOf (bodyL (kw dk.toNat) dn dt))).1 dk.toNat (by omega) (by omega) hm
    rw [this, hD, okD, hr]
    simp [lnB_body]
  · rw [if_neg hk] at h; cases h
theorem begin_back (p : Plan) (h : beginsP p = true) (hd : p.Deeds = []) : beginS (bOf (bodyL moveB [p.Format] [p.Rules, p.Routes])) = (p, true) := by
  obtain ⟨pF, pU, pO, pD⟩ := p
  simp only [] at hd ⊢
  subst hd
  have hp := body_pieces moveB [pF] [pU, pO] move_wordy
  obtain ⟨h1, _, _⟩ := begins_fit h
  have hm : mtB (pieces (bOf (bodyL moveB [pF] [pU, pO]))) = true := by rw [hp]; simp [mtB]
  have hP : mkP (pieces (bOf (bodyL moveB [pF] [pU, pO]))) = ⟨pF, pU, pO, []⟩ := by
    rw [hp, mkP]
    show (⟨numS (decI pF), textS (bOf (120 :: hexB pU.data.toList)), textS (bOf (120 :: hexB pO.data.toList)), []⟩ : Plan) = _
    simp only [] at h1
    rw [numS_dec pF (by omega) (by omega), textS_hex, textS_hex]
  rw [beginS, if_pos hm, hP, okP, h]
  simp [lnB_body]
theorem b_nil {s : ByteArray} (h : s.data.toList = []) : s.size = 0 := by
  have : s.data.toList.length = s.size := by simp
  rw [← this, h]; rfl
theorem lnB_ne (w : ByteArray) (ns : List Int) (ts : List ByteArray) : 0 < (lnB w ns ts).data.toList.length := by
  rw [lnB_body, ByteArray.data_append, Array.toList_append]; simp
theorem parse_lines : ∀ (ds : List Deed) (f : Nat) (rest : ByteArray) (p : Plan) (no : Nat), (∀ d ∈ ds, rightD d = true) → rest.data.toList = ds.flatMap (fun d => (lineD d).data.toList) → ds.length ≤ f → p.Deeds.length + ds.length ≤ 200 →
    parseF f rest p no = ⟨⟨p.Format, p.Rules, p.Routes, p.Deeds ++ ds⟩, 0, 0⟩
  | [], f, rest, p, no, _, hr, _, _ => by
    have := b_nil (s := rest) (by simpa using hr)
    cases f <;> simp [parseF, this]
  | d :: ds, 0, _, _, _, _, _, h, _ => by simp at h
  | d :: ds, f + 1, rest, p, no, hd, hr, hf, hl => by
    rw [List.flatMap_cons] at hr
    obtain ⟨h1, h2, h3⟩ := cut_line _ _ _ (kw_wordy _) _ rest hr
    have hne : rest.size ≠ 0 := by
      have e : rest.data.toList.length = rest.size := by simp
      have := lnB_ne (kw d.Kind.toNat) d.Nums d.Texts
      rw [hr, List.length_append] at e
      show rest.size ≠ 0
      have e2 : (lineD d).data.toList.length = (lnB (kw d.Kind.toNat) d.Nums d.Texts).data.toList.length := rfl
      omega
    simp only [List.length_cons] at hf hl
    have hno : decide (p.Deeds.length = 200) = false := by simp; omega
    rw [parseF, if_neg hne, h1, h2, h3, deed_back d (hd d (by simp))]
    simp only [Bool.not_true, Bool.false_or, hno, Bool.false_eq_true, if_false]
    rw [parse_lines ds f _ _ _ (fun x hx => hd x (by simp [hx])) (bOf_data _) (by omega) (by simp; omega)]
    simp
/-- what is printed is parsed as that plan -/
theorem print_parse (p : Plan) (h : rightP p = true) : parseS ⟨(textL p).toArray⟩ = ⟨p, 0, 0⟩ := by
  obtain ⟨h1, h2, h3⟩ := rightP_fit h
  have hs : (bOf (textL p)).data.toList = (lnB moveB [p.Format] [p.Rules, p.Routes]).data.toList ++ p.Deeds.flatMap fun d => (lineD d).data.toList := bOf_data _
  obtain ⟨c1, c2, c3⟩ := cut_line _ _ _ move_wordy _ _ hs
  show parseS (bOf (textL p)) = _
  have hb := begin_back ⟨p.Format, p.Rules, p.Routes, []⟩ (by simpa [beginsP] using h1) rfl
  simp only [] at hb
  rw [parseS, c1, c2, c3, hb]
  simp only [Bool.and_self, if_true]
  rw [parse_lines p.Deeds _ _ _ _ h3 (bOf_data _) ?_ (by simpa using h2)]
  · simp
  · rw [bOf_size, textL, List.length_append]
    have : p.Deeds.length ≤ (p.Deeds.flatMap fun d => (lineD d).data.toList).length := by
      generalize p.Deeds = ds
      induction ds with
      | nil => simp
      | cons d ds ih =>
        have := lnB_ne (kw d.Kind.toNat) d.Nums d.Texts
        simp only [List.flatMap_cons, List.length_append, List.length_cons, lineD] at ih ⊢
        omega
    omega
theorem cut_all (s : ByteArray) (h : cutE s = true) : s = cutR s ++ ⟨#[10]⟩ ++ cutM s := by
  apply b_ext
  by_cases hm : (10 : UInt8) ∈ s.data.toList
  · obtain ⟨a, r, e, ha⟩ := List.eq_append_cons_of_mem hm
    have := cut_hit 10 a r ha
    rw [cutR, cutM, e]
    show _ = (((⟨(Lib.cut (a ++ 10 :: r) [10]).1.toArray⟩ : ByteArray) ++ ⟨#[10]⟩) ++ ⟨(Lib.cut (a ++ 10 :: r) [10]).2.1.toArray⟩).data.toList
    rw [this]
    simp [ByteArray.data_append]
  · have := cut_miss 10 _ hm
    rw [cutE] at h
    rw [show nl.data.toList = [10] from rfl, this] at h
    cases h
theorem deed_ok_line (row : ByteArray) (h : (deedS row).2 = true) : rightD (deedS row).1 = true ∧ lineD (deedS row).1 = row ++ ⟨#[10]⟩ := by
  unfold deedS at h ⊢
  split
  · rename_i k hk
    rw [hk] at h
    simp only [okD, Bool.and_eq_true, decide_eq_true_eq] at h
    refine ⟨h.1, ?_⟩
    rw [← h.2]
    show lnB (kw (mkD (pieces row) k).Kind.toNat) _ _ = _
    simp [mkD]
  · rename_i hk
    rw [hk] at h; cases h
theorem parseF_text : ∀ (f : Nat) (rest : ByteArray) (p q : Plan) (no : Nat) (n : Int), rest.size ≤ f → p.Deeds.length ≤ 200 → parseF f rest p no = ⟨q, 0, n⟩ →
    ∃ ds, q = ⟨p.Format, p.Rules, p.Routes, p.Deeds ++ ds⟩ ∧ (∀ d ∈ ds, rightD d = true) ∧ rest.data.toList = ds.flatMap (fun d => (lineD d).data.toList) ∧ (p.Deeds ++ ds).length ≤ 200
  | 0, rest, p, q, no, n, hf, hp, h => by
    rw [parseF] at h
    cases h
    have : rest.data.toList = [] := by
      have e : rest.data.toList.length = rest.size := by simp
      exact List.eq_nil_of_length_eq_zero (by omega)
    exact ⟨[], by simp, by simp, by simp [this], by simpa using hp⟩
  | f + 1, rest, p, q, no, n, hf, hp, h => by
    rw [parseF] at h
    split at h
    · rename_i h0
      cases h
      have : rest.data.toList = [] := by
        have e : rest.data.toList.length = rest.size := by simp
        exact List.eq_nil_of_length_eq_zero (by omega)
      exact ⟨[], by simp, by simp, by simp [this], by simpa using hp⟩
    · rename_i h0
      split at h
      · have := congrArg PR.e h; simp at this
      · rename_i h1
        simp only [Bool.or_eq_true, Bool.not_eq_true', decide_eq_true_eq, not_or, Bool.not_eq_false] at h1
        obtain ⟨⟨h2, h3⟩, h4⟩ := h1
        have hc := cut_all rest h2
        have hsz := cutM_size rest h2
        obtain ⟨h5, h6⟩ := deed_ok_line _ h3
        obtain ⟨ds, e1, e2, e3, e4⟩ := parseF_text f (cutM rest) _ q _ n (by omega) (by simp; omega) h
        refine ⟨(deedS (cutR rest)).1 :: ds, by rw [e1]; simp, ?_, ?_, by simpa using e4⟩
        · intro d hd
          rcases List.mem_cons.1 hd with rfl | hd
          · exact h5
          · exact e2 d hd
        · rw [List.flatMap_cons, h6, ← e3]
          conv => lhs; rw [hc]
          simp [ByteArray.data_append]
theorem begin_ok_line (row : ByteArray) (h : (beginS row).2 = true) : beginsP (beginS row).1 = true ∧ headP (beginS row).1 = row ++ ⟨#[10]⟩ := by
  unfold beginS at h ⊢
  split at h
  · rename_i hm
    rw [if_pos hm]
    simp only [okP, Bool.and_eq_true, decide_eq_true_eq] at h
    exact ⟨h.1, h.2⟩
  · cases h
/-- what is parsed, printed, is the text -/
theorem parse_print (s : ByteArray) (q : Plan) (n : Int) (h : parseS s = ⟨q, 0, n⟩) : rightP q = true ∧ printS q = (s, 0) := by
  unfold parseS at h
  split at h
  · rename_i hc
    simp only [Bool.and_eq_true] at hc
    obtain ⟨hc1, hc2⟩ := hc
    have hsz := cutM_size s hc1
    have hnil := begin_deeds (cutR s)
    obtain ⟨b1, b2⟩ := begin_ok_line _ hc2
    obtain ⟨ds, e1, e2, e3, e4⟩ := parseF_text _ _ _ q _ n (by omega) (by rw [hnil]; simp) h
    rw [hnil, List.nil_append] at e1 e4
    have hright : rightP q = true := by
      rw [e1, rightP]
      have : beginsP ⟨(beginS (cutR s)).1.Format, (beginS (cutR s)).1.Rules, (beginS (cutR s)).1.Routes, ds⟩ = beginsP (beginS (cutR s)).1 := rfl
      rw [this, b1]
      simp only [Bool.true_and, Bool.and_eq_true, decide_eq_true_eq, Bool.not_eq_true', List.any_eq_false]
      exact ⟨e4, fun d hd => by simp [e2 d hd]⟩
    refine ⟨hright, ?_⟩
    rw [printS, if_pos hright]
    congr 1
    apply b_ext
    show (textL q).toArray.toList = _
    have hh : headP q = headP (beginS (cutR s)).1 := by rw [e1]; rfl
    have hd : q.Deeds = ds := by rw [e1]
    rw [textL, hh, b2, hd, ← e3]
    conv => rhs; rw [cut_all s hc1]
    simp [ByteArray.data_append]
  · have := congrArg PR.e h; simp at this
theorem parse_err (s : ByteArray) (h : (parseS s).e ≠ 0) : (parseS s).p = ⟨0, .empty, .empty, []⟩ := by
  have key : ∀ f rest p no, (parseF f rest p no).e ≠ 0 → (parseF f rest p no).p = ⟨0, .empty, .empty, []⟩ := by
    intro f
    induction f with
    | zero => intro rest p no h; exact absurd rfl h
    | succ f ih =>
      intro rest p no h
      rw [parseF] at h ⊢
      split at h
      · exact absurd rfl h
      · rename_i h0
        rw [if_neg h0]
        split at h
        · rename_i h1; rw [if_pos h1]
        · rename_i h1; rw [if_neg h1]; exact ih _ _ _ h
  unfold parseS at h ⊢
  split at h
  · rename_i hc; rw [if_pos hc]; exact key _ _ _ _ h
  · rename_i hc; rw [if_neg hc]
end Go.PL
namespace Go.PL
set_option linter.unusedSimpArgs false
set_option linter.unusedVariables false
set_option linter.unusedSectionVars false
open Tys (Ty U)
open Enc (sz enc dflt tb ofB toB)
open Dec (dec dok)
set_option maxRecDepth 100000
open Go.Proofs
variable [GM]
def pA : Plan := ⟨2, ⟨#[97]⟩, .empty, []⟩
def tA : ByteArray := ⟨#[109, 111, 118, 101, 32, 50, 32, 120, 54, 49, 32, 120, 10]⟩
theorem pA_right : rightP pA = true := by decide
theorem tA_text : (⟨(textL pA).toArray⟩ : ByteArray) = tA := by
  have e1 : decI 2 = ⟨#[50]⟩ := by simp [decI, decB]
  have e2 : hexB [97] = [54, 49] := by decide
  show bOf ((lineL moveB [2] [⟨#[97]⟩, .empty]) ++ []) = tA
  simp only [lineL, lnN, lnT, List.flatMap_cons, List.flatMap_nil, e1]
  show bOf ([109, 111, 118, 101] ++ ((32 :: [50]) ++ [] ++ ((32 :: 120 :: hexB [97]) ++ ((32 :: 120 :: hexB []) ++ []) ++ [10])) ++ []) = tA
  rw [e2]; rfl
theorem alive_ok : PFun cx 11 [] (bl true) := by
  have h1 : printS pA = (tA, 0) := by rw [printS, if_pos pA_right, tA_text]
  have h2 : parseS tA = ⟨pA, 0, 0⟩ := by rw [← tA_text]; exact print_parse pA pA_right
  have c8 : PFun cx 8 [planPV pA] (.tu [st tA, it .i64 0]) := print_ok pA (tA, 0) h1.symm (by intro d hd; cases hd) (by decide)
  have c9 : PFun cx 9 [st tA] (.tu [planPV pA, it .i64 0, it .i64 0]) := parse_ok tA ⟨pA, 0, 0⟩ h2.symm (by decide)
  have c12 : PFun cx 12 [planPV pA] (bl true) := Right_ok pA true pA_right.symm (by intro d hd; cases hd) (by decide)
  refine PFun.walk cx_ok Tryd.func11 rfl rfl rfl fun A P R hA hP hR => ?_
  cbv
  refine CallK.le [planPV pA] _ rfl (fun _ => by cbv; and_intros <;> first | trivial | rfl) (fun _ => by rw [hP]; exact c8) ?_
  cbv
  refine CallK.mk _ rfl (fun _ => by rw [hP]; exact c9) ?_
  cbv
  repeat (refine And.intro (by first | exact True.intro | exact i_in hA (by assumption) | (subst hA; simp [std]; done) | (split <;> first | exact True.intro | rfl | assumption) | (subst hA; simp [std]; omega)) ?_)
  refine CallK.mk _ rfl (fun _ => by rw [hP]; exact c12) ?_
  cbv
  repeat (refine And.intro (by first | exact True.intro | exact i_in hA (by assumption) | (subst hA; simp [std]; done) | (split <;> first | exact True.intro | rfl | assumption) | (subst hA; simp [std]; omega)) ?_)
  subst hR
  simp only [LeP, LeD, bl]
  subst hA
  simp
theorem text_size (p : Plan) (h : rightP p = true) : (textL p).length ≤ 200000 * 201 := by
  obtain ⟨h1, h2, h3⟩ := rightP_fit h
  obtain ⟨b1, b2, b3⟩ := begins_fit h1
  have e : ∀ s : ByteArray, s.data.toList.length = s.size := fun s => by simp
  have hh : (headP p).size ≤ 200000 := line_short (by decide) (by simp) (by simp) (by intro n hn; simp at hn; omega) (by intro t ht; simp at ht; rcases ht with rfl | rfl <;> omega)
  have key : ∀ ds : List Deed, (∀ d ∈ ds, rightD d = true) → (ds.flatMap fun d => (lineD d).data.toList).length ≤ 200000 * ds.length := by
    intro ds
    induction ds with
    | nil => intro _; simp
    | cons d ds ih =>
      intro hd
      have hr := hd d (by simp)
      have e1 := rightD_lens hr
      obtain ⟨e2, e3⟩ := rightD_nums hr
      have : (lineD d).size ≤ 200000 := line_short (kw_size _) (by omega) (by omega) e2 (fun t ht => by have := e3 t ht; omega)
      have := ih fun x hx => hd x (by simp [hx])
      simp only [List.flatMap_cons, List.length_append, List.length_cons, e] at this ⊢
      omega
  have := key p.Deeds h3
  rw [textL, List.length_append, e]
  omega
theorem few_small (p : Plan) (m : Nat) : ∀ d ∈ (fewP p m).Deeds, smallD d := by
  intro d hd
  simp only [fewP, List.mem_map] at hd
  obtain ⟨x, _, rfl⟩ := hd
  simp only [smallD, fewD, List.length_map, List.length_take]
  omega
theorem back_ok (p : Plan) (s : ByteArray) : PFun cx 3 [planPV p, st s] (bl true) := by
  obtain ⟨F, hF⟩ : ∃ F, F = fewP p 203 := ⟨_, rfl⟩
  have hFs : ∀ d ∈ F.Deeds, smallD d := by rw [hF]; exact few_small p 203
  have hFl : F.Deeds.length ≤ 203 := by rw [hF]; simp [fewP]; omega
  have c7 : PFun cx 7 [planPV p, it .i64 203] (planPV F) := by rw [hF]; exact few_ok p 203 (by decide)
  obtain ⟨S, hS⟩ : ∃ S, S = cutS s 40000 := ⟨_, rfl⟩
  have hSz : S.size ≤ 40000 := by rw [hS]; simp [cutS]; omega
  obtain ⟨Q, hQ⟩ : ∃ Q, Q = parseS S := ⟨_, rfl⟩
  have hz : Q.e ≠ 0 → Q.p = ⟨0, .empty, .empty, []⟩ := by rw [hQ]; exact parse_err S
  have hgood : Q.e = 0 → rightP Q.p = true ∧ printS Q.p = (S, 0) := fun h => parse_print S Q.p Q.no (by rw [← hQ]; cases Q; simp only [] at h; rw [h])
  have hparse := parse_ok S Q hQ (by omega)
  obtain ⟨qp, qe, qn⟩ := Q
  simp only [] at hz hgood hparse
  clear hQ
  obtain ⟨pF, pU, pO, pD⟩ := p
  obtain ⟨fF, fU, fO, fD⟩ := F
  simp only [] at hFs hFl
  obtain ⟨qF, qU, qO, qD⟩ := qp
  refine PFun.walk cx_ok Tryd.func3 rfl rfl rfl fun A P R hA hP hR => ?_
  have hS2 : A.ssub s 0 (A.mn (A.slen s) 40000) = S := by rw [hS]; exact a_ssub hA s 40000
  have hk := a_ssubOk hA s 40000
  cbv
  refine CallK.mk _ rfl (fun _ => by rw [hP]; exact c7) ?_
  cbv
  refine ⟨hk, ?_⟩
  rw [← hS2] at hparse
  by_cases hr : rightP ⟨fF, fU, fO, fD⟩ = true
  · obtain ⟨T, hT⟩ : ∃ T : ByteArray, T = ⟨(textL ⟨fF, fU, fO, fD⟩).toArray⟩ := ⟨_, rfl⟩
    have hTs : T.size ≤ 1073741824 := by rw [hT]; have := text_size _ hr; show (textL _).toArray.size ≤ _; simp only [List.size_toArray]; omega
    have hpT : parseS T = ⟨⟨fF, fU, fO, fD⟩, 0, 0⟩ := by rw [hT]; exact print_parse _ hr
    refine CallK.mk (.tu [st T, it .i64 0]) rfl (fun _ => by rw [hP]; exact print_ok ⟨fF, fU, fO, fD⟩ (T, 0) (by rw [printS, if_pos hr, hT]) hFs (by simp only []; omega)) ?_
    cbv
    split
    · cbv
      refine CallK.mk _ rfl (fun _ => by rw [hP]; exact parse_ok T ⟨⟨fF, fU, fO, fD⟩, 0, 0⟩ hpT.symm hTs) ?_
      cbv
      repeat (refine And.intro (by first | exact True.intro | exact i_in hA (by assumption) | (subst hA; simp [std]; done) | (split <;> first | exact True.intro | rfl | assumption) | (subst hA; simp [std]; omega)) ?_)
      refine CallK.mk (bl true) rfl (fun _ => by rw [hP]; exact Like_ok ⟨fF, fU, fO, fD⟩ ⟨fF, fU, fO, fD⟩ true (by simp) (by simp only []; omega) hFs) ?_
      cbv
      repeat (refine And.intro (by first | exact True.intro | exact i_in hA (by assumption) | (subst hA; simp [std]; done) | (split <;> first | exact True.intro | rfl | assumption) | (subst hA; simp [std]; omega)) ?_)
      split
      · rename_i h5
        exfalso; subst hA; revert h5; decide
      · cbv
        refine CallK.mk (.tu [planPV ⟨qF, qU, qO, qD⟩, it .i64 qe, it .i64 qn]) rfl (fun _ => by rw [hP]; exact hparse) ?_
        cbv
        split
        · rename_i h5
          have h6 : A.cmp .neq qe 0 = true := h5
          rw [n_ne hA, decide_eq_true_eq] at h6
          cbv
          refine CallK.mk (bl true) rfl (fun _ => by rw [hP]; exact alive_ok) ?_
          cbv
          refine CallK.le [planPV ⟨qF, qU, qO, qD⟩, planPV ⟨0, .empty, .empty, []⟩] (bl true) rfl (fun _ => by cbv; and_intros <;> first | trivial | rfl) (fun _ => by rw [hP]; exact Like_ok ⟨qF, qU, qO, qD⟩ _ true (by simp [hz h6]) (by rw [hz h6]; simp) (by rw [hz h6]; simp)) ?_
          cbv
          subst hR
          simp only [LeP, LeD, bl]
          subst hA
          rfl
        · rename_i h5
          have h6 : A.cmp .neq qe 0 = false := h5
          rw [n_ne hA, decide_eq_false_iff_not, Classical.not_not] at h6
          obtain ⟨g1, g2⟩ := hgood h6
          obtain ⟨g3, g4, g5⟩ := rightP_fit g1
          have g6 : ∀ d ∈ qD, smallD d := fun d hd => by have := rightD_lens (g5 d hd); exact ⟨by omega, by omega⟩
          cbv
          refine CallK.mk (.tu [st S, it .i64 0]) rfl (fun _ => by rw [hP]; exact print_ok ⟨qF, qU, qO, qD⟩ (S, 0) g2.symm g6 (by omega)) ?_
          cbv
          refine CallK.mk (bl true) rfl (fun _ => by rw [hP]; exact alive_ok) ?_
          cbv
          repeat (refine And.intro (by first | exact True.intro | exact i_in hA (by assumption) | (subst hA; simp [std]; done) | (split <;> first | exact True.intro | rfl | assumption) | (subst hA; simp [std]; omega)) ?_)
          refine CallK.mk (bl true) rfl (fun _ => by rw [hP]; exact Right_ok ⟨qF, qU, qO, qD⟩ true g1.symm g6 (by omega)) ?_
          cbv
          repeat (refine And.intro (by first | exact True.intro | exact i_in hA (by assumption) | (subst hA; simp [std]; done) | (split <;> first | exact True.intro | rfl | assumption) | (subst hA; simp [std]; omega)) ?_)
          subst hR
          simp only [LeP, LeD, bl]
          show A.and (A.and (A.and true (A.cmp .eql 0 0)) (A.scmp .eql S (A.ssub s 0 (A.mn (A.slen s) 40000)))) true = true
          rw [hS2]
          subst hA
          simp
    · rename_i h5
      exfalso; subst hA; revert h5; decide
  · refine CallK.mk (.tu [st .empty, it .i64 1]) rfl (fun _ => by rw [hP]; exact print_ok ⟨fF, fU, fO, fD⟩ (.empty, 1) (by rw [printS, if_neg hr]) hFs (by simp only []; omega)) ?_
    cbv
    split
    · rename_i h5
      exfalso; subst hA; revert h5; decide
    · cbv
      refine CallK.mk (.tu [planPV ⟨qF, qU, qO, qD⟩, it .i64 qe, it .i64 qn]) rfl (fun _ => by rw [hP]; exact hparse) ?_
      cbv
      split
      · rename_i h5
        have h6 : A.cmp .neq qe 0 = true := h5
        rw [n_ne hA, decide_eq_true_eq] at h6
        cbv
        refine CallK.mk (bl true) rfl (fun _ => by rw [hP]; exact alive_ok) ?_
        cbv
        refine CallK.le [planPV ⟨qF, qU, qO, qD⟩, planPV ⟨0, .empty, .empty, []⟩] (bl true) rfl (fun _ => by cbv; and_intros <;> first | trivial | rfl) (fun _ => by rw [hP]; exact Like_ok ⟨qF, qU, qO, qD⟩ _ true (by simp [hz h6]) (by rw [hz h6]; simp) (by rw [hz h6]; simp)) ?_
        cbv
        subst hR
        simp only [LeP, LeD, bl]
        subst hA
        rfl
      · rename_i h5
        have h6 : A.cmp .neq qe 0 = false := h5
        rw [n_ne hA, decide_eq_false_iff_not, Classical.not_not] at h6
        obtain ⟨g1, g2⟩ := hgood h6
        obtain ⟨g3, g4, g5⟩ := rightP_fit g1
        have g6 : ∀ d ∈ qD, smallD d := fun d hd => by have := rightD_lens (g5 d hd); exact ⟨by omega, by omega⟩
        cbv
        refine CallK.mk (.tu [st S, it .i64 0]) rfl (fun _ => by rw [hP]; exact print_ok ⟨qF, qU, qO, qD⟩ (S, 0) g2.symm g6 (by omega)) ?_
        cbv
        refine CallK.mk (bl true) rfl (fun _ => by rw [hP]; exact alive_ok) ?_
        cbv
        repeat (refine And.intro (by first | exact True.intro | exact i_in hA (by assumption) | (subst hA; simp [std]; done) | (split <;> first | exact True.intro | rfl | assumption) | (subst hA; simp [std]; omega)) ?_)
        refine CallK.mk (bl true) rfl (fun _ => by rw [hP]; exact Right_ok ⟨qF, qU, qO, qD⟩ true g1.symm g6 (by omega)) ?_
        cbv
        repeat (refine And.intro (by first | exact True.intro | exact i_in hA (by assumption) | (subst hA; simp [std]; done) | (split <;> first | exact True.intro | rfl | assumption) | (subst hA; simp [std]; omega)) ?_)
        subst hR
        simp only [LeP, LeD, bl]
        show A.and (A.and (A.and true (A.cmp .eql 0 0)) (A.scmp .eql S (A.ssub s 0 (A.mn (A.slen s) 40000)))) true = true
        rw [hS2]
        subst hA
        simp
end Go.PL
