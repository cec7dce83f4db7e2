/- Contracts of the reference's functions that read, and their plain law. Conditions: those that each states. -/
import Derived.Test.YtmmpeenkjgnhbaaDoorFc
namespace Go.PL
set_option linter.unusedSimpArgs false
set_option linter.unusedVariables false
set_option linter.unusedSectionVars false
open Tys (Ty U)
open Enc (sz enc dflt tb ofB toB)
open Dec (dec dok)
set_option maxRecDepth 100000
open Go.Proofs
variable [GM]
def halfN (c : Int) : Int := if 48 ≤ c ∧ c ≤ 57 then c - 48 else if 97 ≤ c ∧ c ≤ 102 then c - 97 + 10 else 16
theorem w64z {z : Int} (h : 0 ≤ z ∧ z < 9223372036854775808) : IntKind.i64.wrap z = z := by
  obtain ⟨n, rfl⟩ : ∃ n : Nat, z = n := ⟨z.toNat, by omega⟩
  exact w64 (by omega)
theorem w8z {z : Int} (h : 0 ≤ z ∧ z < 256) : IntKind.u8.wrap z = z := by
  obtain ⟨n, rfl⟩ : ∃ n : Nat, z = n := ⟨z.toNat, by omega⟩
  exact w8 (by omega)
theorem half_ok (n : Int) (h0 : 0 ≤ n) (h1 : n < 256) : PFun cx 65 [it .u8 n] (it .i64 (halfN n)) := by
  obtain ⟨T, hT⟩ : ∃ T, T = halfN n := ⟨_, rfl⟩
  rw [← hT]
  refine PFun.walk cx_ok Tryd.func65 rfl rfl rfl fun A P R hA hP hR => ?_
  cbv
  repeat (refine And.intro (by first | exact True.intro | exact i_in hA (by assumption) | (subst hA; simp [std]; done) | (split <;> first | exact True.intro | rfl | assumption) | (subst hA; simp [std]; omega)) ?_)
  split
  · rename_i h
    have h2 : A.and (A.cmp .geq n 48) (A.cmp .leq n 57) = true := h
    cbv
    repeat (refine And.intro (by first | exact True.intro | exact i_in hA (by assumption) | (subst hA; simp [std]; done) | (split <;> first | exact True.intro | rfl | assumption) | (subst hA; simp [std]; omega)) ?_)
    subst hR hA
    simp only [LeP, LeD, it, true_and]
    simp [std, cmpStd] at h2
    show IntKind.i64.wrap (IntKind.u8.wrap (n - 48)) = T
    rw [w8z (by omega), w64z (by omega), hT, halfN, if_pos h2]
  · rename_i h
    have h2 : A.and (A.cmp .geq n 48) (A.cmp .leq n 57) = false := h
    cbv
    repeat (refine And.intro (by first | exact True.intro | exact i_in hA (by assumption) | (subst hA; simp [std]; done) | (split <;> first | exact True.intro | rfl | assumption) | (subst hA; simp [std]; omega)) ?_)
    split
    · rename_i h'
      have h3 : A.and (A.cmp .geq n 97) (A.cmp .leq n 102) = true := h'
      cbv
      repeat (refine And.intro (by first | exact True.intro | exact i_in hA (by assumption) | (subst hA; simp [std]; done) | (split <;> first | exact True.intro | rfl | assumption) | (subst hA; simp [std]; omega)) ?_)
      subst hR hA
      simp only [LeP, LeD, it, true_and]
      simp [std, cmpStd] at h2 h3
      show IntKind.i64.wrap (IntKind.i64.wrap (IntKind.u8.wrap (n - 97)) + 10) = T
      rw [w8z (by omega), w64z (z := n - 97) (by omega), w64z (by omega), hT, halfN, if_neg (by omega), if_pos h3]
    · rename_i h'
      have h3 : A.and (A.cmp .geq n 97) (A.cmp .leq n 102) = false := h'
      cbv
      repeat (refine And.intro (by first | exact True.intro | exact i_in hA (by assumption) | (subst hA; simp [std]; done) | (split <;> first | exact True.intro | rfl | assumption) | (subst hA; simp [std]; omega)) ?_)
      subst hR hA
      simp only [LeP, LeD, it, true_and]
      simp [std, cmpStd] at h2 h3
      rw [hT, halfN, if_neg (by omega), if_neg (by omega)]
def unhF : List UInt8 → Option (List UInt8)
  | a :: b :: r => if 15 < halfN a.toNat ∨ 15 < halfN b.toNat then none else (unhF r).map (UInt8.ofNat (16 * halfN a.toNat + halfN b.toNat).toNat :: ·)
  | _ => some []
def unhR (s : ByteArray) : ByteArray × Bool := if s.size % 2 = 1 ∧ s.data.toList[0]? = some 120 then (match unhF (s.data.toList.drop 1) with | some l => (bOf l, true) | none => (.empty, false)) else (.empty, false)
theorem half_range (c : UInt8) : 0 ≤ halfN c.toNat ∧ halfN c.toNat ≤ 16 := by unfold halfN; split <;> (try split) <;> omega
theorem hexJoin {A : Ar} (hA : A = std) {x y : Int} (hx : 0 ≤ x ∧ x ≤ 15) (hy : 0 ≤ y ∧ y ≤ 15) : A.conv .u8 (A.ar .add .i64 (A.ar .mul .i64 16 x) y) = (((16 * x + y).toNat : Nat) : Int) ∧ (16 * x + y).toNat < 256 := by
  refine ⟨?_, by omega⟩
  subst hA
  show IntKind.u8.wrap (IntKind.i64.wrap (IntKind.i64.wrap (16 * x) + y)) = _
  rw [w64 (n := 16 * _) (by omega), w64 (by omega), w8 (by omega)]; omega
theorem unhex_ok (s : ByteArray) (hs : s.size ≤ 1099511627776) : PFun cx 56 [st s] (.tu [st (unhR s).1, bl (unhR s).2]) := by
  obtain ⟨T, hT⟩ : ∃ T, T = unhR s := ⟨_, rfl⟩
  obtain ⟨hf, hhf, c65⟩ : ∃ f : Int → Int, f = halfN ∧ ∀ n, 0 ≤ n → n < 256 → PFun cx 65 [it .u8 n] (it .i64 (f n)) := ⟨_, rfl, half_ok⟩
  rw [← hT]
  have hcb : ∀ c : UInt8, (c.toNat : Int) < 256 := fun c => by have := c.toNat_lt; omega
  refine PFun.walk cx_ok Tryd.func56 rfl rfl rfl fun A P R hA hP hR => ?_
  cbv
  have e1 : A.cmp .neq (A.ar .rem .i64 (A.slen s) 2) 1 = decide (s.size % 2 ≠ 1) := by
    subst hA; rw [s_rem, show std.slen s = ((s.size : Nat) : Int) from rfl, tmod0 (by omega), n_ne rfl, Bool.eq_iff_iff]
    simp only [decide_eq_true_eq]; omega
  have e2 : (match A.not (A.cmp .neq (A.ar .rem .i64 (A.slen s) 2) 1) with | true => A.inb 0 (A.slen s) | false => True) := by
    rw [e1]
    split
    · rename_i h
      exact s_in (i := 0) hA (by subst hA; rw [s_not] at h; simp at h; omega)
    · trivial
  have e3 : A.nz 2 := by subst hA; simp [std]
  repeat (refine And.intro (by first | exact e3 | exact e2 | exact True.intro | exact i_in hA (by assumption) | (subst hA; simp [std]; done) | (split <;> first | exact True.intro | rfl | assumption) | (subst hA; simp [std]; omega)) ?_)
  split
  · rename_i h
    have h2 : A.or (A.cmp .neq (A.ar .rem .i64 (A.slen s) 2) 1) (A.cmp .neq (A.sget s 0) 120) = true := h
    rw [e1] at h2
    cbv
    have hT2 : T = (.empty, false) := by
      rw [hT, unhR, if_neg]
      rintro ⟨h3, h4⟩
      have h5 : A.sget s 0 = 120 := byteV (i := 0) hA h4
      rw [h5] at h2
      subst hA
      rw [s_lor] at h2
      simp [h3, std, cmpStd] at h2
    subst hR
    rw [hT2]
    simp [LeP, LeD, LeP.LePs, st, bl]
    try rfl
  · rename_i h
    have h2 : A.or (A.cmp .neq (A.ar .rem .i64 (A.slen s) 2) 1) (A.cmp .neq (A.sget s 0) 120) = false := h
    rw [e1] at h2
    have h3 : s.size % 2 = 1 := by subst hA; rw [s_lor, Bool.or_eq_false_iff] at h2; simpa using h2.1
    have h4 : s.data.toList[0]? = some 120 := by
      obtain ⟨c, hc, _⟩ := byteAt (s := s) (j := 0) (by omega)
      have h5 : A.sget s 0 = (c.toNat : Int) := byteV (i := 0) hA hc
      rw [h5] at h2
      have h6 : (c.toNat : Int) = 120 := by subst hA; rw [s_lor, Bool.or_eq_false_iff] at h2; simpa [std, cmpStd] using h2.2
      have : c = 120 := by apply UInt8.toNat_inj.1; simp; omega
      rw [hc, this]
    rw [unhR, if_pos ⟨h3, h4⟩] at hT
    cbv
    refine LoopK.mk (X := {p : Nat × List UInt8 × Nat // p.1 ≤ s.size ∧ p.1 % 2 = 1 ∧ p.2.2 = p.2.1.length ∧ p.2.1.length ≤ p.1 ∧ (unhF (s.data.toList.drop p.1)).map (p.2.1 ++ ·) = unhF (s.data.toList.drop 1)}) (fun p gh => [(5, it .i64 p.1.1), (4, .os 900 gh .byte p.1.2.1)]) (fun p gh => [⟨900, gh, .tok 5 .byte p.1.2.2⟩]) (fun p => s.size - p.1.1) ⟨(1, [], A.nlen TyS.byte []), by subst hA; simp [std]; omega⟩ [(900, 6, 1)] ⟨?_, ?_, ?_⟩ ?_
    · (cbv <;> (try (and_intros <;> (first | exact True.intro | exact i_succ hA (by omega) | rfl | simp))))
    · (cbv <;> (try (and_intros <;> (first | exact True.intro | rfl | simp))))
    · cbv
    intro ⟨⟨j, bs, m⟩, hj, hjo, hm, hm0, hm1⟩ gh g K hK
    simp only [] at hj hjo hm hm0 hm1
    cbv
    split
    · rename_i h'
      have hlt : j < s.size := s_gin hA h'
      have hlt2 : j + 1 < s.size := by omega
      obtain ⟨a, ha1, _, had, _⟩ := byteAt hlt
      obtain ⟨b, hb1, _, hbd, _⟩ := byteAt hlt2
      have hj1 : A.ar .add .i64 (Int.ofNat j) 1 = Int.ofNat (j + 1) := i_succ hA (by omega)
      have hga : A.sget s (Int.ofNat j) = (a.toNat : Int) := byteV hA ha1
      have hgb : A.sget s (A.ar .add .i64 (Int.ofNat j) 1) = (b.toNat : Int) := by rw [hj1]; exact byteV hA hb1
      have hin1 : A.inb (Int.ofNat j) (A.slen s) := s_in hA hlt
      have hin2 : A.inb (A.ar .add .i64 (Int.ofNat j) 1) (A.slen s) := by rw [hj1]; exact s_in hA hlt2
      have a0 : 0 ≤ A.sget s (Int.ofNat j) := by rw [hga]; omega
      have a1 : A.sget s (Int.ofNat j) < 256 := by rw [hga]; exact hcb a
      have b0 : 0 ≤ A.sget s (A.ar .add .i64 (Int.ofNat j) 1) := by rw [hgb]; omega
      have b1 : A.sget s (A.ar .add .i64 (Int.ofNat j) 1) < 256 := by rw [hgb]; exact hcb b
      have hfa : hf (A.sget s (Int.ofNat j)) = halfN a.toNat := by rw [hga, hhf]
      have hfb : hf (A.sget s (A.ar .add .i64 (Int.ofNat j) 1)) = halfN b.toNat := by rw [hgb, hhf]
      rw [had, hbd, unhF] at hm1
      cbv
      refine ⟨hin1, ?_⟩
      refine CallK.mk _ rfl (fun _ => by rw [hP]; exact c65 _ a0 a1) ?_
      cbv
      repeat (refine And.intro (by first | (split <;> first | exact hin2 | trivial) | exact True.intro | exact i_in hA (by assumption) | (subst hA; simp [std]; done) | (split <;> first | exact True.intro | rfl | assumption) | (subst hA; simp [std]; omega)) ?_)
      refine CallK.mk _ rfl (fun _ => by rw [hP]; exact c65 _ b0 b1) ?_
      cbv
      repeat (refine And.intro (by first | (split <;> first | exact hin2 | trivial) | exact True.intro | exact i_in hA (by assumption) | (subst hA; simp [std]; done) | (split <;> first | exact True.intro | rfl | assumption) | (subst hA; simp [std]; omega)) ?_)
      split
      · rename_i h2
        have h5 : A.or (A.cmp .gtr (hf (A.sget s (Int.ofNat j))) 15) (A.cmp .gtr (hf (A.sget s (A.ar .add .i64 (Int.ofNat j) 1))) 15) = true := h2
        rw [hfa, hfb] at h5
        have h6 : 15 < halfN a.toNat ∨ 15 < halfN b.toNat := by subst hA; simpa [std, cmpStd] using h5
        rw [if_pos h6] at hm1
        rw [← hm1] at hT
        simp only [Option.map_none] at hT
        cbv
        subst hR
        rw [hT]
        simp [LeP, LeD, LeP.LePs, st, bl]
        try rfl
      · rename_i h2
        have h5 : A.or (A.cmp .gtr (hf (A.sget s (Int.ofNat j))) 15) (A.cmp .gtr (hf (A.sget s (A.ar .add .i64 (Int.ofNat j) 1))) 15) = false := h2
        rw [hfa, hfb] at h5
        have h6 : ¬ (15 < halfN a.toNat ∨ 15 < halfN b.toNat) := by subst hA; simpa [std, cmpStd] using h5
        rw [if_neg h6] at hm1
        have ha : 0 ≤ halfN a.toNat ∧ halfN a.toNat ≤ 15 := ⟨(half_range a).1, by rcases Int.lt_or_le 15 (halfN a.toNat) with h | h; exact absurd (.inl h) h6; exact h⟩
        have hb : 0 ≤ halfN b.toNat ∧ halfN b.toNat ≤ 15 := ⟨(half_range b).1, by rcases Int.lt_or_le 15 (halfN b.toNat) with h | h; exact absurd (.inr h) h6; exact h⟩
        cbv
        refine ⟨hin1, ?_⟩
        refine CallK.mk _ rfl (fun _ => by rw [hP]; exact c65 _ a0 a1) ?_
        cbv
        repeat (refine And.intro (by first | exact hin2 | exact True.intro | exact i_in hA (by assumption) | (subst hA; simp [std]; done) | (split <;> first | exact True.intro | rfl | assumption) | (subst hA; simp [std]; omega)) ?_)
        refine CallK.mk _ rfl (fun _ => by rw [hP]; exact c65 _ b0 b1) ?_
        cbv
        clear hfa hfb
        have hfa : hf (A.sget s (Int.ofNat j)) = halfN a.toNat := by rw [hga, hhf]
        have hfb : hf (A.sget s (A.ar .add .i64 (Int.ofNat j) 1)) = halfN b.toNat := by rw [hgb, hhf]
        have hby : A.conv .u8 (A.ar .add .i64 (A.ar .mul .i64 16 (hf (A.sget s (Int.ofNat j)))) (hf (A.sget s (A.ar .add .i64 (Int.ofNat j) 1)))) = (((16 * halfN a.toNat + halfN b.toNat).toNat : Nat) : Int) := by
          rw [hfa, hfb]; exact (hexJoin hA ha hb).1
        obtain ⟨hu8, hu8v⟩ := u8k hA hby (hexJoin hA ha hb).2
        have hj2 : A.ar .add .i64 (Int.ofNat j) 2 = Int.ofNat (j + 2) := by
          subst hA; show IntKind.i64.wrap _ = _; rw [w64 (by simp; omega)]; rfl
        have hlen : m = A.nlen TyS.byte bs := by subst hA; simp [std, hm]
        repeat (refine And.intro (by first | exact ⟨hu8, True.intro⟩ | exact hlen | exact True.intro | exact i_in hA (by assumption) | (subst hA; simp [std]; done) | (split <;> first | exact True.intro | rfl | assumption) | (subst hA; simp [std]; omega)) ?_)
        refine hK _ ⟨(j + 2, A.app TyS.byte bs [A.u8 (A.conv .u8 (A.ar .add .i64 (A.ar .mul .i64 16 (hf (A.sget s (Int.ofNat j)))) (hf (A.sget s (A.ar .add .i64 (Int.ofNat j) 1)))))], A.nlen TyS.byte (A.app TyS.byte bs [A.u8 (A.conv .u8 (A.ar .add .i64 (A.ar .mul .i64 16 (hf (A.sget s (Int.ofNat j)))) (hf (A.sget s (A.ar .add .i64 (Int.ofNat j) 1)))))])), by simp only []; omega, by simp only []; omega, ?_, ?_, ?_⟩ [(900, 49, g + 2)] ?_ ⟨?_, ?_, ?_⟩
        · subst hA; rfl
        · rw [hu8v]; subst hA; simp [std]; omega
        · rw [hu8v, ← hm1, Option.map_map]; subst hA; congr 1; funext x; simp [std]
        · simp only []; omega
        · (cbv <;> (try (and_intros <;> (first | exact True.intro | exact i_succ hA (by omega) | exact hj2 | rfl | simp))))
        · (cbv <;> (try (and_intros <;> (first | exact True.intro | exact hj2 | rfl | simp))))
        · cbv
    · rename_i h'
      have hge : s.size ≤ j := s_gge hA h'
      rw [i_end (by simpa using hge)] at hm1
      simp only [unhF, Option.map_some, List.append_nil] at hm1
      rw [← hm1] at hT
      cbv
      subst hR
      rw [hT]
      simp only [LeP, LeD, LeP.LePs, st, bl]
      subst hA
      simp [std, toB_id, bOf]
end Go.PL
namespace Go.PL
set_option linter.unusedSimpArgs false
set_option linter.unusedVariables false
set_option linter.unusedSectionVars false
open Tys (Ty U)
open Enc (sz enc dflt tb ofB toB)
open Dec (dec dok)
set_option maxRecDepth 100000
open Go.Proofs
variable [GM]
def numF : List UInt8 → Int → Option Int
  | [], n => some n
  | c :: r, n => if (c.toNat : Int) < 48 ∨ 57 < (c.toNat : Int) ∨ 1099511627776 < n then none else numF r (10 * n + ((c.toNat : Int) - 48))
def numR (s : ByteArray) : Int := match numF s.data.toList 0 with
  | none => -1
  | some n => if decI n = s then n else -1
theorem dig_or {A : Ar} (hA : A = std) {x n : Int} : A.or (A.or (A.cmp .lss x 48) (A.cmp .gtr x 57)) (A.cmp .gtr n 1099511627776) = decide (x < 48 ∨ 57 < x ∨ 1099511627776 < n) := by
  subst hA
  rw [Bool.eq_iff_iff]
  simp [std, cmpStd, or_assoc]
theorem dig_v {A : Ar} (hA : A = std) {x n : Int} (h0 : 0 ≤ n) (h1 : n ≤ 1099511627776) (h2 : ¬ (x < 48 ∨ 57 < x ∨ 1099511627776 < n)) : A.ar .add .i64 (A.ar .mul .i64 10 n) (A.conv .i64 (A.ar .sub .u8 x 48)) = 10 * n + (x - 48) ∧ 0 ≤ 10 * n + (x - 48) ∧ 10 * n + (x - 48) ≤ 11000000000000 := by
  refine ⟨?_, by omega, by omega⟩
  subst hA
  show IntKind.i64.wrap (IntKind.i64.wrap (10 * n) + IntKind.i64.wrap (IntKind.u8.wrap (x - 48))) = _
  rw [w64 (n := 10 * n) (by omega), w8 (by omega), w64 (n := _ - 48) (by omega), w64 (by omega)]
theorem number_ok (ht : GM.tab = true) (s : ByteArray) (hs : s.size ≤ 1099511627776) : PFun cx 57 [st s] (it .i64 (numR s)) := by
  obtain ⟨T, hT⟩ : ∃ T, T = numR s := ⟨_, rfl⟩
  obtain ⟨ia, hia, c32⟩ : ∃ f : Int → ByteArray, f = decI ∧ ∀ n : Int, 0 ≤ n → n ≤ 9223372036854775807 → PFun cx 32 [it .i64 n] (st (f n)) := ⟨_, rfl, fun n h0 h1 => by rw [← itoa_dec n h0]; exact Itoa_ok ht n (by omega) h1⟩
  have hcb : ∀ c : UInt8, (c.toNat : Int) < 256 := fun c => by have := c.toNat_lt; omega
  rw [← hT]
  refine PFun.walk cx_ok Tryd.func57 rfl rfl rfl fun A P R hA hP hR => ?_
  cbv
  refine LoopK.mk (X := {p : Nat × Int // p.1 ≤ s.size ∧ 0 ≤ p.2 ∧ p.2 ≤ 11000000000000 ∧ numF (s.data.toList.drop p.1) p.2 = numF s.data.toList 0}) (fun p gh => [(4, it .i64 p.1.1), (3, it .i64 p.1.2)]) (fun p gh => []) (fun p => s.size - p.1.1) ⟨(0, 0), by simp⟩ [] ⟨?_, ?_, ?_⟩ ?_
  · (cbv <;> (try (and_intros <;> (first | exact True.intro | exact i_succ hA (by omega) | rfl | simp))))
  · (cbv <;> (try (and_intros <;> (first | exact True.intro | rfl | simp))))
  · cbv
  intro ⟨⟨i, n⟩, hi, hn0, hn1, hinv⟩ gh g K hK
  simp only [] at hi hn0 hn1 hinv
  cbv
  split
  · rename_i h
    have hlt := s_gin hA h
    obtain ⟨c, hc1, _, hcd, hgc⟩ := byteAt hlt
    have hgc := hgc hA
    have hin := s_in hA hlt
    have hc2 := hcb c
    rw [hcd, numF] at hinv
    cbv
    repeat (refine And.intro (by first | exact hin | (split <;> first | exact hin | trivial) | exact True.intro | exact i_in hA (by assumption) | (subst hA; simp [std]; done) | (split <;> first | exact True.intro | rfl | assumption) | (subst hA; simp [std]; omega)) ?_)
    split
    · rename_i h2
      have h3 : A.or (A.or (A.cmp .lss (A.sget s (Int.ofNat i)) 48) (A.cmp .gtr (A.sget s (Int.ofNat i)) 57)) (A.cmp .gtr n 1099511627776) = true := h2
      replace hgc : A.sget s (Int.ofNat i) = (c.toNat : Int) := hgc
      rw [hgc, dig_or hA, decide_eq_true_eq] at h3
      have h4 : (c.toNat : Int) < 48 ∨ 57 < (c.toNat : Int) ∨ 1099511627776 < n := h3
      rw [if_pos h4] at hinv
      rw [numR, ← hinv] at hT
      cbv
      subst hR
      rw [hT]
      simp [LeP, LeD, it]
    · rename_i h2
      have h3 : A.or (A.or (A.cmp .lss (A.sget s (Int.ofNat i)) 48) (A.cmp .gtr (A.sget s (Int.ofNat i)) 57)) (A.cmp .gtr n 1099511627776) = false := h2
      replace hgc : A.sget s (Int.ofNat i) = (c.toNat : Int) := hgc
      rw [hgc, dig_or hA, decide_eq_false_iff_not] at h3
      have h4 : ¬ ((c.toNat : Int) < 48 ∨ 57 < (c.toNat : Int) ∨ 1099511627776 < n) := h3
      rw [if_neg h4] at hinv
      obtain ⟨hv, hv0, hv1⟩ := dig_v hA hn0 (by omega) h4
      replace hgc : A.sget s (Int.ofNat i) = (c.toNat : Int) := hgc
      have hv : A.ar .add .i64 (A.ar .mul .i64 10 n) (A.conv .i64 (A.ar .sub .u8 (A.sget s (Int.ofNat i)) 48)) = 10 * n + ((c.toNat : Int) - 48) := by rw [hgc]; exact hv
      cbv
      repeat (refine And.intro (by first | exact hin | exact True.intro | exact i_in hA (by assumption) | (subst hA; simp [std]; done) | (split <;> first | exact True.intro | rfl | assumption) | (subst hA; simp [std]; omega)) ?_)
      refine hK _ ⟨(i + 1, A.ar .add .i64 (A.ar .mul .i64 10 n) (A.conv .i64 (A.ar .sub .u8 (A.sget s (Int.ofNat i)) 48))), by simp only []; omega, ?_, ?_, ?_⟩ [] ?_ ⟨?_, ?_, ?_⟩
      · rw [hv]; exact hv0
      · rw [hv]; exact hv1
      · rw [hv]; exact hinv
      · simp only []; omega
      · (cbv <;> (try (and_intros <;> (first | exact True.intro | exact i_succ hA (by omega) | rfl | simp))))
      · (cbv <;> (try (and_intros <;> (first | exact True.intro | rfl | simp))))
      · cbv
  · rename_i h
    have hge := s_gge hA h
    rw [i_end (by simpa using hge), numF] at hinv
    rw [numR, ← hinv] at hT
    simp only [] at hT
    cbv
    refine CallK.mk _ rfl (fun _ => by rw [hP]; exact c32 n hn0 (by omega)) ?_
    cbv
    split
    · rename_i h2
      have h3 : A.scmp .neq (ia n) s = true := h2
      rw [s_ne hA, decide_eq_true_eq, hia] at h3
      rw [if_neg h3] at hT
      cbv
      subst hR
      rw [hT]
      simp [LeP, LeD, it]
    · rename_i h2
      have h3 : A.scmp .neq (ia n) s = false := h2
      rw [s_ne hA, decide_eq_false_iff_not, Classical.not_not, hia] at h3
      rw [if_pos h3] at hT
      cbv
      subst hR
      rw [hT]
      simp [LeP, LeD, it]
end Go.PL
namespace Go.PL
set_option linter.unusedSimpArgs false
set_option linter.unusedVariables false
set_option linter.unusedSectionVars false
open Tys (Ty U)
open Enc (sz enc dflt tb ofB toB)
open Dec (dec dok)
set_option maxRecDepth 100000
open Go.Proofs
variable [GM]
theorem split_ok (s : ByteArray) (hs : s.size ≤ 1099511627776) : PFun cx 55 [st s] (.d (.sl .str (pieces s))) := by
  obtain ⟨T, hT⟩ : ∃ T, T = pieces s := ⟨_, rfl⟩
  have hTS : T = (spl s.data.toList).map bOf := hT.trans (pieces_of s _ rfl)
  rw [← hT]
  refine PFun.walk cx_ok Tryd.func55 rfl rfl rfl fun A P R hA hP hR => ?_
  cbv
  refine LoopK.mk (X := {p : Nat × List ByteArray × Nat × List UInt8 × Nat // p.1 ≤ s.size ∧ p.2.2.1 = p.2.1.length ∧ p.2.2.2.2 = p.2.2.2.1.length ∧ p.2.1.length ≤ p.1 ∧ p.2.2.2.1.length ≤ p.1 ∧ (32 : UInt8) ∉ p.2.2.2.1 ∧ p.2.1 ++ (spl (p.2.2.2.1 ++ s.data.toList.drop p.1)).map bOf = T}) (fun p gh => [(5, it .i64 p.1.1), (3, .os 900 gh .str p.1.2.1), (4, .os 901 gh .byte p.1.2.2.2.1)]) (fun p gh => [⟨900, gh, .tok 9 .str p.1.2.2.1⟩, ⟨901, gh, .tok 5 .byte p.1.2.2.2.2⟩]) (fun p => s.size - p.1.1) ⟨(0, [], A.nlen TyS.str [], [], A.nlen TyS.byte []), by subst hA; simp [std, hTS]⟩ [(900, 6, 1), (901, 7, 2)] ⟨?_, ?_, ?_⟩ ?_
  · (cbv <;> (try (and_intros <;> (first | exact True.intro | exact i_succ hA (by omega) | rfl | simp))))
  · (cbv <;> (try (and_intros <;> (first | exact True.intro | rfl | simp))))
  · cbv
  intro ⟨⟨i, out, n, now, m⟩, hi, hn, hm, hl1, hl2, hno, hinv⟩ gh g K hK
  simp only [] at hi hn hm hl1 hl2 hno hinv
  cbv
  split
  · rename_i h
    have hlt := s_gin hA h
    obtain ⟨c, hc1, _, hcd, hgc⟩ := byteAt hlt
    have hgc := hgc hA
    have hin := s_in hA hlt
    have hc2 := c.toNat_lt
    rw [hcd] at hinv
    have hnlen : n = A.nlen TyS.str out := by subst hA; simp [std, hn]
    have hmlen : m = A.nlen TyS.byte now := by subst hA; simp [std, hm]
    cbv
    refine ⟨hin, ?_⟩
    split
    · rename_i h2
      replace hgc : A.sget s (Int.ofNat i) = (c.toNat : Int) := hgc
      have h3 : A.cmp .eql (A.sget s (Int.ofNat i)) 32 = true := h2
      have hc : c = 32 := by
        rw [hgc] at h3
        apply UInt8.toNat_inj.1
        have h4 : (c.toNat : Int) = 32 := by subst hA; simpa [std, cmpStd] using h3
        simp; omega
      cbv
      have hb : (A.b2s now) = bOf now := by subst hA; simp [std, toB_id, bOf]
      rw [hc, spl_hit now _ hno] at hinv
      have happ : A.appOk TyS.str 16 out [A.b2s now] := by subst hA; simp [std]; omega
      refine ⟨⟨True.intro, True.intro⟩, hnlen, happ, ?_⟩
      refine hK _ ⟨(i + 1, A.app TyS.str out [A.b2s now], A.nlen TyS.str (A.app TyS.str out [A.b2s now]), [], A.nlen TyS.byte []), by simp only []; omega, ?_, ?_, ?_, ?_, ?_, ?_⟩ [(900, 22, g + 2), (901, 23, g + 3)] ?_ ⟨?_, ?_, ?_⟩
      · subst hA; rfl
      · subst hA; rfl
      · subst hA; simp [std]; omega
      · simp
      · simp
      · rw [← hinv, hb]; subst hA; simp [std]
      · simp only []; omega
      · (cbv <;> (try (and_intros <;> (first | exact True.intro | exact i_succ hA (by omega) | rfl | simp))))
      · (cbv <;> (try (and_intros <;> (first | exact True.intro | rfl | simp))))
      · cbv
    · rename_i h2
      replace hgc : A.sget s (Int.ofNat i) = (c.toNat : Int) := hgc
      have h3 : A.cmp .eql (A.sget s (Int.ofNat i)) 32 = false := h2
      cbv
      have hc : ¬ c = 32 := by
        rintro rfl
        rw [hgc] at h3
        subst hA; revert h3; simp [std, cmpStd]
      obtain ⟨hu8, hu8v⟩ := u8k hA hgc (by omega)
      have happ : A.appOk TyS.byte 1 now [A.u8 (A.sget s (Int.ofNat i))] := by subst hA; simp [std]; omega
      refine ⟨hin, ⟨hu8, True.intro⟩, hmlen, happ, ?_⟩
      refine hK _ ⟨(i + 1, out, n, A.app TyS.byte now [A.u8 (A.sget s (Int.ofNat i))], A.nlen TyS.byte (A.app TyS.byte now [A.u8 (A.sget s (Int.ofNat i))])), by simp only []; omega, hn, ?_, ?_, ?_, ?_, ?_⟩ [(900, 900, gh), (901, 29, g + 2)] ?_ ⟨?_, ?_, ?_⟩
      · subst hA; rfl
      · simp only []; omega
      · rw [hu8v]; subst hA; simp [std]; omega
      · rw [hu8v]; subst hA; simp [std]; exact ⟨hno, fun e => hc e.symm⟩
      · rw [hu8v, ← hinv]; subst hA; simp [std]
      · simp only []; omega
      · (cbv <;> (try (and_intros <;> (first | exact True.intro | exact i_succ hA (by omega) | rfl | simp))))
      · (cbv <;> (try (and_intros <;> (first | exact True.intro | rfl | simp))))
      · cbv
  · rename_i h
    have hge := s_gge hA h
    rw [i_end (by simpa using hge), List.append_nil, spl_miss now hno] at hinv
    cbv
    have hb : (A.b2s now) = bOf now := by subst hA; simp [std, toB_id, bOf]
    have happ : A.appOk TyS.str 16 out [A.b2s now] := by subst hA; simp [std]; omega
    have hnlen : n = A.nlen TyS.str out := by subst hA; simp [std, hn]
    refine ⟨⟨True.intro, True.intro⟩, hnlen, happ, ?_⟩
    subst hR
    simp only [LeP, LeD]
    rw [← hinv]
    have h2 : A.app TyS.str out [A.b2s now] = out ++ [bOf now] := by rw [hb]; subst hA; rfl
    rw [show List.map bOf [now] = [bOf now] from rfl, ← h2]
    try rfl
end Go.PL
namespace Go.PL
set_option linter.unusedSimpArgs false
set_option linter.unusedVariables false
set_option linter.unusedSectionVars false
open Tys (Ty U)
open Enc (sz enc dflt tb ofB toB)
open Dec (dec dok)
set_option maxRecDepth 100000
open Go.Proofs
variable [GM]
def planZ : Plan := ⟨0, .empty, .empty, []⟩
def beginT (row : ByteArray) : Plan :=
  if mtB (pieces row) = true then
    if (unhR ((pieces row).getD 2 .empty)).2 && (unhR ((pieces row).getD 3 .empty)).2 then ⟨numR ((pieces row).getD 1 .empty), (unhR ((pieces row).getD 2 .empty)).1, (unhR ((pieces row).getD 3 .empty)).1, []⟩ else planZ
  else planZ
theorem rbegin_ok (ht : GM.tab = true) (row : ByteArray) (r : Plan) (hr : r = beginT row) (hs : row.size ≤ 1073741824) : PFun cx 34 [st row] (planNP r) := by
  obtain ⟨L, hL⟩ : ∃ L, L = pieces row := ⟨_, rfl⟩
  have c55 : PFun cx 55 [st row] (.d (.sl .str L)) := by rw [hL]; exact split_ok row (by omega)
  have hLp : 0 < L.length := by rw [hL]; exact pieces_pos row
  have hLs : ∀ x ∈ L, x.size ≤ 1099511627776 := fun x hx => by rw [hL] at hx; have := pieces_size row x hx; omega
  obtain ⟨u1, hu1⟩ : ∃ f, f = fun s => (unhR s).1 := ⟨_, rfl⟩
  obtain ⟨u2, hu2⟩ : ∃ f, f = fun s => (unhR s).2 := ⟨_, rfl⟩
  have c56 : ∀ s : ByteArray, s.size ≤ 1099511627776 → PFun cx 56 [st s] (.tu [st (u1 s), bl (u2 s)]) := fun s hs => by rw [hu1, hu2]; exact unhex_ok s hs
  obtain ⟨nF, hnF⟩ : ∃ f, f = numR := ⟨_, rfl⟩
  have c57 : ∀ s : ByteArray, s.size ≤ 1099511627776 → PFun cx 57 [st s] (it .i64 (nF s)) := fun s hs => by rw [hnF]; exact number_ok ht s hs
  have hr2 : r = if mtB L = true then if u2 (L.getD 2 .empty) && u2 (L.getD 3 .empty) then ⟨nF (L.getD 1 .empty), u1 (L.getD 2 .empty), u1 (L.getD 3 .empty), []⟩ else planZ else planZ := by rw [hr, hL, hu1, hu2, hnF, beginT]
  clear hr
  refine PFun.walk cx_ok Tryd.func34 rfl rfl rfl fun A P R hA hP hR => ?_
  cbv
  refine CallK.mk _ rfl (fun _ => by rw [hP]; exact c55) ?_
  cbv
  have hin0 : A.inb 0 (A.len TyS.str L) := by subst hA; simp [std]; omega
  repeat (refine And.intro (by first | (split <;> first | exact True.intro | exact hin0) | exact True.intro | exact i_in hA (by assumption) | (subst hA; simp [std]; done) | (split <;> first | exact True.intro | rfl | assumption) | (subst hA; simp [std]; omega)) ?_)
  split
  · rename_i h
    have h2 : A.or (A.cmp .neq (A.len TyS.str L) 4) (A.scmp .neq (A.get TyS.str L 0) moveB) = true := h
    rw [mtB_eq hA L hLp] at h2
    have h3 : mtB L = false := by simpa using h2
    rw [h3] at hr2
    cases hr2
    cbv
    subst hR
    simp [LeP, LeD, LeP.LePs, planNP, it, bl, st, nilS, planZ]
    try rfl
  · rename_i h
    have h2 : A.or (A.cmp .neq (A.len TyS.str L) 4) (A.scmp .neq (A.get TyS.str L 0) moveB) = false := h
    rw [mtB_eq hA L hLp] at h2
    have h3 : mtB L = true := by simpa using h2
    rw [h3, if_pos rfl] at hr2
    have h4 : L.length = 4 := by simp only [mtB, Bool.and_eq_true, decide_eq_true_eq] at h3; exact h3.1
    have hgd : ∀ k : Nat, k < 4 → A.get TyS.str L (Int.ofNat k) = L.getD k .empty ∧ A.inb (Int.ofNat k) (A.len TyS.str L) := fun k hk => by
      have hlt : k < L.length := by omega
      obtain ⟨x, hx, hxm, hd, _⟩ := i_at hlt
      refine ⟨?_, i_in hA hlt⟩
      rw [i_get (t := TyS.str) hA hx, List.getD, hx]; rfl
    have hsz : ∀ k : Nat, (L.getD k .empty).size ≤ 1099511627776 := fun k => by
      rcases Nat.lt_or_ge k L.length with hk | hk
      · rw [List.getD, List.getElem?_eq_getElem hk]; exact hLs _ (List.getElem_mem hk)
      · rw [List.getD, List.getElem?_eq_none hk]; exact Nat.zero_le _
    obtain ⟨g1, i1⟩ := hgd 1 (by decide)
    obtain ⟨g2, i2⟩ := hgd 2 (by decide)
    obtain ⟨g3, i3⟩ := hgd 3 (by decide)
    have z1 : (A.get TyS.str L 1).size ≤ 1099511627776 := by have := hsz 1; rw [← g1] at this; exact this
    have z2 : (A.get TyS.str L 2).size ≤ 1099511627776 := by have := hsz 2; rw [← g2] at this; exact this
    have z3 : (A.get TyS.str L 3).size ≤ 1099511627776 := by have := hsz 3; rw [← g3] at this; exact this
    rw [← g1, ← g2, ← g3] at hr2
    cbv
    refine ⟨i2, ?_⟩
    refine CallK.mk _ rfl (fun _ => by rw [hP]; exact c56 _ z2) ?_
    cbv
    refine ⟨i3, ?_⟩
    refine CallK.mk _ rfl (fun _ => by rw [hP]; exact c56 _ z3) ?_
    cbv
    repeat (refine And.intro (by first | exact True.intro | exact i_in hA (by assumption) | (subst hA; simp [std]; done) | (split <;> first | exact True.intro | rfl | assumption) | (subst hA; simp [std]; omega)) ?_)
    split
    · rename_i h5
      have h6 : A.or (A.not (u2 (A.get TyS.str L 2))) (A.not (u2 (A.get TyS.str L 3))) = true := h5
      have h7 : (u2 (A.get TyS.str L (Int.ofNat 2)) && u2 (A.get TyS.str L (Int.ofNat 3))) = false := by
        have h8 : (!(u2 (A.get TyS.str L 2)) || !(u2 (A.get TyS.str L 3))) = true := by subst hA; rwa [s_lor, s_not, s_not] at h6
        rw [← Bool.not_and, Bool.not_eq_true'] at h8
        exact h8
      rw [h7] at hr2
      cases hr2
      cbv
      subst hR
      simp [LeP, LeD, LeP.LePs, planNP, it, bl, st, nilS, planZ]
      try rfl
    · rename_i h5
      have h6 : A.or (A.not (u2 (A.get TyS.str L 2))) (A.not (u2 (A.get TyS.str L 3))) = false := h5
      have h7 : (u2 (A.get TyS.str L (Int.ofNat 2)) && u2 (A.get TyS.str L (Int.ofNat 3))) = true := by
        have h8 : (!(u2 (A.get TyS.str L 2)) || !(u2 (A.get TyS.str L 3))) = false := by subst hA; rwa [s_lor, s_not, s_not] at h6
        rw [← Bool.not_and, Bool.not_eq_false'] at h8
        exact h8
      rw [h7, if_pos rfl] at hr2
      cbv
      refine ⟨i1, ?_⟩
      refine CallK.mk _ rfl (fun _ => by rw [hP]; exact c57 _ z1) ?_
      cbv
      subst hR hr2
      simp only [LeP, LeD, LeP.LePs, planNP, it, bl, st, nilS]
      and_intros <;> first | exact True.intro | rfl
end Go.PL
namespace Go.PL
set_option linter.unusedSimpArgs false
set_option linter.unusedVariables false
set_option linter.unusedSectionVars false
open Tys (Ty U)
open Enc (sz enc dflt tb ofB toB)
open Dec (dec dok)
set_option maxRecDepth 100000
open Go.Proofs
variable [GM]
def dF : Nat → List ByteArray → List Int → List ByteArray → Option (List Int × List ByteArray)
  | _, [], ns, ts => some (ns, ts)
  | n + 1, w :: r, ns, ts => dF n r (ns ++ [numR w]) ts
  | 0, w :: r, ns, ts => if (unhR w).2 = true then dF 0 r ns (ts ++ [(unhR w).1]) else none
def deedZ : Deed := ⟨0, [], []⟩
def deedT (row : ByteArray) : Deed := match kindOf (pieces row) with
  | some k => (match dF (kn k) ((pieces row).drop 1) [] [] with
    | some r => ⟨k, r.1, r.2⟩
    | none => deedZ)
  | none => deedZ
theorem mt_eq' {A : Ar} (hA : A = std) (l : List ByteArray) (k : Nat) (hl : 0 < l.length) : A.or (A.scmp .neq (A.get TyS.str l 0) (kw k)) (A.cmp .neq (A.len TyS.str l) (A.ar .add .i64 (A.ar .add .i64 1 (kn k : Nat)) (kt k : Nat))) = !mt l k := by
  rw [← mt_eq hA l k hl]
  congr 1
  rw [s_ne hA, s_ne hA, Bool.eq_iff_iff]
  simp only [decide_eq_true_eq]
  exact ⟨fun h e => h e.symm, fun h e => h e.symm⟩
theorem kindOf_some {l : List ByteArray} {k : Nat} (h1 : 1 ≤ k) (h8 : k ≤ 8) (hm : mt l k = true) : kindOf l = some k := by
  have hs : (kindOf l).isSome := by
    simp only [kindOf, List.find?_isSome, List.mem_range']
    exact ⟨k, ⟨k - 1, by omega, by omega⟩, hm⟩
  obtain ⟨k', hk'⟩ := Option.isSome_iff_exists.1 hs
  have hm' := List.find?_some hk'
  have hr := List.mem_of_find?_eq_some hk'
  simp only [List.mem_range'] at hr
  obtain ⟨i, hi, hk⟩ := hr
  have e1 : l[0]? = some (kw k) := by simp only [mt, Bool.and_eq_true, decide_eq_true_eq] at hm; exact hm.1
  have e2 : l[0]? = some (kw k') := by simp only [mt, Bool.and_eq_true, decide_eq_true_eq] at hm'; exact hm'.1
  rw [e1] at e2
  have e3 := kw_inj ⟨k - 1, by omega⟩ ⟨k' - 1, by omega⟩ (by
    simp only []
    rw [show k - 1 + 1 = k by omega, show k' - 1 + 1 = k' by omega]
    exact Option.some.inj e2)
  have : k = k' := by have := congrArg Fin.val e3; simp only [] at this; omega
  rw [hk', this]
theorem kindOf_none {l : List ByteArray} (h : ∀ k, 1 ≤ k → k < 9 → mt l k = false) : kindOf l = none := by
  simp only [kindOf, List.find?_eq_none, List.mem_range']
  rintro k ⟨i, hi, rfl⟩
  simp [h (1 + i) (by omega) (by omega)]
theorem rdeed_ok (ht : GM.tab = true) (row : ByteArray) (r : Deed) (hr : r = deedT row) (hs : row.size ≤ 1073741824) : PFun cx 35 [st row] (deedPV r) := by
  obtain ⟨L, hL⟩ : ∃ L, L = pieces row := ⟨_, rfl⟩
  have c55 : PFun cx 55 [st row] (.d (.sl .str L)) := by rw [hL]; exact split_ok row (by omega)
  have hLp : 0 < L.length := by rw [hL]; exact pieces_pos row
  have hLl : L.length ≤ 1073741825 := by rw [hL]; have := pieces_len row; omega
  have hLs : ∀ x ∈ L, x.size ≤ 1099511627776 := fun x hx => by rw [hL] at hx; have := pieces_size row x hx; omega
  obtain ⟨u1, hu1⟩ : ∃ f, f = fun s => (unhR s).1 := ⟨_, rfl⟩
  obtain ⟨u2, hu2⟩ : ∃ f, f = fun s => (unhR s).2 := ⟨_, rfl⟩
  have c56 : ∀ s : ByteArray, s.size ≤ 1099511627776 → PFun cx 56 [st s] (.tu [st (u1 s), bl (u2 s)]) := fun s hs => by rw [hu1, hu2]; exact unhex_ok s hs
  obtain ⟨nF, hnF⟩ : ∃ f, f = numR := ⟨_, rfl⟩
  have c57 : ∀ s : ByteArray, s.size ≤ 1099511627776 → PFun cx 57 [st s] (it .i64 (nF s)) := fun s hs => by rw [hnF]; exact number_ok ht s hs
  obtain ⟨wF, hwF, c41⟩ : ∃ f : Int → ByteArray, f = (fun n => kw n.toNat) ∧ ∀ n, 0 ≤ n → n ≤ 8 → PFun cx 41 [it .i64 n] (st (f n)) := ⟨_, rfl, word_ok⟩
  obtain ⟨knF, hkn, c39⟩ : ∃ f : Int → Int, f = (fun n => ((kn n.toNat : Nat) : Int)) ∧ ∀ n, 0 ≤ n → n ≤ 8 → PFun cx 39 [it .i64 n] (it .i64 (f n)) := ⟨_, rfl, nums_ok⟩
  obtain ⟨ktF, hkt, c40⟩ : ∃ f : Int → Int, f = (fun n => ((kt n.toNat : Nat) : Int)) ∧ ∀ n, 0 ≤ n → n ≤ 8 → PFun cx 40 [it .i64 n] (it .i64 (f n)) := ⟨_, rfl, textn_ok⟩
  have hmt : ∀ {A : Ar}, A = std → ∀ k : Nat, A.or (A.scmp .neq (A.get TyS.str L 0) (wF (Int.ofNat k))) (A.cmp .neq (A.len TyS.str L) (A.ar .add .i64 (A.ar .add .i64 1 (knF (Int.ofNat k))) (ktF (Int.ofNat k)))) = !mt L k := fun hA k => by
    rw [hwF, hkn, hkt]; exact mt_eq' hA L k hLp
  have hrz : (∀ k, 1 ≤ k → k < 9 → mt L k = false) → r = deedZ := fun h => by rw [hr, deedT, ← hL, kindOf_none h]
  have hrm : ∀ k, 1 ≤ k → k ≤ 8 → mt L k = true → r = match dF (kn k) (L.drop 1) [] [] with | some r => ⟨k, r.1, r.2⟩ | none => deedZ := fun k h1 h8 h => by rw [hr, deedT, ← hL, kindOf_some h1 h8 h]
  clear hr
  refine PFun.walk cx_ok Tryd.func35 rfl rfl rfl fun A P R hA hP hR => ?_
  cbv
  refine CallK.mk _ rfl (fun _ => by rw [hP]; exact c55) ?_
  cbv
  refine LoopK.mk (X := {k : Nat // 1 ≤ k ∧ k ≤ 9 ∧ ∀ j, 1 ≤ j → j < k → mt L j = false}) (fun p gh => [(4, it .i64 p.1)]) (fun p gh => [⟨2, 0, .box 42 [it .i64 0, nilS, nilS]⟩]) (fun p => 9 - p.1) ⟨1, by omega, by omega, fun j h1 h2 => by omega⟩ [] ⟨?_, ?_, ?_⟩ ?_
  · (cbv <;> (try (and_intros <;> (first | exact True.intro | exact i_succ hA (by omega) | rfl | simp))))
  · (cbv <;> (try (and_intros <;> (first | exact True.intro | rfl | simp))))
  · cbv
  intro ⟨k, hk1, hk9, hnot⟩ gh g K hK
  cbv
  split
  · rename_i h
    have hk8 : k ≤ 8 := by
      have h2 : A.cmp .lss (Int.ofNat k) 9 = true := h
      subst hA; simp [std, cmpStd] at h2; omega
    have k0 : (0 : Int) ≤ Int.ofNat k := by simp
    have k8 : Int.ofNat k ≤ 8 := by simp; omega
    have hin0 : A.inb 0 (A.len TyS.str L) := by subst hA; simp [std]; omega
    have hmk := hmt hA k
    have hsub : A.subOk 1 (A.len TyS.str L) (A.len TyS.str L) := by subst hA; simp only [std]; omega
    have hW : A.lsub TyS.str L 1 (A.len TyS.str L) = L.drop 1 := by subst hA; rw [s_lsub]; simp [std]
    cbv
    refine ⟨hin0, ?_⟩
    refine CallK.mk _ rfl (fun _ => by rw [hP]; exact c41 _ k0 k8) ?_
    cbv
    repeat (refine And.intro (by first | exact True.intro | exact i_in hA (by assumption) | (subst hA; simp [std]; done) | (split <;> first | exact True.intro | rfl | assumption) | (subst hA; simp [std]; omega)) ?_)
    refine CallK.mk _ rfl (fun _ => by rw [hP]; exact c39 _ k0 k8) ?_
    cbv
    repeat (refine And.intro (by first | exact True.intro | exact i_in hA (by assumption) | (subst hA; simp [std]; done) | (split <;> first | exact True.intro | rfl | assumption) | (subst hA; simp [std]; omega)) ?_)
    refine CallK.mk _ rfl (fun _ => by rw [hP]; exact c40 _ k0 k8) ?_
    cbv
    repeat (refine And.intro (by first | exact True.intro | exact i_in hA (by assumption) | (subst hA; simp [std]; done) | (split <;> first | exact True.intro | rfl | assumption) | (subst hA; simp [std]; omega)) ?_)
    split
    · rename_i h2
      have h3 : A.or (A.scmp .neq (A.get TyS.str L 0) (wF (Int.ofNat k))) (A.cmp .neq (A.len TyS.str L) (A.ar .add .i64 (A.ar .add .i64 1 (knF (Int.ofNat k))) (ktF (Int.ofNat k)))) = true := h2
      rw [hmk] at h3
      cbv
      refine hK _ ⟨k + 1, by omega, by omega, fun j h1 h2 => ?_⟩ [] ?_ ⟨?_, ?_, ?_⟩
      · rcases Nat.lt_or_ge j k with h4 | h4
        · exact hnot j h1 h4
        · rw [show j = k by omega]; simpa using h3
      · simp only []; omega
      · (cbv <;> (try (and_intros <;> (first | exact True.intro | exact i_succ hA (by omega) | rfl | simp))))
      · (cbv <;> (try (and_intros <;> (first | exact True.intro | rfl | simp))))
      · cbv
    · rename_i h2
      have h3 : A.or (A.scmp .neq (A.get TyS.str L 0) (wF (Int.ofNat k))) (A.cmp .neq (A.len TyS.str L) (A.ar .add .i64 (A.ar .add .i64 1 (knF (Int.ofNat k))) (ktF (Int.ofNat k)))) = false := h2
      rw [hmk] at h3
      have h4 : mt L k = true := by simpa using h3
      have hrk := hrm k hk1 hk8 h4
      have hLk : L.length = 1 + kn k + kt k := by simp only [mt, Bool.and_eq_true, beq_iff_eq] at h4; exact h4.2
      have hkn3 := kn_le k
      have hkt2 := kt_le k
      cbv
      repeat (refine And.intro (by first | exact hsub | exact True.intro | exact i_in hA (by assumption) | (subst hA; simp [std]; done) | (split <;> first | exact True.intro | rfl | assumption) | (subst hA; simp [std]; omega)) ?_)
      refine LoopK.mk (X := {p : Nat × List Int × Nat × List ByteArray × Nat // p.1 ≤ (L.drop 1).length ∧ p.2.2.1 = p.2.1.length ∧ p.2.2.2.2 = p.2.2.2.1.length ∧ p.2.1.length ≤ p.1 ∧ p.2.2.2.1.length ≤ p.1 ∧ dF (kn k - p.1) ((L.drop 1).drop p.1) p.2.1 p.2.2.2.1 = dF (kn k) (L.drop 1) [] []}) (fun p _ => [(38, it .i64 p.1.1)]) (fun p gh' => [⟨2, 0, .box 42 [it .i64 0, nilS, nilS]⟩, ⟨5, g + 2, .box 42 [it .i64 k, .os 900 gh' .int p.1.2.1, .os 901 gh' .str p.1.2.2.2.1]⟩, ⟨900, gh', .tok 3 .int p.1.2.2.1⟩, ⟨901, gh', .tok 9 .str p.1.2.2.2.2⟩]) (fun p => (L.drop 1).length - p.1.1) ⟨(0, [], 0, [], 0), by simp⟩ [] ⟨?_, ?_, ?_⟩ ?_
      · (cbv <;> (try (and_intros <;> (first | exact True.intro | exact i_succ hA (by omega) | rfl | simp))))
      · (cbv <;> (try (and_intros <;> (first | exact True.intro | rfl | simp))))
      · cbv
      intro ⟨⟨i, ns, n, ts, m⟩, hi, hn, hm, hl1, hl2, hinv⟩ gh' g' K' hK'
      simp only [] at hi hn hm hl1 hl2 hinv
      cbv
      split
      · rename_i h5
        have hit0 : i < (A.lsub TyS.str L 1 (A.len TyS.str L)).length := i_lt (t := TyS.str) hA h5
        have hin1 := i_in (t := TyS.str) hA hit0
        have hit := hit0
        rw [hW] at hit
        obtain ⟨w, hw, hwm, hwd, _⟩ := i_at hit
        have hgw : A.get TyS.str (A.lsub TyS.str L 1 (A.len TyS.str L)) (Int.ofNat i) = w := i_get (t := TyS.str) hA (by rw [hW]; exact hw)
        have hws : (A.get TyS.str (A.lsub TyS.str L 1 (A.len TyS.str L)) (Int.ofNat i)).size ≤ 1099511627776 := by rw [hgw]; exact hLs w (List.mem_of_mem_drop hwm)
        have hi5 : i < 5 := by rw [List.length_drop] at hit; omega
        rw [hwd] at hinv
        cbv
        refine ⟨hin1, ?_⟩
        refine CallK.mk _ rfl (fun _ => by rw [hP]; exact c39 _ k0 k8) ?_
        cbv
        have hknv : knF (Int.ofNat k) = ((kn k : Nat) : Int) := by rw [hkn]; rfl
        split
        · rename_i h6
          have h7 : A.cmp .lss (Int.ofNat i) (knF (Int.ofNat k)) = true := h6
          have h8 : i < kn k := by rw [hknv] at h7; subst hA; simp [std, cmpStd] at h7; omega
          rw [show kn k - i = (kn k - (i + 1)) + 1 by omega, dF] at hinv
          have hnlen : n = A.nlen TyS.int ns := by subst hA; simp [std, hn]
          cbv
          refine CallK.mk _ rfl (fun _ => by rw [hP]; exact c57 _ hws) ?_
          cbv
          have happ : A.appOk TyS.int 8 ns [(nF (A.get TyS.str (A.lsub TyS.str L 1 (A.len TyS.str L)) (Int.ofNat i)))] := by subst hA; simp [std]; omega
          refine ⟨⟨True.intro, True.intro⟩, hnlen, happ, ?_⟩
          refine hK' _ ⟨(i + 1, A.app TyS.int ns [(nF (A.get TyS.str (A.lsub TyS.str L 1 (A.len TyS.str L)) (Int.ofNat i)))], A.nlen TyS.int (A.app TyS.int ns [(nF (A.get TyS.str (A.lsub TyS.str L 1 (A.len TyS.str L)) (Int.ofNat i)))]), ts, m), by simp only []; omega, ?_, hm, ?_, ?_, ?_⟩ [(900, 52, g' + 3), (901, 901, gh')] ?_ ⟨?_, ?_, ?_⟩
          · subst hA; rfl
          · subst hA; simp [std]; omega
          · simp only []; omega
          · rw [← hinv, hgw, hnF]; subst hA; simp [std]
          · simp only []; omega
          · (cbv <;> (try (and_intros <;> (first | exact True.intro | exact i_succ hA (by omega) | rfl | simp))))
          · (cbv <;> (try (and_intros <;> (first | exact True.intro | rfl | simp))))
          · cbv
        · rename_i h6
          have h7 : A.cmp .lss (Int.ofNat i) (knF (Int.ofNat k)) = false := h6
          have h8 : kn k ≤ i := by rw [hknv] at h7; subst hA; simp [std, cmpStd] at h7; omega
          rw [show kn k - i = 0 by omega, dF] at hinv
          have hmlen : m = A.nlen TyS.str ts := by subst hA; simp [std, hm]
          cbv
          refine CallK.mk _ rfl (fun _ => by rw [hP]; exact c56 _ hws) ?_
          cbv
          split
          · rename_i h9
            have h10 : A.not (u2 (A.get TyS.str (A.lsub TyS.str L 1 (A.len TyS.str L)) (Int.ofNat i))) = true := h9
            have h11 : ¬ (unhR w).2 = true := by
              rw [hgw, hu2] at h10; subst hA; rw [s_not] at h10; simpa using h10
            rw [if_neg h11] at hinv
            rw [← hinv] at hrk
            cbv
            subst hR
            rw [hrk]
            simp [LeP, LeD, LeP.LePs, deedPV, it, bl, st, nilS, deedZ]
            try rfl
          · rename_i h9
            cbv
            have h10 : A.not (u2 (A.get TyS.str (A.lsub TyS.str L 1 (A.len TyS.str L)) (Int.ofNat i))) = false := h9
            have h11 : (unhR w).2 = true := by
              rw [hgw, hu2] at h10; subst hA; rw [s_not] at h10; simpa using h10
            rw [if_pos h11] at hinv
            have happ : A.appOk TyS.str 16 ts [(u1 (A.get TyS.str (A.lsub TyS.str L 1 (A.len TyS.str L)) (Int.ofNat i)))] := by subst hA; simp [std]; omega
            refine ⟨⟨True.intro, True.intro⟩, hmlen, happ, ?_⟩
            refine hK' _ ⟨(i + 1, ns, n, A.app TyS.str ts [(u1 (A.get TyS.str (A.lsub TyS.str L 1 (A.len TyS.str L)) (Int.ofNat i)))], A.nlen TyS.str (A.app TyS.str ts [(u1 (A.get TyS.str (A.lsub TyS.str L 1 (A.len TyS.str L)) (Int.ofNat i)))])), by simp only []; omega, hn, ?_, ?_, ?_, ?_⟩ [(900, 900, gh'), (901, 66, g' + 5)] ?_ ⟨?_, ?_, ?_⟩
            · subst hA; rfl
            · simp only []; omega
            · subst hA; simp [std]; omega
            · rw [← hinv, hgw, hu1, show kn k - (i + 1) = 0 by omega]; subst hA; simp [std]
            · simp only []; omega
            · (cbv <;> (try (and_intros <;> (first | exact True.intro | exact i_succ hA (by omega) | rfl | simp))))
            · (cbv <;> (try (and_intros <;> (first | exact True.intro | rfl | simp))))
            · cbv
      · rename_i h5
        have hge0 : (A.lsub TyS.str L 1 (A.len TyS.str L)).length ≤ i := i_ge (t := TyS.str) hA h5
        rw [hW] at hge0
        rw [i_end hge0] at hinv
        cbv
        simp only [dF] at hinv
        rw [← hinv] at hrk
        subst hR
        rw [hrk]
        simp [LeP, LeD, LeP.LePs, deedPV, it, bl, st, nilS]
        try rfl
  · rename_i h
    have hk : k = 9 := by
      have h2 : A.cmp .lss (Int.ofNat k) 9 = false := h
      subst hA; simp [std, cmpStd] at h2; omega
    have hz := hrz fun j h1 h2 => hnot j h1 (by omega)
    cbv
    subst hR hz
    simp [LeP, LeD, LeP.LePs, deedPV, it, bl, st, nilS, deedZ]
    try rfl
end Go.PL
namespace Go.PL
set_option linter.unusedSimpArgs false
set_option linter.unusedVariables false
set_option linter.unusedSectionVars false
open Tys (Ty U)
open Enc (sz enc dflt tb ofB toB)
open Dec (dec dok)
set_option maxRecDepth 100000
open Go.Proofs
variable [GM]
def pT : List UInt8 → List UInt8 → Plan → Nat → Plan × Int
  | [], cur, p, no => if cur ≠ [] ∨ no = 1 then (planZ, no) else (p, 0)
  | c :: r, cur, p, no => if c = 10 then
      if no = 1 then (if beginsP (beginT (bOf cur)) = true then pT r [] (beginT (bOf cur)) 2 else (planZ, 1))
      else (if rightD (deedT (bOf cur)) = false ∨ p.Deeds.length = 200 then (planZ, no) else pT r [] ⟨p.Format, p.Rules, p.Routes, p.Deeds ++ [deedT (bOf cur)]⟩ (no + 1))
    else pT r (cur ++ [c]) p no
def parseT (s : ByteArray) : Plan × Int := pT s.data.toList [] planZ 1
theorem dF_len : ∀ (l : List ByteArray) (k : Nat) (ns : List Int) (ts : List ByteArray) (r : List Int × List ByteArray), dF k l ns ts = some r → r.1.length ≤ ns.length + l.length ∧ r.2.length ≤ ts.length + l.length
  | [], k, ns, ts, r, h => by cases k <;> (simp only [dF, Option.some.injEq] at h; subst h; simp)
  | w :: l, k + 1, ns, ts, r, h => by
    have := dF_len l k _ _ r h
    simp at this ⊢; omega
  | w :: l, 0, ns, ts, r, h => by
    rw [dF] at h
    split at h
    · have := dF_len l 0 _ _ r h
      simp at this ⊢; omega
    · cases h
theorem deedT_small (row : ByteArray) : smallD (deedT row) := by
  unfold deedT
  split
  · rename_i k hk
    have hm := List.find?_some hk
    have hl : (pieces row).length = 1 + kn k + kt k := by simp only [mt, Bool.and_eq_true, beq_iff_eq] at hm; exact hm.2
    split
    · rename_i r hr
      have := dF_len _ _ _ _ _ hr
      have := kn_le k
      have := kt_le k
      simp only [List.length_nil, List.length_drop, Nat.zero_add] at *
      exact ⟨by simp only []; omega, by simp only []; omega⟩
    · exact ⟨by simp [deedZ], by simp [deedZ]⟩
  · exact ⟨by simp [deedZ], by simp [deedZ]⟩
theorem beginT_deeds (row : ByteArray) : (beginT row).Deeds = [] := by unfold beginT; split <;> (try split) <;> rfl
def cur (s : ByteArray) (f i : Nat) : List UInt8 := (s.data.toList.drop f).take (i - f)
theorem cur_step {s : ByteArray} {f i : Nat} {c : UInt8} (h : f ≤ i) (hc : s.data.toList[i]? = some c) : cur s f (i + 1) = cur s f i ++ [c] := by
  unfold cur
  rw [show i + 1 - f = (i - f) + 1 by omega, List.take_add_one, List.getElem?_drop, show f + (i - f) = i by omega, hc]; rfl
theorem cur_self (s : ByteArray) (i : Nat) : cur s i i = [] := by simp [cur]
theorem cur_len {s : ByteArray} {f i : Nat} (h : f ≤ i) (hi : i ≤ s.size) : (cur s f i).length = i - f := by
  simp [cur]; omega
theorem cur_sub {A : Ar} (hA : A = std) {s : ByteArray} {f i : Nat} : A.ssub s (Int.ofNat f) (Int.ofNat i) = bOf (cur s f i) := by
  subst hA
  show s.extract (Int.ofNat f).toNat (Int.ofNat i).toNat = _
  apply b_ext
  rw [bOf_data]
  simp [cur, ByteArray.data_extract, List.extract_eq_take_drop]
theorem rparse_ok (ht : GM.tab = true) (s : ByteArray) (r : Plan × Int) (hr : r = parseT s) (hs : s.size ≤ 1073741824) : PFun cx 15 [st s] (.tu [planPV r.1, it .i64 r.2]) := by
  obtain ⟨bF, hbF⟩ : ∃ f : ByteArray → Int, f = fun s => (beginT s).Format := ⟨_, rfl⟩
  obtain ⟨bU, hbU⟩ : ∃ f : ByteArray → ByteArray, f = fun s => (beginT s).Rules := ⟨_, rfl⟩
  obtain ⟨bO, hbO⟩ : ∃ f : ByteArray → ByteArray, f = fun s => (beginT s).Routes := ⟨_, rfl⟩
  have hbT : ∀ s, beginT s = ⟨bF s, bU s, bO s, []⟩ := fun s => by rw [hbF, hbU, hbO, ← beginT_deeds s]
  have c34 : ∀ s : ByteArray, s.size ≤ 1073741824 → PFun cx 34 [st s] (.ag [it .i64 (bF s), st (bU s), st (bO s), nilS]) := fun s hs => by rw [hbF, hbU, hbO]; exact rbegin_ok ht s _ rfl hs
  obtain ⟨dK, hdK⟩ : ∃ f : ByteArray → Int, f = fun s => (deedT s).Kind := ⟨_, rfl⟩
  obtain ⟨dN, hdN⟩ : ∃ f : ByteArray → List Int, f = fun s => (deedT s).Nums := ⟨_, rfl⟩
  obtain ⟨dT, hdT⟩ : ∃ f : ByteArray → List ByteArray, f = fun s => (deedT s).Texts := ⟨_, rfl⟩
  have hdE : ∀ s, deedT s = ⟨dK s, dN s, dT s⟩ := fun s => by rw [hdK, hdN, hdT]
  have c35 : ∀ s : ByteArray, s.size ≤ 1073741824 → PFun cx 35 [st s] (.ag [it .i64 (dK s), .d (.sl .int (dN s)), .d (.sl .str (dT s))]) := fun s hs => by rw [hdK, hdN, hdT]; exact rdeed_ok ht s _ rfl hs
  obtain ⟨rD, hrD⟩ : ∃ f : Deed → Bool, f = rightD := ⟨_, rfl⟩
  have c17 : ∀ s : ByteArray, PFun cx 17 [.ag [it .i64 (dK s), .d (.sl .int (dN s)), .d (.sl .str (dT s))]] (bl (rD ⟨dK s, dN s, dT s⟩)) := fun s => IsDeed_ok ⟨dK s, dN s, dT s⟩ _ (by rw [hrD]) (by rw [← hdE]; exact deedT_small s)
  obtain ⟨bP, hbP⟩ : ∃ f : Plan → Bool, f = beginsP := ⟨_, rfl⟩
  have c31 : ∀ p : Plan, PFun cx 31 [planPV p] (bl (bP p)) := fun p => by rw [hbP]; exact Begins_ok p _ rfl
  rw [parseT] at hr
  refine PFun.walk cx_ok Tryd.func15 rfl rfl rfl fun A P R hA hP hR => ?_
  cbv
  refine LoopK.mk (X := {x : (Nat × Nat) × Option (Nat × Plan × Nat) // x.1.1 ≤ s.size ∧ x.1.2 ≤ x.1.1 ∧ match x.2 with | none => r = pT (s.data.toList.drop x.1.1) (cur s x.1.2 x.1.1) planZ 1 | some (no, p, n) => 2 ≤ no ∧ no ≤ x.1.1 + 1 ∧ n = p.Deeds.length ∧ p.Deeds.length ≤ 200 ∧ r = pT (s.data.toList.drop x.1.1) (cur s x.1.2 x.1.1) p no}) (fun x gh => match x.1.2 with | none => [(7, it .i64 x.1.1.1), (5, it .i64 x.1.1.2), (6, it .i64 1)] | some (no, p, n) => [(7, it .i64 x.1.1.1), (5, it .i64 x.1.1.2), (6, it .i64 no)]) (fun x gh => match x.1.2 with | none => [⟨2, 0, .box 24 [it .i64 0, st .empty, st .empty, nilS]⟩, ⟨4, 1, .box 24 [it .i64 0, st .empty, st .empty, nilS]⟩] | some (no, p, n) => [⟨2, 0, .box 24 [it .i64 0, st .empty, st .empty, nilS]⟩, ⟨4, 1, .box 24 [it .i64 p.Format, st p.Rules, st p.Routes, .os 900 gh .deed p.Deeds]⟩, ⟨900, gh, .tok 42 .deed n⟩]) (fun x => s.size - x.1.1.1) ⟨((0, 0), none), by simp [hr, cur_self]⟩ [] ⟨?_, ?_, ?_⟩ ?_
  · (cbv <;> (try (and_intros <;> (first | exact True.intro | exact i_succ hA (by omega) | rfl | simp))))
  · (cbv <;> (try (and_intros <;> (first | exact True.intro | rfl | simp))))
  · cbv
  have hone : A.cmp .eql 1 1 = true := by subst hA; decide
  intro ⟨⟨⟨i, f⟩, x⟩, hi, hf, hx⟩ gh g K hK
  simp only [] at hi hf hx
  have hend : s.size ≤ i → (cur s f i ≠ [] ↔ f < s.size) := fun hge => by
    have := cur_len hf hi
    constructor
    · intro h1
      rcases Nat.lt_or_ge f s.size with h2 | h2
      · exact h2
      · exact absurd (List.eq_nil_of_length_eq_zero (by omega)) h1
    · intro h1 h2
      rw [h2] at this; simp at this; omega
  have hlast : A.cmp .lss (Int.ofNat f) (A.slen s) = decide (f < s.size) := by
    subst hA; rw [Bool.eq_iff_iff]; simp [std, cmpStd]
  have hX : A.ssub s (Int.ofNat f) (Int.ofNat i) = bOf (cur s f i) := cur_sub hA
  have hXs : (A.ssub s (Int.ofNat f) (Int.ofNat i)).size ≤ 1073741824 := by rw [hX, bOf_size, cur_len hf hi]; omega
  have hsub : A.subOk (Int.ofNat f) (Int.ofNat i) (A.slen s) := by subst hA; simp only [std, Int.ofNat_eq_natCast]; omega
  cases x with
  | none =>
    have hinv := hx
    simp only [] at hinv
    cbv
    split
    · rename_i h
      have hlt := s_gin hA h
      obtain ⟨c, hc1, _, hcd, hgc⟩ := byteAt hlt
      have hgc := hgc hA
      have hin := s_in hA hlt
      have hi1 : A.ar .add .i64 (Int.ofNat i) 1 = Int.ofNat (i + 1) := i_succ hA (by omega)
      rw [hcd, pT] at hinv
      cbv
      refine ⟨hin, ?_⟩
      split
      · rename_i h2
        replace hgc : A.sget s (Int.ofNat i) = (c.toNat : Int) := hgc
        have h3 : A.cmp .neq (A.sget s (Int.ofNat i)) 10 = true := h2
        have hc : ¬ c = 10 := by
          rintro rfl
          rw [hgc] at h3; subst hA; revert h3; simp [std, cmpStd]
        rw [if_neg hc] at hinv
        cbv
        refine hK _ ⟨((i + 1, f), none), by simp only []; omega, by simp only []; omega, ?_⟩ [] ?_ ⟨?_, ?_, ?_⟩
        · rw [hinv, cur_step hf hc1]
        · simp only []; omega
        · (cbv <;> (try (and_intros <;> (first | exact True.intro | exact i_succ hA (by omega) | rfl | simp))))
        · (cbv <;> (try (and_intros <;> (first | exact True.intro | rfl | simp))))
        · cbv
      · rename_i h2
        replace hgc : A.sget s (Int.ofNat i) = (c.toNat : Int) := hgc
        have h3 : A.cmp .neq (A.sget s (Int.ofNat i)) 10 = false := h2
        have hc : c = 10 := by
          rw [hgc] at h3
          apply UInt8.toNat_inj.1
          have h4 : (c.toNat : Int) = 10 := by subst hA; simpa [std, cmpStd] using h3
          simp; omega
        rw [if_pos hc, ← hX] at hinv
        cbv
        refine ⟨hsub, ?_⟩
        split
        · rename_i h4
          have h5 : A.cmp .eql 1 1 = true := h4
          rw [if_pos rfl] at hinv
          cbv
          refine CallK.mk _ rfl (fun _ => by rw [hP]; exact c34 _ hXs) ?_
          cbv
          refine CallK.le [planPV ⟨bF (A.ssub s (Int.ofNat f) (Int.ofNat i)), bU (A.ssub s (Int.ofNat f) (Int.ofNat i)), bO (A.ssub s (Int.ofNat f) (Int.ofNat i)), []⟩] (bl (bP ⟨bF (A.ssub s (Int.ofNat f) (Int.ofNat i)), bU (A.ssub s (Int.ofNat f) (Int.ofNat i)), bO (A.ssub s (Int.ofNat f) (Int.ofNat i)), []⟩)) rfl (fun _ => by cbv; and_intros <;> first | trivial | rfl) (fun _ => by rw [hP]; exact c31 _) ?_
          cbv
          split
          · rename_i h7
            have h8 : A.not (bP ⟨bF (A.ssub s (Int.ofNat f) (Int.ofNat i)), bU (A.ssub s (Int.ofNat f) (Int.ofNat i)), bO (A.ssub s (Int.ofNat f) (Int.ofNat i)), []⟩) = true := h7
            have h9 : ¬ beginsP (beginT (A.ssub s (Int.ofNat f) (Int.ofNat i))) = true := by
              rw [hbT, ← hbP]; subst hA; rw [s_not] at h8; simpa using h8
            rw [if_neg h9] at hinv
            cbv
            subst hR
            rw [hinv]
            simp [LeP, LeD, LeP.LePs, planPV, it, bl, st, nilS, planZ]
            try rfl
          · rename_i h7
            have h8 : A.not (bP ⟨bF (A.ssub s (Int.ofNat f) (Int.ofNat i)), bU (A.ssub s (Int.ofNat f) (Int.ofNat i)), bO (A.ssub s (Int.ofNat f) (Int.ofNat i)), []⟩) = false := h7
            have h9 : beginsP (beginT (A.ssub s (Int.ofNat f) (Int.ofNat i))) = true := by
              rw [hbT, ← hbP]; subst hA; rw [s_not] at h8; simpa using h8
            rw [if_pos h9, hbT] at hinv
            have hi0 : A.ar .add .i64 1 1 = Int.ofNat 2 := i_succ (i := 1) hA (by omega)
            cbv
            refine hK _ ⟨((i + 1, i + 1), some (2, ⟨bF (A.ssub s (Int.ofNat f) (Int.ofNat i)), bU (A.ssub s (Int.ofNat f) (Int.ofNat i)), bO (A.ssub s (Int.ofNat f) (Int.ofNat i)), []⟩, 0)), by simp only []; omega, by simp only []; omega, by omega, by simp only []; omega, rfl, by simp, ?_⟩ [] ?_ ⟨?_, ?_, ?_⟩
            · rw [hinv, cur_self]
            · simp only []; omega
            · (cbv <;> (try (and_intros <;> (first | exact True.intro | exact i_succ hA (by omega) | exact hi0 | rfl | simp))))
            · (cbv <;> (try (and_intros <;> (first | exact True.intro | exact hi0 | rfl | simp))))
            · cbv
        · rename_i h4
          have h5 : A.cmp .eql 1 1 = false := h4
          rw [hone] at h5; cases h5
    · rename_i h
      have hge := s_gge hA h
      have hcur := hend hge
      rw [i_end (by simpa using hge), pT] at hinv
      cbv
      repeat (refine And.intro (by first | exact True.intro | exact i_in hA (by assumption) | (subst hA; simp [std]; done) | (split <;> first | exact True.intro | rfl | assumption) | (subst hA; simp [std]; omega)) ?_)
      split
      · rename_i h2
        have h3 : A.or (A.cmp .lss (Int.ofNat f) (A.slen s)) (A.cmp .eql 1 1) = true := h2
        rw [if_pos (.inr rfl)] at hinv
        cbv
        subst hR
        rw [hinv]
        simp [LeP, LeD, LeP.LePs, planPV, it, bl, st, nilS, planZ]
        try rfl
      · rename_i h2
        have h3 : A.or (A.cmp .lss (Int.ofNat f) (A.slen s)) (A.cmp .eql 1 1) = false := h2
        exfalso; subst hA; rw [s_lor, Bool.or_eq_false_iff] at h3; exact absurd h3.2 (by decide)
  | some x =>
    obtain ⟨no, ⟨pF, pU, pO, pD⟩, n⟩ := x
    obtain ⟨hno1, hno2, hn, hl, hinv⟩ := hx
    simp only [] at hno1 hno2 hn hl hinv
    cbv
    split
    · rename_i h
      have hlt := s_gin hA h
      obtain ⟨c, hc1, _, hcd, hgc⟩ := byteAt hlt
      have hgc := hgc hA
      have hin := s_in hA hlt
      have hi1 : A.ar .add .i64 (Int.ofNat i) 1 = Int.ofNat (i + 1) := i_succ hA (by omega)
      rw [hcd, pT] at hinv
      cbv
      refine ⟨hin, ?_⟩
      split
      · rename_i h2
        replace hgc : A.sget s (Int.ofNat i) = (c.toNat : Int) := hgc
        have h3 : A.cmp .neq (A.sget s (Int.ofNat i)) 10 = true := h2
        have hc : ¬ c = 10 := by
          rintro rfl
          rw [hgc] at h3; subst hA; revert h3; simp [std, cmpStd]
        rw [if_neg hc] at hinv
        cbv
        refine hK _ ⟨((i + 1, f), some (no, ⟨pF, pU, pO, pD⟩, n)), by simp only []; omega, by simp only []; omega, hno1, by simp only []; omega, hn, hl, ?_⟩ [(900, 900, gh)] ?_ ⟨?_, ?_, ?_⟩
        · rw [hinv, cur_step hf hc1]
        · simp only []; omega
        · (cbv <;> (try (and_intros <;> (first | exact True.intro | exact i_succ hA (by omega) | rfl | simp))))
        · (cbv <;> (try (and_intros <;> (first | exact True.intro | rfl | simp))))
        · cbv
      · rename_i h2
        replace hgc : A.sget s (Int.ofNat i) = (c.toNat : Int) := hgc
        have h3 : A.cmp .neq (A.sget s (Int.ofNat i)) 10 = false := h2
        have hc : c = 10 := by
          rw [hgc] at h3
          apply UInt8.toNat_inj.1
          have h4 : (c.toNat : Int) = 10 := by subst hA; simpa [std, cmpStd] using h3
          simp; omega
        rw [if_pos hc, ← hX] at hinv
        cbv
        refine ⟨hsub, ?_⟩
        split
        · rename_i h4
          have h5 : A.cmp .eql (Int.ofNat no) 1 = true := h4
          exfalso; subst hA; simp [std, cmpStd] at h5; omega
        · rename_i h4
          have h5 : A.cmp .eql (Int.ofNat no) 1 = false := h4
          rw [if_neg (by omega), hdE] at hinv
          cbv
          refine CallK.mk _ rfl (fun _ => by rw [hP]; exact c35 _ hXs) ?_
          cbv
          refine CallK.mk _ rfl (fun _ => by rw [hP]; exact c17 _) ?_
          cbv
          repeat (refine And.intro (by first | exact True.intro | exact i_in hA (by assumption) | (subst hA; simp [std]; done) | (split <;> first | exact True.intro | rfl | assumption) | (subst hA; simp [std]; omega)) ?_)
          split
          · rename_i h7
            have h8 : A.or (A.not (rD ⟨dK (A.ssub s (Int.ofNat f) (Int.ofNat i)), dN (A.ssub s (Int.ofNat f) (Int.ofNat i)), dT (A.ssub s (Int.ofNat f) (Int.ofNat i))⟩)) (A.cmp .eql (A.len TyS.deed pD) 200) = true := h7
            have h9 : rightD ⟨dK (A.ssub s (Int.ofNat f) (Int.ofNat i)), dN (A.ssub s (Int.ofNat f) (Int.ofNat i)), dT (A.ssub s (Int.ofNat f) (Int.ofNat i))⟩ = false ∨ pD.length = 200 := by
              rw [hrD] at h8; subst hA; rw [s_lor, s_not, s_eql, s_len] at h8; simp at h8
              rcases h8 with h8 | h8
              · exact .inl h8
              · exact .inr (by omega)
            rw [if_pos h9] at hinv
            cbv
            subst hR
            rw [hinv]
            simp [LeP, LeD, LeP.LePs, planPV, it, bl, st, nilS, planZ]
            try rfl
          · rename_i h7
            have h8 : A.or (A.not (rD ⟨dK (A.ssub s (Int.ofNat f) (Int.ofNat i)), dN (A.ssub s (Int.ofNat f) (Int.ofNat i)), dT (A.ssub s (Int.ofNat f) (Int.ofNat i))⟩)) (A.cmp .eql (A.len TyS.deed pD) 200) = false := h7
            have h9 : ¬ (rightD ⟨dK (A.ssub s (Int.ofNat f) (Int.ofNat i)), dN (A.ssub s (Int.ofNat f) (Int.ofNat i)), dT (A.ssub s (Int.ofNat f) (Int.ofNat i))⟩ = false ∨ pD.length = 200) := by
              rw [hrD] at h8; subst hA; rw [s_lor, s_not, s_eql, s_len, Bool.or_eq_false_iff, Bool.not_eq_false'] at h8
              rintro (h9 | h9)
              · exact absurd (h9.symm.trans h8.1) (by simp)
              · have := h8.2; rw [h9] at this; revert this; decide
            rw [if_neg h9] at hinv
            have hnl : n = A.nlen TyS.deed pD := by subst hA; simpa [std] using hn
            have hl2 : pD.length ≠ 200 := fun e => h9 (.inr e)
            have happ : A.appOk TyS.deed 56 pD [⟨dK (A.ssub s (Int.ofNat f) (Int.ofNat i)), dN (A.ssub s (Int.ofNat f) (Int.ofNat i)), dT (A.ssub s (Int.ofNat f) (Int.ofNat i))⟩] := by subst hA; simp [std]; omega
            cbv
            refine ⟨⟨True.intro, True.intro⟩, hnl, happ, ?_⟩
            refine hK _ ⟨((i + 1, i + 1), some (no + 1, ⟨pF, pU, pO, A.app TyS.deed pD [⟨dK (A.ssub s (Int.ofNat f) (Int.ofNat i)), dN (A.ssub s (Int.ofNat f) (Int.ofNat i)), dT (A.ssub s (Int.ofNat f) (Int.ofNat i))⟩]⟩, A.nlen TyS.deed (A.app TyS.deed pD [⟨dK (A.ssub s (Int.ofNat f) (Int.ofNat i)), dN (A.ssub s (Int.ofNat f) (Int.ofNat i)), dT (A.ssub s (Int.ofNat f) (Int.ofNat i))⟩]))), by simp only []; omega, by simp only []; omega, by omega, by simp only []; omega, ?_, ?_, ?_⟩ [(900, 52, g + 7)] ?_ ⟨?_, ?_, ?_⟩
            · subst hA; rfl
            · subst hA; simp [std]; omega
            · rw [hinv, cur_self]; subst hA; simp [std]
            · simp only []; omega
            · (cbv <;> (try (and_intros <;> (first | exact True.intro | exact i_succ hA (by omega) | rfl | simp))))
            · (cbv <;> (try (and_intros <;> (first | exact True.intro | rfl | simp))))
            · cbv
    · rename_i h
      have hge := s_gge hA h
      have hcur := hend hge
      rw [i_end (by simpa using hge), pT] at hinv
      cbv
      repeat (refine And.intro (by first | exact True.intro | exact i_in hA (by assumption) | (subst hA; simp [std]; done) | (split <;> first | exact True.intro | rfl | assumption) | (subst hA; simp [std]; omega)) ?_)
      split
      · rename_i h2
        have h3 : A.or (A.cmp .lss (Int.ofNat f) (A.slen s)) (A.cmp .eql (Int.ofNat no) 1) = true := h2
        have hno : A.cmp .eql (Int.ofNat no) 1 = false := by subst hA; simp [std, cmpStd]; omega
        rw [hlast, hno] at h3
        have h4 : cur s f i ≠ [] ∨ no = 1 := .inl (hcur.2 (by subst hA; rw [s_lor] at h3; simpa using h3))
        rw [if_pos h4] at hinv
        cbv
        subst hR
        rw [hinv]
        simp [LeP, LeD, LeP.LePs, planPV, it, bl, st, nilS, planZ]
        try rfl
      · rename_i h2
        have h3 : A.or (A.cmp .lss (Int.ofNat f) (A.slen s)) (A.cmp .eql (Int.ofNat no) 1) = false := h2
        rw [hlast] at h3
        have h4 : ¬ (cur s f i ≠ [] ∨ no = 1) := by
          subst hA; rw [s_lor, Bool.or_eq_false_iff] at h3
          rintro (h5 | h5)
          · exact absurd (hcur.1 h5) (by simpa using h3.1)
          · omega
        rw [if_neg h4] at hinv
        cbv
        subst hR
        rw [hinv]
        simp [LeP, LeD, LeP.LePs, planPV, it, bl, st, nilS, planZ]
        try rfl
end Go.PL
namespace Go.PL
set_option linter.unusedSimpArgs false
set_option linter.unusedVariables false
set_option linter.unusedSectionVars false
open Tys (Ty U)
open Enc (sz enc dflt tb ofB toB)
open Dec (dec dok)
set_option maxRecDepth 100000
open Go.Proofs
variable [GM]
theorem spl_ne : ∀ l : List UInt8, spl l ≠ []
  | [] => by simp [spl]
  | c :: l => by
    rw [spl]
    split
    · simp
    · split <;> simp
theorem spl_joined : ∀ (l : List UInt8) (w : List UInt8) (ps : List (List UInt8)), spl l = w :: ps → l = w ++ ps.flatMap fun p => 32 :: p
  | [], w, ps, h => by simp [spl] at h; obtain ⟨rfl, rfl⟩ := h; rfl
  | c :: l, w, ps, h => by
    rw [spl] at h
    split at h
    · rename_i hc
      simp only [List.cons.injEq] at h
      obtain ⟨rfl, rfl⟩ := h
      match hq : spl l with
      | [] => exact absurd hq (spl_ne l)
      | v :: qs => rw [hc, spl_joined l v qs hq]; simp
    · match hq : spl l with
      | [] => exact absurd hq (spl_ne l)
      | v :: qs =>
        rw [hq] at h
        simp only [List.cons.injEq] at h
        obtain ⟨rfl, rfl⟩ := h
        rw [spl_joined l v qs hq]; rfl
theorem row_joined (row w : ByteArray) (ps : List ByteArray) (h : pieces row = w :: ps) : row.data.toList = w.data.toList ++ ps.flatMap fun p => 32 :: p.data.toList := by
  have h1 := pieces_spl row
  rw [h, List.map_cons] at h1
  rw [spl_joined _ _ _ h1.symm, List.flatMap_map]
theorem half_hexd : ∀ n : Fin 16, halfN (((hexd n.val).toNat : Nat) : Int) = n.val := by decide
theorem hexd_half : ∀ a : Fin 256, halfN ((a.val : Nat) : Int) ≤ 15 → hexd (halfN ((a.val : Nat) : Int)).toNat = UInt8.ofNat a.val := by decide
theorem hexd_half' (a : UInt8) (h : ¬ 15 < halfN (a.toNat : Int)) : hexd (halfN (a.toNat : Int)).toNat = a := by
  have := hexd_half ⟨a.toNat, a.toNat_lt⟩ (by simp only []; omega)
  simp only [] at this
  rw [this]; simp
theorem unhF_hex : ∀ l : List UInt8, unhF (hexB l) = some l
  | [] => rfl
  | c :: l => by
    have hc := c.toNat_lt
    have h1 := half_hexd ⟨c.toNat / 16, by omega⟩
    have h2 := half_hexd ⟨c.toNat % 16, by omega⟩
    have ih := unhF_hex l
    simp only [hexB, List.flatMap_cons] at ih ⊢
    simp only [List.cons_append, List.nil_append, unhF, ih]
    simp only [] at h1 h2
    rw [h1, h2, if_neg (by omega)]
    have e : (16 * ((c.toNat / 16 : Nat) : Int) + ((c.toNat % 16 : Nat) : Int)).toNat = c.toNat := by omega
    rw [e]; simp
theorem unhR_hex (s : ByteArray) : unhR (hexT s) = (s, true) := by
  unfold unhR hexT
  rw [bOf_size, bOf_data]
  have e : (hexB s.data.toList).length = 2 * s.data.toList.length := by
    unfold hexB
    generalize s.data.toList = l
    induction l with
    | nil => rfl
    | cons c l ih => rw [List.flatMap_cons, List.length_append, ih]; simp; omega
  rw [if_pos ⟨by rw [List.length_cons, e]; omega, rfl⟩]
  simp only [List.drop_succ_cons, List.drop_zero, unhF_hex, bOf_of]
theorem hex_unhF : ∀ (l t : List UInt8), l.length % 2 = 0 → unhF l = some t → hexB t = l
  | [], t, _, h => by simp only [unhF, Option.some.injEq] at h; subst h; rfl
  | [c], t, he, h => by simp at he
  | a :: b :: l, t, he, h => by
    rw [unhF] at h
    split at h
    · cases h
    · rename_i h1
      obtain ⟨u, hu, rfl⟩ := Option.map_eq_some_iff.1 h
      have ih := hex_unhF l u (by simp at he; omega) hu
      have ha := half_range a
      have hb := half_range b
      have ha2 := hexd_half' a (fun e => h1 (.inl e))
      have hb2 := hexd_half' b (fun e => h1 (.inr e))
      have h1a : halfN (a.toNat : Int) ≤ 15 := by rcases Int.lt_or_le 15 (halfN (a.toNat : Int)) with h | h; exact absurd (.inl h) h1; exact h
      have h1b : halfN (b.toNat : Int) ≤ 15 := by rcases Int.lt_or_le 15 (halfN (b.toNat : Int)) with h | h; exact absurd (.inr h) h1; exact h
      generalize halfN (a.toNat : Int) = x at *
      generalize halfN (b.toNat : Int) = y at *
      have e : (UInt8.ofNat (16 * x + y).toNat).toNat = (16 * x + y).toNat := by simp; omega
      simp only [hexB, List.flatMap_cons] at ih ⊢
      rw [e, ih, show (16 * x + y).toNat / 16 = x.toNat by omega, show (16 * x + y).toNat % 16 = y.toNat by omega, ha2, hb2]
      rfl
theorem hex_unhR (w : ByteArray) (h : (unhR w).2 = true) : hexT (unhR w).1 = w := by
  unfold unhR at h ⊢
  split at h
  · rename_i h1
    rw [if_pos h1]
    split at h
    · rename_i t ht
      simp only [ht]
      have hl : w.data.toList = 120 :: w.data.toList.drop 1 := by
        match hw : w.data.toList, h1.2 with
        | c :: l, h2 => simp at h2; subst h2; rfl
      have hs : w.data.toList.length = w.size := by simp
      have := hex_unhF _ t (by rw [List.length_drop]; omega) ht
      apply b_ext
      rw [hexT, bOf_data, bOf_data, this, ← hl]
    · cases h
  · cases h
theorem numR_dec (w : ByteArray) (h : 0 ≤ numR w) : decI (numR w) = w := by
  unfold numR at h ⊢
  split
  · rename_i h1; rw [h1] at h; simp at h
  · rename_i n h1
    rw [h1] at h
    simp only [] at h
    split
    · rename_i h2; exact h2
    · rename_i h2; rw [if_neg h2] at h; simp at h
def stepL (n : Int) (c : UInt8) : Int := 10 * n + ((c.toNat % 16 : Nat) : Int)
theorem fold_ge : ∀ (l : List UInt8) (m : Int), 0 ≤ m → m ≤ l.foldl stepL m
  | [], m, h => by simp
  | c :: l, m, h => by
    have := fold_ge l (stepL m c) (by unfold stepL; omega)
    rw [List.foldl_cons]
    have : m ≤ stepL m c := by unfold stepL; omega
    omega
theorem numF_fold : ∀ (l : List UInt8) (m : Int), 0 ≤ m → (∀ c ∈ l, 48 ≤ c.toNat ∧ c.toNat ≤ 57) → l.foldl stepL m ≤ 1099511627776 → numF l m = some (l.foldl stepL m)
  | [], m, _, _, _ => rfl
  | c :: l, m, h0, hd, h1 => by
    have hc := hd c (by simp)
    have hg := fold_ge (c :: l) m h0
    have e : 10 * m + ((c.toNat : Int) - 48) = stepL m c := by unfold stepL; omega
    rw [numF, if_neg (by omega), e, List.foldl_cons]
    exact numF_fold l _ (by unfold stepL; omega) (fun x hx => hd x (by simp [hx])) h1
theorem numR_of (n : Int) (h0 : 0 ≤ n) (h1 : n ≤ 1099511627776) : numR (decI n) = n := by
  have e : (decB n.toNat).data.toList.foldl stepL 0 = n := by
    have := numL_dec n.toNat
    rw [numL] at this
    show (decB n.toNat).data.toList.foldl (fun n c => 10 * n + ((c.toNat % 16 : Nat) : Int)) 0 = n
    rw [this]; omega
  have := numF_fold (decB n.toNat).data.toList 0 (by omega) (decB_sign n.toNat) (by omega)
  rw [e] at this
  rw [numR, decI, this]
  simp only []
  rw [← decI, if_pos rfl]
theorem dF_eq : ∀ (l : List ByteArray) (k : Nat) (ns : List Int) (ts : List ByteArray), dF k l ns ts = if ∀ w ∈ l.drop k, (unhR w).2 = true then some (ns ++ (l.take k).map numR, ts ++ (l.drop k).map fun w => (unhR w).1) else none
  | [], k, ns, ts => by cases k <;> simp [dF]
  | w :: l, k + 1, ns, ts => by rw [dF, dF_eq l k]; simp
  | w :: l, 0, ns, ts => by
    rw [dF]
    split
    · rename_i h
      rw [dF_eq l 0]
      simp [h]
    · rename_i h
      rw [if_neg]
      intro h2
      exact h (h2 w (by simp))
theorem deedT_line (d : Deed) (h : rightD d = true) : deedT (bOf (bodyL (kw d.Kind.toNat) d.Nums d.Texts)) = d := by
  obtain ⟨dk, dn, dt⟩ := d
  simp only []
  have hr := h
  rw [rightD, kinds_eq] at h
  simp only [] at h
  by_cases hk : isK dk = true
  · rw [if_pos hk] at h
    simp only [Bool.and_eq_true, beq_iff_eq] at h
    have hk2 : 1 ≤ dk ∧ dk ≤ 8 := by simpa [isK] using hk
    have hp := body_pieces (kw dk.toNat) dn dt (kw_wordy _)
    obtain ⟨h1, h2⟩ := rightD_nums hr
    have hm : mt (pieces (bOf (bodyL (kw dk.toNat) dn dt))) dk.toNat = true := by
      rw [hp, mt]
      simp [h.1.1.2, h.1.2]
      omega
    rw [deedT, kindOf_some (by omega) (by omega) hm]
    simp only []
    have e1 : ((dn.map decI) ++ dt.map fun s => bOf (120 :: hexB s.data.toList)).take (kn dk.toNat) = dn.map decI := by
      rw [List.take_append_of_le_length (by simp [h.1.1.2]), List.take_of_length_le (by simp [h.1.1.2])]
    have e2 : ((dn.map decI) ++ dt.map fun s => bOf (120 :: hexB s.data.toList)).drop (kn dk.toNat) = dt.map fun s => bOf (120 :: hexB s.data.toList) := by
      rw [List.drop_append_of_le_length (by simp [h.1.1.2]), List.drop_of_length_le (by simp [h.1.1.2])]; rfl
    rw [hp, List.drop_succ_cons, List.drop_zero, dF_eq, e1, e2, if_pos]
    · simp only [List.nil_append, List.map_map]
      congr 1
      · omega
      · conv => rhs; rw [← List.map_id dn]
        exact List.map_congr_left fun n hn => numR_of n (h1 n hn).1 (h1 n hn).2
      · conv => rhs; rw [← List.map_id dt]
        exact List.map_congr_left fun t _ => by show (unhR (hexT t)).1 = t; rw [unhR_hex]
    · intro w hw
      obtain ⟨t, _, rfl⟩ := List.mem_map.1 hw
      show (unhR (hexT t)).2 = true
      rw [unhR_hex]
  · rw [if_neg hk] at h; cases h
theorem line_deedT (row : ByteArray) (h : rightD (deedT row) = true) : bOf (bodyL (kw (deedT row).Kind.toNat) (deedT row).Nums (deedT row).Texts) = row := by
  have hz : rightD deedZ = false := by decide
  unfold deedT at h ⊢
  split at h
  · rename_i k hk
    try rw [hk]
    have hm := List.find?_some hk
    simp only [mt, Bool.and_eq_true, beq_iff_eq, decide_eq_true_eq] at hm
    obtain ⟨hw, hl⟩ := hm
    rw [dF_eq] at h ⊢
    split at h
    · rename_i r hr
      simp only [hr]
      split at hr
      · rename_i hall
        cases hr
        simp only [List.nil_append] at h ⊢
        obtain ⟨h1, h2⟩ := rightD_nums h
        simp only [] at h1 h2
        match hq : pieces row, hw with
        | w0 :: W, hw =>
          simp at hw
          subst hw
          rw [hq] at hall h1 h2 hl
          simp only [List.drop_succ_cons, List.drop_zero] at hall h1 h2 ⊢
          have hj := row_joined row _ _ hq
          apply b_ext
          rw [bOf_data, hj, bodyL, Int.toNat_natCast]
          congr 1
          have e : W = (W.take (kn k)).map (fun w => w) ++ (W.drop (kn k)).map (fun w => w) := by simp
          have e1 : ((W.take (kn k)).map numR).map (fun n => (decI n).data.toList) = (W.take (kn k)).map (fun w => w.data.toList) := by
            rw [List.map_map]
            exact List.map_congr_left fun w hw => by
              show (decI (numR w)).data.toList = _
              rw [numR_dec w (h1 _ (List.mem_map_of_mem hw)).1]
          have e2 : ((W.drop (kn k)).map fun w => (unhR w).1).map (fun s => 120 :: hexB s.data.toList) = (W.drop (kn k)).map (fun w => w.data.toList) := by
            rw [List.map_map]
            exact List.map_congr_left fun w hw => by
              have := hex_unhR w (hall w hw)
              show 120 :: hexB (unhR w).1.data.toList = _
              conv => rhs; rw [← this, hexT, bOf_data]
          rw [e1, e2, ← List.map_append, List.take_append_drop, List.flatMap_map]
      · cases hr
    · rw [hz] at h; cases h
  · rw [hz] at h; cases h
theorem deeds_agree (row : ByteArray) : (deedS row).2 = rightD (deedT row) ∧ (rightD (deedT row) = true → deedT row = (deedS row).1) := by
  by_cases h : rightD (deedT row) = true
  · have h1 := line_deedT row h
    have h2 := deed_back (deedT row) h
    rw [h1] at h2
    rw [h2]
    exact ⟨h.symm, fun _ => rfl⟩
  · refine ⟨?_, fun h2 => absurd h2 h⟩
    rw [Bool.not_eq_true] at h
    rw [h]
    by_cases h1 : (deedS row).2 = true
    · obtain ⟨h2, h3⟩ := deed_ok_line row h1
      have h4 := deedT_line (deedS row).1 h2
      have h5 : bOf (bodyL (kw (deedS row).1.Kind.toNat) (deedS row).1.Nums (deedS row).1.Texts) = row := by
        rw [lineD, lnB_body] at h3
        apply b_ext
        have := congrArg (·.data.toList) h3
        simp only [ByteArray.data_append, Array.toList_append] at this
        exact List.append_cancel_right this
      rw [h5] at h4
      rw [h4, h2] at h; cases h
    · simpa using h1
end Go.PL
namespace Go.PL
set_option linter.unusedSimpArgs false
set_option linter.unusedVariables false
set_option linter.unusedSectionVars false
open Tys (Ty U)
open Enc (sz enc dflt tb ofB toB)
open Dec (dec dok)
set_option maxRecDepth 100000
open Go.Proofs
variable [GM]
theorem beginT_line (p : Plan) (h : beginsP p = true) (hd : p.Deeds = []) : beginT (bOf (bodyL moveB [p.Format] [p.Rules, p.Routes])) = p := by
  obtain ⟨pF, pU, pO, pD⟩ := p
  simp only [] at hd ⊢
  subst hd
  have hp := body_pieces moveB [pF] [pU, pO] move_wordy
  obtain ⟨h1, _, _⟩ := begins_fit h
  have hm : mtB (pieces (bOf (bodyL moveB [pF] [pU, pO]))) = true := by rw [hp]; simp [mtB]
  rw [beginT, if_pos hm, hp]
  show (if (unhR (hexT pU)).2 && (unhR (hexT pO)).2 then (⟨numR (decI pF), (unhR (hexT pU)).1, (unhR (hexT pO)).1, []⟩ : Plan) else planZ) = _
  simp only [] at h1
  rw [numR_of pF (by omega) (by omega), unhR_hex, unhR_hex]
  rfl
theorem line_beginT (row : ByteArray) (h : beginsP (beginT row) = true) : bOf (bodyL moveB [(beginT row).Format] [(beginT row).Rules, (beginT row).Routes]) = row := by
  have hz : beginsP planZ = false := by decide
  unfold beginT at h ⊢
  split at h
  · rename_i hm
    split at h
    · rename_i hu
      try rw [if_pos hm, if_pos hu]
      simp only [Bool.and_eq_true] at hu
      simp only [mtB, Bool.and_eq_true, decide_eq_true_eq] at hm
      obtain ⟨hl, hw⟩ := hm
      obtain ⟨hf, _, _⟩ := begins_fit h
      match hq : pieces row, hl with
      | [w, a, b, c], _ =>
        rw [hq] at hw hu hf
        simp at hw
        subst hw
        have hj := row_joined row _ _ hq
        have e1 := numR_dec a (by
          have : numR a = 1 ∨ numR a = 2 := hf
          omega)
        have e2 := hex_unhR b hu.1
        have e3 := hex_unhR c hu.2
        apply b_ext
        show (bOf (bodyL moveB [numR a] [(unhR b).1, (unhR c).1])).data.toList = _
        rw [bOf_data, hj, bodyL]
        show moveB.data.toList ++ ([(decI (numR a)).data.toList] ++ [120 :: hexB (unhR b).1.data.toList, 120 :: hexB (unhR c).1.data.toList]).flatMap (fun p => 32 :: p) = _
        rw [e1]
        have e2' : 120 :: hexB (unhR b).1.data.toList = b.data.toList := by conv => rhs; rw [← e2, hexT, bOf_data]
        have e3' : 120 :: hexB (unhR c).1.data.toList = c.data.toList := by conv => rhs; rw [← e3, hexT, bOf_data]
        rw [e2', e3']
        rfl
    · rw [hz] at h; cases h
  · rw [hz] at h; cases h
theorem begins_agree (row : ByteArray) : (beginS row).2 = beginsP (beginT row) ∧ (beginsP (beginT row) = true → beginT row = (beginS row).1) := by
  by_cases h : beginsP (beginT row) = true
  · have h1 := line_beginT row h
    have h2 := begin_back (beginT row) h (beginT_deeds row)
    rw [h1] at h2
    rw [h2]
    exact ⟨h.symm, fun _ => rfl⟩
  · refine ⟨?_, fun h2 => absurd h2 h⟩
    rw [Bool.not_eq_true] at h
    rw [h]
    by_cases h1 : (beginS row).2 = true
    · obtain ⟨h2, h3⟩ := begin_ok_line row h1
      have h4 := beginT_line (beginS row).1 h2 (begin_deeds row)
      have h5 : bOf (bodyL moveB [(beginS row).1.Format] [(beginS row).1.Rules, (beginS row).1.Routes]) = row := by
        rw [headP, lnB_body] at h3
        apply b_ext
        have := congrArg (·.data.toList) h3
        simp only [ByteArray.data_append, Array.toList_append] at this
        exact List.append_cancel_right this
      rw [h5] at h4
      rw [h4, h2] at h; cases h
    · simpa using h1
theorem pT_app : ∀ (a r cur : List UInt8) (p : Plan) (no : Nat), (10 : UInt8) ∉ a → pT (a ++ r) cur p no = pT r (cur ++ a) p no
  | [], r, cur, p, no, _ => by simp
  | c :: a, r, cur, p, no, h => by
    simp only [List.mem_cons, not_or] at h
    rw [List.cons_append, pT, if_neg (fun e => h.1 e.symm), pT_app a r _ p no h.2]; simp
theorem pT_nl (r cur : List UInt8) (p : Plan) (no : Nat) (h : no ≠ 1) : pT (10 :: r) cur p no = if rightD (deedT (bOf cur)) = false ∨ p.Deeds.length = 200 then (planZ, (no : Int)) else pT r [] ⟨p.Format, p.Rules, p.Routes, p.Deeds ++ [deedT (bOf cur)]⟩ (no + 1) := by
  rw [pT]
  rw [if_pos (show (10 : UInt8) = 10 from rfl)]
  rw [if_neg h]
theorem pT_nl1 (r cur : List UInt8) (p : Plan) : pT (10 :: r) cur p 1 = if beginsP (beginT (bOf cur)) = true then pT r [] (beginT (bOf cur)) 2 else (planZ, 1) := by
  rw [pT]
  rw [if_pos (show (10 : UInt8) = 10 from rfl)]
  rw [if_pos rfl]
def Agree (q : PR) (t : Plan × Int) : Prop := (t.2 = 0 ∧ q = ⟨t.1, 0, 0⟩) ∨ (0 < t.2 ∧ t.1 = planZ ∧ q = ⟨planZ, 250, t.2⟩)
theorem cut_parts (rest : ByteArray) (a b : List UInt8) (e : rest.data.toList = a ++ 10 :: b) (ha : (10 : UInt8) ∉ a) : cutE rest = true ∧ cutR rest = bOf a ∧ cutM rest = bOf b := by
  have := cut_hit 10 a b ha
  unfold cutE cutR cutM
  rw [show nl.data.toList = [10] from rfl, e, this]
  exact ⟨rfl, rfl, rfl⟩
theorem cut_none (rest : ByteArray) (h : (10 : UInt8) ∉ rest.data.toList) : cutE rest = false := by
  unfold cutE
  rw [show nl.data.toList = [10] from rfl, cut_miss 10 _ h]
theorem rest_agree : ∀ (f : Nat) (rest : ByteArray) (p : Plan) (no : Nat), rest.size ≤ f → 1 ≤ no → Agree (parseF f rest p no) (pT rest.data.toList [] p (no + 1))
  | f, rest, p, no, hf, hno => by
    by_cases hz : rest.size = 0
    · have e : rest.data.toList = [] := by rw [ba_empty hz]
      have e2 : parseF f rest p no = ⟨p, 0, 0⟩ := by
        cases f with
        | zero => rfl
        | succ f => rw [parseF, if_pos hz]
      rw [e, e2, pT, if_neg (by simp; omega)]
      exact .inl ⟨rfl, rfl⟩
    · obtain ⟨f, rfl⟩ : ∃ f', f = f' + 1 := ⟨f - 1, by omega⟩
      rw [parseF, if_neg hz]
      by_cases hm : (10 : UInt8) ∈ rest.data.toList
      · obtain ⟨a, b, e, ha⟩ := List.eq_append_cons_of_mem hm
        obtain ⟨h1, h2, h3⟩ := cut_parts rest a b e ha
        obtain ⟨d1, d2⟩ := deeds_agree (bOf a)
        rw [h1, h2, h3, d1, e, pT_app a _ _ _ _ ha, pT_nl _ _ _ _ (by omega), List.nil_append]
        by_cases hd : rightD (deedT (bOf a)) = true
        · by_cases hl : p.Deeds.length = 200
          · rw [if_pos (by simp [hl]), if_pos (.inr hl)]
            exact .inr ⟨by simp only []; omega, rfl, rfl⟩
          · rw [if_neg (by simp [hl, hd]), if_neg (by simp [hl, hd]), ← d2 hd]
            have hs : (bOf b).size ≤ f := by
              have h4 := congrArg List.length e
              rw [List.length_append, List.length_cons] at h4
              have h5 : rest.data.toList.length = rest.size := by simp
              rw [bOf_size]; omega
            have := rest_agree f (bOf b) ⟨p.Format, p.Rules, p.Routes, p.Deeds ++ [deedT (bOf a)]⟩ (no + 1) hs (by omega)
            rw [bOf_data] at this
            exact this
        · rw [Bool.not_eq_true] at hd
          rw [if_pos (by simp [hd]), if_pos (.inl hd)]
          exact .inr ⟨by simp only []; omega, rfl, rfl⟩
      · rw [cut_none rest hm, if_pos (by simp)]
        have := pT_app rest.data.toList [] [] p (no + 1) hm
        rw [List.append_nil, List.nil_append] at this
        rw [this, pT, if_pos]
        · exact .inr ⟨by simp only []; omega, rfl, rfl⟩
        · left
          intro h
          apply hz
          have h5 : rest.data.toList.length = rest.size := by simp
          rw [h] at h5; exact h5.symm
theorem parse_agree (s : ByteArray) : Agree (parseS s) (parseT s) := by
  unfold parseS parseT
  by_cases hm : (10 : UInt8) ∈ s.data.toList
  · obtain ⟨a, b, e, ha⟩ := List.eq_append_cons_of_mem hm
    obtain ⟨h1, h2, h3⟩ := cut_parts s a b e ha
    obtain ⟨d1, d2⟩ := begins_agree (bOf a)
    rw [h1, h2, h3, d1, e, pT_app a _ _ _ _ ha, pT_nl1, List.nil_append]
    by_cases hd : beginsP (beginT (bOf a)) = true
    · rw [hd, if_pos (by rfl), if_pos rfl, ← d2 hd]
      have hs : (bOf b).size ≤ s.size := by
        have h4 := congrArg List.length e
        rw [List.length_append, List.length_cons] at h4
        have h5 : s.data.toList.length = s.size := by simp
        rw [bOf_size]; omega
      have := rest_agree s.size (bOf b) (beginT (bOf a)) 1 hs (by omega)
      rw [bOf_data] at this
      exact this
    · rw [Bool.not_eq_true] at hd
      rw [hd, if_neg (by simp), if_neg (by simp)]
      exact .inr ⟨by decide, rfl, rfl⟩
  · rw [cut_none s hm, if_neg (by simp)]
    have := pT_app s.data.toList [] [] planZ 1 hm
    rw [List.append_nil, List.nil_append] at this
    rw [this, pT, if_pos (.inr rfl)]
    exact .inr ⟨by decide, rfl, rfl⟩
/-- what is read has few deeds -/
theorem pT_len : ∀ (l cur : List UInt8) (p : Plan) (no : Nat), p.Deeds.length ≤ 200 → (∀ d ∈ p.Deeds, smallD d) → (pT l cur p no).1.Deeds.length ≤ 200 ∧ ∀ d ∈ (pT l cur p no).1.Deeds, smallD d
  | [], cur, p, no, h, h2 => by rw [pT]; split <;> simp_all [planZ]
  | c :: l, cur, p, no, h, h2 => by
    rw [pT]
    split
    · split
      · split
        · exact pT_len l _ _ _ (by rw [beginT_deeds]; simp) (by rw [beginT_deeds]; simp)
        · simp [planZ]
      · split
        · simp [planZ]
        · rename_i h3
          simp only [not_or] at h3
          refine pT_len l _ _ _ (by simp only [List.length_append, List.length_singleton]; omega) ?_
          intro d hd
          simp only [List.mem_append, List.mem_singleton] at hd
          rcases hd with hd | rfl
          · exact h2 d hd
          · exact deedT_small _
    · exact pT_len l _ p no h h2
theorem reads_ok (ht : GM.tab = true) (s : ByteArray) : PFun cx 5 [st s] (bl true) := by
  obtain ⟨S, hS⟩ : ∃ S, S = cutS s 40000 := ⟨_, rfl⟩
  have hSz : S.size ≤ 40000 := by rw [hS]; simp [cutS]; omega
  obtain ⟨Q, hQ⟩ : ∃ Q, Q = parseS S := ⟨_, rfl⟩
  obtain ⟨T, hT⟩ : ∃ T, T = parseT S := ⟨_, rfl⟩
  have hag : Agree Q T := by rw [hQ, hT]; exact parse_agree S
  have hparse := parse_ok S Q hQ (by omega)
  have hrparse := rparse_ok ht S T hT (by omega)
  have hlen : T.1.Deeds.length ≤ 200 ∧ ∀ d ∈ T.1.Deeds, smallD d := by rw [hT]; exact pT_len _ _ _ _ (by simp [planZ]) (by simp [planZ])
  clear hQ hT
  refine PFun.walk cx_ok Tryd.func5 rfl rfl rfl fun A P R hA hP hR => ?_
  have hS2 : A.ssub s 0 (A.mn (A.slen s) 40000) = S := by rw [hS]; exact a_ssub hA s 40000
  have hk := a_ssubOk hA s 40000
  rw [← hS2] at hparse hrparse
  rcases hag with ⟨ha, rfl⟩ | ⟨ha, hb, rfl⟩
  · obtain ⟨⟨tF, tU, tO, tD⟩, t⟩ := T
    simp only [] at ha hlen hparse hrparse
    subst ha
    cbv
    refine ⟨hk, ?_⟩
    refine CallK.mk (.tu [planPV ⟨tF, tU, tO, tD⟩, it .i64 0, it .i64 0]) rfl (fun _ => by rw [hP]; exact hparse) ?_
    cbv
    refine CallK.mk (.tu [planPV ⟨tF, tU, tO, tD⟩, it .i64 0]) rfl (fun _ => by rw [hP]; exact hrparse) ?_
    cbv
    split
    · rename_i h
      exfalso; subst hA; revert h; decide
    · cbv
      refine CallK.mk _ rfl (fun _ => by rw [hP]; exact alive_ok) ?_
      cbv
      repeat (refine And.intro (by first | exact True.intro | exact i_in hA (by assumption) | (subst hA; simp [std]; done) | (split <;> first | exact True.intro | rfl | assumption) | (subst hA; simp [std]; omega)) ?_)
      refine CallK.mk (bl true) rfl (fun _ => by rw [hP]; exact Like_ok ⟨tF, tU, tO, tD⟩ ⟨tF, tU, tO, tD⟩ true (by simp) (by simp only []; omega) hlen.2) ?_
      cbv
      repeat (refine And.intro (by first | (split <;> first | assumption | trivial) | exact True.intro | exact i_in hA (by assumption) | (subst hA; simp [std]; done) | (split <;> first | exact True.intro | rfl | assumption) | (subst hA; simp [std]; omega)) ?_)
      subst hR
      simp only [LeP, LeD, bl]
      subst hA
      rfl
  · obtain ⟨t1, t⟩ := T
    simp only [] at ha hb hlen hparse hrparse
    subst hb
    cbv
    refine ⟨hk, ?_⟩
    refine CallK.mk (.tu [planPV planZ, it .i64 250, it .i64 t]) rfl (fun _ => by rw [hP]; exact hparse) ?_
    cbv
    refine CallK.mk (.tu [planPV planZ, it .i64 t]) rfl (fun _ => by rw [hP]; exact hrparse) ?_
    cbv
    split
    · rename_i h
      cbv
      refine CallK.mk _ rfl (fun _ => by rw [hP]; exact alive_ok) ?_
      cbv
      repeat (refine And.intro (by first | exact True.intro | exact i_in hA (by assumption) | (subst hA; simp [std]; done) | (split <;> first | exact True.intro | rfl | assumption) | (subst hA; simp [std]; omega)) ?_)
      refine CallK.le [planPV planZ, planPV ⟨0, .empty, .empty, []⟩] (bl true) rfl (fun _ => by cbv; and_intros <;> first | trivial | rfl) (fun _ => by rw [hP]; exact Like_ok planZ _ true (by simp [planZ]) (by simp [planZ]) (by simp [planZ])) ?_
      cbv
      repeat (refine And.intro (by first | (split <;> first | assumption | trivial) | exact True.intro | exact i_in hA (by assumption) | (subst hA; simp [std]; done) | (split <;> first | exact True.intro | rfl | assumption) | (subst hA; simp [std]; omega)) ?_)
      subst hR
      simp only [LeP, LeD, bl]
      subst hA
      simp [std, cmpStd]
    · rename_i h
      have h2 : A.cmp .gtr t 0 = false := h
      exfalso; subst hA; simp [std, cmpStd] at h2; omega
end Go.PL
