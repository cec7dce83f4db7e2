/- Contracts of the reference's functions that print, and what ScriptPrints and ScriptLines compute. Conditions: those that each states. -/
import Derived.Test.YtmmpeenkjgnhbaaDoorUa
namespace Go.PL
set_option linter.unusedSimpArgs false
set_option linter.unusedVariables false
set_option linter.unusedSectionVars false
open Tys (Ty U)
open Enc (sz enc dflt tb ofB toB)
open Dec (dec dok)
set_option maxRecDepth 100000
open Go.Proofs
variable [GM]
theorem k_cases {n : Int} (h0 : 0 ≤ n) (h8 : n ≤ 8) {p : Int → Prop} (hp : p 0 ∧ p 1 ∧ p 2 ∧ p 3 ∧ p 4 ∧ p 5 ∧ p 6 ∧ p 7 ∧ p 8) : p n := by
  have : n = 0 ∨ n = 1 ∨ n = 2 ∨ n = 3 ∨ n = 4 ∨ n = 5 ∨ n = 6 ∨ n = 7 ∨ n = 8 := by omega
  obtain ⟨p0, p1, p2, p3, p4, p5, p6, p7, p8⟩ := hp
  rcases this with rfl | rfl | rfl | rfl | rfl | rfl | rfl | rfl | rfl <;> assumption
theorem word_ok (n : Int) (h0 : 0 ≤ n) (h8 : n ≤ 8) : PFun cx 41 [it .i64 n] (st (kw n.toNat)) := by
  obtain ⟨w, hw⟩ : ∃ w, w = kw n.toNat := ⟨_, rfl⟩
  rw [← hw]
  refine PFun.walk cx_ok Tryd.func41 rfl rfl rfl fun A P R hA hP hR => ?_
  cbv
  repeat (refine And.intro (by first | (exact ⟨True.intro, True.intro, True.intro, True.intro, True.intro, True.intro, True.intro, True.intro, True.intro, True.intro⟩) | exact True.intro | exact i_in hA (by assumption) | (subst hA; simp [std]; done) | (split <;> first | exact True.intro | rfl | assumption) | (subst hA; simp [std]; omega)) ?_)
  subst hR
  simp only [LeP, LeD, st]
  rw [hw]
  subst hA
  exact k_cases (p := fun n => std.get TyS.str _ n = kw n.toNat) h0 h8 ⟨rfl, rfl, rfl, rfl, rfl, rfl, rfl, rfl, rfl⟩
theorem nums_ok (n : Int) (h0 : 0 ≤ n) (h8 : n ≤ 8) : PFun cx 39 [it .i64 n] (it .i64 ((kn n.toNat : Nat) : Int)) := by
  obtain ⟨w, hw⟩ : ∃ w : Int, w = ((kn n.toNat : Nat) : Int) := ⟨_, rfl⟩
  rw [← hw]
  refine PFun.walk cx_ok Tryd.func39 rfl rfl rfl fun A P R hA hP hR => ?_
  cbv
  repeat (refine And.intro (by first | (exact ⟨True.intro, True.intro, True.intro, True.intro, True.intro, True.intro, True.intro, True.intro, True.intro, True.intro⟩) | exact True.intro | exact i_in hA (by assumption) | (subst hA; simp [std]; done) | (split <;> first | exact True.intro | rfl | assumption) | (subst hA; simp [std]; omega)) ?_)
  subst hR
  simp only [LeP, LeD, it, true_and]
  rw [hw]
  subst hA
  exact k_cases (p := fun n => std.get TyS.int _ n = ((kn n.toNat : Nat) : Int)) h0 h8 ⟨rfl, rfl, rfl, rfl, rfl, rfl, rfl, rfl, rfl⟩
theorem textn_ok (n : Int) (h0 : 0 ≤ n) (h8 : n ≤ 8) : PFun cx 40 [it .i64 n] (it .i64 ((kt n.toNat : Nat) : Int)) := by
  obtain ⟨w, hw⟩ : ∃ w : Int, w = ((kt n.toNat : Nat) : Int) := ⟨_, rfl⟩
  rw [← hw]
  refine PFun.walk cx_ok Tryd.func40 rfl rfl rfl fun A P R hA hP hR => ?_
  cbv
  repeat (refine And.intro (by first | (exact ⟨True.intro, True.intro, True.intro, True.intro, True.intro, True.intro, True.intro, True.intro, True.intro, True.intro⟩) | exact True.intro | exact i_in hA (by assumption) | (subst hA; simp [std]; done) | (split <;> first | exact True.intro | rfl | assumption) | (subst hA; simp [std]; omega)) ?_)
  subst hR
  simp only [LeP, LeD, it, true_and]
  rw [hw]
  subst hA
  exact k_cases (p := fun n => std.get TyS.int _ n = ((kt n.toNat : Nat) : Int)) h0 h8 ⟨rfl, rfl, rfl, rfl, rfl, rfl, rfl, rfl, rfl⟩
theorem Begins_ok (p : Plan) (b : Bool) (hb : b = beginsP p) : PFun cx 31 [planPV p] (bl b) := by
  obtain ⟨pF, pU, pO, pD⟩ := p
  refine PFun.walk cx_ok Tryd.func31 rfl rfl rfl fun A P R hA hP hR => ?_
  cbv
  repeat (refine And.intro (by first | exact True.intro | exact i_in hA (by assumption) | (subst hA; simp [std]; done) | (split <;> first | exact True.intro | rfl | assumption) | (subst hA; simp [std]; omega)) ?_)
  subst hR
  simp only [LeP, LeD, bl]
  rw [hb, beginsP]
  subst hA
  show (decide (1 ≤ pF) && decide (pF ≤ 2) && decide ((pU.size : Int) ≤ 8192) && decide ((pO.size : Int) ≤ 8192)) = _
  rw [Bool.eq_iff_iff]
  simp
  omega
theorem IsDeed_ok (d : Deed) (b : Bool) (hb : b = rightD d) (hs : smallD d) : PFun cx 17 [deedPV d] (bl b) := by
  obtain ⟨dk, dn, dt⟩ := d
  obtain ⟨hs1, hs2⟩ := hs
  simp only [] at hs1 hs2
  obtain ⟨knF, hkn, c39⟩ : ∃ f : Int → Int, f = (fun n => ((kn n.toNat : Nat) : Int)) ∧ ∀ n, 0 ≤ n → n ≤ 8 → PFun cx 39 [it .i64 n] (it .i64 (f n)) := ⟨_, rfl, nums_ok⟩
  obtain ⟨ktF, hkt, c40⟩ : ∃ f : Int → Int, f = (fun n => ((kt n.toNat : Nat) : Int)) ∧ ∀ n, 0 ≤ n → n ≤ 8 → PFun cx 40 [it .i64 n] (it .i64 (f n)) := ⟨_, rfl, textn_ok⟩
  have hbR : rightD ⟨dk, dn, dt⟩ = (isK dk && !dn.any far && (dn.length == kn dk.toNat) && (dt.length == kt dk.toNat) && !dt.any (fun s => decide (1000 < s.size))) := by
    simp only [rightD, kinds_eq]
    cases isK dk <;> simp
  rw [hbR] at hb
  refine PFun.walk cx_ok Tryd.func17 rfl rfl rfl fun A P R hA hP hR => ?_
  cbv
  repeat (refine And.intro (by first | exact True.intro | exact i_in hA (by assumption) | (subst hA; simp [std]; done) | (split <;> first | exact True.intro | rfl | assumption) | (subst hA; simp [std]; omega)) ?_)
  have hk1 : A.not (A.or (A.cmp .lss dk 1) (A.cmp .gtr dk 8)) = true → 0 ≤ dk ∧ dk ≤ 8 := by
    intro h; subst hA
    rw [s_not, s_lor, s_lss, s_gtr] at h
    simp at h; omega
  refine CallK.mk _ rfl (fun hc => by rw [hP]; exact c39 _ (hk1 hc).1 (hk1 hc).2) ?_
  cbv
  repeat (refine And.intro (by first | exact True.intro | exact i_in hA (by assumption) | (subst hA; simp [std]; done) | (split <;> first | exact True.intro | rfl | assumption) | (subst hA; simp [std]; omega)) ?_)
  have hk2 : A.not (A.or (A.or (A.cmp .lss dk 1) (A.cmp .gtr dk 8)) (A.cmp .neq (A.len TyS.int dn) (knF dk))) = true → 0 ≤ dk ∧ dk ≤ 8 := by
    intro h; apply hk1; subst hA
    rw [s_not, s_lor] at h
    rw [s_not]
    rw [Bool.not_eq_true', Bool.or_eq_false_iff] at h
    rw [h.1]; rfl
  refine CallK.mk _ rfl (fun hc => by rw [hP]; exact c40 _ (hk2 hc).1 (hk2 hc).2) ?_
  cbv
  repeat (refine And.intro (by first | exact True.intro | exact i_in hA (by assumption) | (subst hA; simp [std]; done) | (split <;> first | exact True.intro | rfl | assumption) | (subst hA; simp [std]; omega)) ?_)
  have hcond : A.or (A.or (A.or (A.cmp .lss dk 1) (A.cmp .gtr dk 8)) (A.cmp .neq (A.len TyS.int dn) (knF dk))) (A.cmp .neq (A.len TyS.str dt) (ktF dk)) = !(isK dk && (dn.length == kn dk.toNat) && (dt.length == kt dk.toNat)) := by
    have e1 : knF dk = ((kn dk.toNat : Nat) : Int) := by rw [hkn]
    have e2 : ktF dk = ((kt dk.toNat : Nat) : Int) := by rw [hkt]
    rw [e1, e2]
    subst hA
    rw [s_lor, s_lor, s_lor, s_lss, s_gtr, s_neq, s_neq, s_len, s_len, isK, Bool.eq_iff_iff]
    simp only [Bool.or_eq_true, decide_eq_true_eq, bne_iff_ne, ne_eq, Bool.not_eq_true', Bool.and_eq_false_iff, decide_eq_false_iff_not, beq_eq_false_iff_ne]
    omega
  split
  · rename_i h
    have h2 : A.or (A.or (A.or (A.cmp .lss dk 1) (A.cmp .gtr dk 8)) (A.cmp .neq (A.len TyS.int dn) (knF dk))) (A.cmp .neq (A.len TyS.str dt) (ktF dk)) = true := h
    rw [hcond] at h2
    cbv
    subst hR
    simp only [LeP, LeD, bl]
    rw [hb]
    revert h2
    cases isK dk <;> cases (dn.length == kn dk.toNat) <;> cases (dt.length == kt dk.toNat) <;> simp
  · rename_i h
    have h2 : A.or (A.or (A.or (A.cmp .lss dk 1) (A.cmp .gtr dk 8)) (A.cmp .neq (A.len TyS.int dn) (knF dk))) (A.cmp .neq (A.len TyS.str dt) (ktF dk)) = false := h
    rw [hcond] at h2
    have hb2 : b = (!dn.any far && !dt.any (fun s => decide (1000 < s.size))) := by
      rw [hb]; revert h2
      cases isK dk <;> cases (dn.length == kn dk.toNat) <;> cases (dt.length == kt dk.toNat) <;> simp
    cbv
    refine LoopK.mk (X := {i : Nat // i ≤ dn.length ∧ (dn.drop i).any far = dn.any far}) (fun i _ => [(36, it .i64 i.1)]) (fun _ _ => [⟨1, 0, .box 42 [it .i64 dk, .d (.sl .int dn), .d (.sl .str dt)]⟩]) (fun i => dn.length - i.1) ⟨0, by simp⟩ [] ⟨?_, ?_, ?_⟩ ?_
    · (cbv <;> (try (and_intros <;> (first | exact True.intro | exact i_succ hA (by omega) | rfl | simp))))
    · (cbv <;> (try (and_intros <;> (first | exact True.intro | rfl | simp))))
    · cbv
    intro ⟨i, hi, hinv⟩ gh g K hK
    cbv
    split
    · rename_i h3
      have hlt : i < dn.length := i_lt (t := TyS.int) hA h3
      obtain ⟨x, hx, hxm, hxd, _⟩ := i_at hlt
      have hgx : A.get TyS.int dn (Int.ofNat i) = x := i_get (t := TyS.int) hA hx
      have hin := i_in (t := TyS.int) hA hlt
      have hfar : A.or (A.cmp .lss (A.get TyS.int dn (Int.ofNat i)) 0) (A.cmp .gtr (A.get TyS.int dn (Int.ofNat i)) 1099511627776) = far x := by
        rw [hgx]; subst hA; rw [s_lor, s_lss, s_gtr]; rfl
      cbv
      refine ⟨hin, ?_⟩
      repeat (refine And.intro (by first | exact True.intro | exact i_in hA (by assumption) | (subst hA; simp [std]; done) | (split <;> first | exact True.intro | rfl | assumption) | (subst hA; simp [std]; omega)) ?_)
      split
      · rename_i h4
        have h5 : A.or (A.cmp .lss (A.get TyS.int dn (Int.ofNat i)) 0) (A.cmp .gtr (A.get TyS.int dn (Int.ofNat i)) 1099511627776) = true := h4
        rw [hfar] at h5
        cbv
        subst hR
        simp only [LeP, LeD, bl]
        rw [hb2, ← hinv, hxd, List.any_cons, h5]; simp
      · rename_i h4
        have h5 : A.or (A.cmp .lss (A.get TyS.int dn (Int.ofNat i)) 0) (A.cmp .gtr (A.get TyS.int dn (Int.ofNat i)) 1099511627776) = false := h4
        rw [hfar] at h5
        cbv
        refine hK _ ⟨i + 1, by omega, by rw [← hinv, hxd, List.any_cons, h5]; simp⟩ [] ?_ ⟨?_, ?_, ?_⟩
        · simp only []; omega
        · (cbv <;> (try (and_intros <;> (first | exact True.intro | exact i_succ hA (by omega) | rfl | simp))))
        · (cbv <;> (try (and_intros <;> (first | exact True.intro | rfl | simp))))
        · cbv
    · rename_i h3
      have hge : dn.length ≤ i := i_ge (t := TyS.int) hA h3
      rw [i_end hge] at hinv
      have hn0 : dn.any far = false := by rw [← hinv]; rfl
      cbv
      refine LoopK.mk (X := {i : Nat // i ≤ dt.length ∧ (dt.drop i).any (fun s => decide (1000 < s.size)) = dt.any fun s => decide (1000 < s.size)}) (fun i _ => [(50, it .i64 i.1)]) (fun _ _ => []) (fun i => dt.length - i.1) ⟨0, by simp⟩ [] ⟨?_, ?_, ?_⟩ ?_
      · (cbv <;> (try (and_intros <;> (first | exact True.intro | exact i_succ hA (by omega) | rfl | simp))))
      · (cbv <;> (try (and_intros <;> (first | exact True.intro | rfl | simp))))
      · cbv
      clear hK hinv hi hge h3
      intro ⟨i, hi, hinv⟩ gh g K hK
      cbv
      split
      · rename_i h3
        have hlt : i < dt.length := i_lt (t := TyS.str) hA h3
        obtain ⟨x, hx, hxm, hxd, _⟩ := i_at hlt
        have hgx : A.get TyS.str dt (Int.ofNat i) = x := i_get (t := TyS.str) hA hx
        have hin := i_in (t := TyS.str) hA hlt
        have hfar : A.cmp .gtr (A.slen (A.get TyS.str dt (Int.ofNat i))) 1000 = decide (1000 < x.size) := by
          rw [hgx]; subst hA; rw [s_gtr, s_slen, Bool.eq_iff_iff]; simp; omega
        cbv
        refine ⟨hin, ?_⟩
        split
        · rename_i h4
          have h5 : A.cmp .gtr (A.slen (A.get TyS.str dt (Int.ofNat i))) 1000 = true := h4
          rw [hfar] at h5
          cbv
          subst hR
          simp only [LeP, LeD, bl]
          rw [hb2, ← hinv, hxd, List.any_cons, h5]; simp
        · rename_i h4
          have h5 : A.cmp .gtr (A.slen (A.get TyS.str dt (Int.ofNat i))) 1000 = false := h4
          rw [hfar] at h5
          cbv
          refine hK _ ⟨i + 1, by omega, by rw [← hinv, hxd, List.any_cons, h5]; simp⟩ [] ?_ ⟨?_, ?_, ?_⟩
          · simp only []; omega
          · (cbv <;> (try (and_intros <;> (first | exact True.intro | exact i_succ hA (by omega) | rfl | simp))))
          · (cbv <;> (try (and_intros <;> (first | exact True.intro | rfl | simp))))
          · cbv
      · rename_i h3
        have hge : dt.length ≤ i := i_ge (t := TyS.str) hA h3
        rw [i_end hge] at hinv
        cbv
        subst hR
        simp only [LeP, LeD, bl]
        rw [hb2, hn0, ← hinv]; rfl
theorem RRight_ok (p : Plan) (b : Bool) (hb : b = rightP p) (h : ∀ d ∈ p.Deeds, smallD d) (hl : p.Deeds.length ≤ 4611686018427387904) : PFun cx 13 [planPV p] (bl b) := by
  obtain ⟨pF, pU, pO, pD⟩ := p
  simp only [] at h hl
  have hb2 : b = (decide (pD.length ≤ 200) && beginsP ⟨pF, pU, pO, pD⟩ && !pD.any fun d => !rightD d) := by
    rw [hb, rightP]; simp only []
    cases beginsP ⟨pF, pU, pO, pD⟩ <;> cases decide (pD.length ≤ 200) <;> simp
  obtain ⟨rD, hrD, c17⟩ : ∃ f : Deed → Bool, f = rightD ∧ ∀ d, smallD d → PFun cx 17 [deedPV d] (bl (f d)) := ⟨_, rfl, fun d h => IsDeed_ok d _ rfl h⟩
  obtain ⟨b1, hb1⟩ : ∃ b1, b1 = beginsP ⟨pF, pU, pO, pD⟩ := ⟨_, rfl⟩
  refine PFun.walk cx_ok Tryd.func13 rfl rfl rfl fun A P R hA hP hR => ?_
  cbv
  refine LoopK.mk (X := {i : Nat // i ≤ pD.length ∧ (pD.drop i).any (fun d => !rightD d) = pD.any fun d => !rightD d}) (fun i _ => [(8, it .i64 i.1)]) (fun _ _ => [⟨1, 0, .box 24 [it .i64 pF, st pU, st pO, .d (.sl .deed pD)]⟩]) (fun i => pD.length - i.1) ⟨0, by simp⟩ [] ⟨?_, ?_, ?_⟩ ?_
  · (cbv <;> (try (and_intros <;> (first | exact True.intro | exact i_succ hA (by omega) | rfl | simp))))
  · (cbv <;> (try (and_intros <;> (first | exact True.intro | rfl | simp))))
  · cbv
  intro ⟨i, hi, hinv⟩ gh g K hK
  cbv
  split
  · rename_i h3
    have hlt : i < pD.length := i_lt (t := TyS.deed) hA h3
    obtain ⟨x, hx, hxm, hxd, _⟩ := i_at hlt
    have hgx : A.get TyS.deed pD (Int.ofNat i) = x := i_get (t := TyS.deed) hA hx
    have hin := i_in (t := TyS.deed) hA hlt
    have hsm : smallD (A.get TyS.deed pD (Int.ofNat i)) := by rw [hgx]; exact h x hxm
    cbv
    refine ⟨hin, ?_⟩
    refine CallK.mk _ rfl (fun _ => by rw [hP]; exact c17 (A.get TyS.deed pD (Int.ofNat i)) hsm) ?_
    cbv
    split
    · rename_i h4
      have h5 : A.not (rD (A.get TyS.deed pD (Int.ofNat i))) = true := h4
      rw [hgx, hrD] at h5
      have h6 : (!rightD x) = true := by rw [← h5]; subst hA; rfl
      cbv
      subst hR
      simp only [LeP, LeD, bl]
      rw [hb2, ← hinv, hxd, List.any_cons, h6]; simp
    · rename_i h4
      have h5 : A.not (rD (A.get TyS.deed pD (Int.ofNat i))) = false := h4
      rw [hgx, hrD] at h5
      have h6 : (!rightD x) = false := by rw [← h5]; subst hA; rfl
      cbv
      refine hK _ ⟨i + 1, by omega, by rw [← hinv, hxd, List.any_cons, h6]; simp⟩ [] ?_ ⟨?_, ?_, ?_⟩
      · simp only []; omega
      · (cbv <;> (try (and_intros <;> (first | exact True.intro | exact i_succ hA (by omega) | rfl | simp))))
      · (cbv <;> (try (and_intros <;> (first | exact True.intro | rfl | simp))))
      · cbv
  · rename_i h3
    have hge : pD.length ≤ i := i_ge (t := TyS.deed) hA h3
    rw [i_end hge] at hinv
    cbv
    repeat (refine And.intro (by first | exact True.intro | exact i_in hA (by assumption) | (subst hA; simp [std]; done) | (split <;> first | exact True.intro | rfl | assumption) | (subst hA; simp [std]; omega)) ?_)
    refine CallK.mk (bl b1) rfl (fun _ => by rw [hP]; exact Begins_ok ⟨pF, pU, pO, pD⟩ b1 hb1) ?_
    cbv
    repeat (refine And.intro (by first | exact True.intro | exact i_in hA (by assumption) | (subst hA; simp [std]; done) | (split <;> first | exact True.intro | rfl | assumption) | (subst hA; simp [std]; omega)) ?_)
    subst hR
    simp only [LeP, LeD, bl]
    rw [hb2, ← hb1, ← hinv]
    subst hA
    show (decide ((pD.length : Int) ≤ 200) && b1) = _
    have : decide ((pD.length : Int) ≤ 200) = decide (pD.length ≤ 200) := by rw [Bool.eq_iff_iff]; simp; omega
    rw [this]; simp
end Go.PL
namespace Go.PL
set_option linter.unusedSimpArgs false
set_option linter.unusedVariables false
set_option linter.unusedSectionVars false
open Tys (Ty U)
open Enc (sz enc dflt tb ofB toB)
open Dec (dec dok)
set_option maxRecDepth 100000
open Go.Proofs
variable [GM]
def hexT (s : ByteArray) : ByteArray := bOf (120 :: hexB s.data.toList)
theorem hx1 : ∀ d : Fin 10, UInt8.ofNat (48 + d.val) = hexd d.val := by decide
theorem hx2 : ∀ d : Fin 6, UInt8.ofNat (97 + (d.val + 10) - 10) = hexd (d.val + 10) := by decide
theorem s_gin {A : Ar} {s : ByteArray} {i : Nat} (hA : A = std) (h : A.cmp .lss (Int.ofNat i) (A.slen s) = true) : i < s.size := by subst hA; simpa [std, cmpStd] using h
theorem s_gge {A : Ar} {s : ByteArray} {i : Nat} (hA : A = std) (h : A.cmp .lss (Int.ofNat i) (A.slen s) = false) : s.size ≤ i := by subst hA; simpa [std, cmpStd] using h
theorem Hex_ok (s : ByteArray) (hs : s.size ≤ 1099511627776) : PFun cx 33 [st s] (st (hexT s)) := by
  obtain ⟨T, hT⟩ : ∃ T, T = hexT s := ⟨_, rfl⟩
  rw [← hT]
  refine PFun.walk cx_ok Tryd.func33 rfl rfl rfl fun A P R hA hP hR => ?_
  cbv
  refine ⟨⟨?_, True.intro⟩, ?_⟩
  · subst hA; simp only [std]; decide
  refine LoopK.mk (X := {p : Nat × List UInt8 × Nat // p.1 ≤ s.size ∧ p.2.2 = p.2.1.length ∧ p.2.1.length ≤ 2 * p.1 + 1 ∧ p.2.1 ++ hexB (s.data.toList.drop p.1) = 120 :: hexB s.data.toList}) (fun p gh => [(4, it .i64 p.1.1), (3, .os 900 gh .byte p.1.2.1)]) (fun p gh => [⟨900, gh, .tok 5 .byte p.1.2.2⟩]) (fun p => s.size - p.1.1) ⟨(0, [A.u8 120], A.nlen TyS.byte [A.u8 120]), by subst hA; simp [std]⟩ [(900, 7, 1)] ⟨?_, ?_, ?_⟩ ?_
  · (cbv <;> (try (and_intros <;> (first | exact True.intro | exact i_succ hA (by omega) | rfl | simp))))
  · (cbv <;> (try (and_intros <;> (first | exact True.intro | rfl | simp))))
  · cbv
  intro ⟨⟨i, bs, n⟩, hi, hn, hl, hinv⟩ gh g K hK
  simp only [] at hi hn hinv hl
  cbv
  split
  · rename_i h
    have hlt := s_gin hA h
    obtain ⟨c, hc, _, hcd, hgc⟩ := byteAt hlt
    have hgc := hgc hA
    have hin := s_in hA hlt
    rw [hcd] at hinv
    have hq : (A.ar .quo .u8 (A.sget s (Int.ofNat i)) 16) = ((c.toNat / 16 : Nat) : Int) := by
      rw [hgc]; subst hA
      have := c.toNat_lt
      rw [s_quo, tdiv0 (by omega), w8 (by omega)]; rfl
    have hr : (A.ar .rem .u8 (A.sget s (Int.ofNat i)) 16) = ((c.toNat % 16 : Nat) : Int) := by
      rw [hgc]; subst hA
      rw [s_rem, tmod0 (by omega)]; rfl
    have hc2 := c.toNat_lt
    obtain ⟨q1, q2⟩ := u8k hA hq (by omega)
    obtain ⟨r1, r2⟩ := u8k hA hr (by omega)
    have hnz : A.nz 16 := by subst hA; simp [std]
    have hL : [A.u8 (A.ar .quo .u8 (A.sget s (Int.ofNat i)) 16), A.u8 (A.ar .rem .u8 (A.sget s (Int.ofNat i)) 16)] = [UInt8.ofNat (c.toNat / 16), UInt8.ofNat (c.toNat % 16)] := by rw [q2, r2]
    cbv
    repeat (refine And.intro (by first | exact hin | exact hnz | exact ⟨q1, r1, True.intro⟩ | exact True.intro | exact i_in hA (by assumption) | (subst hA; simp [std]; done) | (split <;> first | exact True.intro | rfl | assumption) | (subst hA; simp [std]; omega)) ?_)
    refine LoopK.mk (X := {p : Nat × List UInt8 × Nat // p.1 ≤ 2 ∧ p.2.2 = p.2.1.length ∧ p.2.1.length ≤ bs.length + p.1 ∧ p.2.1 ++ ((([A.u8 (A.ar .quo .u8 (A.sget s (Int.ofNat i)) 16), A.u8 (A.ar .rem .u8 (A.sget s (Int.ofNat i)) 16)] : List UInt8).drop p.1).map fun d => hexd d.toNat) = bs ++ (([A.u8 (A.ar .quo .u8 (A.sget s (Int.ofNat i)) 16), A.u8 (A.ar .rem .u8 (A.sget s (Int.ofNat i)) 16)] : List UInt8).map fun d => hexd d.toNat)}) (fun p gh' => [(24, it .i64 p.1.1), (3, .os 901 gh' .byte p.1.2.1)]) (fun p gh' => [⟨901, gh', .tok 5 .byte p.1.2.2⟩]) (fun p => 2 - p.1.1) ⟨(0, bs, n), by simp [hn]⟩ [(901, 900, gh)] ⟨?_, ?_, ?_⟩ ?_
    · (cbv <;> (try (and_intros <;> (first | exact True.intro | exact i_succ hA (by omega) | rfl | simp))))
    · (cbv <;> (try (and_intros <;> (first | exact True.intro | rfl | simp))))
    · cbv
    intro ⟨⟨j, bs', n'⟩, hj, hn', hl', hinv2⟩ gh' g' K' hK'
    simp only [] at hj hn' hinv2 hl'
    cbv
    split
    · rename_i h'
      have hjlt : j < ([A.u8 (A.ar .quo .u8 (A.sget s (Int.ofNat i)) 16), A.u8 (A.ar .rem .u8 (A.sget s (Int.ofNat i)) 16)] : List UInt8).length := i_lt (t := TyS.byte) hA h'
      obtain ⟨y, hy, hym, hyd, _⟩ := i_at hjlt
      have hgy : (A.get TyS.byte [A.u8 (A.ar .quo .u8 (A.sget s (Int.ofNat i)) 16), A.u8 (A.ar .rem .u8 (A.sget s (Int.ofNat i)) 16)] (Int.ofNat j)) = y := i_get (t := TyS.byte) hA hy
      have hin2 := i_in (t := TyS.byte) hA hjlt
      have hy16 : y.toNat < 16 := by
        rw [hL] at hym
        rcases List.mem_cons.1 hym with rfl | hym
        · simp; omega
        · rw [List.mem_singleton] at hym; subst hym; simp; omega
      have hjlt2 : j < 2 := hjlt
      have hnlen : n' = A.nlen TyS.byte bs' := by subst hA; simp [std, hn']
      cbv
      refine ⟨hin2, ?_⟩
      split
      · rename_i h2
        have h3 : A.cmp .lss ((UInt8.toNat (A.get TyS.byte [A.u8 (A.ar .quo .u8 (A.sget s (Int.ofNat i)) 16), A.u8 (A.ar .rem .u8 (A.sget s (Int.ofNat i)) 16)] (Int.ofNat j)) : Nat) : Int) 10 = true := h2
        have hy10 : y.toNat < 10 := by
          have h4 : ((y.toNat : Nat) : Int) < 10 := by rw [hgy] at h3; subst hA; simpa [std, cmpStd] using h3
          omega
        have ha : A.ar .add .u8 48 ((UInt8.toNat (A.get TyS.byte [A.u8 (A.ar .quo .u8 (A.sget s (Int.ofNat i)) 16), A.u8 (A.ar .rem .u8 (A.sget s (Int.ofNat i)) 16)] (Int.ofNat j)) : Nat) : Int) = ((48 + y.toNat : Nat) : Int) := by
          rw [hgy]; subst hA; rw [s_add, w8 (by omega)]; omega
        obtain ⟨v1, v2⟩ := u8k hA ha (by omega)
        have hval : (A.u8 (A.ar .add .u8 48 ((UInt8.toNat (A.get TyS.byte [A.u8 (A.ar .quo .u8 (A.sget s (Int.ofNat i)) 16), A.u8 (A.ar .rem .u8 (A.sget s (Int.ofNat i)) 16)] (Int.ofNat j)) : Nat) : Int))) = hexd y.toNat := by rw [v2]; exact hx1 ⟨y.toNat, hy10⟩
        cbv
        repeat (refine And.intro (by first | exact ⟨v1, True.intro⟩ | exact hnlen | exact True.intro | exact i_in hA (by assumption) | (subst hA; simp [std]; done) | (split <;> first | exact True.intro | rfl | assumption) | (subst hA; simp [std]; omega)) ?_)
        refine hK' _ ⟨(j + 1, A.app TyS.byte bs' [(A.u8 (A.ar .add .u8 48 ((UInt8.toNat (A.get TyS.byte [A.u8 (A.ar .quo .u8 (A.sget s (Int.ofNat i)) 16), A.u8 (A.ar .rem .u8 (A.sget s (Int.ofNat i)) 16)] (Int.ofNat j)) : Nat) : Int)))], A.nlen TyS.byte (A.app TyS.byte bs' [(A.u8 (A.ar .add .u8 48 ((UInt8.toNat (A.get TyS.byte [A.u8 (A.ar .quo .u8 (A.sget s (Int.ofNat i)) 16), A.u8 (A.ar .rem .u8 (A.sget s (Int.ofNat i)) 16)] (Int.ofNat j)) : Nat) : Int)))])), by simp only []; omega, ?_, ?_, ?_⟩ [(901, 34, g' + 3)] ?_ ⟨?_, ?_, ?_⟩
        · subst hA; rfl
        · subst hA; simp [std]; omega
        · rw [hval, ← hinv2, hyd, List.map_cons]; subst hA; simp [std]
        · simp only []; omega
        · (cbv <;> (try (and_intros <;> (first | exact True.intro | exact i_succ hA (by omega) | rfl | simp))))
        · (cbv <;> (try (and_intros <;> (first | exact True.intro | rfl | simp))))
        · cbv
      · rename_i h2
        have h3 : A.cmp .lss ((UInt8.toNat (A.get TyS.byte [A.u8 (A.ar .quo .u8 (A.sget s (Int.ofNat i)) 16), A.u8 (A.ar .rem .u8 (A.sget s (Int.ofNat i)) 16)] (Int.ofNat j)) : Nat) : Int) 10 = false := h2
        have hy10 : 10 ≤ y.toNat := by
          have h4 : (10 : Int) ≤ ((y.toNat : Nat) : Int) := by rw [hgy] at h3; subst hA; simpa [std, cmpStd] using h3
          omega
        have ha : A.ar .sub .u8 (A.ar .add .u8 97 ((UInt8.toNat (A.get TyS.byte [A.u8 (A.ar .quo .u8 (A.sget s (Int.ofNat i)) 16), A.u8 (A.ar .rem .u8 (A.sget s (Int.ofNat i)) 16)] (Int.ofNat j)) : Nat) : Int)) 10 = ((97 + y.toNat - 10 : Nat) : Int) := by
          rw [hgy]; subst hA; rw [s_sub, s_add, w8 (n := 97 + _) (by omega), w8 (by omega)]; omega
        obtain ⟨v1, v2⟩ := u8k hA ha (by omega)
        have hval : (A.u8 (A.ar .sub .u8 (A.ar .add .u8 97 ((UInt8.toNat (A.get TyS.byte [A.u8 (A.ar .quo .u8 (A.sget s (Int.ofNat i)) 16), A.u8 (A.ar .rem .u8 (A.sget s (Int.ofNat i)) 16)] (Int.ofNat j)) : Nat) : Int)) 10)) = hexd y.toNat := by
          rw [v2]
          have := hx2 ⟨y.toNat - 10, by omega⟩
          simp only [show y.toNat - 10 + 10 = y.toNat by omega] at this
          exact this
        cbv
        repeat (refine And.intro (by first | exact ⟨v1, True.intro⟩ | exact hnlen | exact True.intro | exact i_in hA (by assumption) | (subst hA; simp [std]; done) | (split <;> first | exact True.intro | rfl | assumption) | (subst hA; simp [std]; omega)) ?_)
        refine hK' _ ⟨(j + 1, A.app TyS.byte bs' [(A.u8 (A.ar .sub .u8 (A.ar .add .u8 97 ((UInt8.toNat (A.get TyS.byte [A.u8 (A.ar .quo .u8 (A.sget s (Int.ofNat i)) 16), A.u8 (A.ar .rem .u8 (A.sget s (Int.ofNat i)) 16)] (Int.ofNat j)) : Nat) : Int)) 10))], A.nlen TyS.byte (A.app TyS.byte bs' [(A.u8 (A.ar .sub .u8 (A.ar .add .u8 97 ((UInt8.toNat (A.get TyS.byte [A.u8 (A.ar .quo .u8 (A.sget s (Int.ofNat i)) 16), A.u8 (A.ar .rem .u8 (A.sget s (Int.ofNat i)) 16)] (Int.ofNat j)) : Nat) : Int)) 10))])), by simp only []; omega, ?_, ?_, ?_⟩ [(901, 40, g' + 3)] ?_ ⟨?_, ?_, ?_⟩
        · subst hA; rfl
        · subst hA; simp [std]; omega
        · rw [hval, ← hinv2, hyd, List.map_cons]; subst hA; simp [std]
        · simp only []; omega
        · (cbv <;> (try (and_intros <;> (first | exact True.intro | exact i_succ hA (by omega) | rfl | simp))))
        · (cbv <;> (try (and_intros <;> (first | exact True.intro | rfl | simp))))
        · cbv
    · rename_i h'
      have hge : ([A.u8 (A.ar .quo .u8 (A.sget s (Int.ofNat i)) 16), A.u8 (A.ar .rem .u8 (A.sget s (Int.ofNat i)) 16)] : List UInt8).length ≤ j := i_ge (t := TyS.byte) hA h'
      rw [i_end hge, List.map_nil, List.append_nil, hL] at hinv2
      cbv
      refine hK _ ⟨(i + 1, bs', n'), by simp only []; omega, hn', ?_, ?_⟩ [(900, 901, gh')] ?_ ⟨?_, ?_, ?_⟩
      · rw [hinv2]; simp; omega
      · rw [hinv2, ← hinv]
        have e1 : (UInt8.ofNat (c.toNat / 16)).toNat = c.toNat / 16 := by simp; omega
        have e2 : (UInt8.ofNat (c.toNat % 16)).toNat = c.toNat % 16 := by simp; omega
        simp only [List.map_cons, List.map_nil, e1, e2]
        simp [hexB]
      · simp only []; omega
      · (cbv <;> (try (and_intros <;> (first | exact True.intro | exact i_succ hA (by omega) | rfl | simp))))
      · (cbv <;> (try (and_intros <;> (first | exact True.intro | rfl | simp))))
      · cbv
  · rename_i h
    have hge := s_gge hA h
    have e : s.data.toList.drop i = [] := i_end (by simp; exact hge)
    rw [e] at hinv
    cbv
    subst hR
    simp only [LeP, LeD, st]
    rw [hT, hexT, ← hinv]
    subst hA
    simp [std, toB_id, hexB, bOf]
end Go.PL
namespace Go.PL
set_option linter.unusedSimpArgs false
set_option linter.unusedVariables false
set_option linter.unusedSectionVars false
open Tys (Ty U)
open Enc (sz enc dflt tb ofB toB)
open Dec (dec dok)
set_option maxRecDepth 100000
open Go.Proofs
variable [GM]
theorem decDigits_B (n : Nat) : Lib.decDigits n = (decB n).data.toList := by
  induction n using Nat.strongRecOn with
  | _ n ih =>
    unfold Lib.decDigits decB
    split
    · rfl
    · rw [ih (n / 10) (by omega), ByteArray.data_append, Array.toList_append]
theorem itoa_dec (n : Int) (h : 0 ≤ n) : (⟨(Lib.itoa n).toArray⟩ : ByteArray) = decI n := by
  apply b_ext
  show (Lib.itoa n).toArray.toList = _
  unfold Lib.itoa
  rw [if_neg (by omega), decDigits_B]; rfl
def blankB : ByteArray := ⟨#[32]⟩
theorem body_short {w : ByteArray} {ns : List Int} {ts : List ByteArray} (hw : w.size ≤ 10) (hn : ns.length ≤ 4) (ht : ts.length ≤ 4) (h1 : ∀ n ∈ ns, 0 ≤ n ∧ n ≤ 1099511627776) (h2 : ∀ t ∈ ts, t.size ≤ 16384) : (bodyL w ns ts).length ≤ 200000 := by
  have := line_short hw hn ht h1 h2
  rw [lnB_body, ByteArray.size_append, bOf_size] at this
  omega
theorem body_eq (w : ByteArray) (ns : List Int) (ts : List ByteArray) : bodyL w ns ts = w.data.toList ++ (lnN ns ++ lnT ts) := by
  simp [bodyL, lnN, lnT, List.flatMap_append, List.flatMap_map]
theorem RLine_ok (ht : GM.tab = true) (d : Deed) (h : rightD d = true) : PFun cx 18 [deedPV d] (st (bOf (bodyL (kw d.Kind.toNat) d.Nums d.Texts))) := by
  obtain ⟨dk, dn, dt⟩ := d
  simp only []
  have hk : 0 ≤ dk ∧ dk ≤ 8 := by
    have h' := h
    rw [rightD, kinds_eq] at h'
    by_cases hk : isK dk = true
    · have : 1 ≤ dk ∧ dk ≤ 8 := by simpa [isK] using hk
      omega
    · simp only [hk] at h'; cases h'
  obtain ⟨l1, l2⟩ := rightD_lens h
  obtain ⟨m1, m2⟩ := rightD_nums h
  simp only [] at l1 l2 m1 m2
  obtain ⟨itF, hit, c32⟩ : ∃ f : Int → ByteArray, f = decI ∧ ∀ n : Int, 0 ≤ n → n ≤ 9223372036854775807 → PFun cx 32 [it .i64 n] (st (f n)) := ⟨_, rfl, fun n h0 h1 => by rw [← itoa_dec n h0]; exact Itoa_ok ht n (by omega) h1⟩
  obtain ⟨hxF, hhx, c33⟩ : ∃ f : ByteArray → ByteArray, f = hexT ∧ ∀ s : ByteArray, s.size ≤ 1099511627776 → PFun cx 33 [st s] (st (f s)) := ⟨_, rfl, Hex_ok⟩
  obtain ⟨w, hw⟩ : ∃ w, w = kw dk.toNat := ⟨_, rfl⟩
  obtain ⟨T, hT⟩ : ∃ T, T = bodyL (kw dk.toNat) dn dt := ⟨_, rfl⟩
  have hTl : T.length ≤ 200000 := by rw [hT]; exact body_short (kw_size _) (by omega) (by omega) m1 (fun t ht => by have := m2 t ht; omega)
  have hT2 : w.data.toList ++ (lnN dn ++ lnT dt) = T := by rw [hT, hw, body_eq]
  have hds : ∀ s : ByteArray, s.data.toList.length = s.size := fun s => by simp
  rw [← hT]
  refine PFun.walk cx_ok Tryd.func18 rfl rfl rfl fun A P R hA hP hR => ?_
  cbv
  refine CallK.mk (st w) rfl (fun _ => by rw [hP, hw]; exact word_ok dk hk.1 hk.2) ?_
  cbv
  refine LoopK.mk (X := {p : Nat × ByteArray // p.1 ≤ dn.length ∧ p.2.data.toList ++ (lnN (dn.drop p.1) ++ lnT dt) = T}) (fun p _ => [(14, it .i64 p.1.1), (3, st p.1.2)]) (fun _ _ => [⟨1, 0, .box 42 [it .i64 dk, .d (.sl .int dn), .d (.sl .str dt)]⟩]) (fun p => dn.length - p.1.1) ⟨(0, w), by simpa using hT2⟩ [] ⟨?_, ?_, ?_⟩ ?_
  · (cbv <;> (try (and_intros <;> (first | exact True.intro | exact i_succ hA (by omega) | rfl | simp))))
  · (cbv <;> (try (and_intros <;> (first | exact True.intro | rfl | simp))))
  · cbv
  intro ⟨⟨i, acc⟩, hi, hinv⟩ gh g K hK
  simp only [] at hi hinv
  have hil := congrArg List.length hinv
  simp only [List.length_append, hds] at hil
  cbv
  split
  · rename_i h3
    have hlt : i < dn.length := i_lt (t := TyS.int) hA h3
    obtain ⟨x, hx, hxm, hxd, _⟩ := i_at hlt
    have hgx : A.get TyS.int dn (Int.ofNat i) = x := i_get (t := TyS.int) hA hx
    have hin := i_in (t := TyS.int) hA hlt
    have hx0 := m1 x hxm
    have hxr := i_all (t := TyS.int) (p := fun n : Int => 0 ≤ n ∧ n ≤ 9223372036854775807) hA (fun x hx => ⟨(m1 x hx).1, by have := (m1 x hx).2; omega⟩) hlt
    rw [hxd] at hinv hil
    simp only [lnN, List.flatMap_cons, List.length_append, List.length_cons, hds] at hil
    have hc1 : A.catOk acc ⟨#[32]⟩ := by subst hA; rw [s_catOk, size1']; omega
    have hca : A.cat acc ⟨#[32]⟩ = acc ++ blankB := by subst hA; rfl
    have hc2 : A.catOk (A.cat acc ⟨#[32]⟩) (itF (A.get TyS.int dn (Int.ofNat i))) := by
      rw [hca, hgx, hit]; subst hA; rw [s_catOk, ByteArray.size_append, show blankB.size = 1 from rfl]; omega
    cbv
    repeat (refine And.intro (by first | exact hin | exact hc1 | exact True.intro | exact i_in hA (by assumption) | (subst hA; simp [std]; done) | (split <;> first | exact True.intro | rfl | assumption) | (subst hA; simp [std]; omega)) ?_)
    refine CallK.mk _ rfl (fun _ => by rw [hP]; exact c32 _ hxr.1 hxr.2) ?_
    cbv
    refine ⟨hc2, ?_⟩
    refine hK _ ⟨(i + 1, A.cat (A.cat acc ⟨#[32]⟩) (itF (A.get TyS.int dn (Int.ofNat i)))), by simp only []; omega, ?_⟩ [] ?_ ⟨?_, ?_, ?_⟩
    · rw [← hinv, hca, hgx, hit]; subst hA
      rw [s_cat]
      simp [lnN, ByteArray.data_append, blankB]
    · simp only []; omega
    · (cbv <;> (try (and_intros <;> (first | exact True.intro | exact i_succ hA (by omega) | rfl | simp))))
    · (cbv <;> (try (and_intros <;> (first | exact True.intro | rfl | simp))))
    · cbv
  · rename_i h3
    have hge : dn.length ≤ i := i_ge (t := TyS.int) hA h3
    rw [i_end hge] at hinv
    cbv
    refine LoopK.mk (X := {p : Nat × ByteArray // p.1 ≤ dt.length ∧ p.2.data.toList ++ lnT (dt.drop p.1) = T}) (fun p _ => [(27, it .i64 p.1.1), (3, st p.1.2)]) (fun _ _ => []) (fun p => dt.length - p.1.1) ⟨(0, acc), by simpa [lnN] using hinv⟩ [] ⟨?_, ?_, ?_⟩ ?_
    · (cbv <;> (try (and_intros <;> (first | exact True.intro | exact i_succ hA (by omega) | rfl | simp))))
    · (cbv <;> (try (and_intros <;> (first | exact True.intro | rfl | simp))))
    · cbv
    clear hK hinv hil hi hge h3
    intro ⟨⟨i, acc⟩, hi, hinv⟩ gh g K hK
    simp only [] at hi hinv
    have hil := congrArg List.length hinv
    simp only [List.length_append, hds] at hil
    cbv
    split
    · rename_i h3
      have hlt : i < dt.length := i_lt (t := TyS.str) hA h3
      obtain ⟨x, hx, hxm, hxd, _⟩ := i_at hlt
      have hgx : A.get TyS.str dt (Int.ofNat i) = x := i_get (t := TyS.str) hA hx
      have hin := i_in (t := TyS.str) hA hlt
      have hx0 := m2 x hxm
      have hxr : (A.get TyS.str dt (Int.ofNat i)).size ≤ 1099511627776 := by rw [hgx]; omega
      rw [hxd] at hinv hil
      simp only [lnT, List.flatMap_cons, List.length_append, List.length_cons, hds] at hil
      have hc1 : A.catOk acc ⟨#[32]⟩ := by subst hA; rw [s_catOk, size1']; omega
      have hca : A.cat acc ⟨#[32]⟩ = acc ++ blankB := by subst hA; rfl
      have hc2 : A.catOk (A.cat acc ⟨#[32]⟩) (hxF (A.get TyS.str dt (Int.ofNat i))) := by
        rw [hca, hgx, hhx, hexT]; subst hA; rw [s_catOk, ByteArray.size_append, show blankB.size = 1 from rfl, bOf_size, List.length_cons]; omega
      cbv
      repeat (refine And.intro (by first | exact hin | exact hc1 | exact True.intro | exact i_in hA (by assumption) | (subst hA; simp [std]; done) | (split <;> first | exact True.intro | rfl | assumption) | (subst hA; simp [std]; omega)) ?_)
      refine CallK.mk _ rfl (fun _ => by rw [hP]; exact c33 _ hxr) ?_
      cbv
      refine ⟨hc2, ?_⟩
      refine hK _ ⟨(i + 1, A.cat (A.cat acc ⟨#[32]⟩) (hxF (A.get TyS.str dt (Int.ofNat i)))), by simp only []; omega, ?_⟩ [] ?_ ⟨?_, ?_, ?_⟩
      · rw [← hinv, hca, hgx, hhx, hexT]; subst hA
        rw [s_cat]
        simp [lnT, ByteArray.data_append, blankB, bOf]
      · simp only []; omega
      · (cbv <;> (try (and_intros <;> (first | exact True.intro | exact i_succ hA (by omega) | rfl | simp))))
      · (cbv <;> (try (and_intros <;> (first | exact True.intro | rfl | simp))))
      · cbv
    · rename_i h3
      have hge : dt.length ≤ i := i_ge (t := TyS.str) hA h3
      rw [i_end hge] at hinv
      cbv
      subst hR
      simp only [LeP, LeD, st]
      apply b_ext
      rw [bOf_data, ← hinv]; simp [lnT]
theorem RText_ok (ht : GM.tab = true) (p : Plan) (h : rightP p = true) : PFun cx 14 [planPV p] (st ⟨(textL p).toArray⟩) := by
  obtain ⟨f1, f2, f3⟩ := rightP_fit h
  obtain ⟨f4, f5, f6⟩ := begins_fit f1
  have hts := text_size p h
  obtain ⟨T, hT⟩ : ∃ T, T = textL p := ⟨_, rfl⟩
  rw [← hT] at hts ⊢
  obtain ⟨pF, pU, pO, pD⟩ := p
  simp only [] at f2 f3 f4 f5 f6
  have hds : ∀ s : ByteArray, s.data.toList.length = s.size := fun s => by simp
  obtain ⟨itF, hit, c32⟩ : ∃ f : Int → ByteArray, f = decI ∧ ∀ n : Int, 0 ≤ n → n ≤ 9223372036854775807 → PFun cx 32 [it .i64 n] (st (f n)) := ⟨_, rfl, fun n h0 h1 => by rw [← itoa_dec n h0]; exact Itoa_ok ht n (by omega) h1⟩
  obtain ⟨hxF, hhx, c33⟩ : ∃ f : ByteArray → ByteArray, f = hexT ∧ ∀ s : ByteArray, s.size ≤ 1099511627776 → PFun cx 33 [st s] (st (f s)) := ⟨_, rfl, Hex_ok⟩
  obtain ⟨lnF, hln, c18⟩ : ∃ f : Deed → ByteArray, f = (fun d => bOf (bodyL (kw d.Kind.toNat) d.Nums d.Texts)) ∧ ∀ d, rightD d = true → PFun cx 18 [deedPV d] (st (f d)) := ⟨_, rfl, RLine_ok ht⟩
  have hU : (hxF pU).size ≤ 16385 := by
    rw [hhx, hexT, bOf_size, List.length_cons, hexB_len, hds]; omega
  have hO : (hxF pO).size ≤ 16385 := by
    rw [hhx, hexT, bOf_size, List.length_cons, hexB_len, hds]; omega
  have hF : (itF pF).size ≤ 13 := by
    rw [hit]; exact decB_short 12 _ (by have : (10 : Nat) ^ 13 = 10000000000000 := rfl; omega)
  have hT0 : ([109, 111, 118, 101, 32] ++ ((itF pF).data.toList ++ (32 :: ((hxF pU).data.toList ++ (32 :: ((hxF pO).data.toList ++ [10])))))) ++ pD.flatMap (fun d => (lineD d).data.toList) = T := by
    rw [hT, textL, headP, lnB_body, ByteArray.data_append, Array.toList_append, bOf_data, body_eq, hit, hhx]
    simp [lnN, lnT, hexT, bOf, moveB]
  refine PFun.walk cx_ok Tryd.func14 rfl rfl rfl fun A P R hA hP hR => ?_
  cbv
  have hcz : ∀ x y : ByteArray, (A.cat x y).size = x.size + y.size := fun x y => by subst hA; rw [s_cat, ByteArray.size_append]
  have hcd : ∀ x y : ByteArray, (A.cat x y).data.toList = x.data.toList ++ y.data.toList := fun x y => by subst hA; rw [s_cat, ByteArray.data_append, Array.toList_append]
  have hck : ∀ x y : ByteArray, x.size + y.size ≤ 9223372036854775807 → A.catOk x y := fun x y h => by subst hA; rw [s_catOk]; exact h
  obtain ⟨mv, hmv⟩ : ∃ mv : ByteArray, mv = ⟨#[109, 111, 118, 101, 32]⟩ := ⟨_, rfl⟩
  have k1 : A.catOk ⟨#[109, 111, 118, 101, 32]⟩ (itF pF) := hck _ _ (by show 5 + _ ≤ _; omega)
  have z1 : (A.cat ⟨#[109, 111, 118, 101, 32]⟩ (itF pF)).size ≤ 18 := by rw [hcz]; show 5 + _ ≤ _; omega
  have k2 : A.catOk (A.cat ⟨#[109, 111, 118, 101, 32]⟩ (itF pF)) ⟨#[32]⟩ := hck _ _ (by rw [size1']; omega)
  have z2 : (A.cat (A.cat ⟨#[109, 111, 118, 101, 32]⟩ (itF pF)) ⟨#[32]⟩).size ≤ 19 := by rw [hcz, size1']; omega
  have k3 : A.catOk (A.cat (A.cat ⟨#[109, 111, 118, 101, 32]⟩ (itF pF)) ⟨#[32]⟩) (hxF pU) := hck _ _ (by omega)
  have z3 : (A.cat (A.cat (A.cat ⟨#[109, 111, 118, 101, 32]⟩ (itF pF)) ⟨#[32]⟩) (hxF pU)).size ≤ 16500 := by rw [hcz]; omega
  have k4 : A.catOk (A.cat (A.cat (A.cat ⟨#[109, 111, 118, 101, 32]⟩ (itF pF)) ⟨#[32]⟩) (hxF pU)) ⟨#[32]⟩ := hck _ _ (by rw [size1']; omega)
  have z4 : (A.cat (A.cat (A.cat (A.cat ⟨#[109, 111, 118, 101, 32]⟩ (itF pF)) ⟨#[32]⟩) (hxF pU)) ⟨#[32]⟩).size ≤ 16501 := by rw [hcz, size1']; omega
  have k5 : A.catOk (A.cat (A.cat (A.cat (A.cat ⟨#[109, 111, 118, 101, 32]⟩ (itF pF)) ⟨#[32]⟩) (hxF pU)) ⟨#[32]⟩) (hxF pO) := hck _ _ (by omega)
  have z5 : (A.cat (A.cat (A.cat (A.cat (A.cat ⟨#[109, 111, 118, 101, 32]⟩ (itF pF)) ⟨#[32]⟩) (hxF pU)) ⟨#[32]⟩) (hxF pO)).size ≤ 33000 := by rw [hcz]; omega
  have k6 : A.catOk (A.cat (A.cat (A.cat (A.cat (A.cat ⟨#[109, 111, 118, 101, 32]⟩ (itF pF)) ⟨#[32]⟩) (hxF pU)) ⟨#[32]⟩) (hxF pO)) ⟨#[10]⟩ := hck _ _ (by rw [size1']; omega)
  refine CallK.mk _ rfl (fun _ => by rw [hP]; exact c32 pF (by omega) (by omega)) ?_
  cbv
  refine ⟨k1, k2, ?_⟩
  refine CallK.mk _ rfl (fun _ => by rw [hP]; exact c33 pU (by omega)) ?_
  cbv
  refine ⟨k3, k4, ?_⟩
  refine CallK.mk _ rfl (fun _ => by rw [hP]; exact c33 pO (by omega)) ?_
  cbv
  refine ⟨k5, k6, ?_⟩
  refine LoopK.mk (X := {p : Nat × ByteArray // p.1 ≤ pD.length ∧ p.2.data.toList ++ (pD.drop p.1).flatMap (fun d => (lineD d).data.toList) = T}) (fun p _ => [(24, it .i64 p.1.1), (3, st p.1.2)]) (fun _ _ => []) (fun p => pD.length - p.1.1) ⟨(0, A.cat (A.cat (A.cat (A.cat (A.cat (A.cat ⟨#[109, 111, 118, 101, 32]⟩ (itF pF)) ⟨#[32]⟩) (hxF pU)) ⟨#[32]⟩) (hxF pO)) ⟨#[10]⟩), by omega, by simp only [hcd]; rw [← hT0]; simp⟩ [] ⟨?_, ?_, ?_⟩ ?_
  · (cbv <;> (try (and_intros <;> (first | exact True.intro | exact i_succ hA (by omega) | rfl | simp))))
  · (cbv <;> (try (and_intros <;> (first | exact True.intro | rfl | simp))))
  · cbv
  intro ⟨⟨i, acc⟩, hi, hinv⟩ gh g K hK
  simp only [] at hi hinv
  have hil := congrArg List.length hinv
  simp only [List.length_append, hds] at hil
  cbv
  split
  · rename_i h3
    have hlt : i < pD.length := i_lt (t := TyS.deed) hA h3
    obtain ⟨x, hx, hxm, hxd, _⟩ := i_at hlt
    have hgx : A.get TyS.deed pD (Int.ofNat i) = x := i_get (t := TyS.deed) hA hx
    have hin := i_in (t := TyS.deed) hA hlt
    have hxr : rightD (A.get TyS.deed pD (Int.ofNat i)) = true := by rw [hgx]; exact f3 x hxm
    rw [hxd] at hinv hil
    have hlx : (lineD x).data.toList = (lnF x).data.toList ++ [10] := by
      show (lnB _ _ _).data.toList = _
      rw [lnB_body, ByteArray.data_append, Array.toList_append, hln]
    simp only [List.flatMap_cons, List.length_append, hlx, hds, List.length_singleton] at hil
    have kk1 : A.catOk acc (lnF (A.get TyS.deed pD (Int.ofNat i))) := hck _ _ (by rw [hgx]; omega)
    have kk2 : A.catOk (A.cat acc (lnF (A.get TyS.deed pD (Int.ofNat i)))) ⟨#[10]⟩ := hck _ _ (by rw [hcz, hgx, size1']; omega)
    cbv
    refine ⟨hin, ?_⟩
    refine CallK.mk _ rfl (fun _ => by rw [hP]; exact c18 (A.get TyS.deed pD (Int.ofNat i)) hxr) ?_
    cbv
    refine ⟨kk1, kk2, ?_⟩
    refine hK _ ⟨(i + 1, A.cat (A.cat acc (lnF (A.get TyS.deed pD (Int.ofNat i)))) ⟨#[10]⟩), by simp only []; omega, ?_⟩ [] ?_ ⟨?_, ?_, ?_⟩
    · rw [← hinv, hgx, List.flatMap_cons, hlx]
      simp [hcd]
    · simp only []; omega
    · (cbv <;> (try (and_intros <;> (first | exact True.intro | exact i_succ hA (by omega) | rfl | simp))))
    · (cbv <;> (try (and_intros <;> (first | exact True.intro | rfl | simp))))
    · cbv
  · rename_i h3
    have hge : pD.length ≤ i := i_ge (t := TyS.deed) hA h3
    rw [i_end hge] at hinv
    cbv
    subst hR
    simp only [LeP, LeD, st]
    apply b_ext
    show _ = T.toArray.toList
    rw [← hinv]; simp
end Go.PL
namespace Go.PL
set_option linter.unusedSimpArgs false
set_option linter.unusedVariables false
set_option linter.unusedSectionVars false
open Tys (Ty U)
open Enc (sz enc dflt tb ofB toB)
open Dec (dec dok)
set_option maxRecDepth 100000
open Go.Proofs
variable [GM]
theorem prints_ok (ht : GM.tab = true) (p : Plan) : PFun cx 4 [planPV p] (bl true) := by
  obtain ⟨F, hF⟩ : ∃ F, F = fewP p 203 := ⟨_, rfl⟩
  have hFs : ∀ d ∈ F.Deeds, smallD d := by rw [hF]; exact few_small p 203
  have hFl : F.Deeds.length ≤ 203 := by rw [hF]; simp [fewP]; omega
  have c7 : PFun cx 7 [planPV p, it .i64 203] (planPV F) := by rw [hF]; exact few_ok p 203 (by decide)
  obtain ⟨pF, pU, pO, pD⟩ := p
  obtain ⟨fF, fU, fO, fD⟩ := F
  simp only [] at hFs hFl
  by_cases hr : rightP ⟨fF, fU, fO, fD⟩ = true
  · obtain ⟨T, hT⟩ : ∃ T : ByteArray, T = ⟨(textL ⟨fF, fU, fO, fD⟩).toArray⟩ := ⟨_, rfl⟩
    have c8 := print_ok ⟨fF, fU, fO, fD⟩ (T, 0) (by rw [printS, if_pos hr, hT]) hFs (by simp only []; omega)
    have c12 := Right_ok ⟨fF, fU, fO, fD⟩ true hr.symm hFs (by simp only []; omega)
    have c13 := RRight_ok ⟨fF, fU, fO, fD⟩ true hr.symm hFs (by simp only []; omega)
    have c14 := RText_ok ht ⟨fF, fU, fO, fD⟩ hr
    rw [← hT] at c14
    refine PFun.walk cx_ok Tryd.func4 rfl rfl rfl fun A P R hA hP hR => ?_
    cbv
    refine CallK.mk _ rfl (fun _ => by rw [hP]; exact c7) ?_
    cbv
    refine CallK.mk _ rfl (fun _ => by rw [hP]; exact c8) ?_
    cbv
    refine CallK.mk _ rfl (fun _ => by rw [hP]; exact c12) ?_
    cbv
    refine CallK.mk _ rfl (fun _ => by rw [hP]; exact c13) ?_
    cbv
    repeat (refine And.intro (by first | exact True.intro | exact i_in hA (by assumption) | (subst hA; simp [std]; done) | (split <;> first | exact True.intro | rfl | assumption) | (subst hA; simp [std]; omega)) ?_)
    refine CallK.mk (bl true) rfl (fun _ => by rw [hP]; exact alive_ok) ?_
    cbv
    repeat (refine And.intro (by first | exact True.intro | exact i_in hA (by assumption) | (subst hA; simp [std]; done) | (split <;> first | exact True.intro | rfl | assumption) | (subst hA; simp [std]; omega)) ?_)
    split
    · rename_i h
      exfalso; subst hA; revert h; decide
    · cbv
      refine CallK.mk _ rfl (fun _ => by rw [hP]; exact c13) ?_
      cbv
      split
      · rename_i h
        exfalso; subst hA; revert h; decide
      · cbv
        repeat (refine And.intro (by first | exact True.intro | exact i_in hA (by assumption) | (subst hA; simp [std]; done) | (split <;> first | exact True.intro | rfl | assumption) | (subst hA; simp [std]; omega)) ?_)
        refine CallK.mk _ rfl (fun _ => by rw [hP]; exact c14) ?_
        cbv
        repeat (refine And.intro (by first | exact True.intro | exact i_in hA (by assumption) | (subst hA; simp [std]; done) | (split <;> first | exact True.intro | rfl | assumption) | (subst hA; simp [std]; omega)) ?_)
        subst hR
        simp only [LeP, LeD, bl]
        subst hA
        simp
  · have c8 := print_ok ⟨fF, fU, fO, fD⟩ (.empty, 1) (by rw [printS, if_neg hr]) hFs (by simp only []; omega)
    have hr' : rightP ⟨fF, fU, fO, fD⟩ = false := by simpa using hr
    have c12 := Right_ok ⟨fF, fU, fO, fD⟩ false hr'.symm hFs (by simp only []; omega)
    have c13 := RRight_ok ⟨fF, fU, fO, fD⟩ false hr'.symm hFs (by simp only []; omega)
    refine PFun.walk cx_ok Tryd.func4 rfl rfl rfl fun A P R hA hP hR => ?_
    cbv
    refine CallK.mk _ rfl (fun _ => by rw [hP]; exact c7) ?_
    cbv
    refine CallK.mk _ rfl (fun _ => by rw [hP]; exact c8) ?_
    cbv
    refine CallK.mk _ rfl (fun _ => by rw [hP]; exact c12) ?_
    cbv
    refine CallK.mk _ rfl (fun _ => by rw [hP]; exact c13) ?_
    cbv
    repeat (refine And.intro (by first | exact True.intro | exact i_in hA (by assumption) | (subst hA; simp [std]; done) | (split <;> first | exact True.intro | rfl | assumption) | (subst hA; simp [std]; omega)) ?_)
    refine CallK.mk (bl true) rfl (fun _ => by rw [hP]; exact alive_ok) ?_
    cbv
    repeat (refine And.intro (by first | exact True.intro | exact i_in hA (by assumption) | (subst hA; simp [std]; done) | (split <;> first | exact True.intro | rfl | assumption) | (subst hA; simp [std]; omega)) ?_)
    split
    · rename_i h
      exfalso; subst hA; revert h; decide
    · cbv
      refine CallK.mk _ rfl (fun _ => by rw [hP]; exact c13) ?_
      cbv
      split
      · cbv
        repeat (refine And.intro (by first | exact True.intro | exact i_in hA (by assumption) | (subst hA; simp [std]; done) | (split <;> first | exact True.intro | rfl | assumption) | (subst hA; simp [std]; omega)) ?_)
        subst hR
        simp only [LeP, LeD, bl]
        subst hA
        simp
      · rename_i h
        exfalso; subst hA; revert h; decide
end Go.PL
namespace Go.PL
set_option linter.unusedSimpArgs false
set_option linter.unusedVariables false
set_option linter.unusedSectionVars false
open Tys (Ty U)
open Enc (sz enc dflt tb ofB toB)
open Dec (dec dok)
set_option maxRecDepth 100000
open Go.Proofs
variable [GM]
theorem count_line (w : ByteArray) (ns : List Int) (ts : List ByteArray) (hw : wordy w) : (lnB w ns ts).data.toList.count 10 = 1 := by
  rw [lnB_body, ByteArray.data_append, Array.toList_append, bOf_data, List.count_append, List.count_eq_zero.2 (body_nl w ns ts hw)]; rfl
theorem count_text (p : Plan) : (textL p).count 10 = p.Deeds.length + 1 := by
  rw [textL, List.count_append, headP, count_line _ _ _ move_wordy]
  have : ∀ ds : List Deed, (ds.flatMap fun d => (lineD d).data.toList).count 10 = ds.length := by
    intro ds
    induction ds with
    | nil => rfl
    | cons d ds ih => rw [List.flatMap_cons, List.count_append, ih, lineD, count_line _ _ _ (kw_wordy _)]; simp; omega
  rw [this]; omega
theorem text_more (p : Plan) (d : Deed) : textL ⟨p.Format, p.Rules, p.Routes, p.Deeds ++ [d]⟩ = textL p ++ (lineD d).data.toList := by
  simp [textL, headP]
theorem lines_ok (ht : GM.tab = true) (p : Plan) (d : Deed) : PFun cx 6 [planPV p, deedPV d] (bl true) := by
  obtain ⟨F, hF⟩ : ∃ F, F = fewP p 203 := ⟨_, rfl⟩
  have hFs : ∀ d ∈ F.Deeds, smallD d := by rw [hF]; exact few_small p 203
  have hFl : F.Deeds.length ≤ 203 := by rw [hF]; simp [fewP]; omega
  have c7 : PFun cx 7 [planPV p, it .i64 203] (planPV F) := by rw [hF]; exact few_ok p 203 (by decide)
  obtain ⟨pF, pU, pO, pD⟩ := p
  obtain ⟨fF, fU, fO, fD⟩ := F
  simp only [] at hFs hFl
  obtain ⟨x, hx⟩ : ∃ x, x = fewD d := ⟨_, rfl⟩
  obtain ⟨D1, hD1⟩ : ∃ D1, D1 = [x] := ⟨_, rfl⟩
  have c7' : PFun cx 7 [planPV ⟨0, .empty, .empty, [d]⟩, it .i64 1] (planPV ⟨0, cutS .empty 8200, cutS .empty 8200, D1⟩) := by
    have := few_ok ⟨0, .empty, .empty, [d]⟩ 1 (by decide)
    rw [fewP] at this
    rw [hD1, hx]; exact this
  have hxs : smallD x := by
    rw [hx]; simp only [smallD, fewD, List.length_map, List.length_take]; omega
  obtain ⟨s0, hs0⟩ : ∃ s0, s0 = cutS .empty 8200 := ⟨_, rfl⟩
  rw [← hs0] at c7'
  obtain ⟨dk, dn, dt⟩ := d
  refine PFun.walk cx_ok Tryd.func6 rfl rfl rfl fun A P R hA hP hR => ?_
  have hg0 : A.get TyS.deed D1 0 = x := by rw [hD1]; subst hA; rfl
  have hi0 : A.inb 0 (A.len TyS.deed D1) := by rw [hD1]; subst hA; simp [std]
  have hq0 : A.nlen TyS.deed [] = 0 := by subst hA; rfl
  cbv
  refine CallK.mk _ rfl (fun _ => by rw [hP]; exact c7) ?_
  cbv
  repeat (refine And.intro (by first | exact ⟨True.intro, True.intro⟩ | exact True.intro | exact i_in hA (by assumption) | (subst hA; simp [std]; done) | (split <;> first | exact True.intro | rfl | assumption) | (subst hA; simp [std]; omega)) ?_)
  refine CallK.le [planPV ⟨0, .empty, .empty, [⟨dk, dn, dt⟩]⟩, it .i64 1] _ rfl (fun _ => by cbv; and_intros <;> first | trivial | rfl) (fun _ => by rw [hP]; exact c7') ?_
  cbv
  refine ⟨hi0, ?_⟩
  by_cases hr : rightP ⟨fF, fU, fO, fD⟩ = true
  · obtain ⟨f1, f2, f3⟩ := rightP_fit hr
    simp only [] at f2 f3
    obtain ⟨T, hT⟩ : ∃ T : ByteArray, T = ⟨(textL ⟨fF, fU, fO, fD⟩).toArray⟩ := ⟨_, rfl⟩
    have c8 := print_ok ⟨fF, fU, fO, fD⟩ (T, 0) (by rw [printS, if_pos hr, hT]) hFs (by simp only []; omega)
    refine CallK.mk _ rfl (fun _ => by rw [hP]; exact c8) ?_
    cbv
    split
    · rename_i h
      exfalso; subst hA; revert h; decide
    · cbv
      have hY : (A.app TyS.deed (A.app TyS.deed [] fD) [⟨(A.get TyS.deed D1 0).Kind, (A.get TyS.deed D1 0).Nums, (A.get TyS.deed D1 0).Texts⟩]) = fD ++ [x] := by rw [hg0]; subst hA; simp [std]
      have ho1 : A.appOk TyS.deed 56 [] fD := by subst hA; simp [std]; omega
      have ho2 : A.appOk TyS.deed 56 (A.app TyS.deed [] fD) [⟨(A.get TyS.deed D1 0).Kind, (A.get TyS.deed D1 0).Nums, (A.get TyS.deed D1 0).Texts⟩] := by subst hA; simp [std]; omega
      obtain ⟨⟨t2, e2⟩, hp2⟩ : ∃ r, r = printS ⟨fF, fU, fO, fD ++ [x]⟩ := ⟨_, rfl⟩
      have c8' := print_ok ⟨fF, fU, fO, fD ++ [x]⟩ (t2, e2) hp2 (by intro d hd; simp at hd; rcases hd with hd | rfl; exact hFs d hd; exact hxs) (by simp; omega)
      obtain ⟨cN, hcN⟩ : ∃ cN : Int, cN = (fD.length : Int) + 1 := ⟨_, rfl⟩
      have c16 : PFun cx 16 [st T, st ⟨#[10]⟩] (it .i64 cN) := by
        have := CountOne_ok T 10
        have e : ((Lib.countByte T.data.toList 10 : Nat) : Int) = cN := by
          rw [hT]
          show (((textL ⟨fF, fU, fO, fD⟩).toArray.toList.count 10 : Nat) : Int) = cN
          rw [show (textL ⟨fF, fU, fO, fD⟩).toArray.toList = textL ⟨fF, fU, fO, fD⟩ by simp, count_text, hcN]; simp
        rw [e] at this; exact this
      obtain ⟨bx, hbx⟩ : ∃ bx, bx = rightD x := ⟨_, rfl⟩
      have c17 : PFun cx 17 [deedPV (A.get TyS.deed D1 0)] (bl bx) := by rw [hg0]; exact IsDeed_ok x bx hbx hxs
      have hpr : printS ⟨fF, fU, fO, fD ++ [x]⟩ = if bx = true ∧ fD.length ≠ 200 then (T ++ lineD x, 0) else (.empty, 1) := by
        rw [printS]
        have e1 : rightP ⟨fF, fU, fO, fD ++ [x]⟩ = true ↔ bx = true ∧ fD.length ≠ 200 := by
          rw [rightP]
          have hb : beginsP ⟨fF, fU, fO, fD ++ [x]⟩ = beginsP ⟨fF, fU, fO, fD⟩ := rfl
          rw [hb, f1, hbx]
          simp only [Bool.true_and, Bool.and_eq_true, decide_eq_true_eq, Bool.not_eq_true', List.any_eq_false, List.length_append, List.length_singleton, List.mem_append, List.mem_singleton]
          constructor
          · rintro ⟨h1, h2⟩
            have := h2 x (.inr rfl)
            exact ⟨by simpa using this, by omega⟩
          · rintro ⟨h1, h2⟩
            refine ⟨by omega, fun d hd => ?_⟩
            rcases hd with hd | rfl
            · simp [f3 d hd]
            · simp [h1]
        by_cases hc : bx = true ∧ fD.length ≠ 200
        · rw [if_pos hc, if_pos (e1.2 hc)]
          congr 1
          apply b_ext
          rw [ByteArray.data_append, Array.toList_append, hT]
          show (textL _).toArray.toList = (textL _).toArray.toList ++ _
          simpa using text_more ⟨fF, fU, fO, fD⟩ x
        · rw [if_neg hc, if_neg (fun h => hc (e1.1 h))]
      rw [hpr] at hp2
      refine ⟨ho1, ⟨True.intro, True.intro⟩, ho2, ?_⟩
      refine CallK.le [planPV ⟨fF, fU, fO, (A.app TyS.deed (A.app TyS.deed [] fD) [⟨(A.get TyS.deed D1 0).Kind, (A.get TyS.deed D1 0).Nums, (A.get TyS.deed D1 0).Texts⟩])⟩] _ rfl (fun _ => by cbv <;> (and_intros <;> first | trivial | rfl)) (fun _ => by rw [hP, hY]; exact c8') ?_
      cbv
      refine CallK.mk _ rfl (fun _ => by rw [hP]; exact c16) ?_
      cbv
      have hcc : A.cmp .neq cN (A.ar .add .i64 (A.len TyS.deed fD) 1) = false := by
        subst hA; rw [s_neq, s_len, s_add, w64 (by omega), hcN]; simp
      repeat (refine And.intro (by first | exact True.intro | exact i_in hA (by assumption) | (subst hA; simp [std]; done) | (split <;> first | exact True.intro | rfl | assumption) | (subst hA; simp [std]; omega)) ?_)
      refine CallK.mk (bl true) rfl (fun _ => by rw [hP]; exact alive_ok) ?_
      cbv
      repeat (refine And.intro (by first | exact True.intro | exact i_in hA (by assumption) | (subst hA; simp [std]; done) | (split <;> first | exact True.intro | rfl | assumption) | (subst hA; simp [std]; omega)) ?_)
      split
      · rename_i h
        have h2 : A.or (A.cmp .neq cN (A.ar .add .i64 (A.len TyS.deed fD) 1)) (A.not true) = true := h
        rw [hcc] at h2; exfalso; subst hA; revert h2; decide
      · cbv
        refine CallK.mk _ rfl (fun _ => by rw [hP]; exact c17) ?_
        cbv
        repeat (refine And.intro (by first | exact True.intro | exact i_in hA (by assumption) | (subst hA; simp [std]; done) | (split <;> first | exact True.intro | rfl | assumption) | (subst hA; simp [std]; omega)) ?_)
        have hcd : A.or (A.not bx) (A.cmp .eql (A.len TyS.deed fD) 200) = !(bx && decide (fD.length ≠ 200)) := by
          subst hA; rw [s_lor, s_not, s_eql, s_len, Bool.eq_iff_iff]
          cases bx <;> simp <;> omega
        split
        · rename_i h
          have h2 : A.or (A.not bx) (A.cmp .eql (A.len TyS.deed fD) 200) = true := h
          rw [hcd] at h2
          have h3 : ¬ (bx = true ∧ fD.length ≠ 200) := by
            rintro ⟨h4, h5⟩; rw [h4] at h2; simp [h5] at h2
          rw [if_neg h3] at hp2
          cases hp2
          cbv
          subst hR
          simp only [LeP, LeD, bl]
          subst hA
          simp
        · rename_i h
          have h2 : A.or (A.not bx) (A.cmp .eql (A.len TyS.deed fD) 200) = false := h
          rw [hcd] at h2
          have h3 : bx = true ∧ fD.length ≠ 200 := by
            simp only [Bool.not_eq_false', Bool.and_eq_true, decide_eq_true_eq] at h2; exact h2
          rw [if_pos h3] at hp2
          obtain ⟨hp3, hp4⟩ := Prod.mk.inj hp2
          obtain ⟨lx, hlx⟩ : ∃ lx, lx = bOf (bodyL (kw x.Kind.toNat) x.Nums x.Texts) := ⟨_, rfl⟩
          have hxr : rightD x = true := hbx.symm.trans h3.1
          have c18 : PFun cx 18 [deedPV (A.get TyS.deed D1 0)] (st lx) := by rw [hg0, hlx]; exact RLine_ok ht x hxr
          have hTs : T.size ≤ 200000 * 201 := by rw [hT]; show (textL _).toArray.size ≤ _; simp only [List.size_toArray]; exact text_size _ hr
          have hls : lx.size ≤ 200000 := by
            rw [hlx, bOf_size]
            have a1 := rightD_lens hxr
            obtain ⟨a2, a3⟩ := rightD_nums hxr
            exact body_short (kw_size _) (by omega) (by omega) a2 (fun t ht => by have := a3 t ht; omega)
          have hk1 : A.catOk T lx := by subst hA; rw [s_catOk]; omega
          have hk2 : A.catOk (A.cat T lx) ⟨#[10]⟩ := by subst hA; rw [s_catOk, s_cat, ByteArray.size_append, size1']; omega
          have hfin : A.scmp .eql t2 (A.cat (A.cat T lx) ⟨#[10]⟩) = true := by
            subst hA; rw [s_seql, s_cat, s_cat, decide_eq_true_eq, hp3, lineD, lnB_body, ← hlx, ByteArray.append_assoc]
          cbv
          repeat (refine And.intro (by first | exact True.intro | exact i_in hA (by assumption) | (subst hA; simp [std]; done) | (split <;> first | exact True.intro | rfl | assumption) | (subst hA; simp [std]; omega)) ?_)
          refine CallK.mk _ rfl (fun _ => by rw [hP]; exact c18) ?_
          cbv
          repeat (refine And.intro (by first | (split <;> first | exact True.intro | exact hk1) | (split <;> first | exact True.intro | exact hk2) | exact True.intro | exact i_in hA (by assumption) | (subst hA; simp [std]; done) | (split <;> first | exact True.intro | rfl | assumption) | (subst hA; simp [std]; omega)) ?_)
          subst hR
          simp only [LeP, LeD, bl]
          show A.and (A.cmp .eql e2 0) (A.scmp .eql t2 (A.cat (A.cat T lx) ⟨#[10]⟩)) = true
          rw [hfin, hp4]
          subst hA
          simp
  · have c8 := print_ok ⟨fF, fU, fO, fD⟩ (.empty, 1) (by rw [printS, if_neg hr]) hFs (by simp only []; omega)
    refine CallK.mk _ rfl (fun _ => by rw [hP]; exact c8) ?_
    cbv
    split
    · cbv
      refine CallK.mk (bl true) rfl (fun _ => by rw [hP]; exact alive_ok) ?_
      cbv
      repeat (refine And.intro (by first | exact True.intro | exact i_in hA (by assumption) | (subst hA; simp [std]; done) | (split <;> first | exact True.intro | rfl | assumption) | (subst hA; simp [std]; omega)) ?_)
      subst hR
      simp only [LeP, LeD, bl]
      subst hA
      simp
    · rename_i h
      exfalso; subst hA; revert h; decide
end Go.PL
