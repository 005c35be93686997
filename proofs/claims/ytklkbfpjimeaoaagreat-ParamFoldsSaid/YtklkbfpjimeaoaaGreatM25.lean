import Derived.Test.YtklkbfpjimeaoaaGreatM24
/- Contracts of functions. Conditions: none. -/
set_option linter.unusedSimpArgs false
set_option linter.unusedVariables false
set_option maxRecDepth 20000
namespace Go.Proofs.YtklkbfpjimeaoaaGreat
open Go Go.Proofs.YtklkbfpjimeaoaaGreat.E
section
def ab (d : Int) : Int := if d < 0 then -d else d
def mn (x y : Int) : Int := if y < x then y else x
def mx (x y : Int) : Int := if y > x then y else x
structure GR (lo hi st a d c : Int) : Prop where
 hc : 1 ≤ c
 hd0 : d ≠ 0
 h1 : c = 1 → d = 1
 ha : -1000000 ≤ a ∧ a ≤ 1000000
 hl : -1000000 ≤ a + d * (c - 1) ∧ a + d * (c - 1) ≤ 1000000
 hlo : lo = if d < 0 then a + d * (c - 1) else a
 hhi : hi = if d < 0 then a else a + d * (c - 1)
 hst : st = d
def Good (lo hi st : Int) : Prop := (lo = 1 ∧ hi = 0 ∧ st = 1) ∨ ∃ a d c, GR lo hi st a d c
variable {n : Int}
theorem W_id (h1 : -9223372036854775808 ≤ n) (h2 : n ≤ 9223372036854775807) : W n = n := wrap_i64 h1 h2
variable {d : Int}
theorem step_facts {k : Int} (hk : 0 ≤ k) (hd : d ≠ 0) (hb : -2000000 ≤ d * k ∧ d * k ≤ 2000000) : (0 < d → k ≤ d * k) ∧ (d < 0 → k ≤ -(d * k)) ∧ (1 ≤ k → -2000000 ≤ d ∧ d ≤ 2000000) ∧ (d * k = 0 ↔ k = 0) := by
 have hp : 0 < d → k ≤ d * k := fun h => by
  have := Int.mul_le_mul_of_nonneg_right (show 1 ≤ d by omega) hk
  omega
 have hn : d < 0 → k ≤ -(d * k) := fun h => by
  have := Int.mul_le_mul_of_nonneg_right (show 1 ≤ -d by omega) hk
  rw [Int.neg_mul] at this
  omega
 refine ⟨hp, hn, fun h => ?_, fun h => ?_, fun h => by rw [h, Int.mul_zero]⟩
 · rcases Int.lt_or_lt_of_ne hd with h2 | h2
   · have := Int.mul_le_mul_of_nonneg_left h (show 0 ≤ -d by omega)
     simp only [Int.neg_mul, Int.mul_one] at this
     omega
   · have := Int.mul_le_mul_of_nonneg_left h (show 0 ≤ d by omega)
     omega
 · rcases Int.mul_eq_zero.1 h with h | h
   · exact absurd h hd
   · exact h
variable {lo hi st a c : Int}
theorem GR.facts (h : GR lo hi st a d c) : (0 < d → c - 1 ≤ d * (c - 1)) ∧ (d < 0 → c - 1 ≤ -(d * (c - 1))) ∧ (-2000000 ≤ d ∧ d ≤ 2000000) ∧ (d * (c - 1) = 0 ↔ c - 1 = 0) ∧ c ≤ 2000001 := by
 have hc := h.hc
 have ha := h.ha
 have hl := h.hl
 obtain ⟨g1, g2, g3, g4⟩ := step_facts (show 0 ≤ c - 1 by omega) h.hd0 (by omega)
 refine ⟨g1, g2, ?_, g4, ?_⟩
 · by_cases hc1 : c = 1
   · have := h.h1 hc1; omega
   · exact g3 (by omega)
 · rcases Int.lt_or_lt_of_ne h.hd0 with h2 | h2
   · have := g2 h2; omega
   · have := g1 h2; omega
theorem GR.diff (h : GR lo hi st a d c) : hi - lo = ab d * (c - 1) ∧ 0 ≤ ab d * (c - 1) ∧ ab d * (c - 1) ≤ 2000000 := by
 obtain ⟨g1, g2, _⟩ := h.facts
 have hl := h.hl
 have ha := h.ha
 have hc := h.hc
 rw [h.hhi, h.hlo]
 unfold ab
 by_cases hd : d < 0
 · rw [if_pos hd, if_pos hd, if_pos hd, Int.neg_mul]
   have := g2 hd
   omega
 · rw [if_neg hd, if_neg hd, if_neg hd]
   have := g1 (by have := h.hd0; omega)
   omega
theorem ab_pos (h : d ≠ 0) : 0 < ab d := by unfold ab; split <;> omega
theorem stepS_ab (h : -2000000 ≤ d ∧ d ≤ 2000000) (h0 : d ≠ 0) : stepS d = ab d := by
 unfold stepS ab U IntKind.wrap
 simp only [IntKind.signed, IntKind.bits, Bool.false_and, Bool.false_eq_true, if_false]
 split <;> omega
theorem GR.check (h : GR lo hi st a d c) : checkS lo hi st = 0 := by
 obtain ⟨g1, g2, g3, g4, g5⟩ := h.facts
 obtain ⟨e1, e2, e3⟩ := h.diff
 have hl := h.hl
 have ha := h.ha
 have hc := h.hc
 have hd0 := h.hd0
 have hlo := h.hlo
 have hhi := h.hhi
 have hw : limS lo hi = 0 := by
  unfold limS withinB
  rw [if_neg]
  simp only [Bool.or_eq_true, Bool.not_eq_true', Bool.and_eq_false_iff, decide_eq_false_iff_not]
  by_cases hd : d < 0
  · rw [if_pos hd] at hlo hhi; omega
  · rw [if_neg hd] at hlo hhi; omega
 unfold checkS
 by_cases hc1 : c = 1
 · have hd := h.h1 hc1
   rw [if_neg]
   · exact hw
   · have hst := h.hst
     have : lo = hi := by
      have : c - 1 = 0 := by omega
      rw [this] at e1
      omega
     rw [this, hst, hd]; simp
 · have hlt : lo < hi := by
    have hp : 0 < ab d * (c - 1) := Int.mul_pos (ab_pos hd0) (by omega)
    omega
   have hmod : ((U (W (hi - lo))).tmod (stepS st) != 0) = false := by
    rw [h.hst, stepS_ab g3 hd0, W_id (by omega) (by omega), e1, show U (ab d * (c - 1)) = ab d * (c - 1) from by
     unfold U IntKind.wrap
     simp only [IntKind.signed, IntKind.bits, Bool.false_and, Bool.false_eq_true, if_false]
     omega, Int.mul_tmod_right]
    rfl
   split
   · rw [if_neg (by rw [h.hst]; simp; omega), hmod, if_neg (by decide)]
     exact hw
   · exact hw
theorem GR.series (h : GR lo hi st a d c) : seriesS lo hi st = (a, d, c) := by
 obtain ⟨g1, g2, g3, g4, g5⟩ := h.facts
 obtain ⟨e1, e2, e3⟩ := h.diff
 have hd0 := h.hd0
 have hlo := h.hlo
 have hhi := h.hhi
 have hc := h.hc
 have hst := h.hst
 have hab0 := ab_pos hd0
 have e4 : W (hi - lo) = ab d * (c - 1) := by rw [W_id (by omega) (by omega), e1]
 have e6 : W (W (c - 1) + 1) = c := by
  rw [W_id (n := c - 1) (by omega) (by omega), show c - 1 + 1 = c from by omega, W_id (by omega) (by omega)]
 unfold seriesS
 rw [if_neg (by omega), hst, e4]
 by_cases hd : d < 0
 · rw [if_pos hd] at hlo hhi
   have hab : ab d = -d := by unfold ab; rw [if_pos hd]
   have e5 : W (0 - d) = ab d := by rw [W_id (by omega) (by omega), hab]; omega
   rw [if_pos hd, e5, Int.mul_tdiv_cancel_left _ (by omega), e6, hhi]
 · rw [if_neg hd] at hlo hhi
   have hab : ab d = d := by unfold ab; rw [if_neg hd]
   rw [if_neg hd, hab, Int.mul_tdiv_cancel_left _ hd0, e6, hlo]
def normR (lo hi st : Int) (down : Bool) : Int × Int × Int := if lo > hi then (1, 0, 1) else if (lo == hi) = true then (lo, hi, 1) else (lo, hi, if down = true then W (0 - st) else st)
theorem normal_form {f b cc : Int} (hcc : 1 ≤ cc) (hb0 : b ≠ 0) (hb : -9000000000000000 ≤ b ∧ b ≤ 9000000000000000) (hcb : cc ≤ 9000000000000) (hf : -1000000 ≤ f ∧ f ≤ 1000000) (hl : -1000000 ≤ f + b * (cc - 1) ∧ f + b * (cc - 1) ≤ 1000000) :
 normalS f b cc = (normR (mn f (f + b * (cc - 1))) (mx f (f + b * (cc - 1))) (ab b) (decide (f + b * (cc - 1) < f)), 0) ∧
 Good (normR (mn f (f + b * (cc - 1))) (mx f (f + b * (cc - 1))) (ab b) (decide (f + b * (cc - 1) < f))).1 (normR (mn f (f + b * (cc - 1))) (mx f (f + b * (cc - 1))) (ab b) (decide (f + b * (cc - 1) < f))).2.1 (normR (mn f (f + b * (cc - 1))) (mx f (f + b * (cc - 1))) (ab b) (decide (f + b * (cc - 1) < f))).2.2 := by
 obtain ⟨g1, g2, g3, g4⟩ := step_facts (show 0 ≤ cc - 1 by omega) hb0 (by omega)
 have hlast : lastS f b cc = f + b * (cc - 1) := by
  unfold lastS
  rw [W_id (n := cc - 1) (by omega) (by omega), W_id (n := b * (cc - 1)) (by omega) (by omega), W_id (by omega) (by omega)]
 have hlow : lowS f b cc = mn f (f + b * (cc - 1)) := by unfold lowS mn; rw [hlast]
 have hhigh : highS f b cc = mx f (f + b * (cc - 1)) := by unfold highS mx; rw [hlast]
 have hw : (!withinB (mn f (f + b * (cc - 1))) || !withinB (mx f (f + b * (cc - 1)))) = false := by
  unfold withinB mn mx
  simp only [Bool.or_eq_false_iff, Bool.not_eq_false', Bool.and_eq_true, decide_eq_true_eq]
  constructor <;> split <;> omega
 have hn : normalS f b cc = ((mn f (f + b * (cc - 1)), mx f (f + b * (cc - 1)), if (cc == 1) = true then 1 else b), 0) := by
  unfold normalS
  rw [if_neg (by omega), hlow, hhigh, hw, if_neg (by decide)]
 by_cases hc1 : cc = 1
 · have he : f + b * (cc - 1) = f := by rw [hc1]; omega
   have hm1 : mn f f = f := by unfold mn; split <;> rfl
   have hm2 : mx f f = f := by unfold mx; split <;> rfl
   have hr : normR (mn f f) (mx f f) (ab b) (decide (f < f)) = (f, f, 1) := by
    rw [hm1, hm2]
    unfold normR
    rw [if_neg (by omega), if_pos (by simp)]
   rw [hn, he, hm1, hm2]
   rw [hm1, hm2] at hr
   rw [hr, hc1]
   refine ⟨rfl, .inr ⟨f, 1, 1, by omega, by omega, fun _ => rfl, hf, by omega, ?_, ?_, rfl⟩⟩
   · rw [if_neg (by omega)]
   · rw [if_neg (by omega)]; show f = f + 1 * (1 - 1); omega
 · rw [hn, if_neg (by simpa using hc1)]
   rcases Int.lt_or_lt_of_ne hb0 with hb1 | hb1
   · have h5 := g2 hb1
     have hlt : f + b * (cc - 1) < f := by omega
     have hm1 : mn f (f + b * (cc - 1)) = f + b * (cc - 1) := by unfold mn; rw [if_pos hlt]
     have hm2 : mx f (f + b * (cc - 1)) = f := by unfold mx; rw [if_neg (by omega)]
     have hr : normR (f + b * (cc - 1)) f (ab b) (decide (f + b * (cc - 1) < f)) = (f + b * (cc - 1), f, b) := by
      unfold normR ab
      rw [if_neg (by omega), if_neg (by simp; omega), decide_eq_true hlt, if_pos rfl, if_pos hb1, W_id (by omega) (by omega)]
      rw [show (0 : Int) - -b = b from by omega]
     rw [hm1, hm2, hr]
     refine ⟨rfl, .inr ⟨f, b, cc, hcc, hb0, fun h => absurd h hc1, hf, hl, ?_, ?_, rfl⟩⟩
     · rw [if_pos hb1]
     · rw [if_pos hb1]
   · have h5 := g1 hb1
     have hm1 : mn f (f + b * (cc - 1)) = f := by unfold mn; rw [if_neg (by omega)]
     have hm2 : mx f (f + b * (cc - 1)) = f + b * (cc - 1) := by unfold mx; rw [if_pos (by omega)]
     have hr : normR f (f + b * (cc - 1)) (ab b) (decide (f + b * (cc - 1) < f)) = (f, f + b * (cc - 1), b) := by
      unfold normR ab
      rw [if_neg (by omega), if_neg (by simp; omega), decide_eq_false (by omega), if_neg (by decide), if_neg (by omega)]
     rw [hm1, hm2, hr]
     refine ⟨rfl, .inr ⟨f, b, cc, hcc, hb0, fun h => absurd h hc1, hf, hl, ?_, ?_, rfl⟩⟩
     · rw [if_neg (by omega)]
     · rw [if_neg (by omega)]
theorem normR_down {s : Int} {x y : Bool} (h : lo = hi ∨ x = y) : normR lo hi s x = normR lo hi s y := by
 rcases h with rfl | rfl
 · unfold normR
   rw [if_neg (by omega), if_pos (by simp), if_neg (by omega), if_pos (by simp)]
 · rfl
theorem within_iff : withinB n = true ↔ -1000000 ≤ n ∧ n ≤ 1000000 := by
 unfold withinB
 rw [Bool.and_eq_true, decide_eq_true_eq, decide_eq_true_eq]
theorem of_form (h1 : withinB lo = true) (h2 : withinB hi = true) (hle : lo ≤ hi) : ofS lo hi = (normR lo hi 1 false, 0) ∧ Good (normR lo hi 1 false).1 (normR lo hi 1 false).2.1 (normR lo hi 1 false).2.2 := by
 have g1 := within_iff.1 h1
 have g2 := within_iff.1 h2
 have he : lo + 1 * (hi - lo + 1 - 1) = hi := by omega
 have hf := normal_form (f := lo) (b := 1) (cc := hi - lo + 1) (by omega) (by omega) (by omega) (by omega) g1 (by omega)
 rw [he] at hf
 have hm1 : mn lo hi = lo := by unfold mn; rw [if_neg (by omega)]
 have hm2 : mx lo hi = hi := by unfold mx; split <;> omega
 rw [hm1, hm2, show ab 1 = 1 from rfl, decide_eq_false (by omega)] at hf
 have ho : ofS lo hi = normalS lo 1 (hi - lo + 1) := by
  unfold ofS
  rw [h1, h2, show withinB 1 = true from rfl, if_neg (by decide), if_neg (by omega), W_id (n := hi - lo) (by omega) (by omega), Int.tdiv_one, W_id (n := hi - lo) (by omega) (by omega), W_id (n := hi - lo + 1) (by omega) (by omega)]
 exact ⟨ho.trans hf.1, hf.2⟩
theorem of_empty (h1 : withinB lo = true) (h2 : withinB hi = true) (hgt : lo > hi) : ofS lo hi = ((1, 0, 1), 0) := by
 unfold ofS
 rw [h1, h2, show withinB 1 = true from rfl, if_neg (by decide), if_pos hgt]
 rfl
theorem of_far (h : withinB lo = false ∨ withinB hi = false) : ofS lo hi = ((0, 0, 0), 4) := by
 unfold ofS
 rw [if_pos]
 rcases h with h | h <;> rw [h] <;> simp
theorem ab_neg (d : Int) : ab (-d) = ab d := by unfold ab; split <;> split <;> omega
variable {m : Int}
theorem ab_mul (h : 0 < m) : ab (d * m) = ab d * m := by
 unfold ab
 by_cases hd : d < 0
 · rw [if_pos hd, if_pos (Int.mul_neg_of_neg_of_pos hd h), Int.neg_mul]
 · rw [if_neg hd, if_neg (by have := Int.mul_nonneg (show 0 ≤ d by omega) (show 0 ≤ m by omega); omega)]
theorem div_facts {k : Int} (hk : 0 ≤ k) (hm : 0 < m) : 0 ≤ k / m ∧ m * (k / m) ≤ k ∧ k / m ≤ k ∧ (k + m).tdiv m = k / m + 1 := by
 have h1 := Int.ediv_nonneg hk (show 0 ≤ m by omega)
 have h2 := Int.mul_ediv_self_le (x := k) (k := m) (by omega)
 have h3 := Int.mul_le_mul_of_nonneg_right (show 1 ≤ m by omega) h1
 refine ⟨h1, h2, by omega, ?_⟩
 rw [Int.tdiv_eq_ediv_of_nonneg (by omega)]
 have h4 := Int.add_mul_ediv_right k 1 (show m ≠ 0 by omega)
 rw [Int.one_mul] at h4
 exact h4
theorem byN_form {f b : Int} (hc : 1 ≤ c) (hcb : c ≤ 2000001) (hb0 : b ≠ 0) (hb : -2000000 ≤ b ∧ b ≤ 2000000) (hm : 0 < m) (hmb : m ≤ 1000000) (hf : -1000000 ≤ f ∧ f ≤ 1000000) (hl : -1000000 ≤ f + b * (c - 1) ∧ f + b * (c - 1) ≤ 1000000) :
 byN f b c m = (normR (mn f (f + b * m * ((c - 1) / m))) (mx f (f + b * m * ((c - 1) / m))) (ab b * m) (decide (f + b * m * ((c - 1) / m) < f)), 0) ∧
 Good (normR (mn f (f + b * m * ((c - 1) / m))) (mx f (f + b * m * ((c - 1) / m))) (ab b * m) (decide (f + b * m * ((c - 1) / m) < f))).1 (normR (mn f (f + b * m * ((c - 1) / m))) (mx f (f + b * m * ((c - 1) / m))) (ab b * m) (decide (f + b * m * ((c - 1) / m) < f))).2.1 (normR (mn f (f + b * m * ((c - 1) / m))) (mx f (f + b * m * ((c - 1) / m))) (ab b * m) (decide (f + b * m * ((c - 1) / m) < f))).2.2 := by
 obtain ⟨q0, q1, q2, q3⟩ := div_facts (show 0 ≤ c - 1 by omega) hm
 generalize hq : (c - 1) / m = q at q0 q1 q2 q3 ⊢
 have hmq : 0 ≤ m * q := Int.mul_nonneg (by omega) q0
 have hbm : -2000000000000 ≤ b * m ∧ b * m ≤ 2000000000000 := by
  have h1 := Int.mul_le_mul_of_nonneg_right hb.1 (show 0 ≤ m by omega)
  have h2 := Int.mul_le_mul_of_nonneg_right hb.2 (show 0 ≤ m by omega)
  omega
 have hbm0 : b * m ≠ 0 := fun h => by
  rcases Int.mul_eq_zero.1 h with h | h <;> omega
 have hbq : b * m * q = b * (m * q) := Int.mul_assoc _ _ _
 have hL : -1000000 ≤ f + b * m * q ∧ f + b * m * q ≤ 1000000 := by
  rw [hbq]
  rcases Int.lt_or_lt_of_ne hb0 with h | h
  · have h1 := Int.mul_le_mul_of_nonneg_left q1 (show 0 ≤ -b by omega)
    have h2 := Int.mul_nonneg (show 0 ≤ -b by omega) hmq
    simp only [Int.neg_mul] at h1 h2
    omega
  · have h1 := Int.mul_le_mul_of_nonneg_left q1 (show 0 ≤ b by omega)
    have h2 := Int.mul_nonneg (show 0 ≤ b by omega) hmq
    omega
 have hN : byN f b c m = normalS f (b * m) (q + 1) := by
  unfold byN
  rw [W_id (n := b * m) (by omega) (by omega), W_id (n := c + m) (by omega) (by omega), W_id (n := c + m - 1) (by omega) (by omega), show c + m - 1 = c - 1 + m from by omega, q3, W_id (by omega) (by omega)]
 have hs : q + 1 - 1 = q := by omega
 have hnf := normal_form (f := f) (b := b * m) (cc := q + 1) (by omega) hbm0 (by omega) (by omega) hf (by rw [hs]; exact hL)
 rw [hs, ab_mul hm] at hnf
 exact ⟨hN.trans hnf.1, hnf.2⟩
theorem GR.last (h : GR lo hi st a d c) : lastS a d c = a + d * (c - 1) := by
 obtain ⟨g1, g2, g3, g4, g5⟩ := h.facts
 have hl := h.hl
 have ha := h.ha
 have hc := h.hc
 unfold lastS
 rw [W_id (n := c - 1) (by omega) (by omega), W_id (n := d * (c - 1)) (by omega) (by omega), W_id (by omega) (by omega)]
def byFst (a d c n : Int) : Int := if n < 0 then a + (c - 1) * d else a
def byLst (a d c n : Int) : Int := if n < 0 then a + (c - 1 - (c - 1) / (-n) * (-n)) * d else a + (c - 1) / n * n * d
theorem by_form (h : GR lo hi st a d c) (hn : withinB n = true) (hn0 : n ≠ 0) :
 byS lo hi st n = (normR (mn (byFst a d c n) (byLst a d c n)) (mx (byFst a d c n) (byLst a d c n)) (ab d * ab n) (decide (byLst a d c n < byFst a d c n)), 0) ∧ Good (byS lo hi st n).1.1 (byS lo hi st n).1.2.1 (byS lo hi st n).1.2.2 := by
 obtain ⟨g1, g2, g3, g4, g5⟩ := h.facts
 have hw := within_iff.1 hn
 have hl := h.hl
 have ha := h.ha
 have hc := h.hc
 unfold byS byFst byLst
 rw [h.check, if_neg (by decide), if_neg (by simpa using hn0), hn, if_neg (by decide), h.series]
 dsimp only
 by_cases hneg : n < 0
 · rw [if_pos hneg, if_pos hneg, if_pos hneg]
   have hab : ab n = -n := by unfold ab; rw [if_pos hneg]
   have ht : turnS a d c = (a + d * (c - 1), -d, c) := by
    unfold turnS
    rw [if_neg (by simp; omega), h.last, W_id (by omega) (by omega)]
    rw [show (0 : Int) - d = -d from by omega]
   have hf := byN_form (f := a + d * (c - 1)) (b := -d) (c := c) (m := -n) hc (by omega) (by have := h.hd0; omega) (by omega) (by omega) (by omega) hl (by simp only [Int.neg_mul]; omega)
   rw [ht, W_id (by omega) (by omega), show (0 : Int) - n = -n from by omega]
   dsimp only
   rw [ab_neg] at hf
   have e1 : a + d * (c - 1) + -d * -n * ((c - 1) / -n) = a + (c - 1 - (c - 1) / -n * -n) * d := by
    rw [Int.sub_mul, Int.mul_comm (c - 1) d, show -d * -n * ((c - 1) / -n) = -((c - 1) / -n * -n * d) from by
     rw [Int.mul_comm ((c - 1) / -n) (-n), Int.mul_assoc (-d), Int.neg_mul, Int.mul_comm d]]
    omega
   rw [e1, Int.mul_comm d (c - 1)] at hf
   rw [hab, Int.mul_comm d (c - 1), hf.1]
   exact ⟨rfl, hf.2⟩
 · rw [if_neg hneg, if_neg hneg, if_neg hneg]
   have hab : ab n = n := by unfold ab; rw [if_neg hneg]
   have hf := byN_form (f := a) (b := d) (c := c) (m := n) hc (by omega) h.hd0 (by omega) (by omega) (by omega) ha hl
   have e1 : d * n * ((c - 1) / n) = (c - 1) / n * n * d := by
    rw [Int.mul_assoc, Int.mul_comm d, Int.mul_comm n]
   rw [e1] at hf
   rw [hab, hf.1]
   exact ⟨rfl, hf.2⟩
def ctFst (a d c n : Int) : Int := if n < 0 then a + (c + n) * d else a
def ctLst (a d c n : Int) : Int := if n < 0 then a + (c - 1) * d else a + (n - 1) * d
theorem count_form (h : GR lo hi st a d c) (h1 : ¬ n > c) (h2 : ¬ n < -c) (hn0 : n ≠ 0) :
 countS lo hi st n = (normR (mn (ctFst a d c n) (ctLst a d c n)) (mx (ctFst a d c n) (ctLst a d c n)) (ab d) (decide (d < 0)), 0) ∧ Good (countS lo hi st n).1.1 (countS lo hi st n).1.2.1 (countS lo hi st n).1.2.2 := by
 obtain ⟨g1, g2, g3, g4, g5⟩ := h.facts
 have hl := h.hl
 have ha := h.ha
 have hc := h.hc
 have hd0 := h.hd0
 have key : ∀ {k : Int}, 0 ≤ k → k ≤ c - 1 → -1000000 ≤ a + d * k ∧ a + d * k ≤ 1000000 := fun {k} k0 k1 => by
  rcases Int.lt_or_lt_of_ne hd0 with hd | hd
  · have e1 := Int.mul_le_mul_of_nonneg_left k1 (show 0 ≤ -d by omega)
    have e2 := Int.mul_nonneg (show 0 ≤ -d by omega) k0
    simp only [Int.neg_mul] at e1 e2
    omega
  · have e1 := Int.mul_le_mul_of_nonneg_left k1 (show 0 ≤ d by omega)
    have e2 := Int.mul_nonneg (show 0 ≤ d by omega) k0
    omega
 have hdn : ∀ {f k : Int}, 0 ≤ k → mn f (f + d * k) = mx f (f + d * k) ∨ decide (f + d * k < f) = decide (d < 0) := fun {f k} k0 => by
  by_cases hk : k = 0
  · left; rw [hk, Int.mul_zero]; unfold mn mx; split <;> split <;> omega
  · right
    rcases Int.lt_or_lt_of_ne hd0 with hd | hd
    · have := Int.mul_neg_of_neg_of_pos hd (show 0 < k by omega)
      rw [decide_eq_true hd, decide_eq_true (by omega)]
    · have := Int.mul_pos hd (show 0 < k by omega)
      rw [decide_eq_false (by omega), decide_eq_false (by omega)]
 have hcs : countS lo hi st n = if n < 0 then normalS (W (a + W (d * W (c + n)))) d (W (0 - n)) else normalS a d n := by
  unfold countS
  rw [h.check, if_neg (by decide), h.series]
  dsimp only
  rw [if_neg]
  rw [W_id (n := 0 - c) (by omega) (by omega)]
  simp; omega
 rw [hcs]
 unfold ctFst ctLst
 by_cases hneg : n < 0
 · rw [if_pos hneg, if_pos hneg, if_pos hneg]
   have k1 := key (k := c + n) (by omega) (by omega)
   have ew : W (a + W (d * W (c + n))) = a + d * (c + n) := by
    rw [W_id (n := c + n) (by omega) (by omega), W_id (n := d * (c + n)) (by omega) (by omega), W_id (by omega) (by omega)]
   have e1 : a + d * (c + n) + d * (-n - 1) = a + d * (c - 1) := by
    rw [Int.add_assoc, ← Int.mul_add, show c + n + (-n - 1) = c - 1 from by omega]
   have hf := normal_form (f := a + d * (c + n)) (b := d) (cc := -n) (by omega) hd0 (by omega) (by omega) k1 (by rw [e1]; exact hl)
   have hx := hdn (f := a + d * (c + n)) (k := -n - 1) (by omega)
   rw [ew, W_id (by omega) (by omega), show (0 : Int) - n = -n from by omega]
   rw [normR_down hx, e1] at hf
   rw [Int.mul_comm (c + n) d, Int.mul_comm (c - 1) d, hf.1]
   exact ⟨rfl, hf.2⟩
 · rw [if_neg hneg, if_neg hneg, if_neg hneg]
   have k1 := key (k := n - 1) (by omega) (by omega)
   have hf := normal_form (f := a) (b := d) (cc := n) (by omega) hd0 (by omega) (by omega) ha k1
   have hx := hdn (f := a) (k := n - 1) (by omega)
   rw [normR_down hx] at hf
   rw [Int.mul_comm (n - 1) d, hf.1]
   exact ⟨rfl, hf.2⟩
theorem count_zero (h : GR lo hi st a d c) : countS lo hi st 0 = ((1, 0, 1), 0) := by
 obtain ⟨g1, g2, g3, g4, g5⟩ := h.facts
 have hc := h.hc
 unfold countS
 rw [h.check, if_neg (by decide), h.series]
 dsimp only
 rw [if_neg (by rw [W_id (by omega) (by omega)]; simp; omega), if_neg (by omega)]
 unfold normalS
 rw [if_pos (by omega)]
theorem count_far (h : GR lo hi st a d c) (h1 : n > c ∨ n < -c) : countS lo hi st n = ((0, 0, 0), 5) := by
 obtain ⟨g1, g2, g3, g4, g5⟩ := h.facts
 have hc := h.hc
 unfold countS
 rw [h.check, if_neg (by decide), h.series]
 dsimp only
 rw [if_pos (by rw [W_id (by omega) (by omega)]; simp; omega)]
theorem by_far (h : GR lo hi st a d c) : (n = 0 → byS lo hi st n = ((0, 0, 0), 1)) ∧ (n ≠ 0 → withinB n = false → byS lo hi st n = ((0, 0, 0), 4)) := by
 unfold byS
 rw [h.check, if_neg (by decide)]
 refine ⟨fun h0 => by rw [if_pos (by simpa using h0)], fun h0 h1 => by rw [if_neg (by simpa using h0), h1, if_pos (show (!false) = true from rfl)]⟩
theorem empty_check : checkS 1 0 1 = 0 := by decide
theorem empty_by : byS 1 0 1 n = if n = 0 then ((0, 0, 0), 1) else if withinB n = false then ((0, 0, 0), 4) else ((1, 0, 1), 0) := by
 unfold byS
 rw [empty_check, if_neg (by decide)]
 by_cases h0 : n = 0
 · rw [if_pos (by simpa using h0), if_pos h0]
 · rw [if_neg (by simpa using h0), if_neg h0]
   cases hw : withinB n with
   | false => rfl
   | true =>
    have hb := within_iff.1 hw
    rw [if_neg (show ¬ (!true) = true from by decide), if_neg (show ¬ true = false from by decide)]
    have hs : seriesS 1 0 1 = (0, 0, 0) := by decide
    rw [hs]
    dsimp only
    have ht : turnS 0 0 0 = (0, 0, 0) := by decide
    rw [ht]
    dsimp only
    have key : ∀ m : Int, 0 < m → m ≤ 1000000 → byN 0 0 0 m = ((1, 0, 1), 0) := fun m m0 m1 => by
     unfold byN
     rw [Int.zero_mul, W_id (n := 0 + m) (by omega) (by omega), W_id (n := 0 + m - 1) (by omega) (by omega), show 0 + m - 1 = m - 1 from by omega]
     have hd : (m - 1).tdiv m = 0 := Int.tdiv_eq_zero_of_lt (by omega) (by omega)
     rw [hd]
     decide
    by_cases hneg : n < 0
    · rw [if_pos hneg, W_id (by omega) (by omega)]; exact key _ (by omega) (by omega)
    · rw [if_neg hneg]; exact key _ (by omega) (by omega)
theorem empty_count : countS 1 0 1 n = if n = 0 then ((1, 0, 1), 0) else ((0, 0, 0), 5) := by
 unfold countS
 rw [empty_check, if_neg (by decide)]
 have hs : seriesS 1 0 1 = (0, 0, 0) := by decide
 rw [hs]
 dsimp only
 by_cases h0 : n = 0
 · subst h0; decide
 · rw [if_neg h0, if_pos (by rw [show W (0 - 0) = 0 from by decide]; simp; omega)]
end
section
theorem U_id {n : Int} (h1 : 0 ≤ n) (h2 : n ≤ 4000000) : IntKind.u64.wrap n = n := by
 unfold IntKind.wrap
 simp only [IntKind.signed, IntKind.bits, Bool.false_and, Bool.false_eq_true, if_false]
 omega
theorem U_neg {n : Int} (h1 : -4000000 ≤ n) (h2 : n < 0) : IntKind.u64.wrap (0 - IntKind.u64.wrap n) = -n := by
 unfold IntKind.wrap
 simp only [IntKind.signed, IntKind.bits, Bool.false_and, Bool.false_eq_true, if_false]
 omega
theorem mod_neg {a m : Int} (hm : 0 < m) (ha : a < 0) : (0 ≤ (-a).tmod m ∧ (-a).tmod m < m) ∧ ((-a).tmod m = 0 → a % m = 0) ∧ ((-a).tmod m ≠ 0 → a % m = m - (-a).tmod m) := by
 rw [Int.tmod_eq_emod_of_nonneg (by omega)]
 have h1 := Int.emod_nonneg (-a) (show m ≠ 0 by omega)
 have h2 := Int.emod_lt_of_pos (-a) hm
 have h3 := Int.mul_ediv_add_emod (-a) m
 refine ⟨⟨h1, h2⟩, fun h => ?_, fun h => ?_⟩
 · have e : a = m * (-((-a) / m)) := by rw [Int.mul_neg]; omega
   rw [e, Int.mul_emod_right]
 · have e : a = (m - (-a) % m) + m * (-((-a) / m) - 1) := by rw [Int.mul_sub, Int.mul_neg, Int.mul_one]; omega
   rw [e, Int.add_mul_emod_self_left, ← e]
   exact Int.emod_eq_of_lt (by omega) (by omega)
theorem GR.wf {lo hi st a d c : Int} (h : GR lo hi st a d c) : (-1000000 ≤ lo ∧ lo ≤ 1000000) ∧ (-1000000 ≤ hi ∧ hi ≤ 1000000) ∧ (-2000000 ≤ st ∧ st ≤ 2000000) ∧ st ≠ 0 ∧ lo ≤ hi ∧ (lo = hi → st = 1) ∧ hi % ab st = lo % ab st ∧ 0 < ab st ∧ ab st ≤ 2000000 := by
 obtain ⟨g1, g2, g3, g4, g5⟩ := h.facts
 obtain ⟨e1, e2, e3⟩ := h.diff
 have hl := h.hl
 have ha := h.ha
 have hlo := h.hlo
 have hhi := h.hhi
 have hst := h.hst
 have hd0 := h.hd0
 have hab := ab_pos hd0
 refine ⟨?_, ?_, by omega, by omega, by omega, fun he => ?_, ?_, by rw [hst]; exact hab, ?_⟩
 · split at hlo <;> omega
 · split at hhi <;> omega
 · rw [hst]
   apply h.h1
   have : ab d * (c - 1) = 0 := by omega
   rcases Int.mul_eq_zero.1 this with h1 | h1 <;> omega
 · rw [hst, show hi = lo + ab d * (c - 1) from by omega, Int.add_mul_emod_self_left]
 · rw [hst]; unfold ab; split <;> omega
theorem good_cases {lo hi st : Int} (h : Good lo hi st) (hne : ¬ (lo = 1 ∧ hi = 0 ∧ st = 1)) : ∃ a d c, GR lo hi st a d c := by
 rcases h with h | h
 · exact absurd h hne
 · exact h
theorem c306 (n : Int) : Pf Tryz.prog 306 [.int .i64 n] (.d (.bool (withinB n))) := by
 refine pf_body (rvs := [.tmp 2]) [(0, .d (.int .i64 n))] Tryz.func306 Tryz.ntmps306 Tryz.results306 (fun S0 O0 w0 m0 hm0 => ?_)
 refine Z387 ?_;refine Z93 ?_;refine Z332 ?_;refine Z183 ?_;refine Z360 ?_
 exact ⟨rfl, rfl⟩
theorem c307  : Pf Tryz.prog 307 [] (.d (.agg [.int .i64 1, .int .i64 0, .int .i64 1])) := by
 refine pf_body (rvs := [.cell 0 199]) [] Tryz.func307 Tryz.ntmps307 Tryz.results307 (fun S0 O0 w0 m0 hm0 => ?_)
 refine Z3 ?_;refine Z101 ?_;refine Z7 ?_;refine Z384 ?_;refine Z8 ?_;refine Z276 ?_
 exact ⟨by rfl, rfl⟩
set_option maxHeartbeats 1000000 in
theorem c308 (lo hi st : Int) (down : Bool) : Pf Tryz.prog 308 [.int .i64 lo, .int .i64 hi, .int .i64 st, .bool down] (.d (.agg [.int .i64 (normR lo hi st down).1, .int .i64 (normR lo hi st down).2.1, .int .i64 (normR lo hi st down).2.2])) := by
 refine pf_body (rvs := [.cell 8 199]) [(0, .d (.int .i64 lo)), (1, .d (.int .i64 hi)), (2, .d (.int .i64 st)), (3, .d (.bool down))] Tryz.func308 Tryz.ntmps308 Tryz.results308 (fun S0 O0 w0 m0 hm0 => ?_)
 refine Z3 ?_;refine Z101 ?_;refine Z11 ?_;refine Z321 ?_;refine Z94 ?_;refine Z5 ?_
 refine gC ?_ ?_ <;> intro hb0
 ·
  refine Z3 ?_
  refine gL (xs := []) rfl (c307) ?_
  refine Z47 ?_;refine Z20 ?_;refine Z276 ?_
  exact ⟨by rw [normR, if_pos (oR hb0)], rfl⟩
 refine Z59 ?_;refine Z321 ?_;refine Z407 ?_
 refine gC ?_ ?_ <;> intro hb1
 ·
  refine Z420 ?_;refine Z384 ?_;refine Z20 ?_;refine Z276 ?_
  exact ⟨by rw [normR, if_neg (of_decide_eq_false hb0), if_pos hb1], rfl⟩
 refine Z418 ?_;refine Z5 ?_
 refine gC ?_ ?_ <;> intro hb2
 ·
  refine Z335 ?_;refine Z190 ?_;refine Z433 ?_;refine Z0 ?_;refine Z384 ?_;refine Z8 ?_;refine Z276 ?_
  exact ⟨by rw [normR, if_neg (of_decide_eq_false hb0), if_neg (by rw [hb1]; decide), if_pos hb2]; rfl, rfl⟩
 refine Z46 ?_;refine Z321 ?_;refine Z0 ?_;refine Z384 ?_;refine Z8 ?_;refine Z276 ?_
 exact ⟨by rw [normR, if_neg (of_decide_eq_false hb0), if_neg (by rw [hb1]; decide), if_neg (by rw [hb2]; decide)], rfl⟩
theorem c259 (lo hi st : Int) (h : -2000000 ≤ st ∧ st ≤ 2000000) : Pf Tryz.prog 259 [.agg [.int .i64 lo, .int .i64 hi, .int .i64 st]] (.d (.int .i64 (ab st))) := by
 refine pf_body (rvs := [.tmp 2]) [(0, .d (.agg [.int .i64 lo, .int .i64 hi, .int .i64 st]))] Tryz.func259 Tryz.ntmps259 Tryz.results259 (fun S0 O0 w0 m0 hm0 => ?_)
 refine Z424 ?_;refine Z328 ?_;refine Z376 ?_;refine Z346 ?_
 refine gC ?_ ?_ <;> intro hb0
 ·
  refine Z3 ?_;refine Z376 ?_;refine Z190 ?_;refine Z365 ?_
  exact ⟨by rw [ab, if_pos (oR hb0)]; show PV.d (.int .i64 (W (0 - st))) = _; rw [W_id (by omega) (by omega), show (0 : Int) - st = -st from by omega], rfl⟩
 refine Z46 ?_;refine Z376 ?_;refine Z320 ?_
 exact ⟨by rw [ab, if_neg (of_decide_eq_false hb0)], rfl⟩
theorem c258 (lo hi st : Int) : Pf Tryz.prog 258 [.agg [.int .i64 lo, .int .i64 hi, .int .i64 st]] (.d (.bool (decide (lo = 1) && decide (hi = 0) && decide (st = 1)))) := by
 refine pf_body (rvs := [.tmp 2]) [(0, .d (.agg [.int .i64 lo, .int .i64 hi, .int .i64 st]))] Tryz.func258 Tryz.ntmps258 Tryz.results258 (fun S0 O0 w0 m0 hm0 => ?_)
 refine Z424 ?_;refine Z372 ?_
 refine g_cg0 [3, 4, 5, 2] ?_
 refine Z30 ?_
 refine cS 1 (fun _ _ _ _ _ => vq rfl (qG (by exact sz199) u199 rfl) (gN ⟨rfl, rfl⟩)) ?_
 refine Z30 ?_
 refine cS 2 (fun _ _ _ _ _ => gL (xs := []) rfl (c307) (gN ⟨rfl, rfl⟩)) ?_
 refine cP [0, 1] ?_
 refine cS 3 (fun _ _ _ _ _ => vq rfl ((q_structeq (eq_rg lo hi st))) (gN ⟨rfl, rfl⟩)) ?_
 refine cP [2, 1, 0, 1, 2] ?_
 refine cS 4 (fun _ _ _ _ _ => vq rfl qA (gN ⟨rfl, rfl⟩)) ?_
 refine Z109 ?_;refine Z279 ?_;refine Z4 ?_
 exact ⟨rfl, rfl⟩
set_option maxHeartbeats 1000000 in
theorem c310 (a b : Int) (ha : -1000000 ≤ a ∧ a ≤ 1000000) (hb : -2000000 ≤ b ∧ b ≤ 2000000) (hb0' : b ≠ 0) : Pf Tryz.prog 310 [.int .i64 a, .int .i64 b] (.d (.int .u64 (a % ab b))) := by
 refine pf_body (rvs := [.tmp 4]) [(0, .d (.int .i64 a)), (1, .d (.int .i64 b))] Tryz.func310 Tryz.ntmps310 Tryz.results310 (fun S0 O0 w0 m0 hm0 => ?_)
 refine Z387 ?_
 refine vq rfl (q_convert u3 u286 (hw := rfl)) ?_
 refine Z319 ?_
 refine G_seq_cut (α := Int) (fun m => ⟨[(0, .d (.int .i64 a)), (5, .d (.int .u64 m))], []⟩) (fun m => m = ab b) (fun Q' hn he hr => ?_) (fun m hm => ?_)
 ·
  refine Z352 ?_;refine Z346 ?_
  refine gC ?_ ?_ <;> intro hb0
  ·
   refine Z335 ?_
   refine vq rfl (q_convert u3 u286 (hw := rfl)) ?_
   refine Z190 ?_;refine Z331 ?_
   refine hn _ (IntKind.u64.wrap (0 - IntKind.u64.wrap b)) (by rw [U_neg (by omega) (oR hb0), ab, if_pos (oR hb0)]) le_of
  refine Z205 ?_
  refine hn _ (IntKind.u64.wrap b) (by have h := of_decide_eq_false hb0; rw [U_id (by omega) (by omega), ab, if_neg h]) le_of
 have hm0 := ab_pos hb0'
 have hm1 : ab b ≤ 2000000 := by unfold ab; split <;> omega
 have hmn : m ≠ 0 := by omega
 refine Z355 ?_;refine Z93 ?_;refine Z5 ?_
 refine gC ?_ ?_ <;> intro hb1
 ·
  have ha0 := oR hb1
  refine Z352 ?_
  refine vq rfl (q_convert u3 u286 (hw := (U_id (by omega) (by omega)))) ?_
  refine Z0 ?_
  refine vq rfl (q_rem hmn rfl) ?_
  refine Z365 ?_
  exact ⟨by rw [Int.tmod_eq_emod_of_nonneg (by omega), hm], rfl⟩
 have ha0 := of_decide_eq_false hb1
 obtain ⟨⟨r0, r1⟩, r2, r3⟩ := mod_neg (a := a) (m := m) (by omega) (by omega)
 refine Z434 ?_
 refine vq rfl (q_convert u3 u286 (hw := rfl)) ?_
 refine vq rfl ((q_neg (hr := (U_neg (by omega) (by omega))))) ?_
 refine Z0 ?_
 refine vq rfl (q_rem hmn rfl) ?_
 refine Z421 ?_
 refine gP [0, 1, 4, 5, 6] ?_
 refine Z335 ?_;refine Z407 ?_
 refine gC ?_ ?_ <;> intro hb2
 ·
  refine Z375 ?_
  exact ⟨by rw [← hm, r2 (by simpa using hb2)], rfl⟩
 refine Z46 ?_;refine Z321 ?_
 refine vq rfl (q_sub (hw := (U_id (by omega) (by omega)))) ?_
 refine Z320 ?_
 exact ⟨by rw [← hm, r3 (by simpa using hb2)], rfl⟩
set_option maxHeartbeats 1000000 in
theorem c257 (lo hi st : Int) (hgd : Good lo hi st) : Pf Tryz.prog 257 [.agg [.int .i64 lo, .int .i64 hi, .int .i64 st]] (.d (.int .i64 0)) := by
 refine pf_body (rvs := [.tmp 2]) [(0, .d (.agg [.int .i64 lo, .int .i64 hi, .int .i64 st]))] Tryz.func257 Tryz.ntmps257 Tryz.results257 (fun S0 O0 w0 m0 hm0 => ?_)
 refine Z424 ?_;refine Z328 ?_;refine Z69 ?_
 refine gL (xs := [.tmp 3]) rfl (c258 lo hi st) ?_
 refine Z5 ?_
 refine gC ?_ ?_ <;> intro hb0
 ·
  refine Z375 ?_
  exact ⟨rfl, rfl⟩
 have hne : ¬ (lo = 1 ∧ hi = 0 ∧ st = 1) := fun h => by
  rw [decide_eq_true h.1, decide_eq_true h.2.1, decide_eq_true h.2.2] at hb0
  cases hb0
 obtain ⟨a, d, c, hg⟩ := good_cases hgd hne
 obtain ⟨w1, w2, w3, w4, w5, w6, w7, w8, w9⟩ := hg.wf
 refine Z59 ?_;refine Z376 ?_;refine Z376 ?_;refine Z94 ?_;refine Z0 ?_;refine Z191 ?_
 refine sg rfl (fun hg => sP 11 rfl hg (qL u3)) ?_
 refine Z191 ?_
 refine sg rfl (fun hg => sP 13 rfl hg (qL u3)) ?_
 refine sg rfl (fun hg => sP 14 rfl hg (sP 12 rfl hg q_eql)) ?_
 refine sg rfl (fun hg => sP 15 rfl hg qM) ?_
 refine Z191 ?_;refine Z234 ?_
 refine sg rfl (fun hg => sP 18 rfl hg q_neq) ?_
 refine sg rfl (fun hg => sP 16 rfl hg q_and) ?_
 refine Z333 ?_
 refine gC ?_ ?_ <;> intro hb1
 ·
  exfalso
  simp only [Bool.or_eq_true, Bool.and_eq_true, decide_eq_true_eq, beq_iff_eq, bne_iff_ne] at hb1
  rcases hb1 with h | ⟨h, h2⟩
  · omega
  · exact h2 (w6 h)
 refine Z110 ?_;refine Z233 ?_
 refine g_cg0 [22, 23, 24, 25, 26, 27, 28, 29, 30, 31, 32, 33, 34, 35, 36, 37, 38, 39, 40, 41, 42, 43, 44] ?_
 refine Z30 ?_;refine Z192 ?_;refine Z172 ?_;refine Z100 ?_;refine Z30 ?_;refine Z193 ?_;refine Z114 ?_;refine Z132 ?_
 refine cP [1, 3] ?_
 refine cS 5 (fun _ _ _ _ _ => vq rfl q_lss (gN ⟨rfl, rfl⟩)) ?_
 refine Z125 ?_
 refine cS 6 (fun _ _ _ _ _ => vq rfl qM (gN ⟨rfl, rfl⟩)) ?_
 refine Z215 ?_
 refine cS 7 (fun _ _ _ _ _ => sg rfl (fun hg => qF u199 rfl sz3) (gN ⟨rfl, rfl⟩)) ?_
 refine cP [6, 5] ?_
 refine cS 8 (fun _ _ _ _ _ => sg rfl (fun hg => sP 28 rfl hg (qL u3)) (gN ⟨rfl, rfl⟩)) ?_
 refine cP [7, 5] ?_
 refine cS 9 (fun _ _ _ _ _ => sg rfl (fun hg => sP 29 rfl hg q_eql) (gN ⟨rfl, rfl⟩)) ?_
 refine cP [8, 5, 5] ?_
 refine cS 10 (fun _ _ _ _ _ => sg rfl (fun hg => sP 30 rfl hg qM) (gN ⟨rfl, rfl⟩)) ?_
 refine Z274 ?_
 refine cS 11 (fun _ _ _ _ _ => sg rfl (fun hg => qF u199 rfl sz3) (gN ⟨rfl, rfl⟩)) ?_
 refine cP [10, 9] ?_
 refine cS 12 (fun _ _ _ _ _ => sg rfl (fun hg => sP 32 rfl hg (qL u3)) (gN ⟨rfl, rfl⟩)) ?_
 refine Z274 ?_
 refine cS 13 (fun _ _ _ _ _ => sg rfl (fun hg => qF u199 rfl sz3) (gN ⟨rfl, rfl⟩)) ?_
 refine cP [12, 9] ?_
 refine cS 14 (fun _ _ _ _ _ => sg rfl (fun hg => sP 34 rfl hg (qL u3)) (gN ⟨rfl, rfl⟩)) ?_
 refine cP [11, 13, 9, 9] ?_
 refine cS 15 (fun _ _ _ _ _ => g_callg (xs := [.tmp 33, .tmp 35]) rfl (fun hg => c310 hi st w2 w3 w4) (gN ⟨rfl, rfl⟩)) ?_
 refine Z274 ?_
 refine cS 16 (fun _ _ _ _ _ => sg rfl (fun hg => qF u199 rfl sz3) (gN ⟨rfl, rfl⟩)) ?_
 refine cP [15, 9] ?_
 refine cS 17 (fun _ _ _ _ _ => sg rfl (fun hg => sP 37 rfl hg (qL u3)) (gN ⟨rfl, rfl⟩)) ?_
 refine Z274 ?_
 refine cS 18 (fun _ _ _ _ _ => sg rfl (fun hg => qF u199 rfl sz3) (gN ⟨rfl, rfl⟩)) ?_
 refine cP [17, 9] ?_
 refine cS 19 (fun _ _ _ _ _ => sg rfl (fun hg => sP 39 rfl hg (qL u3)) (gN ⟨rfl, rfl⟩)) ?_
 refine cP [16, 18, 14, 9] ?_
 refine cS 20 (fun _ _ _ _ _ => g_callg (xs := [.tmp 38, .tmp 40]) rfl (fun hg => c310 lo st w1 w3 w4) (gN ⟨rfl, rfl⟩)) ?_
 refine cP [14, 19, 9] ?_
 refine cS 21 (fun _ _ _ _ _ => sg rfl (fun hg => sP 41 rfl hg (sP 36 rfl hg q_neq)) (gN ⟨rfl, rfl⟩)) ?_
 refine cP [9, 20, 5] ?_
 refine cS 22 (fun _ _ _ _ _ => sg rfl (fun hg => sP 31 rfl hg q_or) (gN ⟨rfl, rfl⟩)) ?_
 refine cP [5, 21] ?_
 refine cS 23 (fun _ _ _ _ _ => vq rfl q_and (gN ⟨rfl, rfl⟩)) ?_
 refine Z109 ?_;refine Z316 ?_
 refine gC ?_ ?_ <;> intro hb2
 ·
  exfalso
  rw [w7] at hb2
  simp at hb2
  exact w4 hb2.2
 refine Z110 ?_;refine Z233 ?_;refine Z14 ?_;refine Z376 ?_
 refine gL (xs := [.tmp 46]) rfl (c306 lo) ?_
 refine Z423 ?_;refine Z191 ?_
 refine sg rfl (fun hg => sP 50 rfl hg (qL u3)) ?_
 refine g_callg (xs := [.tmp 51]) rfl (fun hg => c306 hi) ?_
 refine sg rfl (fun hg => sP 52 rfl hg q_not) ?_
 refine Z333 ?_
 refine gC ?_ ?_ <;> intro hb3
 ·
  exfalso
  rw [within_iff.2 w1, within_iff.2 w2] at hb3
  cases hb3
 refine Z46 ?_;refine Z320 ?_
 exact ⟨rfl, rfl⟩
set_option maxHeartbeats 1000000 in
theorem c194 (lo hi st : Int) (hgd : Good lo hi st) : Pf Tryz.prog 194 [.agg [.int .i64 lo, .int .i64 hi, .int .i64 st]] (.d (.int .i64 (sizeS lo hi st))) := by
 refine pf_body (rvs := [.tmp 2]) [(0, .d (.agg [.int .i64 lo, .int .i64 hi, .int .i64 st]))] Tryz.func194 Tryz.ntmps194 Tryz.results194 (fun S0 O0 w0 m0 hm0 => ?_)
 refine Z424 ?_;refine Z328 ?_;refine Z69 ?_
 refine gL (xs := [.tmp 3]) rfl (c257 lo hi st hgd) ?_
 refine Z56 ?_;refine Z0 ?_
 refine sg rfl (fun hg => qG (by exact sz199) u199 rfl) ?_
 refine g_callg (xs := [.tmp 7]) rfl (fun hg => c258 lo hi st) ?_
 refine Z333 ?_
 refine gC ?_ ?_ <;> intro hb0
 ·
  have he : lo = 1 ∧ hi = 0 ∧ st = 1 := by
   simp at hb0
   exact ⟨hb0.1.1, hb0.1.2, hb0.2⟩
  refine Z375 ?_
  exact ⟨by obtain ⟨rfl, rfl, rfl⟩ := he; rfl, rfl⟩
 have hne : ¬ (lo = 1 ∧ hi = 0 ∧ st = 1) := fun h => by
  rw [decide_eq_true h.1, decide_eq_true h.2.1, decide_eq_true h.2.2] at hb0
  cases hb0
 obtain ⟨a, d, c, hg⟩ := good_cases hgd hne
 obtain ⟨w1, w2, w3, w4, w5, w6, w7, w8, w9⟩ := hg.wf
 obtain ⟨e1, e2, e3⟩ := hg.diff
 obtain ⟨_, _, _, _, g5⟩ := hg.facts
 have hc1 := hg.hc
 have hab0 : ab st ≠ 0 := by omega
 refine Z67 ?_
 refine g_cg0 [10, 11, 12, 13, 14, 15, 16, 17, 18, 2] ?_
 refine Z30 ?_;refine Z192 ?_;refine Z172 ?_;refine Z100 ?_;refine Z30 ?_;refine Z193 ?_;refine Z114 ?_;refine Z132 ?_
 refine cP [1, 3] ?_
 refine cS 5 (fun _ _ _ _ _ => vq rfl q_sub (gN ⟨rfl, rfl⟩)) ?_
 refine Z30 ?_
 refine cS 6 (fun _ _ _ _ _ => vq rfl (qG (by exact sz199) u199 rfl) (gN ⟨rfl, rfl⟩)) ?_
 refine Z215 ?_
 refine cS 7 (fun _ _ _ _ _ => gL (xs := [.tmp 15]) rfl (c259 lo hi st w3) (gN ⟨rfl, rfl⟩)) ?_
 refine cP [4, 6] ?_
 refine cS 8 (fun _ _ _ _ _ => vq rfl (q_quo hab0 rfl) (gN ⟨rfl, rfl⟩)) ?_
 refine Z204 ?_
 refine cS 9 (fun _ _ _ _ _ => vq rfl (q_add (hw := rfl)) (gN ⟨rfl, rfl⟩)) ?_
 refine cP [8, 6, 0, 1, 2, 3, 4, 5, 6, 7, 8] ?_
 refine cS 10 (fun _ _ _ _ _ => vq rfl qA (gN ⟨rfl, rfl⟩)) ?_
 refine Z109 ?_;refine Z279 ?_;refine Z4 ?_
 exact ⟨by rw [sizeS, hg.check, if_neg (by decide), hg.series, e1, hg.hst, Int.mul_tdiv_cancel_left _ (by rw [← hg.hst]; exact hab0)]; show PV.d (.int .i64 (W (W (c - 1) + 1))) = PV.d (.int .i64 c); rw [W_id (n := c - 1) (by omega) (by omega), W_id (by omega) (by omega), show c - 1 + 1 = c from by omega], rfl⟩
end
end Go.Proofs.YtklkbfpjimeaoaaGreat
