import Derived.Test.YtklkbfpjimeaoaaGreatM25
import Derived.Test.YtklkbfpjimeaoaaGreatM24
/- Contracts of functions. Conditions: none. -/
set_option linter.unusedSimpArgs false
set_option linter.unusedVariables false
set_option maxRecDepth 20000
namespace Go.Proofs.YtklkbfpjimeaoaaGreat
open Go Go.Proofs.YtklkbfpjimeaoaaGreat.E
section
variable {lo hi st d : Int}
theorem GR.size {a c : Int} (h : GR lo hi st a d c) : sizeS lo hi st = c := by
 rw [sizeS, h.check, if_neg (by decide), h.series]
theorem GR.nth {a c k : Int} (h : GR lo hi st a d c) (hk : 0 ≤ k ∧ k ≤ c - 1) : (-1000000 ≤ a + k * d ∧ a + k * d ≤ 1000000) ∧ -2000000 ≤ k * d ∧ k * d ≤ 2000000 := by
 have hl := h.hl
 have ha := h.ha
 have hd0 := h.hd0
 rw [Int.mul_comm k d]
 rcases Int.lt_or_lt_of_ne hd0 with hd | hd
 · have e1 := Int.mul_le_mul_of_nonneg_left hk.2 (show 0 ≤ -d by omega)
   have e2 := Int.mul_nonneg (show 0 ≤ -d by omega) hk.1
   simp only [Int.neg_mul] at e1 e2
   omega
 · have e1 := Int.mul_le_mul_of_nonneg_left hk.2 (show 0 ≤ d by omega)
   have e2 := Int.mul_nonneg (show 0 ≤ d by omega) hk.1
   omega
theorem Good.size (h : Good lo hi st) : 0 ≤ sizeS lo hi st ∧ sizeS lo hi st ≤ 2000001 ∧ (sizeS lo hi st = 0 → lo = 1 ∧ hi = 0 ∧ st = 1) := by
 rcases h with ⟨rfl, rfl, rfl⟩ | ⟨a, d, c, hg⟩
 · decide
 · obtain ⟨_, _, _, _, g5⟩ := hg.facts
   have := hg.hc
   rw [hg.size]
   omega
variable {n : Int}
theorem by_zero (h : Good lo hi st) (h0 : n = 0) : byS lo hi st n = ((0, 0, 0), 1) := by
 rcases h with ⟨rfl, rfl, rfl⟩ | ⟨a, d, c, hg⟩
 · rw [empty_by, if_pos h0]
 · exact (by_far hg).1 h0
theorem by_out (h : Good lo hi st) (h0 : n ≠ 0) (hn : withinB n = false) : byS lo hi st n = ((0, 0, 0), 4) := by
 rcases h with ⟨rfl, rfl, rfl⟩ | ⟨a, d, c, hg⟩
 · rw [empty_by, if_neg h0, if_pos hn]
 · exact (by_far hg).2 h0 hn
theorem ct_out (h : Good lo hi st) (hn : n > sizeS lo hi st ∨ n < -sizeS lo hi st) : countS lo hi st n = ((0, 0, 0), 5) := by
 rcases h with ⟨rfl, rfl, rfl⟩ | ⟨a, d, c, hg⟩
 · have : sizeS 1 0 1 = 0 := by decide
   rw [empty_count, if_neg (by omega)]
 · rw [hg.size] at hn
   exact count_far hg hn
theorem ct_zero (h : Good lo hi st) (hn : n = 0) : countS lo hi st n = ((1, 0, 1), 0) := by
 subst hn
 rcases h with ⟨rfl, rfl, rfl⟩ | ⟨a, d, c, hg⟩
 · rw [empty_count, if_pos rfl]
 · exact count_zero hg
theorem ab_le {m : Int} (h : -m ≤ d) (h' : d ≤ m) : 0 ≤ ab d ∧ ab d ≤ m := by unfold ab; split <;> omega
theorem ab_prod (h : -2000000 ≤ d ∧ d ≤ 2000000) (hn : -1000000 ≤ n ∧ n ≤ 1000000) : 0 ≤ ab d * ab n ∧ ab d * ab n ≤ 2000000000000 := by
 obtain ⟨a1, a2⟩ := ab_le h.1 h.2
 obtain ⟨b1, b2⟩ := ab_le hn.1 hn.2
 have h1 := Int.mul_nonneg a1 b1
 have h2 := Int.mul_le_mul a2 b2 b1 (by omega)
 omega
set_option maxHeartbeats 1000000 in
theorem c309 (lo hi st a d c k : Int) (hg : GR lo hi st a d c) (hk : 0 ≤ k ∧ k ≤ c - 1) : Pf Tryz.prog 309 [.agg [.int .i64 lo, .int .i64 hi, .int .i64 st], .int .i64 k] (.tup [.d (.int .i64 (a + k * d)), .d (.int .i64 0)]) := by
 refine pf_body (rvs := [.tmp 4, .tmp 5]) [(0, .d (.agg [.int .i64 lo, .int .i64 hi, .int .i64 st])), (1, .d (.int .i64 k))] Tryz.func309 Tryz.ntmps309 Tryz.results309 (fun S0 O0 w0 m0 hm0 => ?_)
 refine Z424 ?_
 obtain ⟨w1, w2, w3, w4, w5, w6, w7, w8, w9⟩ := hg.wf
 obtain ⟨n1, n2, n3⟩ := hg.nth hk
 have hgd : Good lo hi st := .inr ⟨a, d, c, hg⟩
 have hlo := hg.hlo
 have hhi := hg.hhi
 have hst := hg.hst
 refine Z1 ?_;refine Z328 ?_;refine Z69 ?_
 refine gL (xs := [.tmp 7]) rfl (c257 lo hi st hgd) ?_
 refine Z378 ?_;refine Z350 ?_
 refine gC ?_ ?_ <;> intro hb0
 · exact Y17
 refine Z418 ?_;refine Z34 ?_;refine Z332 ?_
 refine sg rfl (fun hg => qG (by exact sz199) u199 rfl) ?_
 refine g_callg (xs := [.tmp 16]) rfl (fun hg => c194 lo hi st hgd) ?_
 refine sg rfl (fun hg => sP 17 rfl hg (sP 15 rfl hg q_geq)) ?_
 refine Z333 ?_
 refine gC ?_ ?_ <;> intro hb1
 ·
  exfalso
  rw [hg.size] at hb1
  simp at hb1
  omega
 refine Z110 ?_
 refine gP [0, 1, 2, 4, 5, 6] ?_
 refine Z14 ?_;refine Z376 ?_;refine Z346 ?_
 refine gC ?_ ?_ <;> intro hb2
 ·
  refine Z3 ?_;refine Z376 ?_;refine Z0 ?_;refine Z376 ?_;refine Z303 ?_;refine Z177 ?_;refine Z1 ?_;refine Z327 ?_;refine Z71 ?_
  exact ⟨by have hd := oR hb2; rw [if_pos (by omega)] at hhi; show PV.tup [.d (.int .i64 (W (hi + W (k * st)))), .d (.int .i64 0)] = _; rw [hst, W_id (n := k * d) (by omega) (by omega), W_id (by omega) (by omega), hhi], rfl⟩
 refine Z46 ?_;refine Z376 ?_;refine Z0 ?_;refine Z376 ?_;refine Z303 ?_;refine Z177 ?_;refine Z1 ?_;refine Z317 ?_;refine Z71 ?_
 exact ⟨by have hd := of_decide_eq_false hb2; rw [if_neg (by omega)] at hlo; show PV.tup [.d (.int .i64 (W (lo + W (k * st)))), .d (.int .i64 0)] = _; rw [hst, W_id (n := k * d) (by omega) (by omega), W_id (by omega) (by omega), hlo], rfl⟩
set_option maxHeartbeats 1000000 in
theorem c254 (lo hi : Int) : Pf Tryz.prog 254 [.int .i64 lo, .int .i64 hi, .int .i64 1] (.tup [.d (.agg [.int .i64 (ofS lo hi).1.1, .int .i64 (ofS lo hi).1.2.1, .int .i64 (ofS lo hi).1.2.2]), .d (.int .i64 (ofS lo hi).2)]) := by
 refine pf_body (rvs := [.cell 6 199, .tmp 7]) [(0, .d (.int .i64 lo)), (1, .d (.int .i64 hi)), (2, .d (.int .i64 1))] Tryz.func254 Tryz.ntmps254 Tryz.results254 (fun S0 O0 w0 m0 hm0 => ?_)
 refine Z3 ?_;refine Z101 ?_;refine Z373 ?_;refine Z407 ?_
 refine gC ?_ ?_ <;> intro hb0
 · exact Y17
 refine Z418 ?_
 refine gL (xs := [.tmp 11]) rfl (c306 lo) ?_
 refine Z52 ?_;refine Z332 ?_
 refine g_callg (xs := [.tmp 15]) rfl (fun hg => c306 hi) ?_
 refine sg rfl (fun hg => sP 16 rfl hg q_not) ?_
 refine Z28 ?_;refine Z332 ?_
 refine g_callg (xs := [.tmp 20]) rfl (fun hg => c306 1) ?_
 refine sg rfl (fun hg => sP 21 rfl hg q_not) ?_
 refine Z333 ?_
 refine gC ?_ ?_ <;> intro hb1
 ·
  have hf : withinB lo = false ∨ withinB hi = false := by
   have h := hb1
   replace h : ((!withinB lo || !withinB hi) || !withinB 1) = true := h
   simpa [show withinB 1 = true from rfl] using h
  refine Z51 ?_
  refine gP [0, 1, 2, 6, 7] ?_
  refine Z14 ?_;refine Z384 ?_;refine Z397 ?_
  exact ⟨by rw [of_far hf], rfl⟩
 have h := hb1
 replace h : ((!withinB lo || !withinB hi) || !withinB 1) = false := h
 have hwl : withinB lo = true := by simp at h; exact h.1.1
 have hwh : withinB hi = true := by simp at h; exact h.1.2
 have g1 := within_iff.1 hwl
 have g2 := within_iff.1 hwh
 refine Z110 ?_
 refine gP [0, 1, 2, 6, 7] ?_
 refine Z402 ?_;refine Z94 ?_;refine Z5 ?_
 refine gC ?_ ?_ <;> intro hb2
 ·
  refine Z3 ?_
  refine gL (xs := []) rfl (c307) ?_
  refine Z47 ?_;refine Z397 ?_
  exact ⟨by rw [of_empty hwl hwh (oR hb2)], rfl⟩
 refine Z418 ?_;refine Z94 ?_;refine Z5 ?_
 refine gC ?_ ?_ <;> intro hb3
 ·
  refine Z420 ?_;refine Z321 ?_
  refine vq rfl (q_sub (hw := (W_id (by omega) (by omega)))) ?_
  refine Z0 ?_
  refine vq rfl (q_quo (show (1 : Int) ≠ 0 by decide) (show IntKind.i64.wrap ((hi - lo).tdiv 1) = hi - lo from by rw [Int.tdiv_one]; exact W_id (by omega) (by omega))) ?_
  refine Z0 ?_
  refine vq rfl (q_mul (hw := (show IntKind.i64.wrap ((hi - lo) * 1) = hi - lo from by rw [Int.mul_one]; exact W_id (by omega) (by omega)))) ?_
  refine vq rfl (q_add (hw := (show IntKind.i64.wrap (lo + (hi - lo)) = hi from by rw [show lo + (hi - lo) = hi from by omega]; exact W_id (by omega) (by omega)))) ?_
  refine Z0 ?_
  refine gL (xs := [.tmp 31, .tmp 40, .tmp 41, .const (.bool false)]) rfl (c308 _ _ _ _) ?_
  refine Z47 ?_;refine Z397 ?_
  exact ⟨by rw [(of_form hwl hwh (by have := of_decide_eq_false hb2; omega)).1], rfl⟩
 exact Y15
set_option maxHeartbeats 4000000 in
theorem c255 (lo hi st n : Int) (hgd : Good lo hi st) : Pf Tryz.prog 255 [.agg [.int .i64 lo, .int .i64 hi, .int .i64 st], .int .i64 n] (.tup [.d (.agg [.int .i64 (byS lo hi st n).1.1, .int .i64 (byS lo hi st n).1.2.1, .int .i64 (byS lo hi st n).1.2.2]), .d (.int .i64 (byS lo hi st n).2)]) := by
 refine pf_body (rvs := [.cell 4 199, .tmp 5]) [(0, .d (.agg [.int .i64 lo, .int .i64 hi, .int .i64 st])), (1, .d (.int .i64 n))] Tryz.func255 Tryz.ntmps255 Tryz.results255 (fun S0 O0 w0 m0 hm0 => ?_)
 refine Z424 ?_;refine Z101 ?_;refine Z328 ?_;refine Z69 ?_
 refine gL (xs := [.tmp 14]) rfl (c257 lo hi st hgd) ?_
 refine Z378 ?_;refine Z350 ?_
 refine gC ?_ ?_ <;> intro hb0
 · exact Y17
 refine Z418 ?_;refine Z407 ?_
 refine gC ?_ ?_ <;> intro hb1
 ·
  have h0 : n = 0 := by simpa using hb1
  refine Z3 ?_;refine Z384 ?_;refine Z397 ?_
  exact ⟨by rw [by_zero hgd h0], rfl⟩
 have hn0 : n ≠ 0 := by simpa using hb1
 refine Z418 ?_
 refine gL (xs := [.tmp 23]) rfl (c306 n) ?_
 refine Z381 ?_
 refine gC ?_ ?_ <;> intro hb2
 ·
  have hw0 : withinB n = false := by simpa using hb2
  refine Z51 ?_;refine Z198 ?_;refine Z14 ?_;refine Z384 ?_;refine Z397 ?_
  exact ⟨by rw [by_out hgd hn0 hw0], rfl⟩
 have hw0 : withinB n = true := by simpa using hb2
 have hw1 := within_iff.1 hw0
 refine Z67 ?_;refine Z198 ?_;refine Z14 ?_;refine Z69 ?_
 refine gL (xs := [.tmp 27]) rfl (c194 lo hi st hgd) ?_
 refine Z373 ?_;refine Z407 ?_
 refine gC ?_ ?_ <;> intro hb3
 ·
  have he := (Good.size hgd).2.2 (by simpa using hb3)
  refine Z3 ?_
  refine gL (xs := []) rfl (c307) ?_
  refine Z47 ?_;refine Z397 ?_
  exact ⟨by obtain ⟨rfl, rfl, rfl⟩ := he; rw [empty_by, if_neg hn0, if_neg (by rw [hw0]; decide)], rfl⟩
 have hne : ¬ (lo = 1 ∧ hi = 0 ∧ st = 1) := fun h => by
  obtain ⟨rfl, rfl, rfl⟩ := h
  exact Y15
 obtain ⟨a, d, c, hg⟩ := good_cases hgd (fun h => hne h)
 obtain ⟨w1, w2, w3, w4, w5, w6, w7, w8, w9⟩ := hg.wf
 obtain ⟨_, _, g3, _, g5⟩ := hg.facts
 have hc := hg.hc
 have hs := hg.size
 rw [hs]
 refine Z434 ?_;refine Z1 ?_;refine Z319 ?_
 refine G_seq_cut (α := Int × Int) (fun x => ⟨[(1, .d (.int .i64 n)), (2, .d (.ptr (.agg [.int .i64 lo, .int .i64 hi, .int .i64 st]))), (4, .ref 0 0), (5, .d (.int .i64 0)), (7, .d (.int .i64 c)), (8, .d (.int .i64 x.1)), (9, .d (.int .i64 x.2))], [[.d (.int .i64 0), .d (.int .i64 0), .d (.int .i64 0)]]⟩) (fun x => x.1 = ab n ∧ x.2 = if n < 0 then c - 1 else 0) (fun Q' hn he hr => ?_) (fun x hx => ?_)
 ·
  refine Z352 ?_;refine Z346 ?_
  refine gC ?_ ?_ <;> intro hb4
  ·
   refine Z335 ?_
   refine vq rfl ((q_neg (hr := (show IntKind.i64.wrap (0 - n) = -n from by rw [show (0 : Int) - n = -n from by omega]; exact W_id (by omega) (by omega))))) ?_
   refine Z0 ?_;refine Z214 ?_;refine Z1 ?_;refine Z331 ?_
   refine hn _ (-n, c - 1) ⟨by rw [ab, if_pos (oR hb4)], by rw [if_pos (oR hb4)]⟩ le_of
  refine Z205 ?_
  refine hn _ (n, 0) ⟨by rw [ab, if_neg (of_decide_eq_false hb4)], by rw [if_neg (of_decide_eq_false hb4)]⟩ le_of
 obtain ⟨m, f⟩ := x
 obtain ⟨hm, hf⟩ := hx
 replace hm : m = ab n := hm
 replace hf : f = if n < 0 then c - 1 else 0 := hf
 have hm0 := ab_pos hn0
 have hm1 := (ab_le (m := 1000000) (by omega) hw1.2 : 0 ≤ ab n ∧ ab n ≤ 1000000).2
 obtain ⟨q, hq⟩ : ∃ q, (c - 1) / m = q := ⟨_, rfl⟩
 obtain ⟨q0, q1, q2, _⟩ := div_facts (k := c - 1) (m := m) (by omega) (by omega)
 rw [hq] at q0 q1 q2
 have hqm : q * m ≤ c - 1 := by rw [Int.mul_comm]; exact q1
 have hqm0 : 0 ≤ q * m := Int.mul_nonneg q0 (by omega)
 have hfb : 0 ≤ f ∧ f ≤ c - 1 := by rw [hf]; split <;> omega
 have h309 := c309 lo hi st a d c f hg hfb
 have hfst : a + f * d = byFst a d c n := by
  rw [hf]; unfold byFst
  split
  · rfl
  · rw [Int.zero_mul, Int.add_zero]
 rw [hfst] at h309
 refine Z352 ?_;refine Z214 ?_;refine Z0 ?_
 refine vq rfl (q_quo (show m ≠ 0 by omega) (show IntKind.i64.wrap ((c - 1).tdiv m) = q from by rw [Int.tdiv_eq_ediv_of_nonneg (by omega), hq]; exact W_id (by omega) (by omega))) ?_
 refine Z25 ?_;refine Z372 ?_;refine Z198 ?_;refine Z14 ?_;refine Z69 ?_;refine Z0 ?_
 refine gL (xs := [.tmp 45, .tmp 46]) rfl (h309) ?_
 refine Z389 ?_;refine Z378 ?_;refine Z319 ?_
 refine G_seq_cut (α := Int) (fun y => ⟨[(2, .d (.ptr (.agg [.int .i64 lo, .int .i64 hi, .int .i64 st]))), (4, .ref 0 0), (5, .d (.int .i64 0)), (8, .d (.int .i64 m)), (11, .d (.int .i64 (byFst a d c n))), (13, .d (.int .i64 y))], [[.d (.int .i64 0), .d (.int .i64 0), .d (.int .i64 0)]]⟩) (fun y => y = byLst a d c n) (fun Q' hn he hr => ?_) (fun y hy => ?_)
 ·
  refine Z352 ?_;refine Z94 ?_;refine Z5 ?_
  refine gC ?_ ?_ <;> intro hb5
  ·
   have hn1 := oR hb5
   have hmn : m = n := by rw [hm, ab, if_neg (by omega)]
   have h3 := c309 lo hi st a d c (q * m) hg ⟨hqm0, hqm⟩
   rw [show a + q * m * d = byLst a d c n from by rw [byLst, if_neg (by omega), ← hq, hmn]] at h3
   refine Z198 ?_;refine Z14 ?_;refine Z69 ?_;refine Z0 ?_
   refine vq rfl (q_sub (hw := (show IntKind.i64.wrap (q + 1 - 1) = q from by rw [show q + 1 - 1 = q from by omega]; exact W_id (by omega) (by omega)))) ?_
   refine Z0 ?_
   refine vq rfl (q_mul (hw := (show IntKind.i64.wrap (q * m) = q * m from W_id (by omega) (by omega)))) ?_
   refine gL (xs := [.tmp 54, .tmp 58]) rfl (h3) ?_
   refine Z340 ?_;refine Z331 ?_
   refine hn _ (byLst a d c n) rfl le_of
  have hn1 := of_decide_eq_false hb5
  have hmn : m = -n := by rw [hm, ab, if_pos (by omega)]
  have h3 := c309 lo hi st a d c (c - 1 - q * m) hg ⟨by omega, by omega⟩
  rw [show a + (c - 1 - q * m) * d = byLst a d c n from by rw [byLst, if_pos (by omega), ← hq, hmn]] at h3
  refine Z198 ?_;refine Z14 ?_;refine Z69 ?_;refine Z0 ?_;refine Z214 ?_;refine Z0 ?_
  refine vq rfl (q_sub (hw := (show IntKind.i64.wrap (q + 1 - 1) = q from by rw [show q + 1 - 1 = q from by omega]; exact W_id (by omega) (by omega)))) ?_
  refine Z0 ?_
  refine vq rfl (q_mul (hw := (show IntKind.i64.wrap (q * m) = q * m from W_id (by omega) (by omega)))) ?_
  refine Z214 ?_
  refine gL (xs := [.tmp 63, .tmp 70]) rfl (h3) ?_
  refine Z340 ?_;refine Z331 ?_
  refine hn _ (byLst a d c n) rfl le_of
 obtain ⟨p1, p2⟩ := ab_prod g3 hw1
 refine Z51 ?_;refine Z198 ?_;refine Z402 ?_
 refine sv rfl (Yld_pure rfl (oR rfl) q_min) ?_
 refine Z321 ?_;refine Z212 ?_;refine Z69 ?_
 refine gL (xs := [.tmp 80]) rfl (c259 lo hi st w3) ?_
 refine Z0 ?_
 refine vq rfl (q_mul (hw := (show IntKind.i64.wrap (ab st * m) = ab d * ab n from by rw [hg.hst, hm]; exact W_id (by omega) (by omega)))) ?_
 refine Z321 ?_;refine Z34 ?_
 refine gL (xs := [.tmp 76, .tmp 79, .tmp 83, .tmp 86]) rfl (c308 _ _ _ _) ?_
 refine Z47 ?_;refine Z317 ?_;refine Z53 ?_
 exact ⟨by rw [(by_form hg hw0 hn0).1, hy]; rfl, rfl⟩
set_option maxHeartbeats 4000000 in
theorem c256 (lo hi st n : Int) (hgd : Good lo hi st) : Pf Tryz.prog 256 [.agg [.int .i64 lo, .int .i64 hi, .int .i64 st], .int .i64 n] (.tup [.d (.agg [.int .i64 (countS lo hi st n).1.1, .int .i64 (countS lo hi st n).1.2.1, .int .i64 (countS lo hi st n).1.2.2]), .d (.int .i64 (countS lo hi st n).2)]) := by
 refine pf_body (rvs := [.cell 4 199, .tmp 5]) [(0, .d (.agg [.int .i64 lo, .int .i64 hi, .int .i64 st])), (1, .d (.int .i64 n))] Tryz.func256 Tryz.ntmps256 Tryz.results256 (fun S0 O0 w0 m0 hm0 => ?_)
 refine Z424 ?_;refine Z101 ?_;refine Z328 ?_;refine Z69 ?_
 refine gL (xs := [.tmp 14]) rfl (c257 lo hi st hgd) ?_
 refine Z378 ?_;refine Z350 ?_
 refine gC ?_ ?_ <;> intro hb0
 · exact Y17
 refine Z46 ?_;refine Z69 ?_
 refine gL (xs := [.tmp 20]) rfl (c194 lo hi st hgd) ?_
 refine Z1 ?_
 obtain ⟨z1, z2, z3⟩ := Good.size hgd
 refine Z11 ?_;refine Z321 ?_;refine Z94 ?_;refine Z332 ?_;refine Z18 ?_
 refine sg rfl (fun hg => sP 27 rfl hg (q_neg (hr := (show IntKind.i64.wrap (0 - sizeS lo hi st) = -sizeS lo hi st from by rw [show (0 : Int) - sizeS lo hi st = -sizeS lo hi st from by omega]; exact W_id (by omega) (by omega))))) ?_
 refine sg rfl (fun hg => sP 28 rfl hg (sP 26 rfl hg q_lss)) ?_
 refine Z333 ?_
 refine gC ?_ ?_ <;> intro hb1
 ·
  have ho : n > sizeS lo hi st ∨ n < -sizeS lo hi st := by
   have h := hb1
   rcases Bool.or_eq_true_iff.1 h with h | h
   · exact .inl (oR h)
   · exact .inr (oR h)
  refine Z51 ?_
  refine gP [0, 1, 2, 4, 5, 6, 7, 8, 9, 10, 12] ?_
  refine Z14 ?_;refine Z384 ?_;refine Z397 ?_
  exact ⟨by rw [ct_out hgd ho], rfl⟩
 have ho : ¬ n > sizeS lo hi st ∧ ¬ n < -sizeS lo hi st := by
  have h := hb1
  obtain ⟨h1, h2⟩ := Bool.or_eq_false_iff.1 h
  exact ⟨of_decide_eq_false h1, of_decide_eq_false h2⟩
 refine Z110 ?_
 refine gP [0, 1, 2, 4, 5, 6, 7, 8, 9, 10, 12] ?_
 refine Z335 ?_;refine Z407 ?_
 refine gC ?_ ?_ <;> intro hb2
 ·
  have h0 : n = 0 := by simpa using hb2
  refine Z3 ?_
  refine gL (xs := []) rfl (c307) ?_
  refine Z47 ?_;refine Z397 ?_
  exact ⟨by rw [ct_zero hgd h0], rfl⟩
 have hn0 : n ≠ 0 := by simpa using hb2
 have hne : ¬ (lo = 1 ∧ hi = 0 ∧ st = 1) := fun h => by
  obtain ⟨rfl, rfl, rfl⟩ := h
  have : sizeS 1 0 1 = 0 := by decide
  omega
 obtain ⟨a, d, c, hg⟩ := good_cases hgd (fun h => hne h)
 obtain ⟨w1, w2, w3, w4, w5, w6, w7, w8, w9⟩ := hg.wf
 obtain ⟨_, _, g3, _, g5⟩ := hg.facts
 have hc := hg.hc
 have hs := hg.size
 rw [hs]
 rw [hs] at ho
 refine Z434 ?_;refine Z214 ?_;refine Z1 ?_;refine Z319 ?_
 refine G_seq_cut (α := Int × Int) (fun x => ⟨[(2, .d (.ptr (.agg [.int .i64 lo, .int .i64 hi, .int .i64 st]))), (4, .ref 0 0), (5, .d (.int .i64 0)), (8, .d (.int .i64 x.1)), (9, .d (.int .i64 x.2))], [[.d (.int .i64 0), .d (.int .i64 0), .d (.int .i64 0)]]⟩) (fun x => (0 ≤ x.1 ∧ x.1 ≤ c - 1) ∧ (0 ≤ x.2 ∧ x.2 ≤ c - 1) ∧ a + x.1 * d = ctFst a d c n ∧ a + x.2 * d = ctLst a d c n) (fun Q' hn he hr => ?_) (fun x hx => ?_)
 ·
  refine Z352 ?_;refine Z346 ?_
  refine gC ?_ ?_ <;> intro hb3
  ·
   refine Z402 ?_;refine Z341 ?_;refine Z214 ?_;refine Z1 ?_;refine Z331 ?_
   refine hn _ (c + n, c - 1) ⟨by have := oR hb3; dsimp only; omega, by dsimp only; omega, by rw [ctFst, if_pos (oR hb3)], by rw [ctLst, if_pos (oR hb3)]⟩ le_of
  refine Z205 ?_
  refine hn _ (0, n - 1) ⟨by dsimp only; omega, by have := of_decide_eq_false hb3; dsimp only; omega, by rw [ctFst, if_neg (of_decide_eq_false hb3)]; show a + 0 * d = a; rw [Int.zero_mul, Int.add_zero], by rw [ctLst, if_neg (of_decide_eq_false hb3)]⟩ le_of
 obtain ⟨f, t⟩ := x
 obtain ⟨hx1, hx2, hx3, hx4⟩ := hx
 have h1 := c309 lo hi st a d c f hg hx1
 rw [hx3] at h1
 have h2 := c309 lo hi st a d c t hg hx2
 rw [hx4] at h2
 refine Z3 ?_;refine Z69 ?_;refine Z0 ?_
 refine gL (xs := [.tmp 45, .tmp 46]) rfl (h1) ?_
 refine Z389 ?_;refine Z372 ?_
 refine gP [0, 1, 2, 4, 5, 6, 7, 8, 9, 10, 12] ?_
 refine Z14 ?_;refine Z69 ?_;refine Z0 ?_
 refine gL (xs := [.tmp 51, .tmp 52]) rfl (h2) ?_
 refine Z389 ?_;refine Z372 ?_
 refine g_cg [56, 57, 58, 59, 60, 61, 62, 63, 64, 65, 66, 67, 5] (fun bq => [cond (bq 12) [.d (.int .i64 (normR (mn (ctFst a d c n) (ctLst a d c n)) (mx (ctFst a d c n) (ctLst a d c n)) (ab st) (decide (st < 0))).1), .d (.int .i64 (normR (mn (ctFst a d c n) (ctLst a d c n)) (mx (ctFst a d c n) (ctLst a d c n)) (ab st) (decide (st < 0))).2.1), .d (.int .i64 (normR (mn (ctFst a d c n) (ctLst a d c n)) (mx (ctFst a d c n) (ctLst a d c n)) (ab st) (decide (st < 0))).2.2)] [.d (.int .i64 0), .d (.int .i64 0), .d (.int .i64 0)]]) rfl ?_
 refine Z437 ?_;refine Z30 ?_;refine Z122 ?_
 refine cP [0, 1] ?_
 refine cS 3 (fun _ _ _ _ _ => sv rfl (Yld_pure rfl (oR rfl) q_min) (gN ⟨rfl, rfl⟩)) ?_
 refine Z30 ?_;refine Z226 ?_;refine Z30 ?_;refine Z74 ?_
 refine cP [3, 4] ?_
 refine cS 6 (fun _ _ _ _ _ => sv rfl (Yld_pure rfl (oR rfl) q_max) (gN ⟨rfl, rfl⟩)) ?_
 refine Z30 ?_
 refine cS 7 (fun _ _ _ _ _ => vq rfl (qG (by exact sz199) u199 rfl) (gN ⟨rfl, rfl⟩)) ?_
 refine Z162 ?_
 refine cS 8 (fun _ _ _ _ _ => gL (xs := [.tmp 62]) rfl (c259 lo hi st w3) (gN ⟨rfl, rfl⟩)) ?_
 refine Z30 ?_
 refine cS 9 (fun _ _ _ _ _ => vq rfl (qF u199 rfl sz3) (gN ⟨rfl, rfl⟩)) ?_
 refine cP [8] ?_
 refine cS 10 (fun _ _ _ _ _ => vq rfl (qL u3) (gN ⟨rfl, rfl⟩)) ?_
 refine Z274 ?_
 refine cS 11 (fun _ _ _ _ _ => vq rfl q_lss (gN ⟨rfl, rfl⟩)) ?_
 refine cP [2, 5, 7, 10, 7] ?_
 refine cS 12 (fun _ _ _ _ _ => gL (xs := [.tmp 58, .tmp 61, .tmp 63, .tmp 66]) rfl (c308 _ _ _ _) (gN ⟨rfl, rfl⟩)) ?_
 refine cP [11, 11, 0, 1, 2, 3, 4, 5, 6, 7, 8, 9, 10, 11] ?_
 refine cg_act 13 (fun bq rest hc1 hc2 hc3 => by
  have e2 : upd bq 12 12 = true := rfl
  simp only [hc1, cond_false]
  refine Z47 ?_
  exact (gN ⟨rfl, by rw [e2]; rfl⟩)) ?_
 refine cP [12, 0, 1, 2, 3, 4, 5, 6, 7, 8, 9, 10, 11, 12] ?_
 refine cS 14 (fun _ _ _ _ _ => vq rfl qA (gN ⟨rfl, rfl⟩)) ?_
 refine cg_done (mem'' := [[.d (.int .i64 (normR (mn (ctFst a d c n) (ctLst a d c n)) (mx (ctFst a d c n) (ctLst a d c n)) (ab st) (decide (st < 0))).1), .d (.int .i64 (normR (mn (ctFst a d c n) (ctLst a d c n)) (mx (ctFst a d c n) (ctLst a d c n)) (ab st) (decide (st < 0))).2.1), .d (.int .i64 (normR (mn (ctFst a d c n) (ctLst a d c n)) (mx (ctFst a d c n) (ctLst a d c n)) (ab st) (decide (st < 0))).2.2)]]) ?_
 refine Z279 ?_;refine Z53 ?_
 exact ⟨by rw [(count_form hg ho.1 ho.2 hn0).1, hg.hst], rfl⟩
end
section
set_option maxHeartbeats 4000000 in
theorem c109n : ∀ (n : Nat) (t : Tr), t.size ≤ n → t.Lens → Pf Tryz.prog 109 [t.d] (.d t.d) := by
 intro n
 induction n with
 | zero => intro t h; exact absurd t.size_pos (by omega)
 | succ n ih =>
  intro t hsz hok
  obtain ⟨op, name, num, ks⟩ := t
  have hkd : ∀ k ∈ ks, k.size ≤ n := fun k hk => by
   have := Tr.size_mem hk
   rw [Tr.size] at hsz
   omega
  rw [Tr.d_mk]
  cases hok with | mk h4 h5 =>
  refine pf_body (rvs := [.cell 2 27]) [(0, .d (.agg [.int .i64 op, .str name, .int .i64 num, .sl (ks.map Tr.d)]))] Tryz.func109 Tryz.ntmps109 Tryz.results109 (fun S0 O0 w0 m0 hm0 => ?_)
  refine Z345 ?_;refine Z29 ?_;refine Z7 ?_;refine Z323 ?_;refine Z336 ?_;refine Z323 ?_
  refine vq rfl ((q_buildP pl27 zr27)) ?_
  refine Z348 ?_;refine Z11 ?_;refine Z357 ?_
  refine g_loop (α := Nat) (fun z => ⟨[(4, .d (.int .i64 (z : Nat))), (1, .d (.ptr (.agg [.int .i64 op, .str name, .int .i64 num, .sl (ks.map Tr.d)]))), (3, .ref 1 0), (2, .ref 0 0)], [[.d (.int .i64 0), .d (.str ⟨#[]⟩), .d (.int .i64 0), .nils], [.d (.int .i64 op), .d (.str name), .d (.int .i64 num), .osl 4 ((ks.take z).map Tr.d)]]⟩) (fun z => ks.length - z) (fun z => z ≤ ks.length) 0 (Nat.zero_le _) (fun z hz Q' hn0 he0 hr0 => ?_) (le_of)
  have hll : (ks.take z).length = z := by rw [List.length_take]; omega
  refine Z355 ?_;refine Z428 ?_
  refine gC ?_ ?_ <;> intro hb0
  ·
   have hlt : z < ks.length := by simpa using hb0
   obtain ⟨k, hk⟩ : ∃ k, ks[z]? = some k := ⟨_, gE (by omega)⟩
   have hmem := mG hk
   have hxd := Tr.ds_get hk
   have hxa := hxd
   obtain ⟨kop, knm, knu, kks, hka⟩ := k.d_agg
   rw [hka] at hxa
   refine gK (tN (gS (G_block ?_)))
   refine g_ck [(1, 9), (9, 11)] [19, 20, 21, 22, 23, 24, 25, 26, 27, 28, 29] (fun bq => [[.d (.int .i64 0), .d (.str ⟨#[]⟩), .d (.int .i64 0), .nils], cond (bq 11) [.d (.int .i64 op), .d (.str name), .d (.int .i64 num), .osl 4 ((ks.take z).map Tr.d ++ [.agg [.int .i64 kop, .str knm, .int .i64 knu, .sl (kks.map Tr.d)]])] (cond (bq 1) [.d (.int .i64 op), .d (.str name), .d (.int .i64 num), .d (.sl ((ks.take z).map Tr.d))] [.d (.int .i64 op), .d (.str name), .d (.int .i64 num), .osl 4 ((ks.take z).map Tr.d)])]) rfl ?_
   refine Z81 ?_;refine Z106 ?_;refine Z232 ?_
   refine ck_st 2 (fun bq rest hc1 hc2 hc3 => by
    have h9 := hc3.no 9 1 hc1
    have h11 := hc3.no 11 9 h9
    have e1 : upd bq 1 1 = true := rfl
    have e2 : upd bq 1 11 = false := h11
    simp only [hc1, h11, cond_false]
    refine Z171 ?_
    exact (gN ⟨rfl, by rw [e1, e2]; rfl⟩)) ?_
   refine Z81 ?_
   refine ck_st 3 (fun _ _ _ _ _ => vq rfl (qF u27 rfl sz22) (gN ⟨rfl, rfl⟩)) ?_
   refine Z297 ?_;refine Z262 ?_;refine Z81 ?_;refine Z221 ?_
   refine ck_pre [3, 4] ?_
   refine Z251 ?_
   refine ck_pre [5] ?_
   refine Z230 ?_
   refine ck_pre [6] ?_
   refine ck_st 8 (fun _ _ _ _ _ => gL (xs := [.tmp 25]) rfl ((hka ▸ ih k (hkd k hmem) (h5 k hmem))) (gN ⟨rfl, rfl⟩)) ?_
   refine ck_pre [7] ?_
   refine ck_st 9 (fun _ _ _ _ _ => sv rfl (y_buildSlice (xs := [.tmp 26]) u22 inf27) (gN ⟨rfl, rfl⟩)) ?_
   refine ck_pre [1, 8, 7] ?_
   refine ck_tk 10 20 (fun _ _ _ _ _ => sv rfl (y_append u22 inf27 (hk := by first | exact Tr.ds_cells _ | (intro x hx; simp at hx; subst hx; simp [D.cells])) (hlen := by simp [lim]; omega) (hB := by simp [lim]; omega)) (gN ⟨rfl, rfl⟩)) ?_
   refine ck_pre [0, 2, 3, 4, 5, 6, 7, 8] ?_
   refine ck_st 11 (fun _ _ _ _ _ => sv rfl (y_fieldAt 3 u27 rfl sz22) (gN ⟨rfl, rfl⟩)) ?_
   refine ck_pre [10, 9, 9, 0, 2, 3, 4, 5, 6, 7, 8, 9] ?_
   refine ck_atk 12 28 (fun bq rest hc1 hc2 hc3 => by
    have h9 := hc2 9 dep_in
    have h1 := hc3 9 h9 1 dep_in
    have e1 : upd bq 11 11 = true := rfl
    simp only [hc1, h1, cond_true, cond_false]
    refine Z161 ?_
    exact (gN ⟨rfl, by rw [e1]; rfl⟩)) ?_
   refine ck_done (mem'' := [[.d (.int .i64 0), .d (.str ⟨#[]⟩), .d (.int .i64 0), .nils], [.d (.int .i64 op), .d (.str name), .d (.int .i64 num), .osl 4 ((ks.take z).map Tr.d ++ [.agg [.int .i64 kop, .str knm, .int .i64 knu, .sl (kks.map Tr.d)]])]]) ?_
   refine Z305 ?_;refine Z126 ?_;refine Z14 ?_
   rw [← hka, show (ks.take z).map Tr.d ++ [k.d] = (ks.take (z + 1)).map Tr.d from by rw [List.take_add_one, hk, List.map_append]; rfl]
   refine Z349 ?_
   refine hn0 _ (z + 1) (by omega) (by omega) le_of
  have hge : z = ks.length := by
   have : ¬ (z : Int) < ((ks.map Tr.d).length : Nat) := by simpa using hb0
   rw [List.length_map] at this
   omega
  refine Z347 ?_
  rw [hge, List.take_length]
  refine Z412 ?_;refine Z8 ?_;refine Z102 ?_
  exact ⟨by rfl, rfl⟩
theorem c111 (t : Tr) : Pf Tryz.prog 111 [t.d] (.d (.bool (loopsB t.op t.nu t.kids.length))) := by
 obtain ⟨op, name, num, ks⟩ := t
 rw [Tr.d_mk]
 try simp only [Tr.op_mk, Tr.nm_mk, Tr.nu_mk, Tr.kids_mk]
 refine pf_body (rvs := [.tmp 2]) [(0, .d (.agg [.int .i64 op, .str name, .int .i64 num, .sl (ks.map Tr.d)]))] Tryz.func111 Tryz.ntmps111 Tryz.results111 (fun S0 O0 w0 m0 hm0 => ?_)
 refine Z390 ?_;refine Z364 ?_;refine Z337 ?_;refine Z176 ?_;refine Z245 ?_;refine Z28 ?_;refine Z337 ?_
 refine sg rfl (fun hg => sP 12 rfl hg (qL u3)) ?_
 refine sg rfl (fun hg => sP 13 rfl hg q_eql) ?_
 refine Z28 ?_;refine Z337 ?_;refine Z234 ?_
 refine sg rfl (fun hg => sP 18 rfl hg q_geq) ?_
 refine Z13 ?_;refine Z337 ?_;refine Z211 ?_
 refine sg rfl (fun hg => sP 23 rfl hg q_leq) ?_
 refine Z353 ?_;refine Z49 ?_
 refine sg rfl (fun hg => sP 27 rfl hg (qL u22)) ?_
 refine sg rfl (fun hg => sP 28 rfl hg (q_len u22)) ?_
 refine Z21 ?_
 refine sg rfl (fun hg => sP 30 rfl hg (qL u3)) ?_
 refine sg rfl (fun hg => sP 31 rfl hg (q_add (hw := rfl))) ?_
 refine sg rfl (fun hg => sP 32 rfl hg (sP 29 rfl hg q_geq)) ?_
 refine Z360 ?_
 exact Y19
def woL (l : List (ByteArray × Tr)) (nm : ByteArray) : List (ByteArray × Tr) := l.filter fun c => !decide (c.1 = nm)
theorem woL_step {l : List (ByteArray × Tr)} {z : Nat} {c : ByteArray × Tr} (h : l[z]? = some c) (nm : ByteArray) : woL (l.take (z + 1)) nm = woL (l.take z) nm ++ (if decide (c.1 = nm) = true then [] else [c]) := by
 unfold woL
 rw [List.take_add_one, h, List.filter_append]
 congr 1
 by_cases hc : c.1 = nm
 · simp [hc]
 · simp [hc]
theorem woL_len (l : List (ByteArray × Tr)) (nm : ByteArray) : (woL l nm).length ≤ l.length := List.length_filter_le _ _
set_option maxHeartbeats 4000000 in
theorem c112 (l : List (ByteArray × Tr)) (nm : ByteArray) (hlim : l.length ≤ 1000000) : Pf Tryz.prog 112 [.sl (l.map cD), .str nm] (.d (.sl ((woL l nm).map cD))) := by
 refine pf_body (rvs := [.tmp 4]) [(0, .d (.sl (l.map cD))), (1, .d (.str nm))] Tryz.func112 Tryz.ntmps112 Tryz.results112 (fun S0 O0 w0 m0 hm0 => ?_)
 refine Z339 ?_;refine Z143 ?_;refine Z63 ?_;refine Z11 ?_;refine Z357 ?_
 refine g_loop (α := Nat) (fun z => ⟨[(6, .d (.int .i64 (z : Nat))), (5, .osl 5 ((woL (l.take z) nm).map cD)), (1, .d (.str nm)), (0, .d (.sl (l.map cD)))], []⟩) (fun z => l.length - z) (fun z => z ≤ l.length) 0 (Nat.zero_le _) (fun z hz Q' hn0 he0 hr0 => ?_) (le_of)
 have hll : (woL (l.take z) nm).length ≤ z := Nat.le_trans (woL_len _ _) (by rw [List.length_take]; omega)
 refine Z44 ?_;refine Z321 ?_
 refine vq rfl (q_len u49) ?_
 refine Z346 ?_
 refine gC ?_ ?_ <;> intro hb0
 ·
  have hlt : z < l.length := by simpa using hb0
  obtain ⟨c, hc⟩ : ∃ c, l[z]? = some c := ⟨_, gE hlt⟩
  have hxd := cD_get hc
  have hws := woL_step hc nm
  obtain ⟨op, name, num, ks, _, hca⟩ := cD_agg c
  rw [hca] at hxd
  refine Z26 ?_;refine Z321 ?_;refine Z269 ?_
  refine vq rfl (qF u59 rfl sz9) ?_
  refine Z39 ?_;refine Z0 ?_;refine Z307 ?_;refine Z5 ?_
  refine gC ?_ ?_ <;> intro hb1
  ·
   rw [if_neg (by simpa using hb1)] at hws
   refine Z14 ?_;refine Z119 ?_;refine Z321 ?_;refine Z269 ?_
   refine vq rfl (qG (by exact sz59) u59 rfl) ?_
   refine sv rfl (y_buildSlice (xs := [.tmp 25]) u49 inf59) ?_
   refine Z32 ?_
   rw [← hca, show (woL (l.take z) nm).map cD ++ [cD c] = (woL (l.take (z + 1)) nm).map cD from by rw [hws, List.map_append]; rfl]
   refine Z63 ?_;refine Z282 ?_
   refine gP [0, 1, 4, 5, 6] ?_
   refine Z426 ?_
   refine hn0 _ (z + 1) (by omega) (by omega) le_of
  rw [if_pos (by simpa using hb1), List.append_nil] at hws
  refine Z77 ?_
  rw [← hws]
  refine Z349 ?_
  refine hn0 _ (z + 1) (by omega) (by omega) le_of
 have hge : z = l.length := by
  have : ¬ (z : Int) < (l.map cD).length := by simpa using hb0
  rw [List.length_map] at this
  omega
 refine Z347 ?_
 rw [hge, List.take_length]
 refine Z0 ?_;refine Z320 ?_
 exact ⟨rfl, rfl⟩
end
section
def Agree (K : KL) (l : List (ByteArray × Tr)) : Prop := ∀ nm, findK nm K = findK nm (kl l)
theorem findK_filter (x nm : ByteArray) : ∀ K : KL, findK nm (K.filter fun c => !decide (c.1 = x)) = if x = nm then none else findK nm K
 | [] => by simp [findK]
 | c :: r => by
  rw [List.filter_cons]
  by_cases hc : c.1 = x
  · rw [if_neg (by simp [hc]), findK_filter x nm r]
    by_cases hx : x = nm
    · rw [if_pos hx, if_pos hx]
    · rw [if_neg hx, if_neg hx, findK, if_neg (by rw [hc]; exact hx)]
  · rw [if_pos (by simp [hc]), findK, findK, findK_filter x nm r]
    by_cases hx : x = nm
    · rw [if_pos hx, if_pos hx, if_neg (by rw [← hx]; exact hc)]
    · rw [if_neg hx, if_neg hx]
theorem kl_wo (l : List (ByteArray × Tr)) (x : ByteArray) : kl (woL l x) = (kl l).filter fun c => !decide (c.1 = x) := by
 unfold kl woL
 rw [List.filter_reverse, List.filter_map]
 rfl
theorem Agree.hide {K : KL} {l : List (ByteArray × Tr)} (h : Agree K l) (x : ByteArray) : Agree (hideK x K) (woL l x) := fun nm => by
 rw [kl_wo, findK_filter, ← h nm]
 rfl
def CLens (l : List (ByteArray × Tr)) : Prop := l.length ≤ 1000 ∧ ∀ c ∈ l, c.2.Lens
theorem CLens.wo {l : List (ByteArray × Tr)} (h : CLens l) (x : ByteArray) : CLens (woL l x) := ⟨Nat.le_trans (woL_len l x) h.1, fun c hc => h.2 c (List.mem_filter.1 hc).1⟩
theorem acc_snoc (acc : List Tr) (x : Tr) : acc.map Tr.d ++ [x.d] = (acc ++ [x]).map Tr.d := by simp
set_option maxHeartbeats 16000000 in
theorem c37n : ∀ (n : Nat) (t : Tr), t.size ≤ n → t.Lens → ∀ (l : List (ByteArray × Tr)) (K0 : KL), CLens l → Agree K0 l → Pf Tryz.prog 37 [t.d, .sl (l.map cD)] (.d (t.put K0).d) := by
 intro n
 induction n with
 | zero => intro t h; exact absurd t.size_pos (by omega)
 | succ n ih =>
  intro t hsz hlen l K0 hcl hag
  obtain ⟨op, name, num, ks⟩ := t
  obtain ⟨hlim, hks⟩ := hlen.mk'
  have hl1 := hcl.1
  have hI : ∀ k ∈ ks, ∀ (l : List (ByteArray × Tr)) (K : KL), CLens l → Agree K l → Pf Tryz.prog 37 [k.d, .sl (l.map cD)] (.d (k.put K).d) := fun k hk => ih k (by have := Tr.size_mem hk; rw [Tr.size] at hsz; omega) (hks k hk)
  have c109 : ∀ t : Tr, t.Lens → Pf Tryz.prog 109 [t.d] (.d t.d) := fun t h => c109n _ t (Nat.le_refl _) h
  rw [Tr.d_mk]
  refine pf_body (rvs := [.cell 4 27]) [(0, .d (.agg [.int .i64 op, .str name, .int .i64 num, .sl (ks.map Tr.d)])), (1, .d (.sl (l.map cD)))] Tryz.func37 Tryz.ntmps37 Tryz.results37 (fun S0 O0 w0 m0 hm0 => ?_)
  refine Z345 ?_;refine Z29 ?_;refine Z11 ?_;refine Z408 ?_
  refine gC ?_ ?_ <;> intro hb0
  ·
   refine Z355 ?_
   refine vq rfl (q_len u49) ?_
   refine vq rfl (q_sub (hw := (wrap_i64 (by rw [List.length_map]; omega) (by rw [List.length_map]; omega)))) ?_
   rw [List.length_map]
   refine Z357 ?_
   refine g_loop (α := Nat) (fun m => ⟨[(5, .d (.int .i64 ((m : Nat) - 1))), (2, .d (.ptr (.agg [.int .i64 op, .str name, .int .i64 num, .sl (ks.map Tr.d)]))), (1, .d (.sl (l.map cD))), (4, .ref 0 0)], [[.d (.int .i64 0), .d (.str ⟨#[]⟩), .d (.int .i64 0), .nils]]⟩) (fun m => m) (fun m => m ≤ l.length ∧ findK name K0 = findK name (kl (l.take m))) l.length ⟨Nat.le_refl _, by rw [List.take_length]; exact hag name⟩ (fun m hm Q' hn0 he0 hr0 => ?_) (le_of)
   obtain ⟨hm1, hm2⟩ := hm
   refine Z355 ?_;refine Z93 ?_;refine Z5 ?_
   refine gC ?_ ?_ <;> intro hb1
   ·
    have hm3 : ((m : Nat) : Int) - 1 ≥ 0 := by simpa using hb1
    obtain ⟨z, rfl⟩ : ∃ z, m = z + 1 := ⟨m - 1, by omega⟩
    rw [show (((z + 1 : Nat) : Int) - 1) = (z : Int) from by omega]
    obtain ⟨c, hc⟩ : ∃ c, l[z]? = some c := ⟨_, gE (by omega)⟩
    have hmemc := mG hc
    have hks2 := kl_step hc
    obtain ⟨cn, cop, cnm, cnu, cks⟩ := c
    have hxd := cD_get hc
    rw [show cD (cn, .mk cop cnm cnu cks) = .agg [.str cn, .int .i64 cop, .str cnm, .int .i64 cnu, .sl (cks.map Tr.d)] from by unfold cD; rw [Tr.d_mk]; rfl] at hxd
    refine gK (tN (gS (G_block (gS ?_))))
    refine G_draw 8 [0, 1, 2, 3, 4, 5, 6, 7] rfl rfl (by kernel_rfl) ?_
    refine Z256 ?_;refine Z256 ?_
    refine sq rfl (qI u49 sz59) ?_
    refine sq rfl (qF u59 rfl sz9) ?_
    refine Z306 ?_
    refine sq rfl (qF u27 rfl sz9) ?_
    refine Z306 ?_
    refine sq rfl q_streq ?_
    refine GQ_nil (by kernel_rfl) (tN ?_)
    refine gC ?_ ?_ <;> intro hb2
    ·
     refine Z420 ?_;refine Z269 ?_
     refine vq rfl (q_fieldp_agg u59 rfl sz27) ?_
     refine vq rfl (qG (ds := [.int .i64 cop, .str cnm, .int .i64 cnu, .sl (cks.map Tr.d)]) (by exact sz27) u27 rfl) ?_
     refine gL (xs := [.tmp 33]) rfl ((Tr.d_mk cop cnm cnu cks ▸ c109 (.mk cop cnm cnu cks) (hcl.2 _ hmemc))) ?_
     refine Z19 ?_;refine Z10 ?_;refine Z107 ?_
     refine bR (tR (tR ?_))
     refine Z102 ?_
     exact ⟨by rw [Tr.put, if_pos hb0, hm2, hks2, findK, if_pos (by simpa using hb2), Tr.d_mk], rfl⟩
    refine Z77 ?_;refine Z0 ?_;refine Z214 ?_;refine Z331 ?_
    refine hn0 _ z ⟨by omega, by rw [hm2, hks2, findK, if_neg (by simpa using hb2)]⟩ (by omega) le_of
   have hm0 : m = 0 := by
    have h : ¬ ((m : Nat) : Int) - 1 ≥ 0 := by simpa using hb1
    omega
   refine Z347 ?_;refine Z6 ?_
   refine gL (xs := [.tmp 35]) rfl ((Tr.d_mk op name num ks ▸ c109 (.mk op name num ks) hlen)) ?_
   refine Z19 ?_;refine Z20 ?_;refine Z102 ?_
   exact ⟨by rw [Tr.put, if_pos hb0, hm2, hm0]; show _ = PV.d (Tr.d (.mk op name num ks)); rw [Tr.d_mk], rfl⟩
  refine Z59 ?_;refine Z408 ?_
  refine gC ?_ ?_ <;> intro hb3
  ·
   refine Z358 ?_
   refine gL (xs := [.tmp 40]) rfl ((Tr.d_mk op name num ks ▸ c109 (.mk op name num ks) hlen)) ?_
   refine Z19 ?_;refine Z20 ?_;refine Z102 ?_
   exact ⟨by rw [Tr.put, if_neg (by rw [hb0]; decide), if_pos hb3, Tr.d_mk], rfl⟩
  refine Z46 ?_;refine Z323 ?_;refine Z336 ?_;refine Z323 ?_
  refine vq rfl ((q_buildP pl27 zr27)) ?_
  refine Z348 ?_;refine Z7 ?_;refine Z0 ?_;refine Z328 ?_;refine Z357 ?_
  refine g_loop (α := Nat × List Tr × List (ByteArray × Tr) × KL) (fun z => ⟨[(8, .d (.int .i64 (z.1 : Nat))), (7, .d (.sl (z.2.2.1.map cD))), (6, .ref 1 0), (2, .d (.ptr (.agg [.int .i64 op, .str name, .int .i64 num, .sl (ks.map Tr.d)]))), (1, .d (.sl (l.map cD))), (4, .ref 0 0)], [[.d (.int .i64 0), .d (.str ⟨#[]⟩), .d (.int .i64 0), .nils], [.d (.int .i64 op), .d (.str name), .d (.int .i64 num), .osl 4 (z.2.1.map Tr.d)]]⟩) (fun z => ks.length - z.1) (fun z => z.1 ≤ ks.length ∧ z.2.1.length = z.1 ∧ Agree z.2.2.2 z.2.2.1 ∧ CLens z.2.2.1 ∧ z.2.1 ++ Tr.puts op num ks K0 z.1 z.2.2.2 (ks.drop z.1) = Tr.puts op num ks K0 0 K0 ks) (0, [], l, K0) ⟨Nat.zero_le _, rfl, hag, hcl, rfl⟩ (fun z hz Q' hn1 he1 hr1 => ?_) (le_of)
  obtain ⟨z, acc, il, inner⟩ := z
  obtain ⟨hz1, hz2, hz3, hz4, hz5⟩ := hz
  replace hz1 : z ≤ ks.length := hz1
  replace hz2 : acc.length = z := hz2
  replace hz3 : Agree inner il := hz3
  replace hz4 : CLens il := hz4
  replace hz5 : acc ++ Tr.puts op num ks K0 z inner (ks.drop z) = Tr.puts op num ks K0 0 K0 ks := hz5
  have hil := hz4.1
  refine Z355 ?_;refine Z428 ?_
  refine gC ?_ ?_ <;> intro hb4
  ·
   have hlt : z < ks.length := by simpa using hb4
   obtain ⟨k, hk⟩ : ∃ k, ks[z]? = some k := ⟨_, gE (by omega)⟩
   have hmem := mG hk
   obtain ⟨kop, knm, knu, kks⟩ := k
   have hxa := Tr.ds_get hk
   rw [Tr.d_mk] at hxa
   refine Z26 ?_
   have hsn : acc.map Tr.d ++ [.agg [.int .i64 kop, .str knm, .int .i64 knu, .sl (kks.map Tr.d)]] = (acc ++ [(Tr.mk kop knm knu kks)]).map Tr.d := by rw [← Tr.d_mk, acc_snoc]
   refine Z386 ?_;refine Z416 ?_
   refine gF 2 [[.d (.int .i64 0), .d (.str ⟨#[]⟩), .d (.int .i64 0), .nils], [.d (.int .i64 op), .d (.str name), .d (.int .i64 num), .osl 4 (acc.map Tr.d)]] (.agg [.int .i64 kop, .str knm, .int .i64 knu, .sl (kks.map Tr.d)]) rfl ?_
   refine Z5 ?_
   refine G_seq_cut (α := Tr × List (ByteArray × Tr) × KL) (fun y => ⟨[(9, .d (.ptr (.agg [.int .i64 kop, .str knm, .int .i64 knu, .sl (kks.map Tr.d)]))), (8, .d (.int .i64 (z : Nat))), (6, .ref 1 0), (2, .d (.ptr (.agg [.int .i64 op, .str name, .int .i64 num, .sl (ks.map Tr.d)]))), (1, .d (.sl (l.map cD))), (4, .ref 0 0), (7, .d (.sl (y.2.1.map cD)))], [[.d (.int .i64 0), .d (.str ⟨#[]⟩), .d (.int .i64 0), .nils], [.d (.int .i64 op), .d (.str name), .d (.int .i64 num), .osl 4 ((acc ++ [y.1]).map Tr.d)]]⟩) (fun y => (y.1, hideV (Tr.mk kop knm knu kks) y.2.2) = stepT op num ks K0 z inner (Tr.mk kop knm knu kks) ∧ Agree y.2.2 y.2.1 ∧ CLens y.2.1) (fun Q' hn he hr => ?_) (fun y hy => ?_)
   ·
    refine G_block (gS (gS (gR ?_)))
    refine Z364 ?_;refine Z332 ?_
    refine sg rfl (fun hg => sP 75 rfl hg q_eql) ?_
    refine Z13 ?_;refine Z337 ?_
    refine sg rfl (fun hg => sP 79 rfl hg (qL u3)) ?_
    refine sg rfl (fun hg => sP 80 rfl hg q_eql) ?_
    refine Z436 ?_
    refine gC ?_ ?_ <;> intro hb5
    ·
     have hkp : keepsB op num ks.length z (Tr.mk kop knm knu kks) = true := by
      unfold keepsB
      rw [show (((op == 51 && (z : Int) == 0) && ((Tr.mk kop knm knu kks)).op == 4)) = ((op == 51 && (z : Int) == 0) && kop == 4) from rfl]
      rw [show ((op == 51 && (z : Int) == 0) && kop == 4) = true from hb5]; rfl
     refine Z127 ?_
     refine gC ?_ ?_ <;> intro hb6
     ·
      refine g_ck [(1, 5), (5, 7)] [91, 92, 93, 94, 95, 96, 97] (fun bq => [[.d (.int .i64 0), .d (.str ⟨#[]⟩), .d (.int .i64 0), .nils], cond (bq 7) [.d (.int .i64 op), .d (.str name), .d (.int .i64 num), .osl 4 ((acc ++ [(Tr.mk kop knm knu kks)]).map Tr.d)] (cond (bq 1) [.d (.int .i64 op), .d (.str name), .d (.int .i64 num), .d (.sl (acc.map Tr.d))] [.d (.int .i64 op), .d (.str name), .d (.int .i64 num), .osl 4 (acc.map Tr.d)])]) rfl ?_
      refine Z81 ?_;refine Z106 ?_;refine Z232 ?_
      refine ck_st 2 (fun bq rest hc1 hc2 hc3 => by
       have h9 := hc3.no 5 1 hc1
       have h11 := hc3.no 7 5 h9
       have e1 : upd bq 1 1 = true := rfl
       have e2 : upd bq 1 7 = false := h11
       simp only [hc1, h11, cond_false]
       refine Z171 ?_
       exact (gN ⟨rfl, by rw [e1, e2]; rfl⟩)) ?_
      refine Z81 ?_;refine Z103 ?_;refine Z297 ?_
      refine ck_st 4 (fun _ _ _ _ _ => gL (xs := [.tmp 93]) rfl ((Tr.d_mk kop knm knu kks ▸ c109 (Tr.mk kop knm knu kks) (hks _ hmem))) (gN ⟨rfl, rfl⟩)) ?_
      refine ck_pre [3] ?_
      refine ck_st 5 (fun _ _ _ _ _ => sv rfl (y_buildSlice (xs := [.tmp 94]) u22 inf27) (gN ⟨rfl, rfl⟩)) ?_
      refine ck_pre [1, 4, 3] ?_
      refine ck_tk 6 92 (fun _ _ _ _ _ => sv rfl (y_append u22 inf27 (hk := by first | exact Tr.ds_cells _ | (intro x hx; simp at hx; subst hx; simp [D.cells])) (hlen := by simp [lim]; omega) (hB := by simp [lim]; omega)) (gN ⟨rfl, rfl⟩)) ?_
      rw [hsn]
      refine ck_pre [0, 2, 3, 4] ?_
      refine ck_st 7 (fun _ _ _ _ _ => sv rfl (y_fieldAt 3 u27 rfl sz22) (gN ⟨rfl, rfl⟩)) ?_
      refine ck_pre [6, 5, 5, 0, 2, 3, 4, 5] ?_
      refine ck_atk 8 96 (fun bq rest hc1 hc2 hc3 => by
       have h9 := hc2 5 dep_in
       have h1 := hc3 5 h9 1 dep_in
       have e1 : upd bq 7 7 = true := rfl
       simp only [hc1, h1, cond_true, cond_false]
       refine Z161 ?_
       exact (gN ⟨rfl, by rw [e1]; rfl⟩)) ?_
      refine ck_done (mem'' := [[.d (.int .i64 0), .d (.str ⟨#[]⟩), .d (.int .i64 0), .nils], [.d (.int .i64 op), .d (.str name), .d (.int .i64 num), .osl 4 ((acc ++ [(Tr.mk kop knm knu kks)]).map Tr.d)]]) ?_
      refine bN ?_
      refine hn _ ((Tr.mk kop knm knu kks), il, inner) ⟨by rw [stepT, if_pos hkp], hz3, hz4⟩ le_of
     exact absurd (hb5.symm.trans hb6) (by decide)
    refine Z401 ?_
    refine gL (xs := [.tmp 83]) rfl ((Tr.d_mk op name num ks ▸ c111 (.mk op name num ks))) ?_
    refine Z332 ?_;refine Z21 ?_
    refine sg rfl (fun hg => sP 87 rfl hg (qL u3)) ?_
    refine sg rfl (fun hg => sP 88 rfl hg (sP 86 rfl hg q_lss)) ?_
    refine Z436 ?_
    refine gC ?_ ?_ <;> intro hb7
    ·
     have hkp : keepsB op num ks.length z (Tr.mk kop knm knu kks) = true := by
      unfold keepsB
      rw [show (((op == 51 && (z : Int) == 0) && ((Tr.mk kop knm knu kks)).op == 4)) = ((op == 51 && (z : Int) == 0) && kop == 4) from rfl]
      rw [show (loopsB op num ks.length && decide ((z : Int) < num)) = true from hb7, Bool.or_true]
     refine g_ck [(1, 5), (5, 7)] [91, 92, 93, 94, 95, 96, 97] (fun bq => [[.d (.int .i64 0), .d (.str ⟨#[]⟩), .d (.int .i64 0), .nils], cond (bq 7) [.d (.int .i64 op), .d (.str name), .d (.int .i64 num), .osl 4 ((acc ++ [(Tr.mk kop knm knu kks)]).map Tr.d)] (cond (bq 1) [.d (.int .i64 op), .d (.str name), .d (.int .i64 num), .d (.sl (acc.map Tr.d))] [.d (.int .i64 op), .d (.str name), .d (.int .i64 num), .osl 4 (acc.map Tr.d)])]) rfl ?_
     refine Z81 ?_;refine Z106 ?_;refine Z232 ?_
     refine ck_st 2 (fun bq rest hc1 hc2 hc3 => by
      have h9 := hc3.no 5 1 hc1
      have h11 := hc3.no 7 5 h9
      have e1 : upd bq 1 1 = true := rfl
      have e2 : upd bq 1 7 = false := h11
      simp only [hc1, h11, cond_false]
      refine Z171 ?_
      exact (gN ⟨rfl, by rw [e1, e2]; rfl⟩)) ?_
     refine Z81 ?_;refine Z103 ?_;refine Z297 ?_
     refine ck_st 4 (fun _ _ _ _ _ => gL (xs := [.tmp 93]) rfl ((Tr.d_mk kop knm knu kks ▸ c109 (Tr.mk kop knm knu kks) (hks _ hmem))) (gN ⟨rfl, rfl⟩)) ?_
     refine ck_pre [3] ?_
     refine ck_st 5 (fun _ _ _ _ _ => sv rfl (y_buildSlice (xs := [.tmp 94]) u22 inf27) (gN ⟨rfl, rfl⟩)) ?_
     refine ck_pre [1, 4, 3] ?_
     refine ck_tk 6 92 (fun _ _ _ _ _ => sv rfl (y_append u22 inf27 (hk := by first | exact Tr.ds_cells _ | (intro x hx; simp at hx; subst hx; simp [D.cells])) (hlen := by simp [lim]; omega) (hB := by simp [lim]; omega)) (gN ⟨rfl, rfl⟩)) ?_
     rw [hsn]
     refine ck_pre [0, 2, 3, 4] ?_
     refine ck_st 7 (fun _ _ _ _ _ => sv rfl (y_fieldAt 3 u27 rfl sz22) (gN ⟨rfl, rfl⟩)) ?_
     refine ck_pre [6, 5, 5, 0, 2, 3, 4, 5] ?_
     refine ck_atk 8 96 (fun bq rest hc1 hc2 hc3 => by
      have h9 := hc2 5 dep_in
      have h1 := hc3 5 h9 1 dep_in
      have e1 : upd bq 7 7 = true := rfl
      simp only [hc1, h1, cond_true, cond_false]
      refine Z161 ?_
      exact (gN ⟨rfl, by rw [e1]; rfl⟩)) ?_
     refine ck_done (mem'' := [[.d (.int .i64 0), .d (.str ⟨#[]⟩), .d (.int .i64 0), .nils], [.d (.int .i64 op), .d (.str name), .d (.int .i64 num), .osl 4 ((acc ++ [(Tr.mk kop knm knu kks)]).map Tr.d)]]) ?_
     refine bN ?_
     refine hn _ ((Tr.mk kop knm knu kks), il, inner) ⟨by rw [stepT, if_pos hkp], hz3, hz4⟩ le_of
    have hkn : keepsB op num ks.length z (Tr.mk kop knm knu kks) = false := by
     unfold keepsB
     rw [show (((op == 51 && (z : Int) == 0) && ((Tr.mk kop knm knu kks)).op == 4)) = ((op == 51 && (z : Int) == 0) && kop == 4) from rfl, show ((op == 51 && (z : Int) == 0) && kop == 4) = false from hb5, show (loopsB op num ks.length && decide ((z : Int) < num)) = false from hb7]; rfl
    refine Z358 ?_
    refine gL (xs := [.tmp 99]) rfl ((Tr.d_mk op name num ks ▸ c111 (.mk op name num ks))) ?_
    refine Z332 ?_;refine Z21 ?_
    refine sg rfl (fun hg => sP 103 rfl hg (qL u3)) ?_
    refine sg rfl (fun hg => sP 104 rfl hg (q_add (hw := rfl))) ?_
    refine sg rfl (fun hg => sP 105 rfl hg (sP 102 rfl hg q_eql)) ?_
    refine Z436 ?_
    refine gC ?_ ?_ <;> intro hb8
    ·
     have hbd : (loopsB op num ks.length && (z : Int) == W (num + 1)) = true := hb8
     have hlp := loops_num (Bool.and_eq_true_iff.1 hbd).1
     refine Z44 ?_;refine Z357 ?_
     refine g_loop (α := Nat × List (ByteArray × Tr)) (fun j => ⟨[(10, .d (.int .i64 (j.1 : Nat))), (7, .d (.sl (j.2.map cD))), (9, .d (.ptr (.agg [.int .i64 kop, .str knm, .int .i64 knu, .sl (kks.map Tr.d)]))), (8, .d (.int .i64 (z : Nat))), (6, .ref 1 0), (2, .d (.ptr (.agg [.int .i64 op, .str name, .int .i64 num, .sl (ks.map Tr.d)]))), (1, .d (.sl (l.map cD))), (4, .ref 0 0)], [[.d (.int .i64 0), .d (.str ⟨#[]⟩), .d (.int .i64 0), .nils], [.d (.int .i64 op), .d (.str name), .d (.int .i64 num), .osl 4 (acc.map Tr.d)]]⟩) (fun j => num.toNat - j.1) (fun j => j.1 ≤ num.toNat ∧ Agree (bindK (ks.take j.1) inner) j.2 ∧ CLens j.2) (0, il) ⟨Nat.zero_le _, hz3, hz4⟩ (fun j hj Q' hn2 he2 hr2 => ?_) (le_of)
     obtain ⟨n, jl⟩ := j
     obtain ⟨hj1, hj2, hj3⟩ := hj
     replace hj1 : n ≤ num.toNat := hj1
     replace hj2 : Agree (bindK (ks.take n) inner) jl := hj2
     replace hj3 : CLens jl := hj3
     have hjl := hj3.1
     refine Z355 ?_;refine Z323 ?_;refine Z346 ?_
     refine gC ?_ ?_ <;> intro hb9
     ·
      have hlt2 : (n : Int) < num := by simpa using hb9
      obtain ⟨a, hka⟩ : ∃ a, ks[n]? = some a := ⟨_, gE (by omega)⟩
      obtain ⟨aop, anm, anu, aks⟩ := a
      have hxb := Tr.ds_get hka
      rw [Tr.d_mk] at hxb
      refine gK (tN (gS (G_block (gR ?_))))
      refine Z0 ?_;refine Z386 ?_;refine Z40 ?_;refine Z336 ?_
      refine gL (xs := [.tmp 114, .tmp 120]) rfl (c112 jl anm (by omega)) ?_
      refine Z1 ?_;refine Z95 ?_;refine Z349 ?_
      refine hn2 _ (n + 1, woL jl anm) ⟨by show n + 1 ≤ num.toNat; omega, by show Agree (bindK (ks.take (n + 1)) inner) (woL jl anm); rw [bindK_step hka]; exact hj2.hide anm, hj3.wo anm⟩ (by show num.toNat - (n + 1) < num.toNat - n; omega) le_of
     have hnn : n = num.toNat := by
      have : ¬ (n : Int) < num := by simpa using hb9
      omega
     have hXa := ((Tr.mk kop knm knu kks).put (bindK (ks.take num.toNat) inner)).d_eta
     refine Z37 ?_;refine Z312 ?_
     refine blk_exit (tN (gS ?_))
     refine g_ck [(1, 6), (6, 8)] [122, 123, 124, 125, 126, 127, 128, 129] (fun bq => [[.d (.int .i64 0), .d (.str ⟨#[]⟩), .d (.int .i64 0), .nils], cond (bq 8) [.d (.int .i64 op), .d (.str name), .d (.int .i64 num), .osl 4 ((acc ++ [(Tr.mk kop knm knu kks).put (bindK (ks.take num.toNat) inner)]).map Tr.d)] (cond (bq 1) [.d (.int .i64 op), .d (.str name), .d (.int .i64 num), .d (.sl (acc.map Tr.d))] [.d (.int .i64 op), .d (.str name), .d (.int .i64 num), .osl 4 (acc.map Tr.d)])]) rfl ?_
     refine Z81 ?_;refine Z106 ?_;refine Z232 ?_
     refine ck_st 2 (fun bq rest hc1 hc2 hc3 => by
      have h9 := hc3.no 6 1 hc1
      have h11 := hc3.no 8 6 h9
      have e1 : upd bq 1 1 = true := rfl
      have e2 : upd bq 1 8 = false := h11
      simp only [hc1, h11, cond_false]
      refine Z171 ?_
      exact (gN ⟨rfl, by rw [e1, e2]; rfl⟩)) ?_
     refine Z81 ?_;refine Z103 ?_;refine Z81 ?_;refine Z222 ?_
     refine ck_pre [2, 3] ?_
     refine ck_st 5 (fun _ _ _ _ _ => gL (xs := [.tmp 124, .tmp 125]) rfl ((hXa ▸ Tr.d_mk kop knm knu kks ▸ hI _ hmem jl (bindK (ks.take num.toNat) inner) hj3 (hnn ▸ hj2))) (gN ⟨rfl, rfl⟩)) ?_
     refine ck_pre [4] ?_
     refine ck_st 6 (fun _ _ _ _ _ => sv rfl (y_buildSlice (xs := [.tmp 126]) u22 inf27) (gN ⟨rfl, rfl⟩)) ?_
     refine ck_pre [1, 5, 4] ?_
     refine ck_tk 7 123 (fun _ _ _ _ _ => sv rfl (y_append u22 inf27 (hk := by first | exact Tr.ds_cells _ | (intro x hx; simp at hx; subst hx; simp [D.cells])) (hlen := by simp [lim]; omega) (hB := by simp [lim]; omega)) (gN ⟨rfl, rfl⟩)) ?_
     rw [← hXa, acc_snoc]
     refine ck_pre [0, 2, 3, 4, 5] ?_
     refine ck_st 8 (fun _ _ _ _ _ => sv rfl (y_fieldAt 3 u27 rfl sz22) (gN ⟨rfl, rfl⟩)) ?_
     refine Z283 ?_
     refine ck_atk 9 128 (fun bq rest hc1 hc2 hc3 => by
      have h9 := hc2 6 dep_in
      have h1 := hc3 6 h9 1 dep_in
      have e1 : upd bq 8 8 = true := rfl
      simp only [hc1, h1, cond_true, cond_false]
      refine Z161 ?_
      exact (gN ⟨rfl, by rw [e1]; rfl⟩)) ?_
     refine ck_done (mem'' := [[.d (.int .i64 0), .d (.str ⟨#[]⟩), .d (.int .i64 0), .nils], [.d (.int .i64 op), .d (.str name), .d (.int .i64 num), .osl 4 ((acc ++ [(Tr.mk kop knm knu kks).put (bindK (ks.take num.toNat) inner)]).map Tr.d)]]) ?_
     refine tN (gR ?_)
     refine Z0 ?_;refine Z1 ?_
     refine gN (bN ?_)
     refine hn _ ((Tr.mk kop knm knu kks).put (bindK (ks.take num.toNat) inner), l, K0) ⟨by rw [stepT, if_neg (by rw [hkn]; decide), if_pos hbd], hag, hcl⟩ le_of
    have hbd : (loopsB op num ks.length && (z : Int) == W (num + 1)) = false := hb8
    have hXa := ((Tr.mk kop knm knu kks).put inner).d_eta
    refine g_ck [(1, 6), (6, 8)] [62, 63, 64, 65, 66, 67, 68, 69] (fun bq => [[.d (.int .i64 0), .d (.str ⟨#[]⟩), .d (.int .i64 0), .nils], cond (bq 8) [.d (.int .i64 op), .d (.str name), .d (.int .i64 num), .osl 4 ((acc ++ [(Tr.mk kop knm knu kks).put inner]).map Tr.d)] (cond (bq 1) [.d (.int .i64 op), .d (.str name), .d (.int .i64 num), .d (.sl (acc.map Tr.d))] [.d (.int .i64 op), .d (.str name), .d (.int .i64 num), .osl 4 (acc.map Tr.d)])]) rfl ?_
    refine Z81 ?_;refine Z106 ?_;refine Z232 ?_
    refine ck_st 2 (fun bq rest hc1 hc2 hc3 => by
     have h9 := hc3.no 6 1 hc1
     have h11 := hc3.no 8 6 h9
     have e1 : upd bq 1 1 = true := rfl
     have e2 : upd bq 1 8 = false := h11
     simp only [hc1, h11, cond_false]
     refine Z171 ?_
     exact (gN ⟨rfl, by rw [e1, e2]; rfl⟩)) ?_
    refine Z81 ?_;refine Z103 ?_;refine Z81 ?_;refine Z222 ?_
    refine ck_pre [2, 3] ?_
    refine ck_st 5 (fun _ _ _ _ _ => gL (xs := [.tmp 64, .tmp 65]) rfl ((hXa ▸ Tr.d_mk kop knm knu kks ▸ hI _ hmem il inner hz4 hz3)) (gN ⟨rfl, rfl⟩)) ?_
    refine ck_pre [4] ?_
    refine ck_st 6 (fun _ _ _ _ _ => sv rfl (y_buildSlice (xs := [.tmp 66]) u22 inf27) (gN ⟨rfl, rfl⟩)) ?_
    refine ck_pre [1, 5, 4] ?_
    refine ck_tk 7 63 (fun _ _ _ _ _ => sv rfl (y_append u22 inf27 (hk := by first | exact Tr.ds_cells _ | (intro x hx; simp at hx; subst hx; simp [D.cells])) (hlen := by simp [lim]; omega) (hB := by simp [lim]; omega)) (gN ⟨rfl, rfl⟩)) ?_
    rw [← hXa, acc_snoc]
    refine ck_pre [0, 2, 3, 4, 5] ?_
    refine ck_st 8 (fun _ _ _ _ _ => sv rfl (y_fieldAt 3 u27 rfl sz22) (gN ⟨rfl, rfl⟩)) ?_
    refine Z283 ?_
    refine ck_atk 9 68 (fun bq rest hc1 hc2 hc3 => by
     have h9 := hc2 6 dep_in
     have h1 := hc3 6 h9 1 dep_in
     have e1 : upd bq 8 8 = true := rfl
     simp only [hc1, h1, cond_true, cond_false]
     refine Z161 ?_
     exact (gN ⟨rfl, by rw [e1]; rfl⟩)) ?_
    refine ck_done (mem'' := [[.d (.int .i64 0), .d (.str ⟨#[]⟩), .d (.int .i64 0), .nils], [.d (.int .i64 op), .d (.str name), .d (.int .i64 num), .osl 4 ((acc ++ [(Tr.mk kop knm knu kks).put inner]).map Tr.d)]]) ?_
    refine bN ?_
    refine hn _ ((Tr.mk kop knm knu kks).put inner, il, inner) ⟨by rw [stepT, if_neg (by rw [hkn]; decide), if_neg (by rw [hbd]; decide)], hz3, hz4⟩ le_of
   obtain ⟨y, yl, yk⟩ := y
   obtain ⟨hy1, hy2, hy3⟩ := hy
   replace hy1 : (y, hideV (Tr.mk kop knm knu kks) yk) = stepT op num ks K0 z inner (Tr.mk kop knm knu kks) := hy1
   replace hy2 : Agree yk yl := hy2
   replace hy3 : CLens yl := hy3
   have hyl := hy3.1
   refine Z3 ?_;refine Z408 ?_
   refine gC ?_ ?_ <;> intro hb10
   ·
    have e1 : (stepT op num ks K0 z inner (Tr.mk kop knm knu kks)).1 = y := by rw [← hy1]
    have e2 : (stepT op num ks K0 z inner (Tr.mk kop knm knu kks)).2 = hideK knm yk := by rw [← hy1]; exact hideV_t hb10
    refine Z335 ?_;refine Z336 ?_
    refine gL (xs := [.tmp 134, .tmp 136]) rfl (c112 yl knm (by omega)) ?_
    refine Z1 ?_;refine Z95 ?_;refine Z349 ?_
    refine hn1 _ (z + 1, acc ++ [y], woL yl knm, hideK knm yk) ⟨by show z + 1 ≤ ks.length; omega, by show (acc ++ [_]).length = z + 1; rw [List.length_append, List.length_singleton]; omega, hy2.hide knm, hy3.wo knm, by show (acc ++ [y]) ++ Tr.puts op num ks K0 (z + 1) (hideK knm yk) (ks.drop (z + 1)) = _; rw [← hz5, puts_drop hk, e1, e2, List.append_assoc]; rfl⟩ (by show ks.length - (z + 1) < ks.length - z; omega) le_of
   have e1 : (stepT op num ks K0 z inner (Tr.mk kop knm knu kks)).1 = y := by rw [← hy1]
   have e2 : (stepT op num ks K0 z inner (Tr.mk kop knm knu kks)).2 = yk := by rw [← hy1]; exact hideV_f hb10
   refine Z427 ?_
   refine hn1 _ (z + 1, acc ++ [y], yl, yk) ⟨by show z + 1 ≤ ks.length; omega, by show (acc ++ [_]).length = z + 1; rw [List.length_append, List.length_singleton]; omega, hy2, hy3, by show (acc ++ [y]) ++ Tr.puts op num ks K0 (z + 1) yk (ks.drop (z + 1)) = _; rw [← hz5, puts_drop hk, e1, e2, List.append_assoc]; rfl⟩ (by show ks.length - (z + 1) < ks.length - z; omega) le_of
  have hge : z = ks.length := by
   have : ¬ (z : Int) < ((ks.map Tr.d).length : Nat) := by simpa using hb4
   rw [List.length_map] at this
   omega
  refine Z439 ?_;refine Z38 ?_
  subst hge
  rw [List.drop_length, Tr.puts, List.append_nil] at hz5
  rw [hz5]
  refine Z412 ?_;refine Z8 ?_;refine Z102 ?_
  exact Y20
end
end Go.Proofs.YtklkbfpjimeaoaaGreat
