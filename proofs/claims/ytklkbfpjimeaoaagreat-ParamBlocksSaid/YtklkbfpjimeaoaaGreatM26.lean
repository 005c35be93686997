import Derived.Test.YtklkbfpjimeaoaaGreatM25
/- Contracts of functions. Conditions: none. -/
set_option linter.unusedSimpArgs false
set_option linter.unusedVariables false
set_option maxRecDepth 20000
namespace Go.Proofs.YtklkbfpjimeaoaaGreat
open Go Go.Proofs.YtklkbfpjimeaoaaGreat.E
variable {lo hi st d : Int}
theorem GR.size {a c : Int} (h : GR lo hi st a d c) : sizeS lo hi st = c := by
 rw [sizeS, h.check, if_neg (by decide), h.series]
theorem GR.nth {a c k : Int} (h : GR lo hi st a d c) (hk : 0 ≤ k ∧ k ≤ c - 1) : (-1000000 ≤ a + k * d ∧ a + k * d ≤ 1000000) ∧ -2000000 ≤ k * d ∧ k * d ≤ 2000000 := by
 have hl := h.hl
 have ha := h.ha
 have hd0 := h.hd0
 rw [Int.mul_comm k d]
 rcases Int.lt_or_lt_of_ne hd0 with hd | hd
 · have e1 := Int.mul_le_mul_of_nonneg_left hk.2 (show 0 ≤ -d by omega)
   have e2 := Int.mul_nonneg (show 0 ≤ -d by omega) hk.1
   simp only [Int.neg_mul] at e1 e2
   omega
 · have e1 := Int.mul_le_mul_of_nonneg_left hk.2 (show 0 ≤ d by omega)
   have e2 := Int.mul_nonneg (show 0 ≤ d by omega) hk.1
   omega
theorem Good.size (h : Good lo hi st) : 0 ≤ sizeS lo hi st ∧ sizeS lo hi st ≤ 2000001 ∧ (sizeS lo hi st = 0 → lo = 1 ∧ hi = 0 ∧ st = 1) := by
 rcases h with ⟨rfl, rfl, rfl⟩ | ⟨a, d, c, hg⟩
 · decide
 · obtain ⟨_, _, _, _, g5⟩ := hg.facts
   have := hg.hc
   rw [hg.size]
   omega
variable {n : Int}
theorem by_zero (h : Good lo hi st) (h0 : n = 0) : byS lo hi st n = ((0, 0, 0), 1) := by
 rcases h with ⟨rfl, rfl, rfl⟩ | ⟨a, d, c, hg⟩
 · rw [empty_by, if_pos h0]
 · exact (by_far hg).1 h0
theorem by_out (h : Good lo hi st) (h0 : n ≠ 0) (hn : withinB n = false) : byS lo hi st n = ((0, 0, 0), 4) := by
 rcases h with ⟨rfl, rfl, rfl⟩ | ⟨a, d, c, hg⟩
 · rw [empty_by, if_neg h0, if_pos hn]
 · exact (by_far hg).2 h0 hn
theorem ct_out (h : Good lo hi st) (hn : n > sizeS lo hi st ∨ n < -sizeS lo hi st) : countS lo hi st n = ((0, 0, 0), 5) := by
 rcases h with ⟨rfl, rfl, rfl⟩ | ⟨a, d, c, hg⟩
 · have : sizeS 1 0 1 = 0 := by decide
   rw [empty_count, if_neg (by omega)]
 · rw [hg.size] at hn
   exact count_far hg hn
theorem ct_zero (h : Good lo hi st) (hn : n = 0) : countS lo hi st n = ((1, 0, 1), 0) := by
 subst hn
 rcases h with ⟨rfl, rfl, rfl⟩ | ⟨a, d, c, hg⟩
 · rw [empty_count, if_pos rfl]
 · exact count_zero hg
theorem ab_le {m : Int} (h : -m ≤ d) (h' : d ≤ m) : 0 ≤ ab d ∧ ab d ≤ m := by unfold ab; split <;> omega
theorem ab_prod (h : -2000000 ≤ d ∧ d ≤ 2000000) (hn : -1000000 ≤ n ∧ n ≤ 1000000) : 0 ≤ ab d * ab n ∧ ab d * ab n ≤ 2000000000000 := by
 obtain ⟨a1, a2⟩ := ab_le h.1 h.2
 obtain ⟨b1, b2⟩ := ab_le hn.1 hn.2
 have h1 := Int.mul_nonneg a1 b1
 have h2 := Int.mul_le_mul a2 b2 b1 (by omega)
 omega
set_option maxHeartbeats 1000000 in
theorem c309 (lo hi st a d c k : Int) (hg : GR lo hi st a d c) (hk : 0 ≤ k ∧ k ≤ c - 1) : Pf Tryz.prog 309 [.agg [.int .i64 lo, .int .i64 hi, .int .i64 st], .int .i64 k] (.tup [.d (.int .i64 (a + k * d)), .d (.int .i64 0)]) := by
 refine pf_body (rvs := [.tmp 4, .tmp 5]) [(0, .d (.agg [.int .i64 lo, .int .i64 hi, .int .i64 st])), (1, .d (.int .i64 k))] Tryz.func309 Tryz.ntmps309 Tryz.results309 (fun S0 O0 w0 m0 hm0 => ?_)
 refine Z202 ?_
 refine gF 0 [] (.agg [.int .i64 lo, .int .i64 hi, .int .i64 st]) rfl ?_
 obtain ⟨w1, w2, w3, w4, w5, w6, w7, w8, w9⟩ := hg.wf
 obtain ⟨n1, n2, n3⟩ := hg.nth hk
 have hgd : Good lo hi st := .inr ⟨a, d, c, hg⟩
 have hlo := hg.hlo
 have hhi := hg.hhi
 have hst := hg.hst
 refine Z0 ?_;refine Z201 ?_;refine Z72 ?_
 refine gL (xs := [.tmp 7]) rfl (c257 lo hi st hgd) ?_
 refine Z244 ?_;refine Z230 ?_
 refine gC (fun hb0 => ?_) (fun hb0 => ?_)
 ·
  exact absurd hb0 (by decide)
 refine Z286 ?_;refine Z27 ?_;refine Z205 ?_
 refine sg rfl (fun hg => qG (by exact sz199) u199 rfl) ?_
 refine g_callg (xs := [.tmp 16]) rfl (fun hg => c194 lo hi st hgd) ?_
 refine sg rfl (fun hg => sP 17 rfl hg (sP 15 rfl hg q_geq)) ?_
 refine Z209 ?_
 refine gC (fun hb1 => ?_) (fun hb1 => ?_)
 ·
  exfalso
  rw [hg.size] at hb1
  simp at hb1
  omega
 refine Z74 ?_
 refine gP [0, 1, 2, 4, 5, 6] ?_
 refine Z4 ?_;refine Z241 ?_;refine Z227 ?_
 refine gC (fun hb2 => ?_) (fun hb2 => ?_)
 ·
  refine Z2 ?_;refine Z241 ?_;refine Z1 ?_;refine Z241 ?_;refine Z179 ?_;refine Z109 ?_;refine Z0 ?_;refine Z200 ?_;refine Z42 ?_
  exact ⟨by have hd := of_decide_eq_true hb2; rw [if_pos (by omega)] at hhi; show PV.tup [.d (.int .i64 (W (hi + W (k * st)))), .d (.int .i64 0)] = _; rw [hst, W_id (n := k * d) (by omega) (by omega), W_id (by omega) (by omega), hhi], rfl⟩
 refine Z45 ?_;refine Z241 ?_;refine Z1 ?_;refine Z241 ?_;refine Z179 ?_;refine Z109 ?_;refine Z0 ?_;refine Z193 ?_;refine Z42 ?_
 exact ⟨by have hd := of_decide_eq_false hb2; rw [if_neg (by omega)] at hlo; show PV.tup [.d (.int .i64 (W (lo + W (k * st)))), .d (.int .i64 0)] = _; rw [hst, W_id (n := k * d) (by omega) (by omega), W_id (by omega) (by omega), hlo], rfl⟩
set_option maxHeartbeats 1000000 in
theorem c254 (lo hi : Int) : Pf Tryz.prog 254 [.int .i64 lo, .int .i64 hi, .int .i64 1] (.tup [.d (.agg [.int .i64 (ofS lo hi).1.1, .int .i64 (ofS lo hi).1.2.1, .int .i64 (ofS lo hi).1.2.2]), .d (.int .i64 (ofS lo hi).2)]) := by
 refine pf_body (rvs := [.cell 6 199, .tmp 7]) [(0, .d (.int .i64 lo)), (1, .d (.int .i64 hi)), (2, .d (.int .i64 1))] Tryz.func254 Tryz.ntmps254 Tryz.results254 (fun S0 O0 w0 m0 hm0 => ?_)
 refine Z2 ?_;refine Z77 ?_;refine Z219 ?_;refine Z272 ?_
 refine gC (fun hb0 => ?_) (fun hb0 => ?_)
 ·
  exact absurd hb0 (by decide)
 refine Z286 ?_
 refine gL (xs := [.tmp 11]) rfl (c306 lo) ?_
 refine Z37 ?_;refine Z205 ?_
 refine g_callg (xs := [.tmp 15]) rfl (fun hg => c306 hi) ?_
 refine sg rfl (fun hg => sP 16 rfl hg q_not) ?_
 refine Z24 ?_;refine Z205 ?_
 refine g_callg (xs := [.tmp 20]) rfl (fun hg => c306 1) ?_
 refine sg rfl (fun hg => sP 21 rfl hg q_not) ?_
 refine Z209 ?_
 refine gC (fun hb1 => ?_) (fun hb1 => ?_)
 ·
  have hf : withinB lo = false ∨ withinB hi = false := by
   have h := hb1
   replace h : ((!withinB lo || !withinB hi) || !withinB 1) = true := h
   simpa [show withinB 1 = true from rfl] using h
  refine Z15 ?_;refine Z181 ?_;refine Z4 ?_;refine Z250 ?_;refine Z200 ?_
  refine fincd sz199 u199 (by simp) ?_
  exact ⟨by rw [of_far hf], rfl⟩
 have h := hb1
 replace h : ((!withinB lo || !withinB hi) || !withinB 1) = false := h
 have hwl : withinB lo = true := by simp at h; exact h.1.1
 have hwh : withinB hi = true := by simp at h; exact h.1.2
 have g1 := within_iff.1 hwl
 have g2 := within_iff.1 hwh
 refine Z74 ?_;refine Z181 ?_;refine Z255 ?_;refine Z62 ?_;refine Z3 ?_
 refine gC (fun hb2 => ?_) (fun hb2 => ?_)
 ·
  refine Z2 ?_
  refine gL (xs := []) rfl (c307) ?_
  refine Z36 ?_;refine Z200 ?_
  refine fincd sz199 u199 (by simp) ?_
  exact ⟨by rw [of_empty hwl hwh (of_decide_eq_true hb2)], rfl⟩
 refine Z286 ?_;refine Z62 ?_;refine Z3 ?_
 refine gC (fun hb3 => ?_) (fun hb3 => ?_)
 ·
  refine Z278 ?_;refine Z198 ?_
  refine vq rfl (q_sub (hw := (W_id (by omega) (by omega)))) ?_
  refine Z1 ?_
  refine vq rfl (q_quo (show (1 : Int) ≠ 0 by decide) (show IntKind.i64.wrap ((hi - lo).tdiv 1) = hi - lo from by rw [Int.tdiv_one]; exact W_id (by omega) (by omega))) ?_
  refine Z1 ?_
  refine vq rfl (q_mul (hw := (show IntKind.i64.wrap ((hi - lo) * 1) = hi - lo from by rw [Int.mul_one]; exact W_id (by omega) (by omega)))) ?_
  refine vq rfl (q_add (hw := (show IntKind.i64.wrap (lo + (hi - lo)) = hi from by rw [show lo + (hi - lo) = hi from by omega]; exact W_id (by omega) (by omega)))) ?_
  refine Z1 ?_
  refine gL (xs := [.tmp 31, .tmp 40, .tmp 41, .const (.bool false)]) rfl (c308 _ _ _ _) ?_
  refine Z36 ?_;refine Z200 ?_
  refine fincd sz199 u199 (by simp) ?_
  exact ⟨by rw [(of_form hwl hwh (by have := of_decide_eq_false hb2; omega)).1], rfl⟩
 exact absurd hb3 (by decide)
set_option maxHeartbeats 4000000 in
theorem c255 (lo hi st n : Int) (hgd : Good lo hi st) : Pf Tryz.prog 255 [.agg [.int .i64 lo, .int .i64 hi, .int .i64 st], .int .i64 n] (.tup [.d (.agg [.int .i64 (byS lo hi st n).1.1, .int .i64 (byS lo hi st n).1.2.1, .int .i64 (byS lo hi st n).1.2.2]), .d (.int .i64 (byS lo hi st n).2)]) := by
 refine pf_body (rvs := [.cell 4 199, .tmp 5]) [(0, .d (.agg [.int .i64 lo, .int .i64 hi, .int .i64 st])), (1, .d (.int .i64 n))] Tryz.func255 Tryz.ntmps255 Tryz.results255 (fun S0 O0 w0 m0 hm0 => ?_)
 refine Z202 ?_
 refine gF 0 [] (.agg [.int .i64 lo, .int .i64 hi, .int .i64 st]) rfl ?_
 refine Z77 ?_;refine Z201 ?_;refine Z72 ?_
 refine gL (xs := [.tmp 14]) rfl (c257 lo hi st hgd) ?_
 refine Z244 ?_;refine Z230 ?_
 refine gC (fun hb0 => ?_) (fun hb0 => ?_)
 ·
  exact absurd hb0 (by decide)
 refine Z286 ?_;refine Z272 ?_
 refine gC (fun hb1 => ?_) (fun hb1 => ?_)
 ·
  have h0 : n = 0 := by simpa using hb1
  refine Z2 ?_;refine Z250 ?_;refine Z200 ?_
  refine fincd sz199 u199 (by simp) ?_
  exact ⟨by rw [by_zero hgd h0], rfl⟩
 have hn0 : n ≠ 0 := by simpa using hb1
 refine Z286 ?_
 refine gL (xs := [.tmp 23]) rfl (c306 n) ?_
 refine Z248 ?_
 refine gC (fun hb2 => ?_) (fun hb2 => ?_)
 ·
  have hw0 : withinB n = false := by simpa using hb2
  refine Z15 ?_;refine Z153 ?_;refine Z4 ?_;refine Z250 ?_;refine Z200 ?_
  refine fincd sz199 u199 (by simp) ?_
  exact ⟨by rw [by_out hgd hn0 hw0], rfl⟩
 have hw0 : withinB n = true := by simpa using hb2
 have hw1 := within_iff.1 hw0
 refine Z43 ?_;refine Z153 ?_;refine Z4 ?_;refine Z72 ?_
 refine gL (xs := [.tmp 27]) rfl (c194 lo hi st hgd) ?_
 refine Z219 ?_;refine Z272 ?_
 refine gC (fun hb3 => ?_) (fun hb3 => ?_)
 ·
  have he := (Good.size hgd).2.2 (by simpa using hb3)
  refine Z2 ?_
  refine gL (xs := []) rfl (c307) ?_
  refine Z36 ?_;refine Z200 ?_
  refine fincd sz199 u199 (by simp) ?_
  exact ⟨by obtain ⟨rfl, rfl, rfl⟩ := he; rw [empty_by, if_neg hn0, if_neg (by rw [hw0]; decide)], rfl⟩
 have hne : ¬ (lo = 1 ∧ hi = 0 ∧ st = 1) := fun h => by
  obtain ⟨rfl, rfl, rfl⟩ := h
  exact absurd hb3 (by decide)
 obtain ⟨a, d, c, hg⟩ := good_cases hgd (fun h => hne h)
 obtain ⟨w1, w2, w3, w4, w5, w6, w7, w8, w9⟩ := hg.wf
 obtain ⟨_, _, g3, _, g5⟩ := hg.facts
 have hc := hg.hc
 have hs := hg.size
 rw [hs]
 refine Z45 ?_;refine Z1 ?_;refine Z0 ?_;refine Z196 ?_
 refine G_seq_cut (α := Int × Int) (fun x => ⟨[(1, .d (.int .i64 n)), (2, .d (.ptr (.agg [.int .i64 lo, .int .i64 hi, .int .i64 st]))), (4, .ref 0 0), (5, .d (.int .i64 0)), (7, .d (.int .i64 c)), (8, .d (.int .i64 x.1)), (9, .d (.int .i64 x.2))], [[.d (.int .i64 0), .d (.int .i64 0), .d (.int .i64 0)]]⟩) (fun x => x.1 = ab n ∧ x.2 = if n < 0 then c - 1 else 0) (fun Q' hn he hr => ?_) (fun x hx => ?_)
 ·
  refine Z220 ?_;refine Z227 ?_
  refine gC (fun hb4 => ?_) (fun hb4 => ?_)
  ·
   refine Z208 ?_
   refine vq rfl ((q_neg (hr := (show IntKind.i64.wrap (0 - n) = -n from by rw [show (0 : Int) - n = -n from by omega]; exact W_id (by omega) (by omega))))) ?_
   refine Z1 ?_;refine Z85 ?_;refine Z0 ?_;refine Z210 ?_
   refine hn _ (-n, c - 1) ⟨by rw [ab, if_pos (of_decide_eq_true hb4)], by rw [if_pos (of_decide_eq_true hb4)]⟩ le_of
  refine Z69 ?_
  refine hn _ (n, 0) ⟨by rw [ab, if_neg (of_decide_eq_false hb4)], by rw [if_neg (of_decide_eq_false hb4)]⟩ le_of
 obtain ⟨m, f⟩ := x
 obtain ⟨hm, hf⟩ := hx
 replace hm : m = ab n := hm
 replace hf : f = if n < 0 then c - 1 else 0 := hf
 have hm0 := ab_pos hn0
 have hm1 := (ab_le (m := 1000000) (by omega) hw1.2 : 0 ≤ ab n ∧ ab n ≤ 1000000).2
 obtain ⟨q, hq⟩ : ∃ q, (c - 1) / m = q := ⟨_, rfl⟩
 obtain ⟨q0, q1, q2, _⟩ := div_facts (k := c - 1) (m := m) (by omega) (by omega)
 rw [hq] at q0 q1 q2
 have hqm : q * m ≤ c - 1 := by rw [Int.mul_comm]; exact q1
 have hqm0 : 0 ≤ q * m := Int.mul_nonneg q0 (by omega)
 have hfb : 0 ≤ f ∧ f ≤ c - 1 := by rw [hf]; split <;> omega
 have h309 := c309 lo hi st a d c f hg hfb
 have hfst : a + f * d = byFst a d c n := by
  rw [hf]; unfold byFst
  split
  · rfl
  · rw [Int.zero_mul, Int.add_zero]
 rw [hfst] at h309
 refine Z220 ?_;refine Z85 ?_;refine Z1 ?_
 refine vq rfl (q_quo (show m ≠ 0 by omega) (show IntKind.i64.wrap ((c - 1).tdiv m) = q from by rw [Int.tdiv_eq_ediv_of_nonneg (by omega), hq]; exact W_id (by omega) (by omega))) ?_
 refine Z20 ?_;refine Z245 ?_;refine Z153 ?_;refine Z4 ?_;refine Z72 ?_;refine Z1 ?_
 refine gL (xs := [.tmp 45, .tmp 46]) rfl (h309) ?_
 refine Z279 ?_;refine Z244 ?_;refine Z196 ?_
 refine G_seq_cut (α := Int) (fun y => ⟨[(2, .d (.ptr (.agg [.int .i64 lo, .int .i64 hi, .int .i64 st]))), (4, .ref 0 0), (5, .d (.int .i64 0)), (8, .d (.int .i64 m)), (11, .d (.int .i64 (byFst a d c n))), (13, .d (.int .i64 y))], [[.d (.int .i64 0), .d (.int .i64 0), .d (.int .i64 0)]]⟩) (fun y => y = byLst a d c n) (fun Q' hn he hr => ?_) (fun y hy => ?_)
 ·
  refine Z220 ?_;refine Z62 ?_;refine Z3 ?_
  refine gC (fun hb5 => ?_) (fun hb5 => ?_)
  ·
   have hn1 := of_decide_eq_true hb5
   have hmn : m = n := by rw [hm, ab, if_neg (by omega)]
   have h3 := c309 lo hi st a d c (q * m) hg ⟨hqm0, hqm⟩
   rw [show a + q * m * d = byLst a d c n from by rw [byLst, if_neg (by omega), ← hq, hmn]] at h3
   refine Z153 ?_;refine Z4 ?_;refine Z72 ?_;refine Z1 ?_
   refine vq rfl (q_sub (hw := (show IntKind.i64.wrap (q + 1 - 1) = q from by rw [show q + 1 - 1 = q from by omega]; exact W_id (by omega) (by omega)))) ?_
   refine Z1 ?_
   refine vq rfl (q_mul (hw := (show IntKind.i64.wrap (q * m) = q * m from W_id (by omega) (by omega)))) ?_
   refine gL (xs := [.tmp 54, .tmp 58]) rfl (h3) ?_
   refine Z215 ?_;refine Z210 ?_
   refine hn _ (byLst a d c n) rfl le_of
  have hn1 := of_decide_eq_false hb5
  have hmn : m = -n := by rw [hm, ab, if_pos (by omega)]
  have h3 := c309 lo hi st a d c (c - 1 - q * m) hg ⟨by omega, by omega⟩
  rw [show a + (c - 1 - q * m) * d = byLst a d c n from by rw [byLst, if_pos (by omega), ← hq, hmn]] at h3
  refine Z153 ?_;refine Z4 ?_;refine Z72 ?_;refine Z1 ?_;refine Z85 ?_;refine Z1 ?_
  refine vq rfl (q_sub (hw := (show IntKind.i64.wrap (q + 1 - 1) = q from by rw [show q + 1 - 1 = q from by omega]; exact W_id (by omega) (by omega)))) ?_
  refine Z1 ?_
  refine vq rfl (q_mul (hw := (show IntKind.i64.wrap (q * m) = q * m from W_id (by omega) (by omega)))) ?_
  refine Z85 ?_
  refine gL (xs := [.tmp 63, .tmp 70]) rfl (h3) ?_
  refine Z215 ?_;refine Z210 ?_
  refine hn _ (byLst a d c n) rfl le_of
 obtain ⟨p1, p2⟩ := ab_prod g3 hw1
 refine Z15 ?_;refine Z153 ?_;refine Z255 ?_
 refine sv rfl (Yld_pure rfl (of_decide_eq_true rfl) q_min) ?_
 refine Z198 ?_
 refine sv rfl (Yld_pure rfl (of_decide_eq_true rfl) q_max) ?_
 refine Z72 ?_
 refine gL (xs := [.tmp 80]) rfl (c259 lo hi st w3) ?_
 refine Z1 ?_
 refine vq rfl (q_mul (hw := (show IntKind.i64.wrap (ab st * m) = ab d * ab n from by rw [hg.hst, hm]; exact W_id (by omega) (by omega)))) ?_
 refine Z198 ?_;refine Z27 ?_
 refine gL (xs := [.tmp 76, .tmp 79, .tmp 83, .tmp 86]) rfl (c308 _ _ _ _) ?_
 refine Z36 ?_;refine Z193 ?_
 refine fincd sz199 u199 (by simp) ?_
 exact ⟨by rw [(by_form hg hw0 hn0).1, hy]; rfl, rfl⟩
set_option maxHeartbeats 4000000 in
theorem c256 (lo hi st n : Int) (hgd : Good lo hi st) : Pf Tryz.prog 256 [.agg [.int .i64 lo, .int .i64 hi, .int .i64 st], .int .i64 n] (.tup [.d (.agg [.int .i64 (countS lo hi st n).1.1, .int .i64 (countS lo hi st n).1.2.1, .int .i64 (countS lo hi st n).1.2.2]), .d (.int .i64 (countS lo hi st n).2)]) := by
 refine pf_body (rvs := [.cell 4 199, .tmp 5]) [(0, .d (.agg [.int .i64 lo, .int .i64 hi, .int .i64 st])), (1, .d (.int .i64 n))] Tryz.func256 Tryz.ntmps256 Tryz.results256 (fun S0 O0 w0 m0 hm0 => ?_)
 refine Z202 ?_
 refine gF 0 [] (.agg [.int .i64 lo, .int .i64 hi, .int .i64 st]) rfl ?_
 refine Z77 ?_;refine Z201 ?_;refine Z72 ?_
 refine gL (xs := [.tmp 14]) rfl (c257 lo hi st hgd) ?_
 refine Z244 ?_;refine Z230 ?_
 refine gC (fun hb0 => ?_) (fun hb0 => ?_)
 ·
  exact absurd hb0 (by decide)
 refine Z45 ?_;refine Z72 ?_
 refine gL (xs := [.tmp 20]) rfl (c194 lo hi st hgd) ?_
 refine Z0 ?_
 obtain ⟨z1, z2, z3⟩ := Good.size hgd
 refine Z16 ?_;refine Z198 ?_;refine Z62 ?_;refine Z205 ?_;refine Z21 ?_
 refine sg rfl (fun hg => sP 27 rfl hg (q_neg (hr := (show IntKind.i64.wrap (0 - sizeS lo hi st) = -sizeS lo hi st from by rw [show (0 : Int) - sizeS lo hi st = -sizeS lo hi st from by omega]; exact W_id (by omega) (by omega))))) ?_
 refine sg rfl (fun hg => sP 28 rfl hg (sP 26 rfl hg q_lss)) ?_
 refine Z209 ?_
 refine gC (fun hb1 => ?_) (fun hb1 => ?_)
 ·
  have ho : n > sizeS lo hi st ∨ n < -sizeS lo hi st := by
   have h := hb1
   rcases Bool.or_eq_true_iff.1 h with h | h
   · exact .inl (of_decide_eq_true h)
   · exact .inr (of_decide_eq_true h)
  refine Z15 ?_
  refine gP [0, 1, 2, 4, 5, 6, 7, 8, 9, 10, 12] ?_
  refine Z4 ?_;refine Z250 ?_;refine Z200 ?_
  refine fincd sz199 u199 (by simp) ?_
  exact ⟨by rw [ct_out hgd ho], rfl⟩
 have ho : ¬ n > sizeS lo hi st ∧ ¬ n < -sizeS lo hi st := by
  have h := hb1
  obtain ⟨h1, h2⟩ := Bool.or_eq_false_iff.1 h
  exact ⟨of_decide_eq_false h1, of_decide_eq_false h2⟩
 refine Z74 ?_
 refine gP [0, 1, 2, 4, 5, 6, 7, 8, 9, 10, 12] ?_
 refine Z208 ?_;refine Z272 ?_
 refine gC (fun hb2 => ?_) (fun hb2 => ?_)
 ·
  have h0 : n = 0 := by simpa using hb2
  refine Z2 ?_
  refine gL (xs := []) rfl (c307) ?_
  refine Z36 ?_;refine Z200 ?_
  refine fincd sz199 u199 (by simp) ?_
  exact ⟨by rw [ct_zero hgd h0], rfl⟩
 have hn0 : n ≠ 0 := by simpa using hb2
 have hne : ¬ (lo = 1 ∧ hi = 0 ∧ st = 1) := fun h => by
  obtain ⟨rfl, rfl, rfl⟩ := h
  have : sizeS 1 0 1 = 0 := by decide
  omega
 obtain ⟨a, d, c, hg⟩ := good_cases hgd (fun h => hne h)
 obtain ⟨w1, w2, w3, w4, w5, w6, w7, w8, w9⟩ := hg.wf
 obtain ⟨_, _, g3, _, g5⟩ := hg.facts
 have hc := hg.hc
 have hs := hg.size
 rw [hs]
 rw [hs] at ho
 refine Z45 ?_;refine Z1 ?_;refine Z85 ?_;refine Z0 ?_;refine Z196 ?_
 refine G_seq_cut (α := Int × Int) (fun x => ⟨[(2, .d (.ptr (.agg [.int .i64 lo, .int .i64 hi, .int .i64 st]))), (4, .ref 0 0), (5, .d (.int .i64 0)), (8, .d (.int .i64 x.1)), (9, .d (.int .i64 x.2))], [[.d (.int .i64 0), .d (.int .i64 0), .d (.int .i64 0)]]⟩) (fun x => (0 ≤ x.1 ∧ x.1 ≤ c - 1) ∧ (0 ≤ x.2 ∧ x.2 ≤ c - 1) ∧ a + x.1 * d = ctFst a d c n ∧ a + x.2 * d = ctLst a d c n) (fun Q' hn he hr => ?_) (fun x hx => ?_)
 ·
  refine Z220 ?_;refine Z227 ?_
  refine gC (fun hb3 => ?_) (fun hb3 => ?_)
  ·
   refine Z255 ?_;refine Z216 ?_;refine Z85 ?_;refine Z0 ?_;refine Z210 ?_
   refine hn _ (c + n, c - 1) ⟨by have := of_decide_eq_true hb3; dsimp only; omega, by dsimp only; omega, by rw [ctFst, if_pos (of_decide_eq_true hb3)], by rw [ctLst, if_pos (of_decide_eq_true hb3)]⟩ le_of
  refine Z69 ?_
  refine hn _ (0, n - 1) ⟨by dsimp only; omega, by have := of_decide_eq_false hb3; dsimp only; omega, by rw [ctFst, if_neg (of_decide_eq_false hb3)]; show a + 0 * d = a; rw [Int.zero_mul, Int.add_zero], by rw [ctLst, if_neg (of_decide_eq_false hb3)]⟩ le_of
 obtain ⟨f, t⟩ := x
 obtain ⟨hx1, hx2, hx3, hx4⟩ := hx
 have h1 := c309 lo hi st a d c f hg hx1
 rw [hx3] at h1
 have h2 := c309 lo hi st a d c t hg hx2
 rw [hx4] at h2
 refine Z2 ?_;refine Z72 ?_;refine Z1 ?_
 refine gL (xs := [.tmp 45, .tmp 46]) rfl (h1) ?_
 refine Z215 ?_;refine Z221 ?_;refine Z30 ?_
 refine gP [0, 1, 2, 4, 5, 6, 7, 8, 9, 10, 12] ?_
 refine Z4 ?_;refine Z72 ?_;refine Z1 ?_
 refine gL (xs := [.tmp 51, .tmp 52]) rfl (h2) ?_
 refine Z215 ?_;refine Z221 ?_;refine Z30 ?_
 refine g_cg [56, 57, 58, 59, 60, 61, 62, 63, 64, 65, 66, 67, 5] (fun bq => [cond (bq 12) [.d (.int .i64 (normR (mn (ctFst a d c n) (ctLst a d c n)) (mx (ctFst a d c n) (ctLst a d c n)) (ab st) (decide (st < 0))).1), .d (.int .i64 (normR (mn (ctFst a d c n) (ctLst a d c n)) (mx (ctFst a d c n) (ctLst a d c n)) (ab st) (decide (st < 0))).2.1), .d (.int .i64 (normR (mn (ctFst a d c n) (ctLst a d c n)) (mx (ctFst a d c n) (ctLst a d c n)) (ab st) (decide (st < 0))).2.2)] [.d (.int .i64 0), .d (.int .i64 0), .d (.int .i64 0)]]) rfl ?_
 refine Z12 ?_
 refine cS 1 (fun bq rest hc1 hc2 hc3 => vq rfl qM (gN ⟨rfl, rfl⟩)) ?_
 refine Z12 ?_
 refine cS 2 (fun bq rest hc1 hc2 hc3 => vq rfl qM (gN ⟨rfl, rfl⟩)) ?_
 refine cP [0, 1] ?_
 refine cS 3 (fun bq rest hc1 hc2 hc3 => sv rfl (Yld_pure rfl (of_decide_eq_true rfl) q_min) (gN ⟨rfl, rfl⟩)) ?_
 refine Z12 ?_
 refine cS 4 (fun bq rest hc1 hc2 hc3 => vq rfl qM (gN ⟨rfl, rfl⟩)) ?_
 refine Z12 ?_
 refine cS 5 (fun bq rest hc1 hc2 hc3 => vq rfl qM (gN ⟨rfl, rfl⟩)) ?_
 refine cP [3, 4] ?_
 refine cS 6 (fun bq rest hc1 hc2 hc3 => sv rfl (Yld_pure rfl (of_decide_eq_true rfl) q_max) (gN ⟨rfl, rfl⟩)) ?_
 refine Z12 ?_
 refine cS 7 (fun bq rest hc1 hc2 hc3 => vq rfl (qG (by exact sz199) u199 rfl) (gN ⟨rfl, rfl⟩)) ?_
 refine Z73 ?_
 refine cS 8 (fun bq rest hc1 hc2 hc3 => gL (xs := [.tmp 62]) rfl (c259 lo hi st w3) (gN ⟨rfl, rfl⟩)) ?_
 refine Z12 ?_
 refine cS 9 (fun bq rest hc1 hc2 hc3 => vq rfl (qF u199 rfl sz3) (gN ⟨rfl, rfl⟩)) ?_
 refine cP [8] ?_
 refine cS 10 (fun bq rest hc1 hc2 hc3 => vq rfl (qL u3) (gN ⟨rfl, rfl⟩)) ?_
 refine Z105 ?_
 refine cS 11 (fun bq rest hc1 hc2 hc3 => vq rfl q_lss (gN ⟨rfl, rfl⟩)) ?_
 refine cP [2, 5, 7, 10, 7] ?_
 refine cS 12 (fun bq rest hc1 hc2 hc3 => gL (xs := [.tmp 58, .tmp 61, .tmp 63, .tmp 66]) rfl (c308 _ _ _ _) (gN ⟨rfl, rfl⟩)) ?_
 refine cP [11, 11, 0, 1, 2, 3, 4, 5, 6, 7, 8, 9, 10, 11] ?_
 refine cg_act 13 (fun bq rest hc1 hc2 hc3 => by
  have e2 : upd bq 12 12 = true := rfl
  simp only [hc1, cond_false]
  refine Z36 ?_
  exact (gN ⟨rfl, by rw [e2]; rfl⟩)) ?_
 refine cP [12, 0, 1, 2, 3, 4, 5, 6, 7, 8, 9, 10, 11, 12] ?_
 refine cS 14 (fun bq rest hc1 hc2 hc3 => vq rfl qA (gN ⟨rfl, rfl⟩)) ?_
 refine cg_done (mem'' := [[.d (.int .i64 (normR (mn (ctFst a d c n) (ctLst a d c n)) (mx (ctFst a d c n) (ctLst a d c n)) (ab st) (decide (st < 0))).1), .d (.int .i64 (normR (mn (ctFst a d c n) (ctLst a d c n)) (mx (ctFst a d c n) (ctLst a d c n)) (ab st) (decide (st < 0))).2.1), .d (.int .i64 (normR (mn (ctFst a d c n) (ctLst a d c n)) (mx (ctFst a d c n) (ctLst a d c n)) (ab st) (decide (st < 0))).2.2)]]) ?_
 refine Z110 ?_
 refine fincd sz199 u199 (by simp) ?_
 exact ⟨by rw [(count_form hg ho.1 ho.2 hn0).1, hg.hst], rfl⟩
end Go.Proofs.YtklkbfpjimeaoaaGreat
namespace Go.Proofs.YtklkbfpjimeaoaaGreat
open Go Go.Proofs.YtklkbfpjimeaoaaGreat.E
set_option maxHeartbeats 4000000 in
theorem c109n : ∀ (n : Nat) (t : Tr), t.size ≤ n → t.Lens → Pf Tryz.prog 109 [t.d] (.d t.d) := by
 intro n
 induction n with
 | zero => intro t h; exact absurd t.size_pos (by omega)
 | succ n ih =>
  intro t hsz hok
  obtain ⟨op, name, num, ks⟩ := t
  have hkd : ∀ k ∈ ks, k.size ≤ n := fun k hk => by
   have := Tr.size_mem hk
   rw [Tr.size] at hsz
   omega
  rw [Tr.d_mk]
  cases hok with | mk h4 h5 =>
  refine pf_body (rvs := [.cell 2 27]) [(0, .d (.agg [.int .i64 op, .str name, .int .i64 num, .sl (ks.map Tr.d)]))] Tryz.func109 Tryz.ntmps109 Tryz.results109 (fun S0 O0 w0 m0 hm0 => ?_)
  refine Z202 ?_
  refine gF 0 [] (.agg [.int .i64 op, .str name, .int .i64 num, .sl (ks.map Tr.d)]) rfl ?_
  refine Z29 ?_;refine Z7 ?_;refine Z199 ?_;refine Z212 ?_;refine Z199 ?_
  refine vq rfl ((q_buildP pl27 zr27)) ?_
  refine Z218 ?_;refine Z16 ?_;refine Z243 ?_
  refine g_loop (α := Nat) (fun z => ⟨[(4, .d (.int .i64 (z : Nat))), (1, .d (.ptr (.agg [.int .i64 op, .str name, .int .i64 num, .sl (ks.map Tr.d)]))), (3, .ref 1 0), (2, .ref 0 0)], [[.d (.int .i64 0), .d (.str ⟨#[]⟩), .d (.int .i64 0), .nils], [.d (.int .i64 op), .d (.str name), .d (.int .i64 num), .osl 4 ((ks.take z).map Tr.d)]]⟩) (fun z => ks.length - z) (fun z => z ≤ ks.length) 0 (Nat.zero_le _) (fun z hz Q' hn0 he0 hr0 => ?_) (le_of)
  have hll : (ks.take z).length = z := by rw [List.length_take]; omega
  refine Z242 ?_;refine Z281 ?_
  refine gC (fun hb0 => ?_) (fun hb0 => ?_)
  ·
   have hlt : z < ks.length := by simpa using hb0
   obtain ⟨k, hk⟩ : ∃ k, ks[z]? = some k := ⟨_, List.getElem?_eq_getElem (by omega)⟩
   have hmem := List.mem_of_getElem? hk
   have hxd := Tr.ds_get hk
   have hxa := hxd
   obtain ⟨kop, knm, knu, kks, hka⟩ := k.d_agg
   rw [hka] at hxa
   refine gK (tN (gS (G_block ?_)))
   refine g_ck [(1, 9), (9, 11)] [19, 20, 21, 22, 23, 24, 25, 26, 27, 28, 29] (fun bq => [[.d (.int .i64 0), .d (.str ⟨#[]⟩), .d (.int .i64 0), .nils], cond (bq 11) [.d (.int .i64 op), .d (.str name), .d (.int .i64 num), .osl 4 ((ks.take z).map Tr.d ++ [.agg [.int .i64 kop, .str knm, .int .i64 knu, .sl (kks.map Tr.d)]])] (cond (bq 1) [.d (.int .i64 op), .d (.str name), .d (.int .i64 num), .d (.sl ((ks.take z).map Tr.d))] [.d (.int .i64 op), .d (.str name), .d (.int .i64 num), .osl 4 ((ks.take z).map Tr.d)])]) rfl ?_
   refine ck_pre [] ?_
   refine ck_st 1 (fun bq rest hc1 hc2 hc3 => sv rfl (y_fieldAt 3 u27 rfl sz22) (gN ⟨rfl, rfl⟩)) ?_
   refine ck_pre [0] ?_
   refine ck_st 2 (fun bq rest hc1 hc2 hc3 => by
    have h9 := hc3.no 9 1 hc1
    have h11 := hc3.no 11 9 h9
    have e1 : upd bq 1 1 = true := rfl
    have e2 : upd bq 1 11 = false := h11
    simp only [hc1, h11, cond_false]
    refine Z133 ?_
    exact (gN ⟨rfl, by rw [e1, e2]; rfl⟩)) ?_
   refine ck_pre [] ?_
   refine ck_st 3 (fun bq rest hc1 hc2 hc3 => vq rfl (qF u27 rfl sz22) (gN ⟨rfl, rfl⟩)) ?_
   refine ck_pre [2] ?_
   refine ck_st 4 (fun bq rest hc1 hc2 hc3 => vq rfl (qL u22) (gN ⟨rfl, rfl⟩)) ?_
   refine ck_pre [] ?_
   refine ck_st 5 (fun bq rest hc1 hc2 hc3 => vq rfl qM (gN ⟨rfl, rfl⟩)) ?_
   refine ck_pre [3, 4] ?_
   refine ck_st 6 (fun bq rest hc1 hc2 hc3 => vq rfl (qI u22 sz27) (gN ⟨rfl, rfl⟩)) ?_
   refine ck_pre [5] ?_
   refine ck_st 7 (fun bq rest hc1 hc2 hc3 => vq rfl (qG (by exact sz27) u27 rfl) (gN ⟨rfl, rfl⟩)) ?_
   refine ck_pre [6] ?_
   refine ck_st 8 (fun bq rest hc1 hc2 hc3 => gL (xs := [.tmp 25]) rfl ((hka ▸ ih k (hkd k hmem) (h5 k hmem))) (gN ⟨rfl, rfl⟩)) ?_
   refine ck_pre [7] ?_
   refine ck_st 9 (fun bq rest hc1 hc2 hc3 => sv rfl (y_buildSlice (xs := [.tmp 26]) u22 inf27) (gN ⟨rfl, rfl⟩)) ?_
   refine ck_pre [1, 8, 7] ?_
   refine ck_tk 10 20 (fun bq rest hc1 hc2 hc3 => sv rfl (y_append u22 inf27 (hk := by first | exact Tr.ds_cells _ | (intro x hx; simp at hx; subst hx; simp [D.cells])) (hlen := by simp [lim]; omega) (hB := by simp [lim]; omega)) (gN ⟨rfl, rfl⟩)) ?_
   refine ck_pre [0, 2, 3, 4, 5, 6, 7, 8] ?_
   refine ck_st 11 (fun bq rest hc1 hc2 hc3 => sv rfl (y_fieldAt 3 u27 rfl sz22) (gN ⟨rfl, rfl⟩)) ?_
   refine ck_pre [10, 9, 9, 0, 2, 3, 4, 5, 6, 7, 8, 9] ?_
   refine ck_atk 12 28 (fun bq rest hc1 hc2 hc3 => by
    have h9 := hc2 9 dep_in
    have h1 := hc3 9 h9 1 dep_in
    have e1 : upd bq 11 11 = true := rfl
    simp only [hc1, h1, cond_true, cond_false]
    refine Z134 ?_
    exact (gN ⟨rfl, by rw [e1]; rfl⟩)) ?_
   refine ck_done (mem'' := [[.d (.int .i64 0), .d (.str ⟨#[]⟩), .d (.int .i64 0), .nils], [.d (.int .i64 op), .d (.str name), .d (.int .i64 num), .osl 4 ((ks.take z).map Tr.d ++ [.agg [.int .i64 kop, .str knm, .int .i64 knu, .sl (kks.map Tr.d)]])]]) ?_
   refine Z99 ?_;refine Z75 ?_;refine Z4 ?_
   rw [← hka, show (ks.take z).map Tr.d ++ [k.d] = (ks.take (z + 1)).map Tr.d from by rw [List.take_add_one, hk, List.map_append]; rfl]
   refine Z240 ?_
   refine hn0 _ (z + 1) (by omega) (by omega) le_of
  have hge : z = ks.length := by
   have : ¬ (z : Int) < ((ks.map Tr.d).length : Nat) := by simpa using hb0
   rw [List.length_map] at this
   omega
  refine Z34 ?_
  refine he0 _ _ ?_
  refine Z38 ?_
  rw [hge, List.take_length]
  refine Z273 ?_;refine Z6 ?_;refine Z83 ?_
  exact ⟨by rfl, rfl⟩
theorem c111 (t : Tr) : Pf Tryz.prog 111 [t.d] (.d (.bool (loopsB t.op t.nu t.kids.length))) := by
 obtain ⟨op, name, num, ks⟩ := t
 rw [Tr.d_mk]
 try simp only [Tr.op_mk, Tr.nm_mk, Tr.nu_mk, Tr.kids_mk]
 refine pf_body (rvs := [.tmp 2]) [(0, .d (.agg [.int .i64 op, .str name, .int .i64 num, .sl (ks.map Tr.d)]))] Tryz.func111 Tryz.ntmps111 Tryz.results111 (fun S0 O0 w0 m0 hm0 => ?_)
 refine Z202 ?_
 refine gF 0 [] (.agg [.int .i64 op, .str name, .int .i64 num, .sl (ks.map Tr.d)]) rfl ?_
 refine Z194 ?_;refine Z229 ?_;refine Z206 ?_;refine Z108 ?_;refine Z137 ?_;refine Z24 ?_;refine Z206 ?_
 refine sg rfl (fun hg => sP 12 rfl hg (qL u3)) ?_
 refine sg rfl (fun hg => sP 13 rfl hg q_eql) ?_
 refine Z24 ?_;refine Z206 ?_;refine Z157 ?_
 refine sg rfl (fun hg => sP 18 rfl hg q_geq) ?_
 refine Z8 ?_;refine Z206 ?_;refine Z151 ?_
 refine sg rfl (fun hg => sP 23 rfl hg q_leq) ?_
 refine Z8 ?_;refine Z237 ?_
 refine sg rfl (fun hg => sP 27 rfl hg (qL u22)) ?_
 refine sg rfl (fun hg => sP 28 rfl hg (q_len u22)) ?_
 refine Z28 ?_;refine Z185 ?_
 refine sg rfl (fun hg => sP 31 rfl hg (q_add (hw := rfl))) ?_
 refine sg rfl (fun hg => sP 32 rfl hg (sP 29 rfl hg q_geq)) ?_
 refine Z228 ?_
 exact ⟨by (simp only [Tr.op_mk, Tr.nu_mk, Tr.kids_mk, loopsB, List.length_map, W] <;> rfl), rfl⟩
def woL (l : List (ByteArray × Tr)) (nm : ByteArray) : List (ByteArray × Tr) := l.filter fun c => !decide (c.1 = nm)
theorem woL_step {l : List (ByteArray × Tr)} {z : Nat} {c : ByteArray × Tr} (h : l[z]? = some c) (nm : ByteArray) : woL (l.take (z + 1)) nm = woL (l.take z) nm ++ (if decide (c.1 = nm) = true then [] else [c]) := by
 unfold woL
 rw [List.take_add_one, h, List.filter_append]
 congr 1
 by_cases hc : c.1 = nm
 · simp [hc]
 · simp [hc]
theorem woL_len (l : List (ByteArray × Tr)) (nm : ByteArray) : (woL l nm).length ≤ l.length := List.length_filter_le _ _
set_option maxHeartbeats 4000000 in
theorem c112 (l : List (ByteArray × Tr)) (nm : ByteArray) (hlim : l.length ≤ 1000000) : Pf Tryz.prog 112 [.sl (l.map cD), .str nm] (.d (.sl ((woL l nm).map cD))) := by
 refine pf_body (rvs := [.tmp 4]) [(0, .d (.sl (l.map cD))), (1, .d (.str nm))] Tryz.func112 Tryz.ntmps112 Tryz.results112 (fun S0 O0 w0 m0 hm0 => ?_)
 refine Z211 ?_;refine Z154 ?_;refine Z80 ?_;refine Z16 ?_;refine Z243 ?_
 refine g_loop (α := Nat) (fun z => ⟨[(6, .d (.int .i64 (z : Nat))), (5, .osl 5 ((woL (l.take z) nm).map cD)), (1, .d (.str nm)), (0, .d (.sl (l.map cD)))], []⟩) (fun z => l.length - z) (fun z => z ≤ l.length) 0 (Nat.zero_le _) (fun z hz Q' hn0 he0 hr0 => ?_) (le_of)
 have hll : (woL (l.take z) nm).length ≤ z := Nat.le_trans (woL_len _ _) (by rw [List.length_take]; omega)
 refine Z35 ?_;refine Z198 ?_;refine Z131 ?_;refine Z227 ?_
 refine gC (fun hb0 => ?_) (fun hb0 => ?_)
 ·
  have hlt : z < l.length := by simpa using hb0
  obtain ⟨c, hc⟩ : ∃ c, l[z]? = some c := ⟨_, List.getElem?_eq_getElem hlt⟩
  have hxd := cD_get hc
  have hws := woL_step hc nm
  obtain ⟨op, name, num, ks, _, hca⟩ := cD_agg c
  rw [hca] at hxd
  refine Z41 ?_;refine Z198 ?_;refine Z132 ?_
  refine vq rfl (qF u59 rfl sz9) ?_
  refine Z31 ?_;refine Z1 ?_
  refine vq rfl q_strne ?_
  refine Z3 ?_
  refine gC (fun hb1 => ?_) (fun hb1 => ?_)
  ·
   rw [if_neg (by simpa using hb1)] at hws
   refine Z4 ?_;refine Z129 ?_;refine Z198 ?_;refine Z132 ?_;refine Z190 ?_
   refine sv rfl (y_buildSlice (xs := [.tmp 25]) u49 inf59) ?_
   refine sv rfl (y_append u49 inf59 (hk := by first | exact cD_cells _ | (intro x hx; simp at hx; subst hx; simp [D.cells])) (hlen := by simp [lim]; omega) (hB := by simp [lim]; omega)) ?_
   rw [← hca, show (woL (l.take z) nm).map cD ++ [cD c] = (woL (l.take (z + 1)) nm).map cD from by rw [hws, List.map_append]; rfl]
   refine Z80 ?_;refine Z155 ?_
   refine gP [0, 1, 4, 5, 6] ?_
   refine Z291 ?_
   refine hn0 _ (z + 1) (by omega) (by omega) le_of
  rw [if_pos (by simpa using hb1), List.append_nil] at hws
  refine Z70 ?_
  rw [← hws]
  refine Z240 ?_
  refine hn0 _ (z + 1) (by omega) (by omega) le_of
 have hge : z = l.length := by
  have : ¬ (z : Int) < (l.map cD).length := by simpa using hb0
  rw [List.length_map] at this
  omega
 refine Z34 ?_
 refine he0 _ _ ?_
 refine Z38 ?_
 rw [hge, List.take_length]
 refine Z1 ?_;refine Z195 ?_
 exact ⟨rfl, rfl⟩
end Go.Proofs.YtklkbfpjimeaoaaGreat
