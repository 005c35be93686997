import Derived.Test.YtklkbfpjimeaoaaGreatM16
/- Contracts of functions. Conditions: none. -/
set_option linter.unusedSimpArgs false
set_option linter.unusedVariables false
set_option maxRecDepth 20000
namespace Go.Proofs.YtklkbfpjimeaoaaGreat
open Go Go.Proofs.YtklkbfpjimeaoaaGreat.E
theorem check_st {lo hi st : Int} (h : checkS lo hi st = 0) (hle : lo ≤ hi) : st ≠ 0 := by
 rintro rfl
 unfold checkS at h
 split at h
 · rw [if_pos (by simp)] at h
   cases h
 · rename_i hn
   apply hn
   simp
def byN (f b c m : Int) : (Int × Int × Int) × Int := normalS f (W (b * m)) (W ((W (W (c + m) - 1)).tdiv m))
def byS (lo hi st n : Int) : (Int × Int × Int) × Int :=
 if (checkS lo hi st != 0) = true then ((0, 0, 0), checkS lo hi st)
 else if (n == 0) = true then ((0, 0, 0), 1)
 else if (!withinB n) = true then ((0, 0, 0), 4)
 else if n < 0 then byN (turnS (seriesS lo hi st).1 (seriesS lo hi st).2.1 (seriesS lo hi st).2.2).1 (turnS (seriesS lo hi st).1 (seriesS lo hi st).2.1 (seriesS lo hi st).2.2).2.1 (turnS (seriesS lo hi st).1 (seriesS lo hi st).2.1 (seriesS lo hi st).2.2).2.2 (W (0 - n))
 else byN (seriesS lo hi st).1 (seriesS lo hi st).2.1 (seriesS lo hi st).2.2 n
def countS (lo hi st n : Int) : (Int × Int × Int) × Int :=
 if (checkS lo hi st != 0) = true then ((0, 0, 0), checkS lo hi st)
 else if (decide (n > (seriesS lo hi st).2.2) || decide (n < W (0 - (seriesS lo hi st).2.2))) = true then ((0, 0, 0), 5)
 else if n < 0 then normalS (W ((seriesS lo hi st).1 + W ((seriesS lo hi st).2.1 * W ((seriesS lo hi st).2.2 + n)))) (seriesS lo hi st).2.1 (W (0 - n))
 else normalS (seriesS lo hi st).1 (seriesS lo hi st).2.1 n
set_option maxHeartbeats 1000000 in
theorem c246 (lo hi : Int) : Pf Tryz.prog 246 [.int .i64 lo, .int .i64 hi, .int .i64 1] (.tup [.d (.agg [.int .i64 (ofS lo hi).1.1, .int .i64 (ofS lo hi).1.2.1, .int .i64 (ofS lo hi).1.2.2]), .d (.int .i64 (ofS lo hi).2)]) := by
 refine pf_body (rvs := [.cell 6 199, .tmp 7]) [(0, .d (.int .i64 lo)), (1, .d (.int .i64 hi)), (2, .d (.int .i64 1))] Tryz.func246 Tryz.ntmps246 Tryz.results246 (fun S0 O0 w0 m0 hm0 => ?_)
 refine Z2 ?_;refine Z77 ?_;refine Z0 ?_;refine Z160 ?_;refine Z1 ?_;refine Z204 ?_
 refine gC (fun hb0 => ?_) (fun hb0 => ?_)
 ·
  exact absurd hb0 (by decide)
 refine Z220 ?_
 refine gL (xs := [.tmp 13]) rfl (c303 lo) ?_
 refine Z37 ?_;refine Z205 ?_
 refine g_callg (xs := [.tmp 17]) rfl (fun hg => c303 hi) ?_
 refine sg rfl (fun hg => sP 18 rfl hg q_not) ?_
 refine Z24 ?_;refine Z205 ?_
 refine g_callg (xs := [.tmp 22]) rfl (fun hg => c303 1) ?_
 refine sg rfl (fun hg => sP 23 rfl hg q_not) ?_
 refine Z24 ?_;refine Z196 ?_
 refine gC (fun hb1 => ?_) (fun hb1 => ?_)
 ·
  refine Z15 ?_;refine Z181 ?_;refine Z4 ?_;refine Z250 ?_;refine Z197 ?_
  refine fincd sz199 u199 (by simp) ?_
  exact ⟨by rw [ofS, if_pos hb1], rfl⟩
 refine Z15 ?_;refine Z181 ?_;refine Z255 ?_;refine Z62 ?_;refine Z196 ?_
 refine gC (fun hb2 => ?_) (fun hb2 => ?_)
 ·
  refine Z2 ?_
  refine vq rfl (q_buildS pl260 zr260) ?_
  refine gL (xs := [.tmp 31]) rfl (c304 0 0 0) ?_
  refine Z207 ?_;refine Z36 ?_;refine Z197 ?_
  refine fincd sz199 u199 (by simp) ?_
  exact ⟨by rw [ofS, if_neg (by rw [hb1]; decide), if_pos (of_decide_eq_true hb2)], rfl⟩
 refine Z220 ?_;refine Z27 ?_;refine Z196 ?_
 refine gC (fun hb3 => ?_) (fun hb3 => ?_)
 ·
  exact absurd hb3 (by decide)
 refine Z71 ?_;refine Z198 ?_;refine Z198 ?_;refine Z142 ?_;refine Z1 ?_
 refine vq rfl (q_quo (show (1 : Int) ≠ 0 by decide) rfl) ?_
 refine Z109 ?_
 refine vq rfl (q_buildS pl260 zr260) ?_
 refine gL (xs := [.tmp 59]) rfl (c304 _ _ _) ?_
 refine Z207 ?_;refine Z36 ?_;refine Z193 ?_
 refine fincd sz199 u199 (by simp) ?_
 exact ⟨by rw [ofS, if_neg (by rw [hb1]; decide), if_neg (of_decide_eq_false hb2)]; rfl, rfl⟩
set_option maxHeartbeats 1000000 in
theorem c249 (lo hi st : Int) (hw : wf64 st) : Pf Tryz.prog 249 [.agg [.int .i64 lo, .int .i64 hi, .int .i64 st]] (.d (.int .i64 (checkS lo hi st))) := by
 refine pf_body (rvs := [.tmp 2]) [(0, .d (.agg [.int .i64 lo, .int .i64 hi, .int .i64 st]))] Tryz.func249 Tryz.ntmps249 Tryz.results249 (fun S0 O0 w0 m0 hm0 => ?_)
 refine Z202 ?_
 refine gF 0 [] (.agg [.int .i64 lo, .int .i64 hi, .int .i64 st]) rfl ?_
 refine Z194 ?_;refine Z72 ?_;refine Z66 ?_
 refine vq rfl ((q_structeq (eq_rg lo hi st))) ?_
 refine Z194 ?_;refine Z241 ?_;refine Z241 ?_;refine Z9 ?_;refine Z1 ?_;refine Z126 ?_
 refine sg rfl (fun hg => sP 15 rfl hg (qL u3)) ?_
 refine sg rfl (fun hg => sP 16 rfl hg q_eql) ?_
 refine Z290 ?_
 refine G_seq_cut (α := Unit) (fun _u => ⟨[(1, .d (.ptr (.agg [.int .i64 lo, .int .i64 hi, .int .i64 st]))), (2, .d (.int .i64 0))], []⟩) (fun _u => checkS lo hi st = limS lo hi) (fun Q' hn he hr => ?_) (fun _u h_u => ?_)
 ·
  refine Z15 ?_;refine Z143 ?_;refine Z208 ?_;refine Z37 ?_;refine Z205 ?_
  refine sg rfl (fun hg => sP 22 rfl hg q_not) ?_
  refine Z238 ?_
  refine gC (fun hb0 => ?_) (fun hb0 => ?_)
  ·
   refine Z35 ?_;refine Z241 ?_;refine Z241 ?_;refine Z52 ?_;refine Z1 ?_;refine Z126 ?_
   refine sg rfl (fun hg => sP 31 rfl hg (qL u3)) ?_
   refine sg rfl (fun hg => sP 32 rfl hg q_eql) ?_
   refine Z209 ?_
   refine gC (fun hb1 => ?_) (fun hb1 => ?_)
   ·
    refine Z15 ?_;refine Z143 ?_;refine Z4 ?_;refine Z200 ?_
    refine hr _ ?_
    refine Z5 ?_
    exact ⟨by rw [checkS, if_pos hb0, if_pos hb1], rfl⟩
   have hst : st ≠ 0 := by
    rintro rfl
    simp at hb1
   refine Z43 ?_;refine Z143 ?_;refine Z4 ?_;refine Z241 ?_
   refine vq rfl (q_convert u3 u286) ?_
   refine Z196 ?_
   refine G_seq_cut (α := Int) (fun x => ⟨[(1, .d (.ptr (.agg [.int .i64 lo, .int .i64 hi, .int .i64 st]))), (2, .d (.int .i64 0)), (5, .d (.int .u64 x))], []⟩) (fun x => x = stepS st) (fun Q' hn he hr => ?_) (fun x hx => ?_)
   ·
    refine Z2 ?_;refine Z241 ?_;refine Z227 ?_
    refine gC (fun hb2 => ?_) (fun hb2 => ?_)
    ·
     refine Z208 ?_
     refine vq rfl ((q_neg (hr := rfl))) ?_
     refine Z210 ?_
     refine hn _ (U (0 - U st)) (by rw [stepS, if_pos (of_decide_eq_true hb2)]) le_of
    refine Z69 ?_
    refine hn _ (U st) (by rw [stepS, if_neg (of_decide_eq_false hb2)]) le_of
   have hx0 : x ≠ 0 := by
    rw [hx]
    unfold stepS
    split
    · rename_i h; exact Un_ne hw h
    · exact U_ne hw hst
   refine Z2 ?_;refine Z241 ?_;refine Z241 ?_;refine Z142 ?_
   refine vq rfl (q_convert u3 u286) ?_
   refine Z1 ?_
   refine vq rfl (q_rem hx0 rfl) ?_
   refine Z230 ?_
   refine gC (fun hb3 => ?_) (fun hb3 => ?_)
   ·
    refine Z15 ?_;refine Z143 ?_;refine Z4 ?_;refine Z193 ?_
    refine hr _ ?_
    refine Z5 ?_
    exact ⟨by rw [checkS, if_pos hb0, if_neg (by rw [hb1]; decide), if_pos (by rw [← hx]; exact hb3)], rfl⟩
   refine Z69 ?_
   refine hn _ () (by rw [checkS, if_pos hb0, if_neg (by rw [hb1]; decide), if_neg (by rw [← hx]; show ¬ ((U (W (hi - lo))).tmod x != 0) = true; rw [show ((U (W (hi - lo))).tmod x != 0) = false from hb3]; decide)]) le_of
  refine Z69 ?_
  refine hn _ () (by rw [checkS, if_neg (by rw [hb0]; decide)]) le_of
 skip
 refine Z35 ?_;refine Z241 ?_
 refine gL (xs := [.tmp 53]) rfl (c303 lo) ?_
 refine Z37 ?_;refine Z1 ?_;refine Z126 ?_
 refine sg rfl (fun hg => sP 57 rfl hg (qL u3)) ?_
 refine g_callg (xs := [.tmp 58]) rfl (fun hg => c303 hi) ?_
 refine sg rfl (fun hg => sP 59 rfl hg q_not) ?_
 refine Z209 ?_
 refine gC (fun hb4 => ?_) (fun hb4 => ?_)
 ·
  refine Z15 ?_;refine Z143 ?_;refine Z247 ?_
  exact ⟨by rw [h_u, limS, if_pos hb4], rfl⟩
 refine Z43 ?_;refine Z143 ?_;refine Z4 ?_;refine Z195 ?_
 exact ⟨by rw [h_u, limS, if_neg (by rw [hb4]; decide)], rfl⟩
set_option maxHeartbeats 1000000 in
theorem c250 (lo hi st : Int) (hw : wf64 st) (h0 : lo ≤ hi → st ≠ 0) : Pf Tryz.prog 250 [.agg [.int .i64 lo, .int .i64 hi, .int .i64 st]] (.d (.agg [.int .i64 (seriesS lo hi st).1, .int .i64 (seriesS lo hi st).2.1, .int .i64 (seriesS lo hi st).2.2])) := by
 refine pf_body (rvs := [.cell 2 260]) [(0, .d (.agg [.int .i64 lo, .int .i64 hi, .int .i64 st]))] Tryz.func250 Tryz.ntmps250 Tryz.results250 (fun S0 O0 w0 m0 hm0 => ?_)
 refine Z202 ?_
 refine gF 0 [] (.agg [.int .i64 lo, .int .i64 hi, .int .i64 st]) rfl ?_
 refine Z180 ?_;refine Z160 ?_;refine Z241 ?_;refine Z241 ?_;refine Z62 ?_;refine Z196 ?_
 refine gC (fun hb0 => ?_) (fun hb0 => ?_)
 ·
  refine Z2 ?_
  refine vq rfl (q_buildS pl260 zr260) ?_
  refine Z116 ?_;refine Z13 ?_;refine Z159 ?_
  exact ⟨by rw [seriesS, if_pos (of_decide_eq_true hb0)], rfl⟩
 have hle := of_decide_eq_false hb0
 have hst := h0 (by omega)
 refine Z2 ?_;refine Z241 ?_;refine Z27 ?_;refine Z196 ?_
 refine gC (fun hb1 => ?_) (fun hb1 => ?_)
 ·
  refine Z15 ?_;refine Z104 ?_
  refine g_cg [14, 15, 16, 17, 18, 19, 20, 21, 22, 23, 24, 25, 26, 27, 28] (fun bq => [cond (bq 15) [.d (.int .i64 hi), .d (.int .i64 st), .d (.int .i64 (W (W ((W (hi - lo)).tdiv (W (0 - st))) + 1)))] [.d (.int .i64 0), .d (.int .i64 0), .d (.int .i64 0)]]) rfl ?_
  refine Z12 ?_
  refine cS 1 (fun bq rest hc1 hc2 hc3 => vq rfl (qF u199 rfl sz3) (gN ⟨rfl, rfl⟩)) ?_
  refine Z76 ?_
  refine cS 2 (fun bq rest hc1 hc2 hc3 => vq rfl (qL u3) (gN ⟨rfl, rfl⟩)) ?_
  refine Z12 ?_
  refine cS 3 (fun bq rest hc1 hc2 hc3 => vq rfl (qF u199 rfl sz3) (gN ⟨rfl, rfl⟩)) ?_
  refine Z59 ?_
  refine cS 4 (fun bq rest hc1 hc2 hc3 => vq rfl (qL u3) (gN ⟨rfl, rfl⟩)) ?_
  refine Z12 ?_
  refine cS 5 (fun bq rest hc1 hc2 hc3 => vq rfl (qF u199 rfl sz3) (gN ⟨rfl, rfl⟩)) ?_
  refine Z61 ?_
  refine cS 6 (fun bq rest hc1 hc2 hc3 => vq rfl (qL u3) (gN ⟨rfl, rfl⟩)) ?_
  refine Z12 ?_
  refine cS 7 (fun bq rest hc1 hc2 hc3 => vq rfl (qF u199 rfl sz3) (gN ⟨rfl, rfl⟩)) ?_
  refine Z73 ?_
  refine cS 8 (fun bq rest hc1 hc2 hc3 => vq rfl (qL u3) (gN ⟨rfl, rfl⟩)) ?_
  refine cP [5, 7] ?_
  refine cS 9 (fun bq rest hc1 hc2 hc3 => vq rfl (q_sub (hw := rfl)) (gN ⟨rfl, rfl⟩)) ?_
  refine Z12 ?_
  refine cS 10 (fun bq rest hc1 hc2 hc3 => vq rfl (qF u199 rfl sz3) (gN ⟨rfl, rfl⟩)) ?_
  refine Z105 ?_
  refine cS 11 (fun bq rest hc1 hc2 hc3 => vq rfl (qL u3) (gN ⟨rfl, rfl⟩)) ?_
  refine Z158 ?_
  refine cS 12 (fun bq rest hc1 hc2 hc3 => vq rfl ((q_neg (hr := rfl))) (gN ⟨rfl, rfl⟩)) ?_
  refine cP [8, 11] ?_
  refine cS 13 (fun bq rest hc1 hc2 hc3 => vq rfl (q_quo (W_neg hw (of_decide_eq_true hb1)) rfl) (gN ⟨rfl, rfl⟩)) ?_
  refine cP [12] ?_
  refine cS 14 (fun bq rest hc1 hc2 hc3 => vq rfl (q_add (hw := rfl)) (gN ⟨rfl, rfl⟩)) ?_
  refine cP [1, 3, 13] ?_
  refine cS 15 (fun bq rest hc1 hc2 hc3 => vq rfl (q_buildS pl260 zr260) (gN ⟨rfl, rfl⟩)) ?_
  refine cP [14, 0, 1, 2, 3, 4, 5, 6, 7, 8, 9, 10, 11, 12, 13, 14] ?_
  refine cg_act 16 (fun bq rest hc1 hc2 hc3 => by
   have e2 : upd bq 15 15 = true := rfl
   simp only [hc1, cond_false]
   refine Z116 ?_
   exact (gN ⟨rfl, by rw [e2]; rfl⟩)) ?_
  refine cg_done (mem'' := [[.d (.int .i64 hi), .d (.int .i64 st), .d (.int .i64 (W (W ((W (hi - lo)).tdiv (W (0 - st))) + 1)))]]) ?_
  refine Z138 ?_;refine Z159 ?_
  exact ⟨by rw [seriesS, if_neg hle, if_pos (of_decide_eq_true hb1)], rfl⟩
 refine gK (bN (tN (gS ?_)))
 refine Z104 ?_
 refine g_cg [29, 30, 31, 32, 33, 34, 35, 36, 37, 38, 39, 40, 41, 42] (fun bq => [cond (bq 14) [.d (.int .i64 lo), .d (.int .i64 st), .d (.int .i64 (W (W ((W (hi - lo)).tdiv st) + 1)))] [.d (.int .i64 0), .d (.int .i64 0), .d (.int .i64 0)]]) rfl ?_
 refine Z12 ?_
 refine cS 1 (fun bq rest hc1 hc2 hc3 => vq rfl (qF u199 rfl sz3) (gN ⟨rfl, rfl⟩)) ?_
 refine Z76 ?_
 refine cS 2 (fun bq rest hc1 hc2 hc3 => vq rfl (qL u3) (gN ⟨rfl, rfl⟩)) ?_
 refine Z12 ?_
 refine cS 3 (fun bq rest hc1 hc2 hc3 => vq rfl (qF u199 rfl sz3) (gN ⟨rfl, rfl⟩)) ?_
 refine Z59 ?_
 refine cS 4 (fun bq rest hc1 hc2 hc3 => vq rfl (qL u3) (gN ⟨rfl, rfl⟩)) ?_
 refine Z12 ?_
 refine cS 5 (fun bq rest hc1 hc2 hc3 => vq rfl (qF u199 rfl sz3) (gN ⟨rfl, rfl⟩)) ?_
 refine Z61 ?_
 refine cS 6 (fun bq rest hc1 hc2 hc3 => vq rfl (qL u3) (gN ⟨rfl, rfl⟩)) ?_
 refine Z12 ?_
 refine cS 7 (fun bq rest hc1 hc2 hc3 => vq rfl (qF u199 rfl sz3) (gN ⟨rfl, rfl⟩)) ?_
 refine Z73 ?_
 refine cS 8 (fun bq rest hc1 hc2 hc3 => vq rfl (qL u3) (gN ⟨rfl, rfl⟩)) ?_
 refine cP [5, 7] ?_
 refine cS 9 (fun bq rest hc1 hc2 hc3 => vq rfl (q_sub (hw := rfl)) (gN ⟨rfl, rfl⟩)) ?_
 refine Z12 ?_
 refine cS 10 (fun bq rest hc1 hc2 hc3 => vq rfl (qF u199 rfl sz3) (gN ⟨rfl, rfl⟩)) ?_
 refine Z105 ?_
 refine cS 11 (fun bq rest hc1 hc2 hc3 => vq rfl (qL u3) (gN ⟨rfl, rfl⟩)) ?_
 refine cP [8, 10] ?_
 refine cS 12 (fun bq rest hc1 hc2 hc3 => vq rfl (q_quo hst rfl) (gN ⟨rfl, rfl⟩)) ?_
 refine cP [11] ?_
 refine cS 13 (fun bq rest hc1 hc2 hc3 => vq rfl (q_add (hw := rfl)) (gN ⟨rfl, rfl⟩)) ?_
 refine cP [1, 3, 12] ?_
 refine cS 14 (fun bq rest hc1 hc2 hc3 => vq rfl (q_buildS pl260 zr260) (gN ⟨rfl, rfl⟩)) ?_
 refine cP [13, 0, 1, 2, 3, 4, 5, 6, 7, 8, 9, 10, 11, 12, 13] ?_
 refine cg_act 15 (fun bq rest hc1 hc2 hc3 => by
  have e2 : upd bq 14 14 = true := rfl
  simp only [hc1, cond_false]
  refine Z116 ?_
  exact (gN ⟨rfl, by rw [e2]; rfl⟩)) ?_
 refine cg_done (mem'' := [[.d (.int .i64 lo), .d (.int .i64 st), .d (.int .i64 (W (W ((W (hi - lo)).tdiv st) + 1)))]]) ?_
 refine Z110 ?_;refine Z159 ?_
 exact ⟨by rw [seriesS, if_neg hle, if_neg (of_decide_eq_false hb1)], rfl⟩
theorem c187 (lo hi st : Int) (hw : wf64 st) : Pf Tryz.prog 187 [.agg [.int .i64 lo, .int .i64 hi, .int .i64 st]] (.d (.int .i64 (sizeS lo hi st))) := by
 refine pf_body (rvs := [.tmp 2]) [(0, .d (.agg [.int .i64 lo, .int .i64 hi, .int .i64 st]))] Tryz.func187 Tryz.ntmps187 Tryz.results187 (fun S0 O0 w0 m0 hm0 => ?_)
 refine Z202 ?_
 refine gF 0 [] (.agg [.int .i64 lo, .int .i64 hi, .int .i64 st]) rfl ?_
 refine Z201 ?_;refine Z72 ?_
 refine gL (xs := [.tmp 3]) rfl (c249 lo hi st hw) ?_
 refine Z230 ?_
 refine gC (fun hb0 => ?_) (fun hb0 => ?_)
 ·
  refine Z264 ?_
  exact ⟨by rw [sizeS, if_pos hb0], rfl⟩
 refine Z45 ?_;refine Z72 ?_
 refine gL (xs := [.tmp 6]) rfl (c250 lo hi st hw (check_st (by simpa using hb0))) ?_
 refine vq rfl ((q_field u260 rfl u3)) ?_
 refine Z195 ?_
 exact ⟨by rw [sizeS, if_neg (by rw [hb0]; decide)], rfl⟩
set_option maxHeartbeats 4000000 in
theorem c247 (lo hi st n : Int) (hw : wf64 st) : Pf Tryz.prog 247 [.agg [.int .i64 lo, .int .i64 hi, .int .i64 st], .int .i64 n] (.tup [.d (.agg [.int .i64 (byS lo hi st n).1.1, .int .i64 (byS lo hi st n).1.2.1, .int .i64 (byS lo hi st n).1.2.2]), .d (.int .i64 (byS lo hi st n).2)]) := by
 refine pf_body (rvs := [.cell 4 199, .tmp 5]) [(0, .d (.agg [.int .i64 lo, .int .i64 hi, .int .i64 st])), (1, .d (.int .i64 n))] Tryz.func247 Tryz.ntmps247 Tryz.results247 (fun S0 O0 w0 m0 hm0 => ?_)
 refine Z202 ?_
 refine gF 0 [] (.agg [.int .i64 lo, .int .i64 hi, .int .i64 st]) rfl ?_
 refine Z77 ?_;refine Z201 ?_;refine Z72 ?_
 refine gL (xs := [.tmp 8]) rfl (c249 lo hi st hw) ?_
 refine Z0 ?_;refine Z103 ?_;refine Z1 ?_;refine Z46 ?_;refine Z196 ?_
 refine gC (fun hb0 => ?_) (fun hb0 => ?_)
 ·
  refine Z2 ?_;refine Z66 ?_;refine Z1 ?_;refine Z36 ?_;refine Z197 ?_
  refine fincd sz199 u199 (by simp) ?_
  exact ⟨by rw [byS, if_pos hb0], rfl⟩
 refine Z220 ?_;refine Z204 ?_
 refine gC (fun hb1 => ?_) (fun hb1 => ?_)
 ·
  refine Z15 ?_;refine Z89 ?_;refine Z4 ?_;refine Z250 ?_;refine Z197 ?_
  refine fincd sz199 u199 (by simp) ?_
  exact ⟨by rw [byS, if_neg (by rw [hb0]; decide), if_pos hb1], rfl⟩
 refine Z15 ?_;refine Z89 ?_;refine Z208 ?_
 refine gL (xs := [.tmp 20]) rfl (c303 n) ?_
 refine Z37 ?_;refine Z196 ?_
 refine gC (fun hb2 => ?_) (fun hb2 => ?_)
 ·
  refine Z2 ?_;refine Z250 ?_;refine Z197 ?_
  refine fincd sz199 u199 (by simp) ?_
  exact ⟨by rw [byS, if_neg (by rw [hb0]; decide), if_neg (by rw [hb1]; decide), if_pos hb2], rfl⟩
 refine Z71 ?_;refine Z72 ?_
 refine gL (xs := [.tmp 24]) rfl (c250 lo hi st hw (check_st (by simpa using hb0))) ?_
 refine Z180 ?_;refine Z116 ?_;refine Z3 ?_
 refine G_seq_cut (α := Int × Int × Int × Int) (fun x => ⟨[(1, .d (.int .i64 x.2.2.2)), (4, .ref 0 0), (7, .ref 1 0)], [[.d (.int .i64 0), .d (.int .i64 0), .d (.int .i64 0)], [.d (.int .i64 x.1), .d (.int .i64 x.2.1), .d (.int .i64 x.2.2.1)]]⟩) (fun x => byS lo hi st n = byN x.1 x.2.1 x.2.2.1 x.2.2.2 ∧ x.2.2.2 ≠ 0) (fun Q' hn he hr => ?_) (fun x hx => ?_)
 ·
  refine Z220 ?_;refine Z227 ?_
  refine gC (fun hb3 => ?_) (fun hb3 => ?_)
  ·
   refine Z4 ?_
   refine sv rfl (y_load_agg sz260 u260 rfl) ?_
   refine gL (xs := [.tmp 28]) rfl (c305 _ _ _) ?_
   refine Z1 ?_
   refine vq rfl ((q_neg (hr := rfl))) ?_
   refine Z116 ?_;refine Z210 ?_
   refine hn _ ((turnS (seriesS lo hi st).1 (seriesS lo hi st).2.1 (seriesS lo hi st).2.2).1, (turnS (seriesS lo hi st).1 (seriesS lo hi st).2.1 (seriesS lo hi st).2.2).2.1, (turnS (seriesS lo hi st).1 (seriesS lo hi st).2.1 (seriesS lo hi st).2.2).2.2, W (0 - n)) ⟨by rw [byS, if_neg (by rw [hb0]; decide), if_neg (by rw [hb1]; decide), if_neg (by rw [hb2]; decide), if_pos (of_decide_eq_true hb3)], W_neg (by have := hb2; simp [withinB] at this; unfold wf64; omega) (of_decide_eq_true hb3)⟩ le_of
  refine Z69 ?_
  refine hn _ ((seriesS lo hi st).1, (seriesS lo hi st).2.1, (seriesS lo hi st).2.2, n) ⟨by rw [byS, if_neg (by rw [hb0]; decide), if_neg (by rw [hb1]; decide), if_neg (by rw [hb2]; decide), if_neg (of_decide_eq_false hb3)], by show n ≠ 0; simpa using hb1⟩ le_of
 obtain ⟨f, b, c, m⟩ := x
 obtain ⟨hx1, hx2⟩ := hx
 replace hx2 : m ≠ 0 := hx2
 replace hx1 : byS lo hi st n = byN f b c m := hx1
 refine Z15 ?_
 refine g_cg [32, 33, 34, 35, 36, 37, 38, 39, 40, 41, 42, 43, 44, 45, 46, 47, 48, 5] (fun bq => [cond (bq 17) [.d (.int .i64 (byN f b c m).1.1), .d (.int .i64 (byN f b c m).1.2.1), .d (.int .i64 (byN f b c m).1.2.2)] [.d (.int .i64 0), .d (.int .i64 0), .d (.int .i64 0)], [.d (.int .i64 f), .d (.int .i64 b), .d (.int .i64 c)]]) rfl ?_
 refine Z12 ?_
 refine cS 1 (fun bq rest hc1 hc2 hc3 => sv rfl (y_fieldAt 0 u260 rfl sz3) (gN ⟨rfl, rfl⟩)) ?_
 refine Z76 ?_
 refine cS 2 (fun bq rest hc1 hc2 hc3 => sv rfl (y_load_leaf u3) (gN ⟨rfl, rfl⟩)) ?_
 refine Z12 ?_
 refine cS 3 (fun bq rest hc1 hc2 hc3 => sv rfl (y_fieldAt 1 u260 rfl sz3) (gN ⟨rfl, rfl⟩)) ?_
 refine Z59 ?_
 refine cS 4 (fun bq rest hc1 hc2 hc3 => sv rfl (y_load_leaf u3) (gN ⟨rfl, rfl⟩)) ?_
 refine Z12 ?_
 refine cS 5 (fun bq rest hc1 hc2 hc3 => vq rfl qM (gN ⟨rfl, rfl⟩)) ?_
 refine cP [3, 4] ?_
 refine cS 6 (fun bq rest hc1 hc2 hc3 => vq rfl (q_mul (hw := rfl)) (gN ⟨rfl, rfl⟩)) ?_
 refine Z12 ?_
 refine cS 7 (fun bq rest hc1 hc2 hc3 => sv rfl (y_fieldAt 2 u260 rfl sz3) (gN ⟨rfl, rfl⟩)) ?_
 refine Z73 ?_
 refine cS 8 (fun bq rest hc1 hc2 hc3 => sv rfl (y_load_leaf u3) (gN ⟨rfl, rfl⟩)) ?_
 refine Z12 ?_
 refine cS 9 (fun bq rest hc1 hc2 hc3 => vq rfl qM (gN ⟨rfl, rfl⟩)) ?_
 refine cP [7, 8] ?_
 refine cS 10 (fun bq rest hc1 hc2 hc3 => vq rfl (q_add (hw := rfl)) (gN ⟨rfl, rfl⟩)) ?_
 refine Z105 ?_
 refine cS 11 (fun bq rest hc1 hc2 hc3 => vq rfl (q_sub (hw := rfl)) (gN ⟨rfl, rfl⟩)) ?_
 refine Z12 ?_
 refine cS 12 (fun bq rest hc1 hc2 hc3 => vq rfl qM (gN ⟨rfl, rfl⟩)) ?_
 refine cP [10, 11] ?_
 refine cS 13 (fun bq rest hc1 hc2 hc3 => vq rfl (q_quo hx2 rfl) (gN ⟨rfl, rfl⟩)) ?_
 refine cP [1, 5, 12] ?_
 refine cS 14 (fun bq rest hc1 hc2 hc3 => vq rfl (q_buildS pl260 zr260) (gN ⟨rfl, rfl⟩)) ?_
 refine cP [13] ?_
 refine cS 15 (fun bq rest hc1 hc2 hc3 => gL (xs := [.tmp 45]) rfl (c304 _ _ _) (gN ⟨rfl, rfl⟩)) ?_
 refine cP [14] ?_
 refine cS 16 (fun bq rest hc1 hc2 hc3 => vq rfl qE (gN ⟨rfl, rfl⟩)) ?_
 refine cP [14] ?_
 refine cS 17 (fun bq rest hc1 hc2 hc3 => vq rfl qE (gN ⟨rfl, rfl⟩)) ?_
 refine cP [15, 14, 0, 1, 2, 3, 4, 5, 6, 7, 8, 9, 10, 11, 12, 13, 14, 15, 16] ?_
 refine cg_act 18 (fun bq rest hc1 hc2 hc3 => by
  have e2 : upd bq 17 17 = true := rfl
  simp only [hc1, cond_false]
  refine Z36 ?_
  exact (gN ⟨rfl, by rw [e2]; rfl⟩)) ?_
 refine cP [16, 17, 0, 1, 2, 3, 4, 5, 6, 7, 8, 9, 10, 11, 12, 13, 14, 15, 16, 17] ?_
 refine cS 19 (fun bq rest hc1 hc2 hc3 => vq rfl qA (gN ⟨rfl, rfl⟩)) ?_
 refine cg_done (mem'' := [[.d (.int .i64 (byN f b c m).1.1), .d (.int .i64 (byN f b c m).1.2.1), .d (.int .i64 (byN f b c m).1.2.2)], [.d (.int .i64 f), .d (.int .i64 b), .d (.int .i64 c)]]) ?_
 refine Z110 ?_
 refine fincd sz199 u199 (by simp) ?_
 exact ⟨by rw [hx1]; rfl, rfl⟩
set_option maxHeartbeats 4000000 in
theorem c248 (lo hi st n : Int) (hw : wf64 st) : Pf Tryz.prog 248 [.agg [.int .i64 lo, .int .i64 hi, .int .i64 st], .int .i64 n] (.tup [.d (.agg [.int .i64 (countS lo hi st n).1.1, .int .i64 (countS lo hi st n).1.2.1, .int .i64 (countS lo hi st n).1.2.2]), .d (.int .i64 (countS lo hi st n).2)]) := by
 refine pf_body (rvs := [.cell 4 199, .tmp 5]) [(0, .d (.agg [.int .i64 lo, .int .i64 hi, .int .i64 st])), (1, .d (.int .i64 n))] Tryz.func248 Tryz.ntmps248 Tryz.results248 (fun S0 O0 w0 m0 hm0 => ?_)
 refine Z202 ?_
 refine gF 0 [] (.agg [.int .i64 lo, .int .i64 hi, .int .i64 st]) rfl ?_
 refine Z77 ?_;refine Z201 ?_;refine Z72 ?_
 refine gL (xs := [.tmp 8]) rfl (c249 lo hi st hw) ?_
 refine Z244 ?_;refine Z230 ?_
 refine gC (fun hb0 => ?_) (fun hb0 => ?_)
 ·
  refine Z2 ?_;refine Z66 ?_;refine Z1 ?_;refine Z36 ?_;refine Z200 ?_
  refine fincd sz199 u199 (by simp) ?_
  exact ⟨by rw [countS, if_pos hb0], rfl⟩
 refine Z45 ?_;refine Z72 ?_
 refine gL (xs := [.tmp 14]) rfl (c250 lo hi st hw (check_st (by simpa using hb0))) ?_
 refine Z180 ?_;refine Z116 ?_;refine Z95 ?_;refine Z89 ?_;refine Z208 ?_
 refine sv rfl (y_fieldAt 2 u260 rfl sz3) ?_
 refine Z47 ?_;refine Z62 ?_;refine Z205 ?_
 refine sg rfl (fun hg => q_fieldAddr u260 rfl sz3) ?_
 refine sg rfl (fun hg => sP 22 rfl hg (qO u3)) ?_
 refine sg rfl (fun hg => sP 23 rfl hg (q_neg (hr := rfl))) ?_
 refine sg rfl (fun hg => sP 24 rfl hg (sP 21 rfl hg q_lss)) ?_
 refine Z209 ?_
 refine gC (fun hb1 => ?_) (fun hb1 => ?_)
 ·
  refine Z2 ?_;refine Z250 ?_;refine Z200 ?_
  refine fincd sz199 u199 (by simp) ?_
  exact ⟨by rw [countS, if_neg (by rw [hb0]; decide), if_pos (show (decide (n > (seriesS lo hi st).2.2) || decide (n < W (0 - (seriesS lo hi st).2.2))) = true from hb1)], rfl⟩
 refine Z68 ?_
 refine G_seq_cut (α := Int × Int) (fun x => ⟨[(1, .d (.int .i64 x.2)), (4, .ref 0 0), (7, .ref 1 0)], [[.d (.int .i64 0), .d (.int .i64 0), .d (.int .i64 0)], [.d (.int .i64 x.1), .d (.int .i64 (seriesS lo hi st).2.1), .d (.int .i64 (seriesS lo hi st).2.2)]]⟩) (fun x => countS lo hi st n = normalS x.1 (seriesS lo hi st).2.1 x.2) (fun Q' hn he hr => ?_) (fun x hx => ?_)
 ·
  refine Z220 ?_;refine Z227 ?_
  refine gC (fun hb2 => ?_) (fun hb2 => ?_)
  ·
   refine Z15 ?_;refine Z89 ?_;refine Z4 ?_
   refine sv rfl (y_fieldAt 0 u260 rfl sz3) ?_
   refine Z47 ?_
   refine sv rfl (y_fieldAt 1 u260 rfl sz3) ?_
   refine Z47 ?_
   refine sv rfl (y_fieldAt 2 u260 rfl sz3) ?_
   refine Z47 ?_;refine Z1 ?_;refine Z109 ?_;refine Z179 ?_;refine Z109 ?_
   refine sv rfl (y_fieldAt 0 u260 rfl sz3) ?_
   refine Z86 ?_;refine Z3 ?_;refine Z89 ?_;refine Z208 ?_
   refine vq rfl ((q_neg (hr := rfl))) ?_
   refine Z210 ?_
   refine hn _ (W ((seriesS lo hi st).1 + W ((seriesS lo hi st).2.1 * W ((seriesS lo hi st).2.2 + n))), W (0 - n)) (by rw [countS, if_neg (by rw [hb0]; decide), if_neg (by show ¬ (_ || _) = true; rw [show (decide (n > (seriesS lo hi st).2.2) || decide (n < W (0 - (seriesS lo hi st).2.2))) = false from hb1]; decide), if_pos (of_decide_eq_true hb2)]) le_of
  refine Z69 ?_
  refine hn _ ((seriesS lo hi st).1, n) (by rw [countS, if_neg (by rw [hb0]; decide), if_neg (by show ¬ (_ || _) = true; rw [show (decide (n > (seriesS lo hi st).2.2) || decide (n < W (0 - (seriesS lo hi st).2.2))) = false from hb1]; decide), if_neg (of_decide_eq_false hb2)]) le_of
 obtain ⟨f, m⟩ := x
 replace hx : countS lo hi st n = normalS f (seriesS lo hi st).2.1 m := hx
 refine Z15 ?_;refine Z89 ?_;refine Z208 ?_
 refine sv rfl (y_fieldAt 2 u260 rfl sz3) ?_
 refine Z86 ?_;refine Z7 ?_
 refine sv rfl (y_load_agg sz260 u260 rfl) ?_
 refine gL (xs := [.tmp 45]) rfl (c304 _ _ _) ?_
 refine Z207 ?_;refine Z36 ?_;refine Z193 ?_
 refine fincd sz199 u199 (by simp) ?_
 exact ⟨by rw [hx], rfl⟩
end Go.Proofs.YtklkbfpjimeaoaaGreat
namespace Go.Proofs.YtklkbfpjimeaoaaGreat
open Go Go.Proofs.YtklkbfpjimeaoaaGreat.E
def intT (n : Int) : Tr := .mk 1 ⟨#[]⟩ n []
def boolT (b : Bool) : Tr := .mk 2 ⟨#[]⟩ (if b = true then 1 else 0) []
def valD : Option Tr → D
 | none => .nil
 | some t => .ptr t.d
theorem valD_cells (v : Option Tr) : (valD v).cells = [valD v] := by cases v <;> rfl
def isV : Option Tr → Int → Bool
 | none, _ => false
 | some t, k => t.op == k
def nuV : Option Tr → Int
 | none => 0
 | some t => t.nu
def minI : Int := -9223372036854775808
def maxI : Int := 9223372036854775807
def mB : ByteArray := ⟨#[45]⟩
def bangB : ByteArray := ⟨#[33]⟩
def unaryV (nm : ByteArray) : Option Tr → Option Tr
 | none => none
 | some (.mk op _ num _) =>
  if ((decide (nm = mB) && op == 1) && num != minI) = true then some (intT (W (0 - num)))
  else if (decide (nm = bangB) && op == 2) = true then some (boolT (num == 0)) else none
def fitsV (n : Int) (ok : Bool) : Option Tr := if ok = true then some (intT n) else none
def divB (a b : Int) : Bool := b != 0 && (a != minI || b != -1)
def addV (a b : Int) : Option Tr := fitsV (W (a + b)) ((decide (b ≤ 0) || decide (a ≤ W (maxI - b))) && (decide (b ≥ 0) || decide (a ≥ W (minI - b))))
def subV (a b : Int) : Option Tr := fitsV (W (a - b)) ((decide (b ≥ 0) || decide (a ≤ W (maxI + b))) && (decide (b ≤ 0) || decide (a ≥ W (minI + b))))
def mulV (a b : Int) : Option Tr := fitsV (W (a * b)) ((a == 0 || b == 0) || (((a != -1 || b != minI) && (b != -1 || a != minI)) && W ((W (a * b)).tdiv b) == a))
def quoV (a b : Int) : Option Tr := if (!divB a b) = true then none else some (intT (W (a.tdiv b)))
def remV (a b : Int) : Option Tr := if (!divB a b) = true then none else some (intT (a.tmod b))
theorem c186 (n : Int) : Pf Tryz.prog 186 [.int .i64 n] (.d (valD (some (intT n)))) := by
 refine pf_body (rvs := [.tmp 2]) [(0, .d (.int .i64 n))] Tryz.func186 Tryz.ntmps186 Tryz.results186 (fun S0 O0 w0 m0 hm0 => ?_)
 refine Z249 ?_;refine Z54 ?_;refine Z18 ?_
 refine gF 0 [] (.agg [.int .i64 1, .str ⟨#[]⟩, .int .i64 n, .sl []]) rfl ?_
 refine Z195 ?_
 exact ⟨by rw [valD, intT, Tr.d_mk]; rfl, rfl⟩
theorem c242 (b : Bool) : Pf Tryz.prog 242 [.bool b] (.d (valD (some (boolT b)))) := by
 refine pf_body (rvs := [.tmp 2]) [(0, .d (.bool b))] Tryz.func242 Tryz.ntmps242 Tryz.results242 (fun S0 O0 w0 m0 hm0 => ?_)
 refine Z263 ?_;refine Z3 ?_
 refine gC (fun hb0 => ?_) (fun hb0 => ?_)
 ·
  refine Z2 ?_;refine Z54 ?_;refine Z18 ?_
  refine gF 0 [] (.agg [.int .i64 2, .str ⟨#[]⟩, .int .i64 1, .sl []]) rfl ?_
  refine Z214 ?_
  exact ⟨by rw [hb0, valD, boolT, Tr.d_mk]; rfl, rfl⟩
 refine Z45 ?_;refine Z54 ?_;refine Z18 ?_
 refine gF 0 [] (.agg [.int .i64 2, .str ⟨#[]⟩, .int .i64 0, .sl []]) rfl ?_
 refine Z195 ?_
 exact ⟨by rw [hb0, valD, boolT, Tr.d_mk]; rfl, rfl⟩
theorem c184n (k : Int) : Pf Tryz.prog 184 [.nil, .int .i64 k] (.d (.bool false)) := by
 refine pf_body (rvs := [.tmp 4]) [(0, .d .nil), (1, .d (.int .i64 k))] Tryz.func184 Tryz.ntmps184 Tryz.results184 (fun S0 O0 w0 m0 hm0 => ?_)
 refine Z211 ?_
 have hno : ((!true) == true) = false := rfl
 refine Z1 ?_;refine Z182 ?_;refine Z1 ?_
 refine sgx rfl ?_ ?_
 · first | exact hno | (rw [hno]; rfl) | simp [hno] | simp_all
 refine sgx rfl ?_ ?_
 · first | exact hno | (rw [hno]; rfl) | simp [hno] | simp_all
 refine sgx rfl ?_ ?_
 · first | exact hno | (rw [hno]; rfl) | simp [hno] | simp_all
 refine sgx rfl ?_ ?_
 · first | exact hno | (rw [hno]; rfl) | simp [hno] | simp_all
 refine sgx rfl ?_ ?_
 · first | exact hno | (rw [hno]; rfl) | simp [hno] | simp_all
 refine sgx rfl ?_ ?_
 · first | exact hno | (rw [hno]; rfl) | simp [hno] | simp_all
 refine Z228 ?_
 exact ⟨rfl, rfl⟩
theorem c184s (t : Tr) (k : Int) : Pf Tryz.prog 184 [.ptr t.d, .int .i64 k] (.d (.bool (t.op == k))) := by
 obtain ⟨op, name, num, ks⟩ := t
 rw [Tr.d_mk]
 try simp only [Tr.op_mk, Tr.nm_mk, Tr.nu_mk, Tr.kids_mk]
 refine pf_body (rvs := [.tmp 4]) [(0, .d (.ptr (.agg [.int .i64 op, .str name, .int .i64 num, .sl (ks.map Tr.d)]))), (1, .d (.int .i64 k))] Tryz.func184 Tryz.ntmps184 Tryz.results184 (fun S0 O0 w0 m0 hm0 => ?_)
 refine Z249 ?_;refine Z182 ?_;refine Z205 ?_
 refine sg rfl (fun hg => sP 8 rfl hg q_nilCheck) ?_
 refine sg rfl (fun hg => sP 9 rfl hg (qF u27 rfl sz3)) ?_
 refine sg rfl (fun hg => sP 10 rfl hg (qL u3)) ?_
 refine Z21 ?_
 refine sg rfl (fun hg => sP 12 rfl hg (sP 11 rfl hg q_eql)) ?_
 refine Z228 ?_
 exact ⟨rfl, rfl⟩
theorem c184 (v : Option Tr) (k : Int) : Pf Tryz.prog 184 [valD v, .int .i64 k] (.d (.bool (isV v k))) := by
 cases v with
 | none => exact c184n k
 | some t => exact c184s t k
theorem c182n (nm : ByteArray) : Pf Tryz.prog 182 [.str nm, .nil] (.d .nil) := by
 refine pf_body (rvs := [.tmp 4]) [(0, .d (.str nm)), (1, .d .nil)] Tryz.func182 Tryz.ntmps182 Tryz.results182 (fun S0 O0 w0 m0 hm0 => ?_)
 refine Z287 ?_;refine Z160 ?_
 have hno : ((decide (nm = mB) && false) == true) = false := by simp
 refine Z1 ?_;refine Z44 ?_;refine Z205 ?_
 refine g_callg (xs := [.tmp 9, .const (.int .i64 (1))]) rfl (fun hg => c184n 1) ?_
 refine Z8 ?_;refine Z1 ?_
 refine sgx rfl ?_ ?_
 · first | exact hno | (rw [hno]; rfl) | simp [hno] | simp_all
 refine sgx rfl ?_ ?_
 · first | exact hno | (rw [hno]; rfl) | simp [hno] | simp_all
 refine sgx rfl ?_ ?_
 · first | exact hno | (rw [hno]; rfl) | simp [hno] | simp_all
 refine sgx rfl ?_ ?_
 · first | exact hno | (rw [hno]; rfl) | simp [hno] | simp_all
 refine sgx rfl ?_ ?_
 · first | exact hno | (rw [hno]; rfl) | simp [hno] | simp_all
 refine Z290 ?_
 refine gC (fun hb0 => ?_) (fun hb0 => ?_)
 ·
  exact absurd hb0 (by simp)
 refine Z15 ?_
 refine gP [0, 1, 4] ?_
 refine Z208 ?_;refine Z44 ?_;refine Z205 ?_
 refine g_callg (xs := [.tmp 29, .const (.int .i64 (2))]) rfl (fun hg => c184n 2) ?_
 refine Z290 ?_
 refine gC (fun hb1 => ?_) (fun hb1 => ?_)
 ·
  exact absurd hb1 (by simp)
 refine Z71 ?_;refine Z195 ?_
 exact ⟨rfl, rfl⟩
set_option maxHeartbeats 1000000 in
theorem c182s (t : Tr) (nm : ByteArray) : Pf Tryz.prog 182 [.str nm, .ptr t.d] (.d (valD (unaryV nm (some t)))) := by
 obtain ⟨op, name, num, ks⟩ := t
 rw [Tr.d_mk]
 try simp only [Tr.op_mk, Tr.nm_mk, Tr.nu_mk, Tr.kids_mk]
 refine pf_body (rvs := [.tmp 4]) [(0, .d (.str nm)), (1, .d (.ptr (.agg [.int .i64 op, .str name, .int .i64 num, .sl (ks.map Tr.d)])))] Tryz.func182 Tryz.ntmps182 Tryz.results182 (fun S0 O0 w0 m0 hm0 => ?_)
 refine Z287 ?_;refine Z160 ?_;refine Z1 ?_;refine Z44 ?_;refine Z205 ?_
 refine g_callg (xs := [.tmp 9, .const (.int .i64 (1))]) rfl (fun hg => (Tr.d_mk op name num ks ▸ c184s (.mk op name num ks) 1)) ?_
 refine Z8 ?_;refine Z205 ?_
 refine sg rfl (fun hg => sP 13 rfl hg q_nilCheck) ?_
 refine sg rfl (fun hg => sP 14 rfl hg (qF u27 rfl sz3)) ?_
 refine sg rfl (fun hg => sP 15 rfl hg (qL u3)) ?_
 refine sg rfl (fun hg => sP 16 rfl hg q_neq) ?_
 refine Z290 ?_
 refine gC (fun hb0 => ?_) (fun hb0 => ?_)
 ·
  refine Z15 ?_
  refine gP [0, 1, 4] ?_
  refine Z208 ?_;refine Z117 ?_;refine Z199 ?_
  refine vq rfl ((q_neg (hr := rfl))) ?_
  refine gL (xs := [.tmp 23]) rfl (c186 _) ?_
  refine Z197 ?_;refine Z5 ?_
  exact ⟨by rw [unaryV, if_pos (show ((decide (nm = mB) && op == 1) && num != minI) = true from hb0)]; rfl, rfl⟩
 refine Z15 ?_
 refine gP [0, 1, 4] ?_
 refine Z208 ?_;refine Z44 ?_;refine Z205 ?_
 refine g_callg (xs := [.tmp 29, .const (.int .i64 (2))]) rfl (fun hg => (Tr.d_mk op name num ks ▸ c184s (.mk op name num ks) 2)) ?_
 refine Z290 ?_
 refine gC (fun hb1 => ?_) (fun hb1 => ?_)
 ·
  refine Z220 ?_;refine Z117 ?_;refine Z229 ?_
  refine gL (xs := [.tmp 36]) rfl (c242 _) ?_
  refine Z197 ?_;refine Z5 ?_
  exact ⟨by rw [unaryV, if_neg (by rw [show ((decide (nm = mB) && op == 1) && num != minI) = false from hb0]; decide), if_pos (show (decide (nm = bangB) && op == 2) = true from hb1)], rfl⟩
 refine Z71 ?_;refine Z195 ?_
 exact ⟨by rw [unaryV, if_neg (by rw [show ((decide (nm = mB) && op == 1) && num != minI) = false from hb0]; decide), if_neg (by rw [show (decide (nm = bangB) && op == 2) = false from hb1]; decide)]; rfl, rfl⟩
theorem c182 (nm : ByteArray) (v : Option Tr) : Pf Tryz.prog 182 [.str nm, valD v] (.d (valD (unaryV nm v))) := by
 cases v with
 | none => exact c182n nm
 | some t => exact c182s t nm
theorem c290 (n : Int) (ok : Bool) : Pf Tryz.prog 290 [.int .i64 n, .bool ok] (.d (valD (fitsV n ok))) := by
 refine pf_body (rvs := [.tmp 4]) [(0, .d (.int .i64 n)), (1, .d (.bool ok))] Tryz.func290 Tryz.ntmps290 Tryz.results290 (fun S0 O0 w0 m0 hm0 => ?_)
 refine Z263 ?_;refine Z248 ?_
 refine gC (fun hb0 => ?_) (fun hb0 => ?_)
 ·
  refine Z264 ?_
  exact ⟨by (cases ok <;> first | rfl | cases hb0), rfl⟩
 refine Z45 ?_;refine Z1 ?_
 refine gL (xs := [.tmp 7]) rfl (c186 n) ?_
 refine Z195 ?_
 exact ⟨by (cases ok <;> first | rfl | cases hb0), rfl⟩
theorem c291 (a b : Int) : Pf Tryz.prog 291 [.int .i64 a, .int .i64 b] (.d (.bool (divB a b))) := by
 refine pf_body (rvs := [.tmp 4]) [(0, .d (.int .i64 a)), (1, .d (.int .i64 b))] Tryz.func291 Tryz.ntmps291 Tryz.results291 (fun S0 O0 w0 m0 hm0 => ?_)
 refine Z249 ?_;refine Z46 ?_;refine Z205 ?_
 refine sg rfl (fun hg => sP 8 rfl hg q_neq) ?_
 refine sg rfl (fun hg => sP 9 rfl hg qM) ?_
 refine Z21 ?_
 refine sg rfl (fun hg => sP 11 rfl hg q_neq) ?_
 refine sg rfl (fun hg => sP 10 rfl hg q_or) ?_
 refine Z228 ?_
 exact ⟨rfl, rfl⟩
set_option maxHeartbeats 1000000 in
theorem c292 (a b : Int) : Pf Tryz.prog 292 [.int .i64 a, .int .i64 b, .ptr (.fn (.func 290) [] [])] (.d (valD (addV a b))) := by
 refine pf_body (rvs := [.tmp 5]) [(0, .d (.int .i64 a)), (1, .d (.int .i64 b)), (2, .d (.ptr (.fn (.func 290) [] [])))] Tryz.func292 Tryz.ntmps292 Tryz.results292 (fun S0 O0 w0 m0 hm0 => ?_)
 refine Z211 ?_
 refine vq rfl (qL u283) ?_
 refine Z198 ?_;refine Z109 ?_;refine Z1 ?_;refine Z112 ?_;refine Z205 ?_;refine Z21 ?_
 refine sg rfl (fun hg => sP 14 rfl hg (q_sub (hw := rfl))) ?_
 refine sg rfl (fun hg => sP 15 rfl hg (sP 13 rfl hg q_leq)) ?_
 refine Z24 ?_;refine Z205 ?_
 refine sg rfl (fun hg => sP 19 rfl hg q_geq) ?_
 refine sg rfl (fun hg => sP 20 rfl hg qM) ?_
 refine Z21 ?_;refine Z21 ?_
 refine sg rfl (fun hg => sP 23 rfl hg (q_sub (hw := rfl))) ?_
 refine sg rfl (fun hg => sP 24 rfl hg (sP 22 rfl hg q_geq)) ?_
 refine sg rfl (fun hg => sP 21 rfl hg q_or) ?_
 refine Z8 ?_
 refine gL (xs := [.tmp 9, .tmp 27]) rfl (c290 _ _) ?_
 refine Z195 ?_
 exact ⟨rfl, rfl⟩
set_option maxHeartbeats 1000000 in
theorem c293 (a b : Int) : Pf Tryz.prog 293 [.int .i64 a, .int .i64 b, .ptr (.fn (.func 290) [] [])] (.d (valD (subV a b))) := by
 refine pf_body (rvs := [.tmp 5]) [(0, .d (.int .i64 a)), (1, .d (.int .i64 b)), (2, .d (.ptr (.fn (.func 290) [] [])))] Tryz.func293 Tryz.ntmps293 Tryz.results293 (fun S0 O0 w0 m0 hm0 => ?_)
 refine Z211 ?_
 refine vq rfl (qL u283) ?_
 refine Z198 ?_;refine Z142 ?_;refine Z1 ?_;refine Z52 ?_;refine Z205 ?_;refine Z21 ?_
 refine sg rfl (fun hg => sP 14 rfl hg (q_add (hw := rfl))) ?_
 refine sg rfl (fun hg => sP 15 rfl hg (sP 13 rfl hg q_leq)) ?_
 refine Z24 ?_;refine Z205 ?_
 refine sg rfl (fun hg => sP 19 rfl hg q_leq) ?_
 refine sg rfl (fun hg => sP 20 rfl hg qM) ?_
 refine Z21 ?_;refine Z21 ?_
 refine sg rfl (fun hg => sP 23 rfl hg (q_add (hw := rfl))) ?_
 refine sg rfl (fun hg => sP 24 rfl hg (sP 22 rfl hg q_geq)) ?_
 refine sg rfl (fun hg => sP 21 rfl hg q_or) ?_
 refine Z8 ?_
 refine gL (xs := [.tmp 9, .tmp 27]) rfl (c290 _ _) ?_
 refine Z195 ?_
 exact ⟨rfl, rfl⟩
set_option maxHeartbeats 4000000 in
theorem c294 (a b : Int) : Pf Tryz.prog 294 [.int .i64 a, .int .i64 b, .ptr (.fn (.func 290) [] [])] (.d (valD (mulV a b))) := by
 refine pf_body (rvs := [.tmp 5]) [(0, .d (.int .i64 a)), (1, .d (.int .i64 b)), (2, .d (.ptr (.fn (.func 290) [] [])))] Tryz.func294 Tryz.ntmps294 Tryz.results294 (fun S0 O0 w0 m0 hm0 => ?_)
 refine Z2 ?_;refine Z245 ?_
 by_cases hbz : b = 0
 ·
  refine g_cg0 [6, 7, 8, 9, 10, 11, 12, 13, 14, 15, 16, 17, 18, 19, 20, 21, 22, 23, 24, 25, 26, 27, 28, 29, 30, 31, 32, 33, 34, 35, 36, 37, 38, 39, 40, 41, 5] ?_
  refine Z12 ?_
  refine cS 1 (fun bq rest hc1 hc2 hc3 => vq rfl (qL u283) (gN ⟨rfl, rfl⟩)) ?_
  refine Z12 ?_
  refine cS 2 (fun bq rest hc1 hc2 hc3 => vq rfl qM (gN ⟨rfl, rfl⟩)) ?_
  refine Z12 ?_
  refine cS 3 (fun bq rest hc1 hc2 hc3 => vq rfl qM (gN ⟨rfl, rfl⟩)) ?_
  refine cP [1, 2] ?_
  refine cS 4 (fun bq rest hc1 hc2 hc3 => vq rfl (q_mul (hw := rfl)) (gN ⟨rfl, rfl⟩)) ?_
  refine Z12 ?_
  refine cS 5 (fun bq rest hc1 hc2 hc3 => vq rfl qM (gN ⟨rfl, rfl⟩)) ?_
  refine Z61 ?_
  refine cS 6 (fun bq rest hc1 hc2 hc3 => vq rfl q_eql (gN ⟨rfl, rfl⟩)) ?_
  refine Z81 ?_
  refine cS 7 (fun bq rest hc1 hc2 hc3 => vq rfl qM (gN ⟨rfl, rfl⟩)) ?_
  refine Z73 ?_
  refine cS 8 (fun bq rest hc1 hc2 hc3 => sg rfl (fun hg => qM) (gN ⟨rfl, rfl⟩)) ?_
  refine cP [7, 6] ?_
  refine cS 9 (fun bq rest hc1 hc2 hc3 => sg rfl (fun hg => sP 13 rfl hg q_eql) (gN ⟨rfl, rfl⟩)) ?_
  refine cP [6, 8] ?_
  refine cS 10 (fun bq rest hc1 hc2 hc3 => vq rfl q_or (gN ⟨rfl, rfl⟩)) ?_
  refine cP [9, 6] ?_
  refine cS 11 (fun bq rest hc1 hc2 hc3 => vq rfl qM (gN ⟨rfl, rfl⟩)) ?_
  refine Z158 ?_
  refine cS 12 (fun bq rest hc1 hc2 hc3 => sg rfl (fun hg => qM) (gN ⟨rfl, rfl⟩)) ?_
  refine cP [11, 10] ?_
  refine cS 13 (fun bq rest hc1 hc2 hc3 => sg rfl (fun hg => sP 17 rfl hg q_neq) (gN ⟨rfl, rfl⟩)) ?_
  refine cP [12, 10, 10] ?_
  refine cS 14 (fun bq rest hc1 hc2 hc3 => sg rfl (fun hg => sP 18 rfl hg qM) (gN ⟨rfl, rfl⟩)) ?_
  refine cP [13] ?_
  refine cS 15 (fun bq rest hc1 hc2 hc3 => sg rfl (fun hg => qM) (gN ⟨rfl, rfl⟩)) ?_
  refine cP [14, 13] ?_
  refine cS 16 (fun bq rest hc1 hc2 hc3 => sg rfl (fun hg => sP 20 rfl hg q_neq) (gN ⟨rfl, rfl⟩)) ?_
  refine cP [13, 15, 10] ?_
  refine cS 17 (fun bq rest hc1 hc2 hc3 => sg rfl (fun hg => sP 19 rfl hg q_or) (gN ⟨rfl, rfl⟩)) ?_
  refine cP [16, 13, 10] ?_
  refine cS 18 (fun bq rest hc1 hc2 hc3 => sg rfl (fun hg => sP 22 rfl hg qM) (gN ⟨rfl, rfl⟩)) ?_
  refine cP [17] ?_
  refine cS 19 (fun bq rest hc1 hc2 hc3 => sg rfl (fun hg => qM) (gN ⟨rfl, rfl⟩)) ?_
  refine cP [18, 17] ?_
  refine cS 20 (fun bq rest hc1 hc2 hc3 => sg rfl (fun hg => sP 24 rfl hg q_neq) (gN ⟨rfl, rfl⟩)) ?_
  refine cP [19, 17, 17] ?_
  refine cS 21 (fun bq rest hc1 hc2 hc3 => sg rfl (fun hg => sP 25 rfl hg qM) (gN ⟨rfl, rfl⟩)) ?_
  refine cP [20] ?_
  refine cS 22 (fun bq rest hc1 hc2 hc3 => sg rfl (fun hg => qM) (gN ⟨rfl, rfl⟩)) ?_
  refine cP [21, 20] ?_
  refine cS 23 (fun bq rest hc1 hc2 hc3 => sg rfl (fun hg => sP 27 rfl hg q_neq) (gN ⟨rfl, rfl⟩)) ?_
  refine cP [20, 22, 17] ?_
  refine cS 24 (fun bq rest hc1 hc2 hc3 => sg rfl (fun hg => sP 26 rfl hg q_or) (gN ⟨rfl, rfl⟩)) ?_
  refine cP [17, 23, 10] ?_
  refine cS 25 (fun bq rest hc1 hc2 hc3 => sg rfl (fun hg => sP 23 rfl hg q_and) (gN ⟨rfl, rfl⟩)) ?_
  refine cP [24, 20, 10] ?_
  refine cS 26 (fun bq rest hc1 hc2 hc3 => sg rfl (fun hg => sP 30 rfl hg qM) (gN ⟨rfl, rfl⟩)) ?_
  refine Z118 ?_
  refine cS 27 (fun bq rest hc1 hc2 hc3 => sg rfl (fun hg => qM) (gN ⟨rfl, rfl⟩)) ?_
  refine Z118 ?_
  refine cS 28 (fun bq rest hc1 hc2 hc3 => sg rfl (fun hg => qM) (gN ⟨rfl, rfl⟩)) ?_
  refine cP [26, 27, 25] ?_
  refine cS 29 (fun bq rest hc1 hc2 hc3 => sg rfl (fun hg => sP 33 rfl hg (sP 32 rfl hg (q_mul (hw := rfl)))) (gN ⟨rfl, rfl⟩)) ?_
  refine Z118 ?_
  refine cS 30 (fun bq rest hc1 hc2 hc3 => sg rfl (fun hg => qM) (gN ⟨rfl, rfl⟩)) ?_
  refine cP [28, 29, 25] ?_
  refine cS 31 (fun bq rest hc1 hc2 hc3 => sgz (.int .i64 0) rfl (hf := by subst hbz; simp) (gN ⟨rfl, rfl⟩)) ?_
  refine Z118 ?_
  refine cS 32 (fun bq rest hc1 hc2 hc3 => sg rfl (fun hg => qM) (gN ⟨rfl, rfl⟩)) ?_
  refine cP [30, 31, 25] ?_
  refine cS 33 (fun bq rest hc1 hc2 hc3 => sg rfl (fun hg => sP 37 rfl hg (sP 36 rfl hg q_eql)) (gN ⟨rfl, rfl⟩)) ?_
  refine cP [25, 32, 10] ?_
  refine cS 34 (fun bq rest hc1 hc2 hc3 => sg rfl (fun hg => sP 31 rfl hg q_and) (gN ⟨rfl, rfl⟩)) ?_
  refine cP [10, 33] ?_
  refine cS 35 (fun bq rest hc1 hc2 hc3 => vq rfl q_or (gN ⟨rfl, rfl⟩)) ?_
  refine cP [0, 3, 34, 25] ?_
  refine cS 36 (fun bq rest hc1 hc2 hc3 => gL (xs := [.tmp 9, .tmp 40]) rfl (c290 _ _) (gN ⟨rfl, rfl⟩)) ?_
  refine cP [35, 35, 0, 1, 2, 3, 4, 5, 6, 7, 8, 9, 10, 11, 12, 13, 14, 15, 16, 17, 18, 19, 20, 21, 22, 23, 24, 25, 26, 27, 28, 29, 30, 31, 32, 33, 34, 35] ?_
  refine cS 37 (fun bq rest hc1 hc2 hc3 => vq rfl qA (gN ⟨rfl, rfl⟩)) ?_
  refine Z53 ?_;refine Z110 ?_;refine Z5 ?_
  exact ⟨by rw [mulV]; subst hbz; simp; rfl, rfl⟩
 refine g_cg0 [6, 7, 8, 9, 10, 11, 12, 13, 14, 15, 16, 17, 18, 19, 20, 21, 22, 23, 24, 25, 26, 27, 28, 29, 30, 31, 32, 33, 34, 35, 36, 37, 38, 39, 40, 41, 5] ?_
 refine Z12 ?_
 refine cS 1 (fun bq rest hc1 hc2 hc3 => vq rfl (qL u283) (gN ⟨rfl, rfl⟩)) ?_
 refine Z12 ?_
 refine cS 2 (fun bq rest hc1 hc2 hc3 => vq rfl qM (gN ⟨rfl, rfl⟩)) ?_
 refine Z12 ?_
 refine cS 3 (fun bq rest hc1 hc2 hc3 => vq rfl qM (gN ⟨rfl, rfl⟩)) ?_
 refine cP [1, 2] ?_
 refine cS 4 (fun bq rest hc1 hc2 hc3 => vq rfl (q_mul (hw := rfl)) (gN ⟨rfl, rfl⟩)) ?_
 refine Z12 ?_
 refine cS 5 (fun bq rest hc1 hc2 hc3 => vq rfl qM (gN ⟨rfl, rfl⟩)) ?_
 refine Z61 ?_
 refine cS 6 (fun bq rest hc1 hc2 hc3 => vq rfl q_eql (gN ⟨rfl, rfl⟩)) ?_
 refine Z81 ?_
 refine cS 7 (fun bq rest hc1 hc2 hc3 => vq rfl qM (gN ⟨rfl, rfl⟩)) ?_
 refine Z73 ?_
 refine cS 8 (fun bq rest hc1 hc2 hc3 => sg rfl (fun hg => qM) (gN ⟨rfl, rfl⟩)) ?_
 refine cP [7, 6] ?_
 refine cS 9 (fun bq rest hc1 hc2 hc3 => sg rfl (fun hg => sP 13 rfl hg q_eql) (gN ⟨rfl, rfl⟩)) ?_
 refine cP [6, 8] ?_
 refine cS 10 (fun bq rest hc1 hc2 hc3 => vq rfl q_or (gN ⟨rfl, rfl⟩)) ?_
 refine cP [9, 6] ?_
 refine cS 11 (fun bq rest hc1 hc2 hc3 => vq rfl qM (gN ⟨rfl, rfl⟩)) ?_
 refine Z158 ?_
 refine cS 12 (fun bq rest hc1 hc2 hc3 => sg rfl (fun hg => qM) (gN ⟨rfl, rfl⟩)) ?_
 refine cP [11, 10] ?_
 refine cS 13 (fun bq rest hc1 hc2 hc3 => sg rfl (fun hg => sP 17 rfl hg q_neq) (gN ⟨rfl, rfl⟩)) ?_
 refine cP [12, 10, 10] ?_
 refine cS 14 (fun bq rest hc1 hc2 hc3 => sg rfl (fun hg => sP 18 rfl hg qM) (gN ⟨rfl, rfl⟩)) ?_
 refine cP [13] ?_
 refine cS 15 (fun bq rest hc1 hc2 hc3 => sg rfl (fun hg => qM) (gN ⟨rfl, rfl⟩)) ?_
 refine cP [14, 13] ?_
 refine cS 16 (fun bq rest hc1 hc2 hc3 => sg rfl (fun hg => sP 20 rfl hg q_neq) (gN ⟨rfl, rfl⟩)) ?_
 refine cP [13, 15, 10] ?_
 refine cS 17 (fun bq rest hc1 hc2 hc3 => sg rfl (fun hg => sP 19 rfl hg q_or) (gN ⟨rfl, rfl⟩)) ?_
 refine cP [16, 13, 10] ?_
 refine cS 18 (fun bq rest hc1 hc2 hc3 => sg rfl (fun hg => sP 22 rfl hg qM) (gN ⟨rfl, rfl⟩)) ?_
 refine cP [17] ?_
 refine cS 19 (fun bq rest hc1 hc2 hc3 => sg rfl (fun hg => qM) (gN ⟨rfl, rfl⟩)) ?_
 refine cP [18, 17] ?_
 refine cS 20 (fun bq rest hc1 hc2 hc3 => sg rfl (fun hg => sP 24 rfl hg q_neq) (gN ⟨rfl, rfl⟩)) ?_
 refine cP [19, 17, 17] ?_
 refine cS 21 (fun bq rest hc1 hc2 hc3 => sg rfl (fun hg => sP 25 rfl hg qM) (gN ⟨rfl, rfl⟩)) ?_
 refine cP [20] ?_
 refine cS 22 (fun bq rest hc1 hc2 hc3 => sg rfl (fun hg => qM) (gN ⟨rfl, rfl⟩)) ?_
 refine cP [21, 20] ?_
 refine cS 23 (fun bq rest hc1 hc2 hc3 => sg rfl (fun hg => sP 27 rfl hg q_neq) (gN ⟨rfl, rfl⟩)) ?_
 refine cP [20, 22, 17] ?_
 refine cS 24 (fun bq rest hc1 hc2 hc3 => sg rfl (fun hg => sP 26 rfl hg q_or) (gN ⟨rfl, rfl⟩)) ?_
 refine cP [17, 23, 10] ?_
 refine cS 25 (fun bq rest hc1 hc2 hc3 => sg rfl (fun hg => sP 23 rfl hg q_and) (gN ⟨rfl, rfl⟩)) ?_
 refine cP [24, 20, 10] ?_
 refine cS 26 (fun bq rest hc1 hc2 hc3 => sg rfl (fun hg => sP 30 rfl hg qM) (gN ⟨rfl, rfl⟩)) ?_
 refine Z118 ?_
 refine cS 27 (fun bq rest hc1 hc2 hc3 => sg rfl (fun hg => qM) (gN ⟨rfl, rfl⟩)) ?_
 refine Z118 ?_
 refine cS 28 (fun bq rest hc1 hc2 hc3 => sg rfl (fun hg => qM) (gN ⟨rfl, rfl⟩)) ?_
 refine cP [26, 27, 25] ?_
 refine cS 29 (fun bq rest hc1 hc2 hc3 => sg rfl (fun hg => sP 33 rfl hg (sP 32 rfl hg (q_mul (hw := rfl)))) (gN ⟨rfl, rfl⟩)) ?_
 refine Z118 ?_
 refine cS 30 (fun bq rest hc1 hc2 hc3 => sg rfl (fun hg => qM) (gN ⟨rfl, rfl⟩)) ?_
 refine cP [28, 29, 25] ?_
 refine cS 31 (fun bq rest hc1 hc2 hc3 => sg rfl (fun hg => sP 35 rfl hg (sP 34 rfl hg (q_quo hbz rfl))) (gN ⟨rfl, rfl⟩)) ?_
 refine Z118 ?_
 refine cS 32 (fun bq rest hc1 hc2 hc3 => sg rfl (fun hg => qM) (gN ⟨rfl, rfl⟩)) ?_
 refine cP [30, 31, 25] ?_
 refine cS 33 (fun bq rest hc1 hc2 hc3 => sg rfl (fun hg => sP 37 rfl hg (sP 36 rfl hg q_eql)) (gN ⟨rfl, rfl⟩)) ?_
 refine cP [25, 32, 10] ?_
 refine cS 34 (fun bq rest hc1 hc2 hc3 => sg rfl (fun hg => sP 31 rfl hg q_and) (gN ⟨rfl, rfl⟩)) ?_
 refine cP [10, 33] ?_
 refine cS 35 (fun bq rest hc1 hc2 hc3 => vq rfl q_or (gN ⟨rfl, rfl⟩)) ?_
 refine cP [0, 3, 34, 25] ?_
 refine cS 36 (fun bq rest hc1 hc2 hc3 => gL (xs := [.tmp 9, .tmp 40]) rfl (c290 _ _) (gN ⟨rfl, rfl⟩)) ?_
 refine cP [35, 35, 0, 1, 2, 3, 4, 5, 6, 7, 8, 9, 10, 11, 12, 13, 14, 15, 16, 17, 18, 19, 20, 21, 22, 23, 24, 25, 26, 27, 28, 29, 30, 31, 32, 33, 34, 35] ?_
 refine cS 37 (fun bq rest hc1 hc2 hc3 => vq rfl qA (gN ⟨rfl, rfl⟩)) ?_
 refine Z53 ?_;refine Z110 ?_;refine Z5 ?_
 exact ⟨rfl, rfl⟩
theorem c295 (a b : Int) : Pf Tryz.prog 295 [.int .i64 a, .int .i64 b, .ptr (.fn (.func 291) [] [])] (.d (valD (quoV a b))) := by
 refine pf_body (rvs := [.tmp 5]) [(0, .d (.int .i64 a)), (1, .d (.int .i64 b)), (2, .d (.ptr (.fn (.func 291) [] [])))] Tryz.func295 Tryz.ntmps295 Tryz.results295 (fun S0 O0 w0 m0 hm0 => ?_)
 refine Z2 ?_;refine Z201 ?_
 refine vq rfl (qL u251) ?_
 refine Z198 ?_
 refine gL (xs := [.tmp 7, .tmp 8]) rfl (c291 a b) ?_
 refine Z248 ?_
 refine gC (fun hb0 => ?_) (fun hb0 => ?_)
 ·
  refine Z264 ?_
  exact ⟨by (rw [quoV, if_pos hb0] <;> rfl), rfl⟩
 have hz : b ≠ 0 := by
  rintro rfl
  simp [divB] at hb0
 refine Z45 ?_;refine Z198 ?_
 refine vq rfl (q_quo hz rfl) ?_
 refine gL (xs := [.tmp 13]) rfl (c186 _) ?_
 refine Z195 ?_
 exact ⟨by (rw [quoV, if_neg (by rw [hb0]; decide)] <;> rfl), rfl⟩
theorem c296 (a b : Int) : Pf Tryz.prog 296 [.int .i64 a, .int .i64 b, .ptr (.fn (.func 291) [] [])] (.d (valD (remV a b))) := by
 refine pf_body (rvs := [.tmp 5]) [(0, .d (.int .i64 a)), (1, .d (.int .i64 b)), (2, .d (.ptr (.fn (.func 291) [] [])))] Tryz.func296 Tryz.ntmps296 Tryz.results296 (fun S0 O0 w0 m0 hm0 => ?_)
 refine Z2 ?_;refine Z201 ?_
 refine vq rfl (qL u251) ?_
 refine Z198 ?_
 refine gL (xs := [.tmp 7, .tmp 8]) rfl (c291 a b) ?_
 refine Z248 ?_
 refine gC (fun hb0 => ?_) (fun hb0 => ?_)
 ·
  refine Z264 ?_
  exact ⟨by (rw [remV, if_pos hb0] <;> rfl), rfl⟩
 have hz : b ≠ 0 := by
  rintro rfl
  simp [divB] at hb0
 refine Z45 ?_;refine Z198 ?_
 refine vq rfl (q_rem hz rfl) ?_
 refine gL (xs := [.tmp 13]) rfl (c186 _) ?_
 refine Z195 ?_
 exact ⟨by (rw [remV, if_neg (by rw [hb0]; decide)] <;> rfl), rfl⟩
theorem c297 (a b : Int) : Pf Tryz.prog 297 [.int .i64 a, .int .i64 b] (.d (.bool (a == b))) := by
 refine pf_body (rvs := [.tmp 4]) [(0, .d (.int .i64 a)), (1, .d (.int .i64 b))] Tryz.func297 Tryz.ntmps297 Tryz.results297 (fun S0 O0 w0 m0 hm0 => ?_)
 refine Z254 ?_;refine Z9 ?_;refine Z195 ?_
 exact ⟨rfl, rfl⟩
theorem c298 (a b : Int) : Pf Tryz.prog 298 [.int .i64 a, .int .i64 b] (.d (.bool (a != b))) := by
 refine pf_body (rvs := [.tmp 4]) [(0, .d (.int .i64 a)), (1, .d (.int .i64 b))] Tryz.func298 Tryz.ntmps298 Tryz.results298 (fun S0 O0 w0 m0 hm0 => ?_)
 refine Z254 ?_;refine Z46 ?_;refine Z195 ?_
 exact ⟨rfl, rfl⟩
theorem c299 (a b : Int) : Pf Tryz.prog 299 [.int .i64 a, .int .i64 b] (.d (.bool (decide (a < b)))) := by
 refine pf_body (rvs := [.tmp 4]) [(0, .d (.int .i64 a)), (1, .d (.int .i64 b))] Tryz.func299 Tryz.ntmps299 Tryz.results299 (fun S0 O0 w0 m0 hm0 => ?_)
 refine Z254 ?_;refine Z27 ?_;refine Z195 ?_
 exact ⟨rfl, rfl⟩
theorem c300 (a b : Int) : Pf Tryz.prog 300 [.int .i64 a, .int .i64 b] (.d (.bool (decide (a ≤ b)))) := by
 refine pf_body (rvs := [.tmp 4]) [(0, .d (.int .i64 a)), (1, .d (.int .i64 b))] Tryz.func300 Tryz.ntmps300 Tryz.results300 (fun S0 O0 w0 m0 hm0 => ?_)
 refine Z254 ?_;refine Z112 ?_;refine Z195 ?_
 exact ⟨rfl, rfl⟩
theorem c301 (a b : Int) : Pf Tryz.prog 301 [.int .i64 a, .int .i64 b] (.d (.bool (decide (a > b)))) := by
 refine pf_body (rvs := [.tmp 4]) [(0, .d (.int .i64 a)), (1, .d (.int .i64 b))] Tryz.func301 Tryz.ntmps301 Tryz.results301 (fun S0 O0 w0 m0 hm0 => ?_)
 refine Z254 ?_;refine Z62 ?_;refine Z195 ?_
 exact ⟨rfl, rfl⟩
theorem c302 (a b : Int) : Pf Tryz.prog 302 [.int .i64 a, .int .i64 b] (.d (.bool (decide (a ≥ b)))) := by
 refine pf_body (rvs := [.tmp 4]) [(0, .d (.int .i64 a)), (1, .d (.int .i64 b))] Tryz.func302 Tryz.ntmps302 Tryz.results302 (fun S0 O0 w0 m0 hm0 => ?_)
 refine Z254 ?_;refine Z52 ?_;refine Z195 ?_
 exact ⟨rfl, rfl⟩
structure Op2 (α : Type) where
 g : Nat
 caps : List D
 f : Int → Int → α
def Op2.d {α : Type} (o : Op2 α) : D := .fn (.func o.g) [] o.caps
def intTab : List (ByteArray × Op2 (Option Tr)) := [(⟨#[43]⟩, ⟨292, [.ptr (.fn (.func 290) [] [])], addV⟩), (⟨#[45]⟩, ⟨293, [.ptr (.fn (.func 290) [] [])], subV⟩), (⟨#[42]⟩, ⟨294, [.ptr (.fn (.func 290) [] [])], mulV⟩), (⟨#[47]⟩, ⟨295, [.ptr (.fn (.func 291) [] [])], quoV⟩), (⟨#[37]⟩, ⟨296, [.ptr (.fn (.func 291) [] [])], remV⟩)]
def cmpTab : List (ByteArray × Op2 Bool) := [(⟨#[61, 61]⟩, ⟨297, [], fun a b => a == b⟩), (⟨#[33, 61]⟩, ⟨298, [], fun a b => a != b⟩), (⟨#[60]⟩, ⟨299, [], fun a b => decide (a < b)⟩), (⟨#[60, 61]⟩, ⟨300, [], fun a b => decide (a ≤ b)⟩), (⟨#[62]⟩, ⟨301, [], fun a b => decide (a > b)⟩), (⟨#[62, 61]⟩, ⟨302, [], fun a b => decide (a ≥ b)⟩)]
def tabM {α : Type} (l : List (ByteArray × Op2 α)) : List (D × D) := l.map fun x => (.str x.1, x.2.d)
def tabGet {α : Type} (l : List (ByteArray × Op2 α)) (nm : ByteArray) : Option (Op2 α) := (l.find? fun x => decide (x.1 = nm)).map (·.2)
variable {α : Type}
theorem find_tab (l : List (ByteArray × Op2 α)) (nm : ByteArray) : (tabM l).find? (fun x => x.1.keyEq (.str nm)) = (l.find? fun x => decide (x.1 = nm)).map fun x => (D.str x.1, x.2.d) := by
 have h : ((fun x : D × D => x.1.keyEq (.str nm)) ∘ fun x : ByteArray × Op2 α => (D.str x.1, x.2.d)) = fun x => decide (x.1 = nm) := rfl
 unfold tabM
 rw [List.find?_map, h]
theorem mget_tab (l : List (ByteArray × Op2 α)) (nm : ByteArray) (z : D) : mget (tabM l) (.str nm) z = match tabGet l nm with | some s => s.d | none => z := by
 unfold mget tabGet
 rw [find_tab]
 cases l.find? (fun x => decide (x.1 = nm)) <;> rfl
theorem mhas_tab (l : List (ByteArray × Op2 α)) (nm : ByteArray) : mhas (tabM l) (.str nm) = (tabGet l nm).isSome := by
 have h : ((fun x : D × D => x.1.keyEq (.str nm)) ∘ fun x : ByteArray × Op2 α => (D.str x.1, x.2.d)) = fun x => decide (x.1 = nm) := rfl
 unfold mhas tabGet tabM
 rw [List.any_map, h, Option.isSome_map, Bool.eq_iff_iff, List.any_eq_true, List.find?_isSome]
variable {nm : ByteArray}
theorem tabGet_mem {α : Type} {l : List (ByteArray × Op2 α)} {o : Op2 α} (h : tabGet l nm = some o) : ∃ x ∈ l, x.2 = o := by
 unfold tabGet at h
 cases hf : l.find? (fun x => decide (x.1 = nm)) with
 | none => rw [hf] at h; cases h
 | some x =>
  rw [hf] at h
  injection h with h
  exact ⟨x, List.mem_of_find?_eq_some hf, h⟩
theorem intTab_ok {g : Nat} {caps : List D} {f : Int → Int → Option Tr} (h : tabGet intTab nm = some ⟨g, caps, f⟩) (a b : Int) : Pf Tryz.prog g ([] ++ [.int .i64 a, .int .i64 b] ++ caps) (.d (valD (f a b))) := by
 obtain ⟨x, hx, he⟩ := tabGet_mem h
 simp only [intTab, List.mem_cons, List.not_mem_nil, or_false] at hx
 rcases hx with rfl | rfl | rfl | rfl | rfl <;> (injection he with h1 h2 h3; subst h1; subst h2; subst h3)
 · exact c292 a b
 · exact c293 a b
 · exact c294 a b
 · exact c295 a b
 · exact c296 a b
theorem cmpTab_ok {g : Nat} {caps : List D} {f : Int → Int → Bool} (h : tabGet cmpTab nm = some ⟨g, caps, f⟩) (a b : Int) : Pf Tryz.prog g ([] ++ [.int .i64 a, .int .i64 b] ++ caps) (.d (.bool (f a b))) := by
 obtain ⟨x, hx, he⟩ := tabGet_mem h
 simp only [cmpTab, List.mem_cons, List.not_mem_nil, or_false] at hx
 rcases hx with rfl | rfl | rfl | rfl | rfl | rfl <;> (injection he with h1 h2 h3; subst h1; subst h2; subst h3)
 · exact c297 a b
 · exact c298 a b
 · exact c299 a b
 · exact c300 a b
 · exact c301 a b
 · exact c302 a b
set_option maxHeartbeats 4000000 in
theorem c244  : Pf Tryz.prog 244 [] (.d (.map (tabM intTab))) := by
 refine pf_body (rvs := [.tmp 0]) [] Tryz.func244 Tryz.ntmps244 Tryz.results244 (fun S0 O0 w0 m0 hm0 => ?_)
 refine Z211 ?_
 refine sv rfl (y_alloc zr283) ?_
 refine sa rfl (dS sz283) ?_
 refine gF 0 [] (.fn (.func 290) [] []) rfl ?_
 refine Z7 ?_
 refine sv rfl (y_alloc zr251) ?_
 refine sa rfl (dS sz251) ?_
 refine gF 0 [] (.fn (.func 291) [] []) rfl ?_
 refine Z7 ?_;refine Z175 ?_
 refine vq rfl (q_makeFunc (xs := []) (ys := [.tmp 1])) ?_
 refine Z161 ?_
 refine vq rfl (q_makeFunc (xs := []) (ys := [.tmp 1])) ?_
 refine Z161 ?_
 refine vq rfl (q_makeFunc (xs := []) (ys := [.tmp 1])) ?_
 refine Z161 ?_
 refine vq rfl (q_makeFunc (xs := []) (ys := [.tmp 2])) ?_
 refine Z161 ?_
 refine vq rfl (q_makeFunc (xs := []) (ys := [.tmp 2])) ?_
 refine Z161 ?_;refine Z1 ?_;refine Z0 ?_
 refine g_freezeM 0 [] rfl ?_
 refine Z6 ?_;refine Z5 ?_
 exact ⟨rfl, rfl⟩
set_option maxHeartbeats 4000000 in
theorem c245  : Pf Tryz.prog 245 [] (.d (.map (tabM cmpTab))) := by
 refine pf_body (rvs := [.tmp 0]) [] Tryz.func245 Tryz.ntmps245 Tryz.results245 (fun S0 O0 w0 m0 hm0 => ?_)
 refine Z211 ?_;refine Z175 ?_;refine Z144 ?_;refine Z144 ?_;refine Z144 ?_;refine Z144 ?_;refine Z144 ?_;refine Z144 ?_;refine Z1 ?_;refine Z0 ?_
 refine g_freezeM 0 [] rfl ?_
 refine Z6 ?_;refine Z5 ?_
 exact ⟨rfl, rfl⟩
end Go.Proofs.YtklkbfpjimeaoaaGreat
