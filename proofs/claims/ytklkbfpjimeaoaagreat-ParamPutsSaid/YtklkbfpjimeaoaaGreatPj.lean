/- Contracts of functions. Conditions: none. -/
import Derived.Test.YtklkbfpjimeaoaaGreatPi
namespace Go.Proofs.YtklkbfpjimeaoaaGreat
open Go Go.Proofs.YtklkbfpjimeaoaaGreat.E
theorem check_st {lo hi st : Int} (h : checkS lo hi st = 0) (hle : lo ≤ hi) : st ≠ 0 := by
  rintro rfl
  unfold checkS at h
  split at h
  · rw [if_pos (by simp)] at h
    cases h
  · rename_i hn
    apply hn
    simp
def byN (f b c m : Int) : (Int × Int × Int) × Int := normalS f (W (b * m)) (W ((W (W (c + m) - 1)).tdiv m))
def byS (lo hi st n : Int) : (Int × Int × Int) × Int :=
  if (checkS lo hi st != 0) = true then ((0, 0, 0), checkS lo hi st)
  else if (n == 0) = true then ((0, 0, 0), 1)
  else if (!withinB n) = true then ((0, 0, 0), 4)
  else if n < 0 then byN (turnS (seriesS lo hi st).1 (seriesS lo hi st).2.1 (seriesS lo hi st).2.2).1 (turnS (seriesS lo hi st).1 (seriesS lo hi st).2.1 (seriesS lo hi st).2.2).2.1 (turnS (seriesS lo hi st).1 (seriesS lo hi st).2.1 (seriesS lo hi st).2.2).2.2 (W (0 - n))
  else byN (seriesS lo hi st).1 (seriesS lo hi st).2.1 (seriesS lo hi st).2.2 n
def countS (lo hi st n : Int) : (Int × Int × Int) × Int :=
  if (checkS lo hi st != 0) = true then ((0, 0, 0), checkS lo hi st)
  else if (decide (n > (seriesS lo hi st).2.2) || decide (n < W (0 - (seriesS lo hi st).2.2))) = true then ((0, 0, 0), 5)
  else if n < 0 then normalS (W ((seriesS lo hi st).1 + W ((seriesS lo hi st).2.1 * W ((seriesS lo hi st).2.2 + n)))) (seriesS lo hi st).2.1 (W (0 - n))
  else normalS (seriesS lo hi st).1 (seriesS lo hi st).2.1 n
set_option maxHeartbeats 1000000 in
theorem c246 (lo hi : Int) : Pf Tryz.prog 246 [.int .i64 lo, .int .i64 hi, .int .i64 1] (.tup [.d (.agg [.int .i64 (ofS lo hi).1.1, .int .i64 (ofS lo hi).1.2.1, .int .i64 (ofS lo hi).1.2.2]), .d (.int .i64 (ofS lo hi).2)]) := by
  refine pf_body (rvs := [.cell 6 199, .tmp 7]) [(0, .d (.int .i64 lo)), (1, .d (.int .i64 hi)), (2, .d (.int .i64 1))] Tryz.func246 Tryz.ntmps246 Tryz.results246 (fun S0 O0 w0 m0 hm0 => ?_)
  refine G_seq ?_
  refine g_region ?_
  refine sv rfl (y_alloc zr199) ?_
  refine sv rfl (y_assign) ?_
  refine GOps_nil ?_
  refine thn_normal ?_
  refine G_seq ?_
  refine G_block ?_
  refine G_seq ?_
  refine g_region ?_
  refine sv rfl (y_move) ?_
  refine sv rfl (y_eql) ?_
  refine sv rfl (y_assign) ?_
  refine GOps_nil ?_
  refine thn_normal ?_
  refine g_cond (fun hb0 => ?_) (fun hb0 => ?_)
  ·
    exact absurd hb0 (by decide)
  ·
    refine G_seq ?_
    refine g_region ?_
    refine sv rfl (y_move) ?_
    refine g_call (xs := [.tmp 13]) rfl (c303 lo) ?_
    refine sv rfl (y_not) ?_
    refine sv rfl (y_move) ?_
    refine sg rfl (fun hg => q_move) ?_
    refine g_callg (xs := [.tmp 17]) rfl (fun hg => c303 hi) ?_
    refine sg rfl (fun hg => strip 18 (by simp only [GS.set, GS.get, List.lookup_cons, Nat.reduceBEq] <;> rfl) hg (q_not)) ?_
    refine sv rfl (y_or) ?_
    refine sv rfl (y_move) ?_
    refine sg rfl (fun hg => q_move) ?_
    refine g_callg (xs := [.tmp 22]) rfl (fun hg => c303 1) ?_
    refine sg rfl (fun hg => strip 23 (by simp only [GS.set, GS.get, List.lookup_cons, Nat.reduceBEq] <;> rfl) hg (q_not)) ?_
    refine sv rfl (y_or) ?_
    refine sv rfl (y_assign) ?_
    refine GOps_nil ?_
    refine thn_normal ?_
    refine g_cond (fun hb1 => ?_) (fun hb1 => ?_)
    ·
      refine G_seq ?_
      refine g_keep [0, 1, 2, 6, 7] ?_
      refine g_region ?_
      refine sv rfl (y_buildS pl199 zr199) ?_
      first | refine sa rfl (d_store sz199) ?_ | refine sa rfl (d_store_take sz199) ?_
      refine sv rfl (y_assign) ?_
      refine GOps_nil ?_
      refine thn_normal ?_
      refine G_ret ?_
      refine blk_ret ?_
      refine thn_ret ?_
      refine fincd sz199 Tryz.underlying199 (by simp) ?_
      exact ⟨by rw [ofS, if_pos hb1], rfl⟩
    ·
      refine G_seq ?_
      refine g_keep [0, 1, 2, 6, 7] ?_
      refine g_region ?_
      refine sv rfl (y_move) ?_
      refine sv rfl (y_move) ?_
      refine sv rfl (y_gtr) ?_
      refine sv rfl (y_assign) ?_
      refine GOps_nil ?_
      refine thn_normal ?_
      refine g_cond (fun hb2 => ?_) (fun hb2 => ?_)
      ·
        refine G_seq ?_
        refine g_region ?_
        refine sv rfl (y_buildS pl260 zr260) ?_
        refine g_call (xs := [.tmp 31]) rfl (c304 0 0 0) ?_
        refine sv rfl (y_extract) ?_
        refine sv rfl (y_extract) ?_
        first | refine sa rfl (d_store sz199) ?_ | refine sa rfl (d_store_take sz199) ?_
        refine sv rfl (y_assign) ?_
        refine GOps_nil ?_
        refine thn_normal ?_
        refine G_ret ?_
        refine blk_ret ?_
        refine thn_ret ?_
        refine fincd sz199 Tryz.underlying199 (by simp) ?_
        exact ⟨by rw [ofS, if_neg (by rw [hb1]; decide), if_pos (of_decide_eq_true hb2)], rfl⟩
      ·
        refine G_seq ?_
        refine g_region ?_
        refine sv rfl (y_move) ?_
        refine sv rfl (y_lss) ?_
        refine sv rfl (y_assign) ?_
        refine GOps_nil ?_
        refine thn_normal ?_
        refine g_cond (fun hb3 => ?_) (fun hb3 => ?_)
        ·
          exact absurd hb3 (by decide)
        ·
          refine G_skip ?_
          refine blk_normal ?_
          refine thn_normal ?_
          refine G_seq ?_
          refine g_region ?_
          refine sv rfl (y_move) ?_
          refine sv rfl (y_move) ?_
          refine sv rfl (y_move) ?_
          refine sv rfl (y_move) ?_
          refine sv rfl (y_sub (hw := rfl)) ?_
          refine sv rfl (y_move) ?_
          refine sv rfl (y_quo (show (1 : Int) ≠ 0 by decide) rfl) ?_
          refine sv rfl (y_add (hw := rfl)) ?_
          refine sv rfl (y_buildS pl260 zr260) ?_
          refine g_call (xs := [.tmp 59]) rfl (c304 _ _ _) ?_
          refine sv rfl (y_extract) ?_
          refine sv rfl (y_extract) ?_
          first | refine sa rfl (d_store sz199) ?_ | refine sa rfl (d_store_take sz199) ?_
          refine sv rfl (y_assign) ?_
          refine GOps_nil ?_
          refine thn_normal ?_
          refine G_ret ?_
          refine fincd sz199 Tryz.underlying199 (by simp) ?_
          exact ⟨by rw [ofS, if_neg (by rw [hb1]; decide), if_neg (of_decide_eq_false hb2)]; rfl, rfl⟩
set_option maxHeartbeats 1000000 in
theorem c249 (lo hi st : Int) (hw : wf64 st) : Pf Tryz.prog 249 [.agg [.int .i64 lo, .int .i64 hi, .int .i64 st]] (.d (.int .i64 (checkS lo hi st))) := by
  refine pf_body (rvs := [.tmp 2]) [(0, .d (.agg [.int .i64 lo, .int .i64 hi, .int .i64 st]))] Tryz.func249 Tryz.ntmps249 Tryz.results249 (fun S0 O0 w0 m0 hm0 => ?_)
  refine G_seq ?_
  refine g_region ?_
  refine sv rfl (y_box) ?_
  refine g_freeze 0 [] (.agg [.int .i64 lo, .int .i64 hi, .int .i64 st]) rfl ?_
  refine sv rfl (y_assign) ?_
  refine GOps_nil ?_
  refine thn_normal ?_
  refine G_seq ?_
  refine g_region ?_
  first | refine sv rfl (y_load_agg sz199 Tryz.underlying199 rfl) ?_ | refine sv rfl (y_loadp_agg (by exact sz199) Tryz.underlying199 rfl) ?_
  refine sv rfl (y_buildS pl199 zr199) ?_
  refine sv rfl (Yld_pure rfl (of_decide_eq_true rfl) (q_structeq (eq_rg lo hi st))) ?_
  refine sv rfl (y_assign) ?_
  refine GOps_nil ?_
  refine thn_normal ?_
  refine G_seq ?_
  refine g_region ?_
  first | refine sv rfl (y_fieldAt 0 Tryz.underlying199 rfl sz3) ?_ | refine sv rfl (y_fieldAddr Tryz.underlying199 rfl sz3) ?_ | refine sv rfl (y_fieldp_leaf Tryz.underlying199 rfl sz3) ?_
  first | refine sv rfl (y_load_leaf Tryz.underlying3) ?_ | refine sv rfl (y_loadp_leaf Tryz.underlying3) ?_
  first | refine sv rfl (y_fieldAt 1 Tryz.underlying199 rfl sz3) ?_ | refine sv rfl (y_fieldAddr Tryz.underlying199 rfl sz3) ?_ | refine sv rfl (y_fieldp_leaf Tryz.underlying199 rfl sz3) ?_
  first | refine sv rfl (y_load_leaf Tryz.underlying3) ?_ | refine sv rfl (y_loadp_leaf Tryz.underlying3) ?_
  refine sv rfl (y_eql) ?_
  refine sv rfl (y_move) ?_
  first | refine sg rfl (fun hg => q_fieldAddr Tryz.underlying199 rfl sz3) ?_ | refine sg rfl (fun hg => q_fieldp_leaf Tryz.underlying199 rfl sz3) ?_
  first | refine sg rfl (fun hg => strip 15 (by simp only [GS.set, GS.get, List.lookup_cons, Nat.reduceBEq] <;> rfl) hg (q_load_leaf Tryz.underlying3)) ?_ | refine sg rfl (fun hg => strip 15 (by simp only [GS.set, GS.get, List.lookup_cons, Nat.reduceBEq] <;> rfl) hg (q_loadp_leaf Tryz.underlying3)) ?_
  refine sg rfl (fun hg => strip 16 (by simp only [GS.set, GS.get, List.lookup_cons, Nat.reduceBEq] <;> rfl) hg (q_eql)) ?_
  refine sv rfl (y_and) ?_
  refine sv rfl (y_assign) ?_
  refine GOps_nil ?_
  refine thn_normal ?_
  refine G_seq_cut (α := Unit) (fun _u => ⟨[(1, .d (.ptr (.agg [.int .i64 lo, .int .i64 hi, .int .i64 st]))), (2, .d (.int .i64 0))], []⟩) (fun _u => checkS lo hi st = limS lo hi) (fun Q' hn he hr => ?_) (fun _u h_u => ?_)
  ·
    refine G_seq ?_
    refine g_keep [0, 1, 2, 3, 4, 5] ?_
    refine g_region ?_
    refine sv rfl (y_move) ?_
    refine sv rfl (y_not) ?_
    refine sv rfl (y_move) ?_
    refine sg rfl (fun hg => q_move) ?_
    refine sg rfl (fun hg => strip 22 (by simp only [GS.set, GS.get, List.lookup_cons, Nat.reduceBEq] <;> rfl) hg (q_not)) ?_
    refine sv rfl (y_and) ?_
    refine GOps_nil ?_
    refine thn_normal ?_
    refine g_cond (fun hb0 => ?_) (fun hb0 => ?_)
    ·
      refine G_seq ?_
      refine G_seq ?_
      refine g_region ?_
      first | refine sv rfl (y_fieldAt 0 Tryz.underlying199 rfl sz3) ?_ | refine sv rfl (y_fieldAddr Tryz.underlying199 rfl sz3) ?_ | refine sv rfl (y_fieldp_leaf Tryz.underlying199 rfl sz3) ?_
      first | refine sv rfl (y_load_leaf Tryz.underlying3) ?_ | refine sv rfl (y_loadp_leaf Tryz.underlying3) ?_
      first | refine sv rfl (y_fieldAt 1 Tryz.underlying199 rfl sz3) ?_ | refine sv rfl (y_fieldAddr Tryz.underlying199 rfl sz3) ?_ | refine sv rfl (y_fieldp_leaf Tryz.underlying199 rfl sz3) ?_
      first | refine sv rfl (y_load_leaf Tryz.underlying3) ?_ | refine sv rfl (y_loadp_leaf Tryz.underlying3) ?_
      refine sv rfl (y_geq) ?_
      refine sv rfl (y_move) ?_
      first | refine sg rfl (fun hg => q_fieldAddr Tryz.underlying199 rfl sz3) ?_ | refine sg rfl (fun hg => q_fieldp_leaf Tryz.underlying199 rfl sz3) ?_
      first | refine sg rfl (fun hg => strip 31 (by simp only [GS.set, GS.get, List.lookup_cons, Nat.reduceBEq] <;> rfl) hg (q_load_leaf Tryz.underlying3)) ?_ | refine sg rfl (fun hg => strip 31 (by simp only [GS.set, GS.get, List.lookup_cons, Nat.reduceBEq] <;> rfl) hg (q_loadp_leaf Tryz.underlying3)) ?_
      refine sg rfl (fun hg => strip 32 (by simp only [GS.set, GS.get, List.lookup_cons, Nat.reduceBEq] <;> rfl) hg (q_eql)) ?_
      refine sv rfl (y_or) ?_
      refine GOps_nil ?_
      refine thn_normal ?_
      refine g_cond (fun hb1 => ?_) (fun hb1 => ?_)
      ·
        refine G_seq ?_
        refine g_keep [0, 1, 2, 3, 4, 5] ?_
        refine g_region ?_
        refine sv rfl (y_assign) ?_
        refine GOps_nil ?_
        refine thn_normal ?_
        refine G_ret ?_
        refine thn_ret ?_
        refine hr _ ?_
        refine fin1 (by simp) ?_
        exact ⟨by rw [checkS, if_pos hb0, if_pos hb1], rfl⟩
      ·
        have hst : st ≠ 0 := by
          rintro rfl
          simp at hb1
        refine G_skip ?_
        refine thn_normal ?_
        refine G_seq ?_
        refine g_keep [0, 1, 2, 3, 4, 5] ?_
        refine g_region ?_
        first | refine sv rfl (y_fieldAt 2 Tryz.underlying199 rfl sz3) ?_ | refine sv rfl (y_fieldAddr Tryz.underlying199 rfl sz3) ?_ | refine sv rfl (y_fieldp_leaf Tryz.underlying199 rfl sz3) ?_
        first | refine sv rfl (y_load_leaf Tryz.underlying3) ?_ | refine sv rfl (y_loadp_leaf Tryz.underlying3) ?_
        refine sv rfl (y_convert Tryz.underlying3 Tryz.underlying286) ?_
        refine sv rfl (y_assign) ?_
        refine GOps_nil ?_
        refine thn_normal ?_
        refine G_seq_cut (α := Int) (fun x => ⟨[(1, .d (.ptr (.agg [.int .i64 lo, .int .i64 hi, .int .i64 st]))), (2, .d (.int .i64 0)), (5, .d (.int .u64 x))], []⟩) (fun x => x = stepS st) (fun Q' hn he hr => ?_) (fun x hx => ?_)
        ·
          refine G_seq ?_
          refine g_region ?_
          first | refine sv rfl (y_fieldAt 2 Tryz.underlying199 rfl sz3) ?_ | refine sv rfl (y_fieldAddr Tryz.underlying199 rfl sz3) ?_ | refine sv rfl (y_fieldp_leaf Tryz.underlying199 rfl sz3) ?_
          first | refine sv rfl (y_load_leaf Tryz.underlying3) ?_ | refine sv rfl (y_loadp_leaf Tryz.underlying3) ?_
          refine sv rfl (y_lss) ?_
          refine GOps_nil ?_
          refine thn_normal ?_
          refine g_cond (fun hb2 => ?_) (fun hb2 => ?_)
          ·
            refine g_region ?_
            refine sv rfl (y_move) ?_
            refine sv rfl (Yld_pure rfl (of_decide_eq_true rfl) (q_neg (hr := rfl))) ?_
            refine sv rfl (y_assign) ?_
            refine GOps_nil ?_
            refine hn _ (U (0 - U st)) (by rw [stepS, if_pos (of_decide_eq_true hb2)]) le_of
          ·
            refine G_skip ?_
            refine hn _ (U st) (by rw [stepS, if_neg (of_decide_eq_false hb2)]) le_of
        ·
          have hx0 : x ≠ 0 := by
            rw [hx]
            unfold stepS
            split
            · rename_i h; exact Un_ne hw h
            · exact U_ne hw hst
          refine G_seq ?_
          refine g_region ?_
          first | refine sv rfl (y_fieldAt 1 Tryz.underlying199 rfl sz3) ?_ | refine sv rfl (y_fieldAddr Tryz.underlying199 rfl sz3) ?_ | refine sv rfl (y_fieldp_leaf Tryz.underlying199 rfl sz3) ?_
          first | refine sv rfl (y_load_leaf Tryz.underlying3) ?_ | refine sv rfl (y_loadp_leaf Tryz.underlying3) ?_
          first | refine sv rfl (y_fieldAt 0 Tryz.underlying199 rfl sz3) ?_ | refine sv rfl (y_fieldAddr Tryz.underlying199 rfl sz3) ?_ | refine sv rfl (y_fieldp_leaf Tryz.underlying199 rfl sz3) ?_
          first | refine sv rfl (y_load_leaf Tryz.underlying3) ?_ | refine sv rfl (y_loadp_leaf Tryz.underlying3) ?_
          refine sv rfl (y_sub (hw := rfl)) ?_
          refine sv rfl (y_convert Tryz.underlying3 Tryz.underlying286) ?_
          refine sv rfl (y_move) ?_
          refine sv rfl (y_rem hx0 rfl) ?_
          refine sv rfl (y_neq) ?_
          refine GOps_nil ?_
          refine thn_normal ?_
          refine g_cond (fun hb3 => ?_) (fun hb3 => ?_)
          ·
            refine G_seq ?_
            refine g_keep [0, 1, 2, 3, 4, 5] ?_
            refine g_region ?_
            refine sv rfl (y_assign) ?_
            refine GOps_nil ?_
            refine thn_normal ?_
            refine G_ret ?_
            refine hr _ ?_
            refine fin1 (by simp) ?_
            exact ⟨by rw [checkS, if_pos hb0, if_neg (by rw [hb1]; decide), if_pos (by rw [← hx]; exact hb3)], rfl⟩
          ·
            refine G_skip ?_
            refine hn _ () (by rw [checkS, if_pos hb0, if_neg (by rw [hb1]; decide), if_neg (by rw [← hx]; show ¬ ((U (W (hi - lo))).tmod x != 0) = true; rw [show ((U (W (hi - lo))).tmod x != 0) = false from hb3]; decide)]) le_of
    ·
      refine G_skip ?_
      refine hn _ () (by rw [checkS, if_neg (by rw [hb0]; decide)]) le_of
  ·
    skip
    refine G_seq ?_
    refine G_seq ?_
    refine g_region ?_
    first | refine sv rfl (y_fieldAt 0 Tryz.underlying199 rfl sz3) ?_ | refine sv rfl (y_fieldAddr Tryz.underlying199 rfl sz3) ?_ | refine sv rfl (y_fieldp_leaf Tryz.underlying199 rfl sz3) ?_
    first | refine sv rfl (y_load_leaf Tryz.underlying3) ?_ | refine sv rfl (y_loadp_leaf Tryz.underlying3) ?_
    refine g_call (xs := [.tmp 53]) rfl (c303 lo) ?_
    refine sv rfl (y_not) ?_
    refine sv rfl (y_move) ?_
    first | refine sg rfl (fun hg => q_fieldAddr Tryz.underlying199 rfl sz3) ?_ | refine sg rfl (fun hg => q_fieldp_leaf Tryz.underlying199 rfl sz3) ?_
    first | refine sg rfl (fun hg => strip 57 (by simp only [GS.set, GS.get, List.lookup_cons, Nat.reduceBEq] <;> rfl) hg (q_load_leaf Tryz.underlying3)) ?_ | refine sg rfl (fun hg => strip 57 (by simp only [GS.set, GS.get, List.lookup_cons, Nat.reduceBEq] <;> rfl) hg (q_loadp_leaf Tryz.underlying3)) ?_
    refine g_callg (xs := [.tmp 58]) rfl (fun hg => c303 hi) ?_
    refine sg rfl (fun hg => strip 59 (by simp only [GS.set, GS.get, List.lookup_cons, Nat.reduceBEq] <;> rfl) hg (q_not)) ?_
    refine sv rfl (y_or) ?_
    refine GOps_nil ?_
    refine thn_normal ?_
    refine g_cond (fun hb4 => ?_) (fun hb4 => ?_)
    ·
      refine G_seq ?_
      refine g_keep [0, 1, 2, 3, 4, 5] ?_
      refine g_region ?_
      refine sv rfl (y_assign) ?_
      refine GOps_nil ?_
      refine thn_normal ?_
      refine G_ret ?_
      refine thn_ret ?_
      refine fin1 (by simp) ?_
      exact ⟨by rw [h_u, limS, if_pos hb4], rfl⟩
    ·
      refine G_skip ?_
      refine thn_normal ?_
      refine G_seq ?_
      refine g_keep [0, 1, 2, 3, 4, 5] ?_
      refine g_region ?_
      refine sv rfl (y_assign) ?_
      refine GOps_nil ?_
      refine thn_normal ?_
      refine G_ret ?_
      refine fin1 (by simp) ?_
      exact ⟨by rw [h_u, limS, if_neg (by rw [hb4]; decide)], rfl⟩
set_option maxHeartbeats 1000000 in
theorem c250 (lo hi st : Int) (hw : wf64 st) (h0 : lo ≤ hi → st ≠ 0) : Pf Tryz.prog 250 [.agg [.int .i64 lo, .int .i64 hi, .int .i64 st]] (.d (.agg [.int .i64 (seriesS lo hi st).1, .int .i64 (seriesS lo hi st).2.1, .int .i64 (seriesS lo hi st).2.2])) := by
  refine pf_body (rvs := [.cell 2 260]) [(0, .d (.agg [.int .i64 lo, .int .i64 hi, .int .i64 st]))] Tryz.func250 Tryz.ntmps250 Tryz.results250 (fun S0 O0 w0 m0 hm0 => ?_)
  refine G_seq ?_
  refine g_region ?_
  refine sv rfl (y_box) ?_
  refine g_freeze 0 [] (.agg [.int .i64 lo, .int .i64 hi, .int .i64 st]) rfl ?_
  refine sv rfl (y_alloc zr260) ?_
  refine GOps_nil ?_
  refine thn_normal ?_
  refine G_seq ?_
  refine G_block ?_
  refine G_seq ?_
  refine g_region ?_
  first | refine sv rfl (y_fieldAt 0 Tryz.underlying199 rfl sz3) ?_ | refine sv rfl (y_fieldAddr Tryz.underlying199 rfl sz3) ?_ | refine sv rfl (y_fieldp_leaf Tryz.underlying199 rfl sz3) ?_
  first | refine sv rfl (y_load_leaf Tryz.underlying3) ?_ | refine sv rfl (y_loadp_leaf Tryz.underlying3) ?_
  first | refine sv rfl (y_fieldAt 1 Tryz.underlying199 rfl sz3) ?_ | refine sv rfl (y_fieldAddr Tryz.underlying199 rfl sz3) ?_ | refine sv rfl (y_fieldp_leaf Tryz.underlying199 rfl sz3) ?_
  first | refine sv rfl (y_load_leaf Tryz.underlying3) ?_ | refine sv rfl (y_loadp_leaf Tryz.underlying3) ?_
  refine sv rfl (y_gtr) ?_
  refine sv rfl (y_assign) ?_
  refine GOps_nil ?_
  refine thn_normal ?_
  refine g_cond (fun hb0 => ?_) (fun hb0 => ?_)
  ·
    refine G_seq ?_
    refine g_region ?_
    refine sv rfl (y_buildS pl260 zr260) ?_
    first | refine sa rfl (d_store sz260) ?_ | refine sa rfl (d_store_take sz260) ?_
    refine GOps_nil ?_
    refine thn_normal ?_
    refine G_ret ?_
    refine blk_ret ?_
    refine thn_ret ?_
    refine findc sz260 Tryz.underlying260 (by simp) ?_
    exact ⟨by rw [seriesS, if_pos (of_decide_eq_true hb0)], rfl⟩
  ·
    have hle := of_decide_eq_false hb0
    have hst := h0 (by omega)
    refine G_seq ?_
    refine g_region ?_
    first | refine sv rfl (y_fieldAt 2 Tryz.underlying199 rfl sz3) ?_ | refine sv rfl (y_fieldAddr Tryz.underlying199 rfl sz3) ?_ | refine sv rfl (y_fieldp_leaf Tryz.underlying199 rfl sz3) ?_
    first | refine sv rfl (y_load_leaf Tryz.underlying3) ?_ | refine sv rfl (y_loadp_leaf Tryz.underlying3) ?_
    refine sv rfl (y_lss) ?_
    refine sv rfl (y_assign) ?_
    refine GOps_nil ?_
    refine thn_normal ?_
    refine g_cond (fun hb1 => ?_) (fun hb1 => ?_)
    ·
      refine G_seq ?_
      refine g_keep [0, 1, 2] ?_
      refine g_cg [14, 15, 16, 17, 18, 19, 20, 21, 22, 23, 24, 25, 26, 27, 28] (fun bq => [cond (bq 15) [.d (.int .i64 hi), .d (.int .i64 st), .d (.int .i64 (W (W ((W (hi - lo)).tdiv (W (0 - st))) + 1)))] [.d (.int .i64 0), .d (.int .i64 0), .d (.int .i64 0)]]) rfl ?_
      refine cg_pre [] ?_
      first | refine cg_st 1 (fun bq rest hc1 hc2 hc3 => sv rfl (y_fieldAt 1 Tryz.underlying199 rfl sz3) (GOps_nil ⟨rfl, rfl⟩)) ?_ | refine cg_st 1 (fun bq rest hc1 hc2 hc3 => sv rfl (y_fieldAddr Tryz.underlying199 rfl sz3) (GOps_nil ⟨rfl, rfl⟩)) ?_ | refine cg_st 1 (fun bq rest hc1 hc2 hc3 => sv rfl (y_fieldp_leaf Tryz.underlying199 rfl sz3) (GOps_nil ⟨rfl, rfl⟩)) ?_
      refine cg_pre [0] ?_
      first | refine cg_st 2 (fun bq rest hc1 hc2 hc3 => sv rfl (y_load_leaf Tryz.underlying3) (GOps_nil ⟨rfl, rfl⟩)) ?_ | refine cg_st 2 (fun bq rest hc1 hc2 hc3 => sv rfl (y_loadp_leaf Tryz.underlying3) (GOps_nil ⟨rfl, rfl⟩)) ?_
      refine cg_pre [] ?_
      first | refine cg_st 3 (fun bq rest hc1 hc2 hc3 => sv rfl (y_fieldAt 2 Tryz.underlying199 rfl sz3) (GOps_nil ⟨rfl, rfl⟩)) ?_ | refine cg_st 3 (fun bq rest hc1 hc2 hc3 => sv rfl (y_fieldAddr Tryz.underlying199 rfl sz3) (GOps_nil ⟨rfl, rfl⟩)) ?_ | refine cg_st 3 (fun bq rest hc1 hc2 hc3 => sv rfl (y_fieldp_leaf Tryz.underlying199 rfl sz3) (GOps_nil ⟨rfl, rfl⟩)) ?_
      refine cg_pre [2] ?_
      first | refine cg_st 4 (fun bq rest hc1 hc2 hc3 => sv rfl (y_load_leaf Tryz.underlying3) (GOps_nil ⟨rfl, rfl⟩)) ?_ | refine cg_st 4 (fun bq rest hc1 hc2 hc3 => sv rfl (y_loadp_leaf Tryz.underlying3) (GOps_nil ⟨rfl, rfl⟩)) ?_
      refine cg_pre [] ?_
      first | refine cg_st 5 (fun bq rest hc1 hc2 hc3 => sv rfl (y_fieldAt 1 Tryz.underlying199 rfl sz3) (GOps_nil ⟨rfl, rfl⟩)) ?_ | refine cg_st 5 (fun bq rest hc1 hc2 hc3 => sv rfl (y_fieldAddr Tryz.underlying199 rfl sz3) (GOps_nil ⟨rfl, rfl⟩)) ?_ | refine cg_st 5 (fun bq rest hc1 hc2 hc3 => sv rfl (y_fieldp_leaf Tryz.underlying199 rfl sz3) (GOps_nil ⟨rfl, rfl⟩)) ?_
      refine cg_pre [4] ?_
      first | refine cg_st 6 (fun bq rest hc1 hc2 hc3 => sv rfl (y_load_leaf Tryz.underlying3) (GOps_nil ⟨rfl, rfl⟩)) ?_ | refine cg_st 6 (fun bq rest hc1 hc2 hc3 => sv rfl (y_loadp_leaf Tryz.underlying3) (GOps_nil ⟨rfl, rfl⟩)) ?_
      refine cg_pre [] ?_
      first | refine cg_st 7 (fun bq rest hc1 hc2 hc3 => sv rfl (y_fieldAt 0 Tryz.underlying199 rfl sz3) (GOps_nil ⟨rfl, rfl⟩)) ?_ | refine cg_st 7 (fun bq rest hc1 hc2 hc3 => sv rfl (y_fieldAddr Tryz.underlying199 rfl sz3) (GOps_nil ⟨rfl, rfl⟩)) ?_ | refine cg_st 7 (fun bq rest hc1 hc2 hc3 => sv rfl (y_fieldp_leaf Tryz.underlying199 rfl sz3) (GOps_nil ⟨rfl, rfl⟩)) ?_
      refine cg_pre [6] ?_
      first | refine cg_st 8 (fun bq rest hc1 hc2 hc3 => sv rfl (y_load_leaf Tryz.underlying3) (GOps_nil ⟨rfl, rfl⟩)) ?_ | refine cg_st 8 (fun bq rest hc1 hc2 hc3 => sv rfl (y_loadp_leaf Tryz.underlying3) (GOps_nil ⟨rfl, rfl⟩)) ?_
      refine cg_pre [5, 7] ?_
      refine cg_st 9 (fun bq rest hc1 hc2 hc3 => sv rfl (y_sub (hw := rfl)) (GOps_nil ⟨rfl, rfl⟩)) ?_
      refine cg_pre [] ?_
      first | refine cg_st 10 (fun bq rest hc1 hc2 hc3 => sv rfl (y_fieldAt 2 Tryz.underlying199 rfl sz3) (GOps_nil ⟨rfl, rfl⟩)) ?_ | refine cg_st 10 (fun bq rest hc1 hc2 hc3 => sv rfl (y_fieldAddr Tryz.underlying199 rfl sz3) (GOps_nil ⟨rfl, rfl⟩)) ?_ | refine cg_st 10 (fun bq rest hc1 hc2 hc3 => sv rfl (y_fieldp_leaf Tryz.underlying199 rfl sz3) (GOps_nil ⟨rfl, rfl⟩)) ?_
      refine cg_pre [9] ?_
      first | refine cg_st 11 (fun bq rest hc1 hc2 hc3 => sv rfl (y_load_leaf Tryz.underlying3) (GOps_nil ⟨rfl, rfl⟩)) ?_ | refine cg_st 11 (fun bq rest hc1 hc2 hc3 => sv rfl (y_loadp_leaf Tryz.underlying3) (GOps_nil ⟨rfl, rfl⟩)) ?_
      refine cg_pre [10] ?_
      refine cg_st 12 (fun bq rest hc1 hc2 hc3 => sv rfl (Yld_pure rfl (of_decide_eq_true rfl) (q_neg (hr := rfl))) (GOps_nil ⟨rfl, rfl⟩)) ?_
      refine cg_pre [8, 11] ?_
      refine cg_st 13 (fun bq rest hc1 hc2 hc3 => sv rfl (y_quo (W_neg hw (of_decide_eq_true hb1)) rfl) (GOps_nil ⟨rfl, rfl⟩)) ?_
      refine cg_pre [12] ?_
      refine cg_st 14 (fun bq rest hc1 hc2 hc3 => sv rfl (y_add (hw := rfl)) (GOps_nil ⟨rfl, rfl⟩)) ?_
      refine cg_pre [1, 3, 13] ?_
      refine cg_st 15 (fun bq rest hc1 hc2 hc3 => sv rfl (y_buildS pl260 zr260) (GOps_nil ⟨rfl, rfl⟩)) ?_
      refine cg_pre [14, 0, 1, 2, 3, 4, 5, 6, 7, 8, 9, 10, 11, 12, 13, 14] ?_
      refine cg_act 16 (fun bq rest hc1 hc2 hc3 => by
          have e2 : upd bq 15 15 = true := rfl
          simp only [hc1, cond_false]
          refine sa rfl (d_store sz260) ?_
          exact (GOps_nil ⟨rfl, by rw [e2]; rfl⟩)) ?_
      refine cg_done (mem'' := [[.d (.int .i64 hi), .d (.int .i64 st), .d (.int .i64 (W (W ((W (hi - lo)).tdiv (W (0 - st))) + 1)))]]) ?_
      refine thn_normal ?_
      refine G_ret ?_
      refine blk_ret ?_
      refine thn_ret ?_
      refine findc sz260 Tryz.underlying260 (by simp) ?_
      exact ⟨by rw [seriesS, if_neg hle, if_pos (of_decide_eq_true hb1)], rfl⟩
    ·
      refine G_skip ?_
      refine blk_normal ?_
      refine thn_normal ?_
      refine G_seq ?_
      refine g_keep [0, 1, 2] ?_
      refine g_cg [29, 30, 31, 32, 33, 34, 35, 36, 37, 38, 39, 40, 41, 42] (fun bq => [cond (bq 14) [.d (.int .i64 lo), .d (.int .i64 st), .d (.int .i64 (W (W ((W (hi - lo)).tdiv st) + 1)))] [.d (.int .i64 0), .d (.int .i64 0), .d (.int .i64 0)]]) rfl ?_
      refine cg_pre [] ?_
      first | refine cg_st 1 (fun bq rest hc1 hc2 hc3 => sv rfl (y_fieldAt 0 Tryz.underlying199 rfl sz3) (GOps_nil ⟨rfl, rfl⟩)) ?_ | refine cg_st 1 (fun bq rest hc1 hc2 hc3 => sv rfl (y_fieldAddr Tryz.underlying199 rfl sz3) (GOps_nil ⟨rfl, rfl⟩)) ?_ | refine cg_st 1 (fun bq rest hc1 hc2 hc3 => sv rfl (y_fieldp_leaf Tryz.underlying199 rfl sz3) (GOps_nil ⟨rfl, rfl⟩)) ?_
      refine cg_pre [0] ?_
      first | refine cg_st 2 (fun bq rest hc1 hc2 hc3 => sv rfl (y_load_leaf Tryz.underlying3) (GOps_nil ⟨rfl, rfl⟩)) ?_ | refine cg_st 2 (fun bq rest hc1 hc2 hc3 => sv rfl (y_loadp_leaf Tryz.underlying3) (GOps_nil ⟨rfl, rfl⟩)) ?_
      refine cg_pre [] ?_
      first | refine cg_st 3 (fun bq rest hc1 hc2 hc3 => sv rfl (y_fieldAt 2 Tryz.underlying199 rfl sz3) (GOps_nil ⟨rfl, rfl⟩)) ?_ | refine cg_st 3 (fun bq rest hc1 hc2 hc3 => sv rfl (y_fieldAddr Tryz.underlying199 rfl sz3) (GOps_nil ⟨rfl, rfl⟩)) ?_ | refine cg_st 3 (fun bq rest hc1 hc2 hc3 => sv rfl (y_fieldp_leaf Tryz.underlying199 rfl sz3) (GOps_nil ⟨rfl, rfl⟩)) ?_
      refine cg_pre [2] ?_
      first | refine cg_st 4 (fun bq rest hc1 hc2 hc3 => sv rfl (y_load_leaf Tryz.underlying3) (GOps_nil ⟨rfl, rfl⟩)) ?_ | refine cg_st 4 (fun bq rest hc1 hc2 hc3 => sv rfl (y_loadp_leaf Tryz.underlying3) (GOps_nil ⟨rfl, rfl⟩)) ?_
      refine cg_pre [] ?_
      first | refine cg_st 5 (fun bq rest hc1 hc2 hc3 => sv rfl (y_fieldAt 1 Tryz.underlying199 rfl sz3) (GOps_nil ⟨rfl, rfl⟩)) ?_ | refine cg_st 5 (fun bq rest hc1 hc2 hc3 => sv rfl (y_fieldAddr Tryz.underlying199 rfl sz3) (GOps_nil ⟨rfl, rfl⟩)) ?_ | refine cg_st 5 (fun bq rest hc1 hc2 hc3 => sv rfl (y_fieldp_leaf Tryz.underlying199 rfl sz3) (GOps_nil ⟨rfl, rfl⟩)) ?_
      refine cg_pre [4] ?_
      first | refine cg_st 6 (fun bq rest hc1 hc2 hc3 => sv rfl (y_load_leaf Tryz.underlying3) (GOps_nil ⟨rfl, rfl⟩)) ?_ | refine cg_st 6 (fun bq rest hc1 hc2 hc3 => sv rfl (y_loadp_leaf Tryz.underlying3) (GOps_nil ⟨rfl, rfl⟩)) ?_
      refine cg_pre [] ?_
      first | refine cg_st 7 (fun bq rest hc1 hc2 hc3 => sv rfl (y_fieldAt 0 Tryz.underlying199 rfl sz3) (GOps_nil ⟨rfl, rfl⟩)) ?_ | refine cg_st 7 (fun bq rest hc1 hc2 hc3 => sv rfl (y_fieldAddr Tryz.underlying199 rfl sz3) (GOps_nil ⟨rfl, rfl⟩)) ?_ | refine cg_st 7 (fun bq rest hc1 hc2 hc3 => sv rfl (y_fieldp_leaf Tryz.underlying199 rfl sz3) (GOps_nil ⟨rfl, rfl⟩)) ?_
      refine cg_pre [6] ?_
      first | refine cg_st 8 (fun bq rest hc1 hc2 hc3 => sv rfl (y_load_leaf Tryz.underlying3) (GOps_nil ⟨rfl, rfl⟩)) ?_ | refine cg_st 8 (fun bq rest hc1 hc2 hc3 => sv rfl (y_loadp_leaf Tryz.underlying3) (GOps_nil ⟨rfl, rfl⟩)) ?_
      refine cg_pre [5, 7] ?_
      refine cg_st 9 (fun bq rest hc1 hc2 hc3 => sv rfl (y_sub (hw := rfl)) (GOps_nil ⟨rfl, rfl⟩)) ?_
      refine cg_pre [] ?_
      first | refine cg_st 10 (fun bq rest hc1 hc2 hc3 => sv rfl (y_fieldAt 2 Tryz.underlying199 rfl sz3) (GOps_nil ⟨rfl, rfl⟩)) ?_ | refine cg_st 10 (fun bq rest hc1 hc2 hc3 => sv rfl (y_fieldAddr Tryz.underlying199 rfl sz3) (GOps_nil ⟨rfl, rfl⟩)) ?_ | refine cg_st 10 (fun bq rest hc1 hc2 hc3 => sv rfl (y_fieldp_leaf Tryz.underlying199 rfl sz3) (GOps_nil ⟨rfl, rfl⟩)) ?_
      refine cg_pre [9] ?_
      first | refine cg_st 11 (fun bq rest hc1 hc2 hc3 => sv rfl (y_load_leaf Tryz.underlying3) (GOps_nil ⟨rfl, rfl⟩)) ?_ | refine cg_st 11 (fun bq rest hc1 hc2 hc3 => sv rfl (y_loadp_leaf Tryz.underlying3) (GOps_nil ⟨rfl, rfl⟩)) ?_
      refine cg_pre [8, 10] ?_
      refine cg_st 12 (fun bq rest hc1 hc2 hc3 => sv rfl (y_quo hst rfl) (GOps_nil ⟨rfl, rfl⟩)) ?_
      refine cg_pre [11] ?_
      refine cg_st 13 (fun bq rest hc1 hc2 hc3 => sv rfl (y_add (hw := rfl)) (GOps_nil ⟨rfl, rfl⟩)) ?_
      refine cg_pre [1, 3, 12] ?_
      refine cg_st 14 (fun bq rest hc1 hc2 hc3 => sv rfl (y_buildS pl260 zr260) (GOps_nil ⟨rfl, rfl⟩)) ?_
      refine cg_pre [13, 0, 1, 2, 3, 4, 5, 6, 7, 8, 9, 10, 11, 12, 13] ?_
      refine cg_act 15 (fun bq rest hc1 hc2 hc3 => by
          have e2 : upd bq 14 14 = true := rfl
          simp only [hc1, cond_false]
          refine sa rfl (d_store sz260) ?_
          exact (GOps_nil ⟨rfl, by rw [e2]; rfl⟩)) ?_
      refine cg_done (mem'' := [[.d (.int .i64 lo), .d (.int .i64 st), .d (.int .i64 (W (W ((W (hi - lo)).tdiv st) + 1)))]]) ?_
      refine thn_normal ?_
      refine G_ret ?_
      refine findc sz260 Tryz.underlying260 (by simp) ?_
      exact ⟨by rw [seriesS, if_neg hle, if_neg (of_decide_eq_false hb1)], rfl⟩
theorem c187 (lo hi st : Int) (hw : wf64 st) : Pf Tryz.prog 187 [.agg [.int .i64 lo, .int .i64 hi, .int .i64 st]] (.d (.int .i64 (sizeS lo hi st))) := by
  refine pf_body (rvs := [.tmp 2]) [(0, .d (.agg [.int .i64 lo, .int .i64 hi, .int .i64 st]))] Tryz.func187 Tryz.ntmps187 Tryz.results187 (fun S0 O0 w0 m0 hm0 => ?_)
  refine G_seq ?_
  refine g_region ?_
  refine sv rfl (y_box) ?_
  refine g_freeze 0 [] (.agg [.int .i64 lo, .int .i64 hi, .int .i64 st]) rfl ?_
  refine sv rfl (y_assign) ?_
  refine GOps_nil ?_
  refine thn_normal ?_
  refine G_seq ?_
  refine G_seq ?_
  refine g_region ?_
  first | refine sv rfl (y_load_agg sz199 Tryz.underlying199 rfl) ?_ | refine sv rfl (y_loadp_agg (by exact sz199) Tryz.underlying199 rfl) ?_
  refine g_call (xs := [.tmp 3]) rfl (c249 lo hi st hw) ?_
  refine sv rfl (y_neq) ?_
  refine GOps_nil ?_
  refine thn_normal ?_
  refine g_cond (fun hb0 => ?_) (fun hb0 => ?_)
  ·
    refine G_seq ?_
    refine g_region ?_
    refine sv rfl (y_assign) ?_
    refine GOps_nil ?_
    refine thn_normal ?_
    refine G_ret ?_
    refine thn_ret ?_
    refine fin1 (by simp) ?_
    exact ⟨by rw [sizeS, if_pos hb0], rfl⟩
  ·
    refine G_skip ?_
    refine thn_normal ?_
    refine G_seq ?_
    refine g_region ?_
    first | refine sv rfl (y_load_agg sz199 Tryz.underlying199 rfl) ?_ | refine sv rfl (y_loadp_agg (by exact sz199) Tryz.underlying199 rfl) ?_
    refine g_call (xs := [.tmp 6]) rfl (c250 lo hi st hw (check_st (by simpa using hb0))) ?_
    refine sv rfl (Yld_pure rfl (of_decide_eq_true rfl) (q_field Tryz.underlying260 rfl Tryz.underlying3)) ?_
    refine sv rfl (y_assign) ?_
    refine GOps_nil ?_
    refine thn_normal ?_
    refine G_ret ?_
    refine fin1 (by simp) ?_
    exact ⟨by rw [sizeS, if_neg (by rw [hb0]; decide)], rfl⟩
set_option maxHeartbeats 4000000 in
theorem c247 (lo hi st n : Int) (hw : wf64 st) : Pf Tryz.prog 247 [.agg [.int .i64 lo, .int .i64 hi, .int .i64 st], .int .i64 n] (.tup [.d (.agg [.int .i64 (byS lo hi st n).1.1, .int .i64 (byS lo hi st n).1.2.1, .int .i64 (byS lo hi st n).1.2.2]), .d (.int .i64 (byS lo hi st n).2)]) := by
  refine pf_body (rvs := [.cell 4 199, .tmp 5]) [(0, .d (.agg [.int .i64 lo, .int .i64 hi, .int .i64 st])), (1, .d (.int .i64 n))] Tryz.func247 Tryz.ntmps247 Tryz.results247 (fun S0 O0 w0 m0 hm0 => ?_)
  refine G_seq ?_
  refine g_region ?_
  refine sv rfl (y_box) ?_
  refine g_freeze 0 [] (.agg [.int .i64 lo, .int .i64 hi, .int .i64 st]) rfl ?_
  refine sv rfl (y_alloc zr199) ?_
  refine sv rfl (y_assign) ?_
  refine GOps_nil ?_
  refine thn_normal ?_
  refine G_seq ?_
  refine G_seq ?_
  refine g_region ?_
  first | refine sv rfl (y_load_agg sz199 Tryz.underlying199 rfl) ?_ | refine sv rfl (y_loadp_agg (by exact sz199) Tryz.underlying199 rfl) ?_
  refine g_call (xs := [.tmp 8]) rfl (c249 lo hi st hw) ?_
  refine sv rfl (y_assign) ?_
  refine GOps_nil ?_
  refine thn_normal ?_
  refine G_block ?_
  refine G_seq ?_
  refine g_region ?_
  refine sv rfl (y_move) ?_
  refine sv rfl (y_neq) ?_
  refine sv rfl (y_assign) ?_
  refine GOps_nil ?_
  refine thn_normal ?_
  refine g_cond (fun hb0 => ?_) (fun hb0 => ?_)
  ·
    refine G_seq ?_
    refine g_region ?_
    refine sv rfl (y_buildS pl199 zr199) ?_
    refine sv rfl (y_move) ?_
    first | refine sa rfl (d_store sz199) ?_ | refine sa rfl (d_store_take sz199) ?_
    refine sv rfl (y_assign) ?_
    refine GOps_nil ?_
    refine thn_normal ?_
    refine G_ret ?_
    refine blk_ret ?_
    refine thn_ret ?_
    refine fincd sz199 Tryz.underlying199 (by simp) ?_
    exact ⟨by rw [byS, if_pos hb0], rfl⟩
  ·
    refine G_seq ?_
    refine g_region ?_
    refine sv rfl (y_move) ?_
    refine sv rfl (y_eql) ?_
    refine sv rfl (y_assign) ?_
    refine GOps_nil ?_
    refine thn_normal ?_
    refine g_cond (fun hb1 => ?_) (fun hb1 => ?_)
    ·
      refine G_seq ?_
      refine g_keep [0, 1, 2, 4, 5, 6, 7] ?_
      refine g_region ?_
      refine sv rfl (y_buildS pl199 zr199) ?_
      first | refine sa rfl (d_store sz199) ?_ | refine sa rfl (d_store_take sz199) ?_
      refine sv rfl (y_assign) ?_
      refine GOps_nil ?_
      refine thn_normal ?_
      refine G_ret ?_
      refine blk_ret ?_
      refine thn_ret ?_
      refine fincd sz199 Tryz.underlying199 (by simp) ?_
      exact ⟨by rw [byS, if_neg (by rw [hb0]; decide), if_pos hb1], rfl⟩
    ·
      refine G_seq ?_
      refine g_keep [0, 1, 2, 4, 5, 6, 7] ?_
      refine g_region ?_
      refine sv rfl (y_move) ?_
      refine g_call (xs := [.tmp 20]) rfl (c303 n) ?_
      refine sv rfl (y_not) ?_
      refine sv rfl (y_assign) ?_
      refine GOps_nil ?_
      refine thn_normal ?_
      refine g_cond (fun hb2 => ?_) (fun hb2 => ?_)
      ·
        refine G_seq ?_
        refine g_region ?_
        refine sv rfl (y_buildS pl199 zr199) ?_
        first | refine sa rfl (d_store sz199) ?_ | refine sa rfl (d_store_take sz199) ?_
        refine sv rfl (y_assign) ?_
        refine GOps_nil ?_
        refine thn_normal ?_
        refine G_ret ?_
        refine blk_ret ?_
        refine thn_ret ?_
        refine fincd sz199 Tryz.underlying199 (by simp) ?_
        exact ⟨by rw [byS, if_neg (by rw [hb0]; decide), if_neg (by rw [hb1]; decide), if_pos hb2], rfl⟩
      ·
        refine G_skip ?_
        refine blk_normal ?_
        refine thn_normal ?_
        refine G_seq ?_
        refine g_region ?_
        first | refine sv rfl (y_load_agg sz199 Tryz.underlying199 rfl) ?_ | refine sv rfl (y_loadp_agg (by exact sz199) Tryz.underlying199 rfl) ?_
        refine g_call (xs := [.tmp 24]) rfl (c250 lo hi st hw (check_st (by simpa using hb0))) ?_
        refine sv rfl (y_alloc zr260) ?_
        first | refine sa rfl (d_store sz260) ?_ | refine sa rfl (d_store_take sz260) ?_
        refine GOps_nil ?_
        refine thn_normal ?_
        refine G_seq_cut (α := Int × Int × Int × Int) (fun x => ⟨[(1, .d (.int .i64 x.2.2.2)), (4, .ref 0 0), (7, .ref 1 0)], [[.d (.int .i64 0), .d (.int .i64 0), .d (.int .i64 0)], [.d (.int .i64 x.1), .d (.int .i64 x.2.1), .d (.int .i64 x.2.2.1)]]⟩) (fun x => byS lo hi st n = byN x.1 x.2.1 x.2.2.1 x.2.2.2 ∧ x.2.2.2 ≠ 0) (fun Q' hn he hr => ?_) (fun x hx => ?_)
        ·
          refine G_seq ?_
          refine g_region ?_
          refine sv rfl (y_move) ?_
          refine sv rfl (y_lss) ?_
          refine GOps_nil ?_
          refine thn_normal ?_
          refine g_cond (fun hb3 => ?_) (fun hb3 => ?_)
          ·
            refine g_region ?_
            first | refine sv rfl (y_load_agg sz260 Tryz.underlying260 rfl) ?_ | refine sv rfl (y_loadp_agg (by exact sz260) Tryz.underlying260 rfl) ?_
            refine g_call (xs := [.tmp 28]) rfl (c305 _ _ _) ?_
            refine sv rfl (y_move) ?_
            refine sv rfl (Yld_pure rfl (of_decide_eq_true rfl) (q_neg (hr := rfl))) ?_
            first | refine sa rfl (d_store sz260) ?_ | refine sa rfl (d_store_take sz260) ?_
            refine sv rfl (y_assign) ?_
            refine GOps_nil ?_
            refine hn _ ((turnS (seriesS lo hi st).1 (seriesS lo hi st).2.1 (seriesS lo hi st).2.2).1, (turnS (seriesS lo hi st).1 (seriesS lo hi st).2.1 (seriesS lo hi st).2.2).2.1, (turnS (seriesS lo hi st).1 (seriesS lo hi st).2.1 (seriesS lo hi st).2.2).2.2, W (0 - n)) ⟨by rw [byS, if_neg (by rw [hb0]; decide), if_neg (by rw [hb1]; decide), if_neg (by rw [hb2]; decide), if_pos (of_decide_eq_true hb3)], W_neg (by have := hb2; simp [withinB] at this; unfold wf64; omega) (of_decide_eq_true hb3)⟩ le_of
          ·
            refine G_skip ?_
            refine hn _ ((seriesS lo hi st).1, (seriesS lo hi st).2.1, (seriesS lo hi st).2.2, n) ⟨by rw [byS, if_neg (by rw [hb0]; decide), if_neg (by rw [hb1]; decide), if_neg (by rw [hb2]; decide), if_neg (of_decide_eq_false hb3)], by show n ≠ 0; simpa using hb1⟩ le_of
        ·
          obtain ⟨f, b, c, m⟩ := x
          obtain ⟨hx1, hx2⟩ := hx
          replace hx2 : m ≠ 0 := hx2
          replace hx1 : byS lo hi st n = byN f b c m := hx1
          refine G_seq ?_
          refine g_cg [32, 33, 34, 35, 36, 37, 38, 39, 40, 41, 42, 43, 44, 45, 46, 47, 48, 5] (fun bq => [cond (bq 17) [.d (.int .i64 (byN f b c m).1.1), .d (.int .i64 (byN f b c m).1.2.1), .d (.int .i64 (byN f b c m).1.2.2)] [.d (.int .i64 0), .d (.int .i64 0), .d (.int .i64 0)], [.d (.int .i64 f), .d (.int .i64 b), .d (.int .i64 c)]]) rfl ?_
          refine cg_pre [] ?_
          first | refine cg_st 1 (fun bq rest hc1 hc2 hc3 => sv rfl (y_fieldAt 0 Tryz.underlying260 rfl sz3) (GOps_nil ⟨rfl, rfl⟩)) ?_ | refine cg_st 1 (fun bq rest hc1 hc2 hc3 => sv rfl (y_fieldAddr Tryz.underlying260 rfl sz3) (GOps_nil ⟨rfl, rfl⟩)) ?_ | refine cg_st 1 (fun bq rest hc1 hc2 hc3 => sv rfl (y_fieldp_leaf Tryz.underlying260 rfl sz3) (GOps_nil ⟨rfl, rfl⟩)) ?_
          refine cg_pre [0] ?_
          first | refine cg_st 2 (fun bq rest hc1 hc2 hc3 => sv rfl (y_load_leaf Tryz.underlying3) (GOps_nil ⟨rfl, rfl⟩)) ?_ | refine cg_st 2 (fun bq rest hc1 hc2 hc3 => sv rfl (y_loadp_leaf Tryz.underlying3) (GOps_nil ⟨rfl, rfl⟩)) ?_
          refine cg_pre [] ?_
          first | refine cg_st 3 (fun bq rest hc1 hc2 hc3 => sv rfl (y_fieldAt 1 Tryz.underlying260 rfl sz3) (GOps_nil ⟨rfl, rfl⟩)) ?_ | refine cg_st 3 (fun bq rest hc1 hc2 hc3 => sv rfl (y_fieldAddr Tryz.underlying260 rfl sz3) (GOps_nil ⟨rfl, rfl⟩)) ?_ | refine cg_st 3 (fun bq rest hc1 hc2 hc3 => sv rfl (y_fieldp_leaf Tryz.underlying260 rfl sz3) (GOps_nil ⟨rfl, rfl⟩)) ?_
          refine cg_pre [2] ?_
          first | refine cg_st 4 (fun bq rest hc1 hc2 hc3 => sv rfl (y_load_leaf Tryz.underlying3) (GOps_nil ⟨rfl, rfl⟩)) ?_ | refine cg_st 4 (fun bq rest hc1 hc2 hc3 => sv rfl (y_loadp_leaf Tryz.underlying3) (GOps_nil ⟨rfl, rfl⟩)) ?_
          refine cg_pre [] ?_
          refine cg_st 5 (fun bq rest hc1 hc2 hc3 => sv rfl (y_move) (GOps_nil ⟨rfl, rfl⟩)) ?_
          refine cg_pre [3, 4] ?_
          refine cg_st 6 (fun bq rest hc1 hc2 hc3 => sv rfl (y_mul (hw := rfl)) (GOps_nil ⟨rfl, rfl⟩)) ?_
          refine cg_pre [] ?_
          first | refine cg_st 7 (fun bq rest hc1 hc2 hc3 => sv rfl (y_fieldAt 2 Tryz.underlying260 rfl sz3) (GOps_nil ⟨rfl, rfl⟩)) ?_ | refine cg_st 7 (fun bq rest hc1 hc2 hc3 => sv rfl (y_fieldAddr Tryz.underlying260 rfl sz3) (GOps_nil ⟨rfl, rfl⟩)) ?_ | refine cg_st 7 (fun bq rest hc1 hc2 hc3 => sv rfl (y_fieldp_leaf Tryz.underlying260 rfl sz3) (GOps_nil ⟨rfl, rfl⟩)) ?_
          refine cg_pre [6] ?_
          first | refine cg_st 8 (fun bq rest hc1 hc2 hc3 => sv rfl (y_load_leaf Tryz.underlying3) (GOps_nil ⟨rfl, rfl⟩)) ?_ | refine cg_st 8 (fun bq rest hc1 hc2 hc3 => sv rfl (y_loadp_leaf Tryz.underlying3) (GOps_nil ⟨rfl, rfl⟩)) ?_
          refine cg_pre [] ?_
          refine cg_st 9 (fun bq rest hc1 hc2 hc3 => sv rfl (y_move) (GOps_nil ⟨rfl, rfl⟩)) ?_
          refine cg_pre [7, 8] ?_
          refine cg_st 10 (fun bq rest hc1 hc2 hc3 => sv rfl (y_add (hw := rfl)) (GOps_nil ⟨rfl, rfl⟩)) ?_
          refine cg_pre [9] ?_
          refine cg_st 11 (fun bq rest hc1 hc2 hc3 => sv rfl (y_sub (hw := rfl)) (GOps_nil ⟨rfl, rfl⟩)) ?_
          refine cg_pre [] ?_
          refine cg_st 12 (fun bq rest hc1 hc2 hc3 => sv rfl (y_move) (GOps_nil ⟨rfl, rfl⟩)) ?_
          refine cg_pre [10, 11] ?_
          refine cg_st 13 (fun bq rest hc1 hc2 hc3 => sv rfl (y_quo hx2 rfl) (GOps_nil ⟨rfl, rfl⟩)) ?_
          refine cg_pre [1, 5, 12] ?_
          refine cg_st 14 (fun bq rest hc1 hc2 hc3 => sv rfl (y_buildS pl260 zr260) (GOps_nil ⟨rfl, rfl⟩)) ?_
          refine cg_pre [13] ?_
          refine cg_st 15 (fun bq rest hc1 hc2 hc3 => g_call (xs := [.tmp 45]) rfl (c304 _ _ _) (GOps_nil ⟨rfl, rfl⟩)) ?_
          refine cg_pre [14] ?_
          refine cg_st 16 (fun bq rest hc1 hc2 hc3 => sv rfl (y_extract) (GOps_nil ⟨rfl, rfl⟩)) ?_
          refine cg_pre [14] ?_
          refine cg_st 17 (fun bq rest hc1 hc2 hc3 => sv rfl (y_extract) (GOps_nil ⟨rfl, rfl⟩)) ?_
          refine cg_pre [15, 14, 0, 1, 2, 3, 4, 5, 6, 7, 8, 9, 10, 11, 12, 13, 14, 15, 16] ?_
          refine cg_act 18 (fun bq rest hc1 hc2 hc3 => by
              have e2 : upd bq 17 17 = true := rfl
              simp only [hc1, cond_false]
              refine sa rfl (d_store sz199) ?_
              exact (GOps_nil ⟨rfl, by rw [e2]; rfl⟩)) ?_
          refine cg_pre [16, 17, 0, 1, 2, 3, 4, 5, 6, 7, 8, 9, 10, 11, 12, 13, 14, 15, 16, 17] ?_
          refine cg_st 19 (fun bq rest hc1 hc2 hc3 => sv rfl (y_assign) (GOps_nil ⟨rfl, rfl⟩)) ?_
          refine cg_done (mem'' := [[.d (.int .i64 (byN f b c m).1.1), .d (.int .i64 (byN f b c m).1.2.1), .d (.int .i64 (byN f b c m).1.2.2)], [.d (.int .i64 f), .d (.int .i64 b), .d (.int .i64 c)]]) ?_
          refine thn_normal ?_
          refine G_ret ?_
          refine fincd sz199 Tryz.underlying199 (by simp) ?_
          exact ⟨by rw [hx1]; rfl, rfl⟩
set_option maxHeartbeats 4000000 in
theorem c248 (lo hi st n : Int) (hw : wf64 st) : Pf Tryz.prog 248 [.agg [.int .i64 lo, .int .i64 hi, .int .i64 st], .int .i64 n] (.tup [.d (.agg [.int .i64 (countS lo hi st n).1.1, .int .i64 (countS lo hi st n).1.2.1, .int .i64 (countS lo hi st n).1.2.2]), .d (.int .i64 (countS lo hi st n).2)]) := by
  refine pf_body (rvs := [.cell 4 199, .tmp 5]) [(0, .d (.agg [.int .i64 lo, .int .i64 hi, .int .i64 st])), (1, .d (.int .i64 n))] Tryz.func248 Tryz.ntmps248 Tryz.results248 (fun S0 O0 w0 m0 hm0 => ?_)
  refine G_seq ?_
  refine g_region ?_
  refine sv rfl (y_box) ?_
  refine g_freeze 0 [] (.agg [.int .i64 lo, .int .i64 hi, .int .i64 st]) rfl ?_
  refine sv rfl (y_alloc zr199) ?_
  refine sv rfl (y_assign) ?_
  refine GOps_nil ?_
  refine thn_normal ?_
  refine G_seq ?_
  refine G_seq ?_
  refine g_region ?_
  first | refine sv rfl (y_load_agg sz199 Tryz.underlying199 rfl) ?_ | refine sv rfl (y_loadp_agg (by exact sz199) Tryz.underlying199 rfl) ?_
  refine g_call (xs := [.tmp 8]) rfl (c249 lo hi st hw) ?_
  refine sv rfl (y_assign) ?_
  refine GOps_nil ?_
  refine thn_normal ?_
  refine G_seq ?_
  refine g_region ?_
  refine sv rfl (y_move) ?_
  refine sv rfl (y_neq) ?_
  refine GOps_nil ?_
  refine thn_normal ?_
  refine g_cond (fun hb0 => ?_) (fun hb0 => ?_)
  ·
    refine G_seq ?_
    refine g_region ?_
    refine sv rfl (y_buildS pl199 zr199) ?_
    refine sv rfl (y_move) ?_
    first | refine sa rfl (d_store sz199) ?_ | refine sa rfl (d_store_take sz199) ?_
    refine sv rfl (y_assign) ?_
    refine GOps_nil ?_
    refine thn_normal ?_
    refine G_ret ?_
    refine thn_ret ?_
    refine fincd sz199 Tryz.underlying199 (by simp) ?_
    exact ⟨by rw [countS, if_pos hb0], rfl⟩
  ·
    refine G_skip ?_
    refine thn_normal ?_
    refine G_seq ?_
    refine g_region ?_
    first | refine sv rfl (y_load_agg sz199 Tryz.underlying199 rfl) ?_ | refine sv rfl (y_loadp_agg (by exact sz199) Tryz.underlying199 rfl) ?_
    refine g_call (xs := [.tmp 14]) rfl (c250 lo hi st hw (check_st (by simpa using hb0))) ?_
    refine sv rfl (y_alloc zr260) ?_
    first | refine sa rfl (d_store sz260) ?_ | refine sa rfl (d_store_take sz260) ?_
    refine GOps_nil ?_
    refine thn_normal ?_
    refine G_seq ?_
    refine G_seq ?_
    refine g_keep [0, 1, 2, 4, 5, 6, 7] ?_
    refine g_region ?_
    refine sv rfl (y_move) ?_
    first | refine sv rfl (y_fieldAt 2 Tryz.underlying260 rfl sz3) ?_ | refine sv rfl (y_fieldAddr Tryz.underlying260 rfl sz3) ?_ | refine sv rfl (y_fieldp_leaf Tryz.underlying260 rfl sz3) ?_
    first | refine sv rfl (y_load_leaf Tryz.underlying3) ?_ | refine sv rfl (y_loadp_leaf Tryz.underlying3) ?_
    refine sv rfl (y_gtr) ?_
    refine sv rfl (y_move) ?_
    refine sg rfl (fun hg => q_move) ?_
    first | refine sg rfl (fun hg => q_fieldAddr Tryz.underlying260 rfl sz3) ?_ | refine sg rfl (fun hg => q_fieldp_leaf Tryz.underlying260 rfl sz3) ?_
    first | refine sg rfl (fun hg => strip 22 (by simp only [GS.set, GS.get, List.lookup_cons, Nat.reduceBEq] <;> rfl) hg (q_load_leaf Tryz.underlying3)) ?_ | refine sg rfl (fun hg => strip 22 (by simp only [GS.set, GS.get, List.lookup_cons, Nat.reduceBEq] <;> rfl) hg (q_loadp_leaf Tryz.underlying3)) ?_
    refine sg rfl (fun hg => strip 23 (by simp only [GS.set, GS.get, List.lookup_cons, Nat.reduceBEq] <;> rfl) hg (q_neg (hr := rfl))) ?_
    refine sg rfl (fun hg => strip 24 (by simp only [GS.set, GS.get, List.lookup_cons, Nat.reduceBEq] <;> rfl) hg (strip 21 (by simp only [GS.set, GS.get, List.lookup_cons, Nat.reduceBEq] <;> rfl) hg (q_lss))) ?_
    refine sv rfl (y_or) ?_
    refine GOps_nil ?_
    refine thn_normal ?_
    refine g_cond (fun hb1 => ?_) (fun hb1 => ?_)
    ·
      refine G_seq ?_
      refine g_region ?_
      refine sv rfl (y_buildS pl199 zr199) ?_
      first | refine sa rfl (d_store sz199) ?_ | refine sa rfl (d_store_take sz199) ?_
      refine sv rfl (y_assign) ?_
      refine GOps_nil ?_
      refine thn_normal ?_
      refine G_ret ?_
      refine thn_ret ?_
      refine fincd sz199 Tryz.underlying199 (by simp) ?_
      exact ⟨by rw [countS, if_neg (by rw [hb0]; decide), if_pos (show (decide (n > (seriesS lo hi st).2.2) || decide (n < W (0 - (seriesS lo hi st).2.2))) = true from hb1)], rfl⟩
    ·
      refine G_skip ?_
      refine thn_normal ?_
      refine G_seq_cut (α := Int × Int) (fun x => ⟨[(1, .d (.int .i64 x.2)), (4, .ref 0 0), (7, .ref 1 0)], [[.d (.int .i64 0), .d (.int .i64 0), .d (.int .i64 0)], [.d (.int .i64 x.1), .d (.int .i64 (seriesS lo hi st).2.1), .d (.int .i64 (seriesS lo hi st).2.2)]]⟩) (fun x => countS lo hi st n = normalS x.1 (seriesS lo hi st).2.1 x.2) (fun Q' hn he hr => ?_) (fun x hx => ?_)
      ·
        refine G_seq ?_
        refine g_region ?_
        refine sv rfl (y_move) ?_
        refine sv rfl (y_lss) ?_
        refine GOps_nil ?_
        refine thn_normal ?_
        refine g_cond (fun hb2 => ?_) (fun hb2 => ?_)
        ·
          refine G_seq ?_
          refine g_keep [0, 1, 2, 4, 5, 6, 7] ?_
          refine g_region ?_
          first | refine sv rfl (y_fieldAt 0 Tryz.underlying260 rfl sz3) ?_ | refine sv rfl (y_fieldAddr Tryz.underlying260 rfl sz3) ?_ | refine sv rfl (y_fieldp_leaf Tryz.underlying260 rfl sz3) ?_
          first | refine sv rfl (y_load_leaf Tryz.underlying3) ?_ | refine sv rfl (y_loadp_leaf Tryz.underlying3) ?_
          first | refine sv rfl (y_fieldAt 1 Tryz.underlying260 rfl sz3) ?_ | refine sv rfl (y_fieldAddr Tryz.underlying260 rfl sz3) ?_ | refine sv rfl (y_fieldp_leaf Tryz.underlying260 rfl sz3) ?_
          first | refine sv rfl (y_load_leaf Tryz.underlying3) ?_ | refine sv rfl (y_loadp_leaf Tryz.underlying3) ?_
          first | refine sv rfl (y_fieldAt 2 Tryz.underlying260 rfl sz3) ?_ | refine sv rfl (y_fieldAddr Tryz.underlying260 rfl sz3) ?_ | refine sv rfl (y_fieldp_leaf Tryz.underlying260 rfl sz3) ?_
          first | refine sv rfl (y_load_leaf Tryz.underlying3) ?_ | refine sv rfl (y_loadp_leaf Tryz.underlying3) ?_
          refine sv rfl (y_move) ?_
          refine sv rfl (y_add (hw := rfl)) ?_
          refine sv rfl (y_mul (hw := rfl)) ?_
          refine sv rfl (y_add (hw := rfl)) ?_
          first | refine sv rfl (y_fieldAt 0 Tryz.underlying260 rfl sz3) ?_ | refine sv rfl (y_fieldAddr Tryz.underlying260 rfl sz3) ?_ | refine sv rfl (y_fieldp_leaf Tryz.underlying260 rfl sz3) ?_
          first | refine sa rfl (d_store sz3) ?_ | refine sa rfl (d_store_take sz3) ?_
          refine GOps_nil ?_
          refine thn_normal ?_
          refine g_keep [0, 1, 2, 4, 5, 6, 7] ?_
          refine g_region ?_
          refine sv rfl (y_move) ?_
          refine sv rfl (Yld_pure rfl (of_decide_eq_true rfl) (q_neg (hr := rfl))) ?_
          refine sv rfl (y_assign) ?_
          refine GOps_nil ?_
          refine hn _ (W ((seriesS lo hi st).1 + W ((seriesS lo hi st).2.1 * W ((seriesS lo hi st).2.2 + n))), W (0 - n)) (by rw [countS, if_neg (by rw [hb0]; decide), if_neg (by show ¬ (_ || _) = true; rw [show (decide (n > (seriesS lo hi st).2.2) || decide (n < W (0 - (seriesS lo hi st).2.2))) = false from hb1]; decide), if_pos (of_decide_eq_true hb2)]) le_of
        ·
          refine G_skip ?_
          refine hn _ ((seriesS lo hi st).1, n) (by rw [countS, if_neg (by rw [hb0]; decide), if_neg (by show ¬ (_ || _) = true; rw [show (decide (n > (seriesS lo hi st).2.2) || decide (n < W (0 - (seriesS lo hi st).2.2))) = false from hb1]; decide), if_neg (of_decide_eq_false hb2)]) le_of
      ·
        obtain ⟨f, m⟩ := x
        replace hx : countS lo hi st n = normalS f (seriesS lo hi st).2.1 m := hx
        refine G_seq ?_
        refine g_keep [0, 1, 2, 4, 5, 6, 7] ?_
        refine g_region ?_
        refine sv rfl (y_move) ?_
        first | refine sv rfl (y_fieldAt 2 Tryz.underlying260 rfl sz3) ?_ | refine sv rfl (y_fieldAddr Tryz.underlying260 rfl sz3) ?_ | refine sv rfl (y_fieldp_leaf Tryz.underlying260 rfl sz3) ?_
        first | refine sa rfl (d_store sz3) ?_ | refine sa rfl (d_store_take sz3) ?_
        refine GOps_nil ?_
        refine thn_normal ?_
        refine G_seq ?_
        refine g_region ?_
        first | refine sv rfl (y_load_agg sz260 Tryz.underlying260 rfl) ?_ | refine sv rfl (y_loadp_agg (by exact sz260) Tryz.underlying260 rfl) ?_
        refine g_call (xs := [.tmp 45]) rfl (c304 _ _ _) ?_
        refine sv rfl (y_extract) ?_
        refine sv rfl (y_extract) ?_
        first | refine sa rfl (d_store sz199) ?_ | refine sa rfl (d_store_take sz199) ?_
        refine sv rfl (y_assign) ?_
        refine GOps_nil ?_
        refine thn_normal ?_
        refine G_ret ?_
        refine fincd sz199 Tryz.underlying199 (by simp) ?_
        exact ⟨by rw [hx], rfl⟩
end Go.Proofs.YtklkbfpjimeaoaaGreat
