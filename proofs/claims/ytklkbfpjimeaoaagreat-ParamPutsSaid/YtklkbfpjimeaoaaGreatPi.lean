/- Contracts of functions. Conditions: none. -/
import Derived.Test.YtklkbfpjimeaoaaGreatPh
import Derived.ChangeKeysEq
import Derived.Laws.Closers25b
namespace Go.Proofs.YtklkbfpjimeaoaaGreat
open Go Go.Proofs.YtklkbfpjimeaoaaGreat.E
def W (n : Int) : Int := IntKind.i64.wrap n
def U (n : Int) : Int := IntKind.u64.wrap n
def withinB (n : Int) : Bool := decide (n ≥ -1000000) && decide (n ≤ 1000000)
def lastS (f b c : Int) : Int := W (f + W (b * W (c - 1)))
def lowS (f b c : Int) : Int := if lastS f b c < f then lastS f b c else f
def highS (f b c : Int) : Int := if lastS f b c > f then lastS f b c else f
/-- The range of a series, or its error. -/
def normalS (f b c : Int) : (Int × Int × Int) × Int :=
  if c ≤ 0 then ((1, 0, 1), 0)
  else if (!withinB (lowS f b c) || !withinB (highS f b c)) = true then ((0, 0, 0), 4) else ((lowS f b c, highS f b c, if (c == 1) = true then 1 else b), 0)
def turnS (f b c : Int) : Int × Int × Int := if (c == 0) = true then (f, b, c) else (lastS f b c, W (0 - b), c)
def ofS (lo hi : Int) : (Int × Int × Int) × Int :=
  if ((!withinB lo || !withinB hi) || !withinB 1) = true then ((0, 0, 0), 4) else if lo > hi then normalS 0 0 0 else normalS lo 1 (W (W ((W (hi - lo)).tdiv 1) + 1))
def seriesS (lo hi st : Int) : Int × Int × Int :=
  if lo > hi then (0, 0, 0) else if st < 0 then (hi, st, W (W ((W (hi - lo)).tdiv (W (0 - st))) + 1)) else (lo, st, W (W ((W (hi - lo)).tdiv st) + 1))
def limS (lo hi : Int) : Int := if (!withinB lo || !withinB hi) = true then 4 else 0
def stepS (st : Int) : Int := if st < 0 then U (0 - U st) else U st
/-- The error of a range. -/
def checkS (lo hi st : Int) : Int :=
  if ((!(decide (lo = 1) && decide (hi = 0) && decide (st = 1))) && !(lo == hi && st == 1)) = true then
    (if (decide (lo ≥ hi) || st == 0) = true then 2 else if ((U (W (hi - lo))).tmod (stepS st) != 0) = true then 2 else limS lo hi)
  else limS lo hi
def sizeS (lo hi st : Int) : Int := if (checkS lo hi st != 0) = true then 0 else (seriesS lo hi st).2.2
def wf64 (n : Int) : Prop := -9223372036854775808 ≤ n ∧ n ≤ 9223372036854775807
theorem W_wf (n : Int) : wf64 (W n) := by
  have := wrap_within IntKind.i64 n
  exact this
theorem U_ne {n : Int} (h : wf64 n) (h0 : n ≠ 0) : U n ≠ 0 := by
  unfold wf64 at h
  unfold U IntKind.wrap
  simp only [IntKind.signed, IntKind.bits] at *
  simp
  omega
theorem Un_ne {n : Int} (h : wf64 n) (h0 : n < 0) : U (0 - U n) ≠ 0 := by
  unfold wf64 at h
  unfold U IntKind.wrap
  simp only [IntKind.signed, IntKind.bits] at *
  simp
  omega
theorem W_neg {n : Int} (h : wf64 n) (h0 : n < 0) : W (0 - n) ≠ 0 := by
  unfold wf64 at h
  unfold W IntKind.wrap
  simp only [IntKind.signed, IntKind.bits] at *
  simp
  omega
theorem eq_rg (lo hi st : Int) (w : World) : (Op.eqFields 9999 #[.int .i64 lo, .int .i64 hi, .int .i64 st] #[.int .i64 1, .int .i64 0, .int .i64 1] (Tryz.prog.fieldsOf 199).toList).run Tryz.prog w = .ok (decide (lo = 1) && decide (hi = 0) && decide (st = 1)) w := by
  have p3 : Tryz.prog.plainKey 3 = true := by kernel_rfl
  simp only [Program.fieldsOf, Tryz.underlying199, Op.eqFields]
  have q : ∀ (x y z : Int) w, (part 3 #[.int .i64 x, .int .i64 y, .int .i64 z] 0).run Tryz.prog w = .ok (.int .i64 x) w := fun x y z w => run_part_plain w p3 rfl
  have q1 : ∀ (x y z : Int) w, (part 3 #[.int .i64 x, .int .i64 y, .int .i64 z] 1).run Tryz.prog w = .ok (.int .i64 y) w := fun x y z w => run_part_plain w p3 rfl
  have q2 : ∀ (x y z : Int) w, (part 3 #[.int .i64 x, .int .i64 y, .int .i64 z] 2).run Tryz.prog w = .ok (.int .i64 z) w := fun x y z w => run_part_plain w p3 rfl
  have e3 : ∀ w d (a b : Int), (Op.equalIn (d + 1) 3 (.int .i64 a) (.int .i64 b)).run Tryz.prog w = .ok (decide (a = b)) w := fun w d a b => by rw [run_equalIn_int w d 3 .i64 .i64 a b Tryz.underlying3]; congr 1
  by_cases h1 : lo = 1 <;> by_cases h2 : hi = 0 <;> by_cases h3 : st = 1 <;> simp [Sem.run_bind, q, q1, q2, e3 _ 9998, Result.andThen_ok, h1, h2, h3]
theorem c303 (n : Int) : Pf Tryz.prog 303 [.int .i64 n] (.d (.bool (withinB n))) := by
  refine pf_body (rvs := [.tmp 2]) [(0, .d (.int .i64 n))] Tryz.func303 Tryz.ntmps303 Tryz.results303 (fun S0 O0 w0 m0 hm0 => ?_)
  refine G_seq ?_
  refine g_region ?_
  refine sv rfl (y_assign) ?_
  refine GOps_nil ?_
  refine thn_normal ?_
  refine G_seq ?_
  refine g_region ?_
  refine sv rfl (y_move) ?_
  refine sv rfl (y_geq) ?_
  refine sv rfl (y_move) ?_
  refine sg rfl (fun hg => q_move) ?_
  refine sg rfl (fun hg => strip 6 (by simp only [GS.set, GS.get, List.lookup_cons, Nat.reduceBEq] <;> rfl) hg (q_leq)) ?_
  refine sv rfl (y_and) ?_
  refine sv rfl (y_assign) ?_
  refine GOps_nil ?_
  refine thn_normal ?_
  refine G_ret ?_
  refine fin1 (by simp) ?_
  exact ⟨rfl, rfl⟩
theorem c320 (f b c : Int) : Pf Tryz.prog 320 [.agg [.int .i64 f, .int .i64 b, .int .i64 c]] (.d (.int .i64 (lastS f b c))) := by
  refine pf_body (rvs := [.tmp 2]) [(0, .d (.agg [.int .i64 f, .int .i64 b, .int .i64 c]))] Tryz.func320 Tryz.ntmps320 Tryz.results320 (fun S0 O0 w0 m0 hm0 => ?_)
  refine G_seq ?_
  refine g_region ?_
  refine sv rfl (y_box) ?_
  refine g_freeze 0 [] (.agg [.int .i64 f, .int .i64 b, .int .i64 c]) rfl ?_
  refine sv rfl (y_assign) ?_
  refine GOps_nil ?_
  refine thn_normal ?_
  refine G_seq ?_
  refine g_region ?_
  first | refine sv rfl (y_fieldAt 0 Tryz.underlying260 rfl sz3) ?_ | refine sv rfl (y_fieldAddr Tryz.underlying260 rfl sz3) ?_ | refine sv rfl (y_fieldp_leaf Tryz.underlying260 rfl sz3) ?_
  first | refine sv rfl (y_load_leaf Tryz.underlying3) ?_ | refine sv rfl (y_loadp_leaf Tryz.underlying3) ?_
  first | refine sv rfl (y_fieldAt 1 Tryz.underlying260 rfl sz3) ?_ | refine sv rfl (y_fieldAddr Tryz.underlying260 rfl sz3) ?_ | refine sv rfl (y_fieldp_leaf Tryz.underlying260 rfl sz3) ?_
  first | refine sv rfl (y_load_leaf Tryz.underlying3) ?_ | refine sv rfl (y_loadp_leaf Tryz.underlying3) ?_
  first | refine sv rfl (y_fieldAt 2 Tryz.underlying260 rfl sz3) ?_ | refine sv rfl (y_fieldAddr Tryz.underlying260 rfl sz3) ?_ | refine sv rfl (y_fieldp_leaf Tryz.underlying260 rfl sz3) ?_
  first | refine sv rfl (y_load_leaf Tryz.underlying3) ?_ | refine sv rfl (y_loadp_leaf Tryz.underlying3) ?_
  refine sv rfl (y_sub (hw := rfl)) ?_
  refine sv rfl (y_mul (hw := rfl)) ?_
  refine sv rfl (y_add (hw := rfl)) ?_
  refine sv rfl (y_assign) ?_
  refine GOps_nil ?_
  refine thn_normal ?_
  refine G_ret ?_
  refine fin1 (by simp) ?_
  exact ⟨rfl, rfl⟩
theorem c304 (f b c : Int) : Pf Tryz.prog 304 [.agg [.int .i64 f, .int .i64 b, .int .i64 c]] (.tup [.d (.agg [.int .i64 (normalS f b c).1.1, .int .i64 (normalS f b c).1.2.1, .int .i64 (normalS f b c).1.2.2]), .d (.int .i64 (normalS f b c).2)]) := by
  refine pf_body (rvs := [.cell 2 199, .tmp 3]) [(0, .d (.agg [.int .i64 f, .int .i64 b, .int .i64 c]))] Tryz.func304 Tryz.ntmps304 Tryz.results304 (fun S0 O0 w0 m0 hm0 => ?_)
  refine G_seq ?_
  refine g_region ?_
  refine sv rfl (y_box) ?_
  refine g_freeze 0 [] (.agg [.int .i64 f, .int .i64 b, .int .i64 c]) rfl ?_
  refine sv rfl (y_alloc zr199) ?_
  refine sv rfl (y_assign) ?_
  refine GOps_nil ?_
  refine thn_normal ?_
  refine G_seq ?_
  refine G_seq ?_
  refine g_region ?_
  first | refine sv rfl (y_fieldAt 2 Tryz.underlying260 rfl sz3) ?_ | refine sv rfl (y_fieldAddr Tryz.underlying260 rfl sz3) ?_ | refine sv rfl (y_fieldp_leaf Tryz.underlying260 rfl sz3) ?_
  first | refine sv rfl (y_load_leaf Tryz.underlying3) ?_ | refine sv rfl (y_loadp_leaf Tryz.underlying3) ?_
  refine sv rfl (y_leq) ?_
  refine GOps_nil ?_
  refine thn_normal ?_
  refine g_cond (fun hb0 => ?_) (fun hb0 => ?_)
  ·
    refine G_seq ?_
    refine g_region ?_
    refine sv rfl (y_buildS pl199 zr199) ?_
    first | refine sa rfl (d_store sz199) ?_ | refine sa rfl (d_store_take sz199) ?_
    refine sv rfl (y_assign) ?_
    refine GOps_nil ?_
    refine thn_normal ?_
    refine G_ret ?_
    refine thn_ret ?_
    refine fincd sz199 Tryz.underlying199 (by simp) ?_
    exact ⟨by rw [normalS, if_pos (of_decide_eq_true hb0)], rfl⟩
  ·
    refine G_skip ?_
    refine thn_normal ?_
    refine G_seq ?_
    refine g_cg [9, 10, 11, 12, 13, 14, 15, 16, 17, 18, 19, 20, 21, 4] (fun bq => cond (bq 13) ([[.d (.int .i64 0), .d (.int .i64 0), .d (.int .i64 0)]] ++ [cond (bq 14) [.d (.int .i64 (lowS f b c)), .d (.int .i64 (highS f b c)), .d (.int .i64 b)] [.d (.int .i64 0), .d (.int .i64 0), .d (.int .i64 0)]]) [[.d (.int .i64 0), .d (.int .i64 0), .d (.int .i64 0)]]) rfl ?_
    refine cg_pre [] ?_
    first | refine cg_st 1 (fun bq rest hc1 hc2 hc3 => sv rfl (y_fieldAt 0 Tryz.underlying260 rfl sz3) (GOps_nil ⟨rfl, rfl⟩)) ?_ | refine cg_st 1 (fun bq rest hc1 hc2 hc3 => sv rfl (y_fieldAddr Tryz.underlying260 rfl sz3) (GOps_nil ⟨rfl, rfl⟩)) ?_ | refine cg_st 1 (fun bq rest hc1 hc2 hc3 => sv rfl (y_fieldp_leaf Tryz.underlying260 rfl sz3) (GOps_nil ⟨rfl, rfl⟩)) ?_
    refine cg_pre [0] ?_
    first | refine cg_st 2 (fun bq rest hc1 hc2 hc3 => sv rfl (y_load_leaf Tryz.underlying3) (GOps_nil ⟨rfl, rfl⟩)) ?_ | refine cg_st 2 (fun bq rest hc1 hc2 hc3 => sv rfl (y_loadp_leaf Tryz.underlying3) (GOps_nil ⟨rfl, rfl⟩)) ?_
    refine cg_pre [] ?_
    first | refine cg_st 3 (fun bq rest hc1 hc2 hc3 => sv rfl (y_load_agg sz260 Tryz.underlying260 rfl) (GOps_nil ⟨rfl, rfl⟩)) ?_ | refine cg_st 3 (fun bq rest hc1 hc2 hc3 => sv rfl (y_loadp_agg (by exact sz260) Tryz.underlying260 rfl) (GOps_nil ⟨rfl, rfl⟩)) ?_
    refine cg_pre [2] ?_
    refine cg_st 4 (fun bq rest hc1 hc2 hc3 => g_call (xs := [.tmp 11]) rfl (c320 f b c) (GOps_nil ⟨rfl, rfl⟩)) ?_
    refine cg_pre [1, 3] ?_
    refine cg_st 5 (fun bq rest hc1 hc2 hc3 => sv rfl (Yld_pure rfl (of_decide_eq_true rfl) (q_min)) (GOps_nil ⟨rfl, rfl⟩)) ?_
    refine cg_pre [] ?_
    first | refine cg_st 6 (fun bq rest hc1 hc2 hc3 => sv rfl (y_fieldAt 0 Tryz.underlying260 rfl sz3) (GOps_nil ⟨rfl, rfl⟩)) ?_ | refine cg_st 6 (fun bq rest hc1 hc2 hc3 => sv rfl (y_fieldAddr Tryz.underlying260 rfl sz3) (GOps_nil ⟨rfl, rfl⟩)) ?_ | refine cg_st 6 (fun bq rest hc1 hc2 hc3 => sv rfl (y_fieldp_leaf Tryz.underlying260 rfl sz3) (GOps_nil ⟨rfl, rfl⟩)) ?_
    refine cg_pre [5] ?_
    first | refine cg_st 7 (fun bq rest hc1 hc2 hc3 => sv rfl (y_load_leaf Tryz.underlying3) (GOps_nil ⟨rfl, rfl⟩)) ?_ | refine cg_st 7 (fun bq rest hc1 hc2 hc3 => sv rfl (y_loadp_leaf Tryz.underlying3) (GOps_nil ⟨rfl, rfl⟩)) ?_
    refine cg_pre [] ?_
    first | refine cg_st 8 (fun bq rest hc1 hc2 hc3 => sv rfl (y_load_agg sz260 Tryz.underlying260 rfl) (GOps_nil ⟨rfl, rfl⟩)) ?_ | refine cg_st 8 (fun bq rest hc1 hc2 hc3 => sv rfl (y_loadp_agg (by exact sz260) Tryz.underlying260 rfl) (GOps_nil ⟨rfl, rfl⟩)) ?_
    refine cg_pre [7, 3] ?_
    refine cg_st 9 (fun bq rest hc1 hc2 hc3 => g_call (xs := [.tmp 16]) rfl (c320 f b c) (GOps_nil ⟨rfl, rfl⟩)) ?_
    refine cg_pre [6, 8] ?_
    refine cg_st 10 (fun bq rest hc1 hc2 hc3 => sv rfl (Yld_pure rfl (of_decide_eq_true rfl) (q_max)) (GOps_nil ⟨rfl, rfl⟩)) ?_
    refine cg_pre [] ?_
    first | refine cg_st 11 (fun bq rest hc1 hc2 hc3 => sv rfl (y_fieldAt 1 Tryz.underlying260 rfl sz3) (GOps_nil ⟨rfl, rfl⟩)) ?_ | refine cg_st 11 (fun bq rest hc1 hc2 hc3 => sv rfl (y_fieldAddr Tryz.underlying260 rfl sz3) (GOps_nil ⟨rfl, rfl⟩)) ?_ | refine cg_st 11 (fun bq rest hc1 hc2 hc3 => sv rfl (y_fieldp_leaf Tryz.underlying260 rfl sz3) (GOps_nil ⟨rfl, rfl⟩)) ?_
    refine cg_pre [10] ?_
    first | refine cg_st 12 (fun bq rest hc1 hc2 hc3 => sv rfl (y_load_leaf Tryz.underlying3) (GOps_nil ⟨rfl, rfl⟩)) ?_ | refine cg_st 12 (fun bq rest hc1 hc2 hc3 => sv rfl (y_loadp_leaf Tryz.underlying3) (GOps_nil ⟨rfl, rfl⟩)) ?_
    refine cg_pre [4, 9, 11] ?_
    refine cg_st 13 (fun bq rest hc1 hc2 hc3 => sv rfl (y_buildS pl199 zr199) (GOps_nil ⟨rfl, rfl⟩)) ?_
    refine cg_pre [] ?_
    refine cg_st 14 (fun bq rest hc1 hc2 hc3 => by
        have hs := hc3.no 14 13 hc1
        have e1 : upd bq 13 13 = true := rfl
        have e2 : upd bq 13 14 = false := hs
        simp only [hc1, cond_false]
        refine sv rfl (y_alloc zr199) ?_
        exact (GOps_nil ⟨rfl, by rw [e1, e2]; rfl⟩)) ?_
    refine cg_pre [13, 12, 8, 0, 1, 2, 3, 4, 5, 6, 7, 8, 9, 10, 11, 12, 13] ?_
    refine cg_act 15 (fun bq rest hc1 hc2 hc3 => by
        have ha := hc2 13 dep_in
        have e1 : upd bq 14 13 = true := ha
        have e2 : upd bq 14 14 = true := rfl
        simp only [ha, hc1, cond_true, cond_false]
        refine sa rfl (d_store sz199) ?_
        exact (GOps_nil ⟨rfl, by rw [e1, e2]; rfl⟩)) ?_
    refine cg_done (mem'' := [[.d (.int .i64 0), .d (.int .i64 0), .d (.int .i64 0)], [.d (.int .i64 (lowS f b c)), .d (.int .i64 (highS f b c)), .d (.int .i64 b)]]) ?_
    refine thn_normal ?_
    refine G_seq_cut (α := Int) (fun st => ⟨[(1, .d (.ptr (.agg [.int .i64 f, .int .i64 b, .int .i64 c]))), (2, .ref 0 0), (3, .d (.int .i64 0)), (4, .ref 1 0)], [[.d (.int .i64 0), .d (.int .i64 0), .d (.int .i64 0)], [.d (.int .i64 (lowS f b c)), .d (.int .i64 (highS f b c)), .d (.int .i64 st)]]⟩) (fun st => st = if (c == 1) = true then 1 else b) (fun Q' hn he hr => ?_) (fun st hst => ?_)
    ·
      refine G_seq ?_
      refine g_keep [0, 1, 2, 3, 4] ?_
      refine g_region ?_
      first | refine sv rfl (y_fieldAt 2 Tryz.underlying260 rfl sz3) ?_ | refine sv rfl (y_fieldAddr Tryz.underlying260 rfl sz3) ?_ | refine sv rfl (y_fieldp_leaf Tryz.underlying260 rfl sz3) ?_
      first | refine sv rfl (y_load_leaf Tryz.underlying3) ?_ | refine sv rfl (y_loadp_leaf Tryz.underlying3) ?_
      refine sv rfl (y_eql) ?_
      refine GOps_nil ?_
      refine thn_normal ?_
      refine g_cond (fun hb1 => ?_) (fun hb1 => ?_)
      ·
        refine g_region ?_
        first | refine sv rfl (y_fieldAt 2 Tryz.underlying199 rfl sz3) ?_ | refine sv rfl (y_fieldAddr Tryz.underlying199 rfl sz3) ?_ | refine sv rfl (y_fieldp_leaf Tryz.underlying199 rfl sz3) ?_
        refine sa rfl (d_store sz3) ?_
        refine GOps_nil ?_
        refine hn _ 1 (by rw [if_pos hb1]) le_of
      ·
        refine G_skip ?_
        refine hn _ b (by rw [if_neg (by rw [hb1]; decide)]) le_of
    ·
      have h0 := of_decide_eq_false hb0
      refine G_seq ?_
      refine G_seq ?_
      refine g_region ?_
      first | refine sv rfl (y_fieldAt 0 Tryz.underlying199 rfl sz3) ?_ | refine sv rfl (y_fieldAddr Tryz.underlying199 rfl sz3) ?_ | refine sv rfl (y_fieldp_leaf Tryz.underlying199 rfl sz3) ?_
      first | refine sv rfl (y_load_leaf Tryz.underlying3) ?_ | refine sv rfl (y_loadp_leaf Tryz.underlying3) ?_
      refine g_call (xs := [.tmp 27]) rfl (c303 _) ?_
      refine sv rfl (y_not) ?_
      refine sv rfl (y_move) ?_
      first | refine sg rfl (fun hg => q_fieldAddr Tryz.underlying199 rfl sz3) ?_ | refine sg rfl (fun hg => q_fieldp_leaf Tryz.underlying199 rfl sz3) ?_
      first | refine sg rfl (fun hg => strip 31 (by simp only [GS.set, GS.get, List.lookup_cons, Nat.reduceBEq] <;> rfl) hg (q_load_leaf Tryz.underlying3)) ?_ | refine sg rfl (fun hg => strip 31 (by simp only [GS.set, GS.get, List.lookup_cons, Nat.reduceBEq] <;> rfl) hg (q_loadp_leaf Tryz.underlying3)) ?_
      refine g_callg (xs := [.tmp 32]) rfl (fun hg => c303 _) ?_
      refine sg rfl (fun hg => strip 33 (by simp only [GS.set, GS.get, List.lookup_cons, Nat.reduceBEq] <;> rfl) hg (q_not)) ?_
      refine sv rfl (y_or) ?_
      refine GOps_nil ?_
      refine thn_normal ?_
      refine g_cond (fun hb2 => ?_) (fun hb2 => ?_)
      ·
        refine G_seq ?_
        refine g_keep [0, 1, 2, 3, 4] ?_
        refine g_region ?_
        refine sv rfl (y_buildS pl199 zr199) ?_
        first | refine sa rfl (d_store sz199) ?_ | refine sa rfl (d_store_take sz199) ?_
        refine sv rfl (y_assign) ?_
        refine GOps_nil ?_
        refine thn_normal ?_
        refine G_ret ?_
        refine thn_ret ?_
        refine fincd sz199 Tryz.underlying199 (by simp) ?_
        exact ⟨by rw [normalS, if_neg h0, if_pos hb2], rfl⟩
      ·
        refine G_skip ?_
        refine thn_normal ?_
        refine G_seq ?_
        refine g_keep [0, 1, 2, 3, 4] ?_
        refine g_region ?_
        first | refine sv rfl (y_load_agg sz199 Tryz.underlying199 rfl) ?_ | refine sv rfl (y_loadp_agg (by exact sz199) Tryz.underlying199 rfl) ?_
        first | refine sa rfl (d_store sz199) ?_ | refine sa rfl (d_store_take sz199) ?_
        refine sv rfl (y_assign) ?_
        refine GOps_nil ?_
        refine thn_normal ?_
        refine G_ret ?_
        refine fincd sz199 Tryz.underlying199 (by simp) ?_
        exact ⟨by rw [normalS, if_neg h0, if_neg (by rw [hb2]; decide), ← hst], rfl⟩
theorem c305 (f b c : Int) : Pf Tryz.prog 305 [.agg [.int .i64 f, .int .i64 b, .int .i64 c]] (.d (.agg [.int .i64 (turnS f b c).1, .int .i64 (turnS f b c).2.1, .int .i64 (turnS f b c).2.2])) := by
  refine pf_body (rvs := [.cell 2 260]) [(0, .d (.agg [.int .i64 f, .int .i64 b, .int .i64 c]))] Tryz.func305 Tryz.ntmps305 Tryz.results305 (fun S0 O0 w0 m0 hm0 => ?_)
  refine G_seq ?_
  refine g_region ?_
  refine sv rfl (y_box) ?_
  refine g_freeze 0 [] (.agg [.int .i64 f, .int .i64 b, .int .i64 c]) rfl ?_
  refine sv rfl (y_alloc zr260) ?_
  refine GOps_nil ?_
  refine thn_normal ?_
  refine G_seq ?_
  refine G_seq ?_
  refine g_region ?_
  first | refine sv rfl (y_fieldAt 2 Tryz.underlying260 rfl sz3) ?_ | refine sv rfl (y_fieldAddr Tryz.underlying260 rfl sz3) ?_ | refine sv rfl (y_fieldp_leaf Tryz.underlying260 rfl sz3) ?_
  first | refine sv rfl (y_load_leaf Tryz.underlying3) ?_ | refine sv rfl (y_loadp_leaf Tryz.underlying3) ?_
  refine sv rfl (y_eql) ?_
  refine GOps_nil ?_
  refine thn_normal ?_
  refine g_cond (fun hb0 => ?_) (fun hb0 => ?_)
  ·
    refine G_seq ?_
    refine g_region ?_
    first | refine sv rfl (y_load_agg sz260 Tryz.underlying260 rfl) ?_ | refine sv rfl (y_loadp_agg (by exact sz260) Tryz.underlying260 rfl) ?_
    first | refine sa rfl (d_store sz260) ?_ | refine sa rfl (d_store_take sz260) ?_
    refine GOps_nil ?_
    refine thn_normal ?_
    refine G_ret ?_
    refine thn_ret ?_
    refine findc sz260 Tryz.underlying260 (by simp) ?_
    exact ⟨by rw [turnS, if_pos hb0], rfl⟩
  ·
    refine G_skip ?_
    refine thn_normal ?_
    refine G_seq ?_
    refine g_cg [7, 8, 9, 10, 11, 12, 13, 14] (fun bq => [cond (bq 8) [.d (.int .i64 (lastS f b c)), .d (.int .i64 (W (0 - b))), .d (.int .i64 c)] [.d (.int .i64 0), .d (.int .i64 0), .d (.int .i64 0)]]) rfl ?_
    refine cg_pre [] ?_
    first | refine cg_st 1 (fun bq rest hc1 hc2 hc3 => sv rfl (y_load_agg sz260 Tryz.underlying260 rfl) (GOps_nil ⟨rfl, rfl⟩)) ?_ | refine cg_st 1 (fun bq rest hc1 hc2 hc3 => sv rfl (y_loadp_agg (by exact sz260) Tryz.underlying260 rfl) (GOps_nil ⟨rfl, rfl⟩)) ?_
    refine cg_pre [0] ?_
    refine cg_st 2 (fun bq rest hc1 hc2 hc3 => g_call (xs := [.tmp 7]) rfl (c320 f b c) (GOps_nil ⟨rfl, rfl⟩)) ?_
    refine cg_pre [] ?_
    first | refine cg_st 3 (fun bq rest hc1 hc2 hc3 => sv rfl (y_fieldAt 1 Tryz.underlying260 rfl sz3) (GOps_nil ⟨rfl, rfl⟩)) ?_ | refine cg_st 3 (fun bq rest hc1 hc2 hc3 => sv rfl (y_fieldAddr Tryz.underlying260 rfl sz3) (GOps_nil ⟨rfl, rfl⟩)) ?_ | refine cg_st 3 (fun bq rest hc1 hc2 hc3 => sv rfl (y_fieldp_leaf Tryz.underlying260 rfl sz3) (GOps_nil ⟨rfl, rfl⟩)) ?_
    refine cg_pre [2] ?_
    first | refine cg_st 4 (fun bq rest hc1 hc2 hc3 => sv rfl (y_load_leaf Tryz.underlying3) (GOps_nil ⟨rfl, rfl⟩)) ?_ | refine cg_st 4 (fun bq rest hc1 hc2 hc3 => sv rfl (y_loadp_leaf Tryz.underlying3) (GOps_nil ⟨rfl, rfl⟩)) ?_
    refine cg_pre [3] ?_
    refine cg_st 5 (fun bq rest hc1 hc2 hc3 => sv rfl (Yld_pure rfl (of_decide_eq_true rfl) (q_neg (hr := rfl))) (GOps_nil ⟨rfl, rfl⟩)) ?_
    refine cg_pre [] ?_
    first | refine cg_st 6 (fun bq rest hc1 hc2 hc3 => sv rfl (y_fieldAt 2 Tryz.underlying260 rfl sz3) (GOps_nil ⟨rfl, rfl⟩)) ?_ | refine cg_st 6 (fun bq rest hc1 hc2 hc3 => sv rfl (y_fieldAddr Tryz.underlying260 rfl sz3) (GOps_nil ⟨rfl, rfl⟩)) ?_ | refine cg_st 6 (fun bq rest hc1 hc2 hc3 => sv rfl (y_fieldp_leaf Tryz.underlying260 rfl sz3) (GOps_nil ⟨rfl, rfl⟩)) ?_
    refine cg_pre [5] ?_
    first | refine cg_st 7 (fun bq rest hc1 hc2 hc3 => sv rfl (y_load_leaf Tryz.underlying3) (GOps_nil ⟨rfl, rfl⟩)) ?_ | refine cg_st 7 (fun bq rest hc1 hc2 hc3 => sv rfl (y_loadp_leaf Tryz.underlying3) (GOps_nil ⟨rfl, rfl⟩)) ?_
    refine cg_pre [1, 4, 6] ?_
    refine cg_st 8 (fun bq rest hc1 hc2 hc3 => sv rfl (y_buildS pl260 zr260) (GOps_nil ⟨rfl, rfl⟩)) ?_
    refine cg_pre [7, 1, 0, 1, 2, 3, 4, 5, 6, 7] ?_
    refine cg_act 9 (fun bq rest hc1 hc2 hc3 => by
        have e2 : upd bq 8 8 = true := rfl
        simp only [hc1, cond_false]
        refine sa rfl (d_store sz260) ?_
        exact (GOps_nil ⟨rfl, by rw [e2]; rfl⟩)) ?_
    refine cg_done (mem'' := [[.d (.int .i64 (lastS f b c)), .d (.int .i64 (W (0 - b))), .d (.int .i64 c)]]) ?_
    refine thn_normal ?_
    refine G_ret ?_
    refine findc sz260 Tryz.underlying260 (by simp) ?_
    exact ⟨by rw [turnS, if_neg (by rw [hb0]; decide)], rfl⟩
end Go.Proofs.YtklkbfpjimeaoaaGreat
