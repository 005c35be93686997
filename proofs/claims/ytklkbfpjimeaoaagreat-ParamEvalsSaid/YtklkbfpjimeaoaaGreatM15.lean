import Derived.Test.YtklkbfpjimeaoaaGreatM14
import Derived.ChangeKeysEq
import Derived.Laws.Closers25b
/- Contracts of functions. Conditions: none. -/
namespace Go.Proofs.YtklkbfpjimeaoaaGreat
open Go Go.Proofs.YtklkbfpjimeaoaaGreat.E
def W (n : Int) : Int := IntKind.i64.wrap n
def U (n : Int) : Int := IntKind.u64.wrap n
def withinB (n : Int) : Bool := decide (n ≥ -1000000) && decide (n ≤ 1000000)
def lastS (f b c : Int) : Int := W (f + W (b * W (c - 1)))
def lowS (f b c : Int) : Int := if lastS f b c < f then lastS f b c else f
def highS (f b c : Int) : Int := if lastS f b c > f then lastS f b c else f
def normalS (f b c : Int) : (Int × Int × Int) × Int :=
  if c ≤ 0 then ((1, 0, 1), 0)
  else if (!withinB (lowS f b c) || !withinB (highS f b c)) = true then ((0, 0, 0), 4) else ((lowS f b c, highS f b c, if (c == 1) = true then 1 else b), 0)
def turnS (f b c : Int) : Int × Int × Int := if (c == 0) = true then (f, b, c) else (lastS f b c, W (0 - b), c)
def ofS (lo hi : Int) : (Int × Int × Int) × Int :=
  if ((!withinB lo || !withinB hi) || !withinB 1) = true then ((0, 0, 0), 4) else if lo > hi then normalS 0 0 0 else normalS lo 1 (W (W ((W (hi - lo)).tdiv 1) + 1))
def seriesS (lo hi st : Int) : Int × Int × Int :=
  if lo > hi then (0, 0, 0) else if st < 0 then (hi, st, W (W ((W (hi - lo)).tdiv (W (0 - st))) + 1)) else (lo, st, W (W ((W (hi - lo)).tdiv st) + 1))
def limS (lo hi : Int) : Int := if (!withinB lo || !withinB hi) = true then 4 else 0
def stepS (st : Int) : Int := if st < 0 then U (0 - U st) else U st
def checkS (lo hi st : Int) : Int :=
  if ((!(decide (lo = 1) && decide (hi = 0) && decide (st = 1))) && !(lo == hi && st == 1)) = true then
    (if (decide (lo ≥ hi) || st == 0) = true then 2 else if ((U (W (hi - lo))).tmod (stepS st) != 0) = true then 2 else limS lo hi)
  else limS lo hi
def sizeS (lo hi st : Int) : Int := if (checkS lo hi st != 0) = true then 0 else (seriesS lo hi st).2.2
def wf64 (n : Int) : Prop := -9223372036854775808 ≤ n ∧ n ≤ 9223372036854775807
theorem W_wf (n : Int) : wf64 (W n) := by
  have := wrap_within IntKind.i64 n
  exact this
theorem U_ne {n : Int} (h : wf64 n) (h0 : n ≠ 0) : U n ≠ 0 := by
  unfold wf64 at h
  unfold U IntKind.wrap
  simp only [IntKind.signed, IntKind.bits] at *
  simp
  omega
theorem Un_ne {n : Int} (h : wf64 n) (h0 : n < 0) : U (0 - U n) ≠ 0 := by
  unfold wf64 at h
  unfold U IntKind.wrap
  simp only [IntKind.signed, IntKind.bits] at *
  simp
  omega
theorem W_neg {n : Int} (h : wf64 n) (h0 : n < 0) : W (0 - n) ≠ 0 := by
  unfold wf64 at h
  unfold W IntKind.wrap
  simp only [IntKind.signed, IntKind.bits] at *
  simp
  omega
theorem eq_rg (lo hi st : Int) (w : World) : (Op.eqFields 9999 #[.int .i64 lo, .int .i64 hi, .int .i64 st] #[.int .i64 1, .int .i64 0, .int .i64 1] (Tryz.prog.fieldsOf 199).toList).run Tryz.prog w = .ok (decide (lo = 1) && decide (hi = 0) && decide (st = 1)) w := by
  have p3 : Tryz.prog.plainKey 3 = true := by kernel_rfl
  simp only [Program.fieldsOf, u199, Op.eqFields]
  have q : ∀ (x y z : Int) w, (part 3 #[.int .i64 x, .int .i64 y, .int .i64 z] 0).run Tryz.prog w = .ok (.int .i64 x) w := fun x y z w => run_part_plain w p3 rfl
  have q1 : ∀ (x y z : Int) w, (part 3 #[.int .i64 x, .int .i64 y, .int .i64 z] 1).run Tryz.prog w = .ok (.int .i64 y) w := fun x y z w => run_part_plain w p3 rfl
  have q2 : ∀ (x y z : Int) w, (part 3 #[.int .i64 x, .int .i64 y, .int .i64 z] 2).run Tryz.prog w = .ok (.int .i64 z) w := fun x y z w => run_part_plain w p3 rfl
  have e3 : ∀ w d (a b : Int), (Op.equalIn (d + 1) 3 (.int .i64 a) (.int .i64 b)).run Tryz.prog w = .ok (decide (a = b)) w := fun w d a b => by rw [run_equalIn_int w d 3 .i64 .i64 a b u3]; congr 1
  by_cases h1 : lo = 1 <;> by_cases h2 : hi = 0 <;> by_cases h3 : st = 1 <;> simp [Sem.run_bind, q, q1, q2, e3 _ 9998, Result.andThen_ok, h1, h2, h3]
theorem c303 (n : Int) : Pf Tryz.prog 303 [.int .i64 n] (.d (.bool (withinB n))) := by
  refine pf_body (rvs := [.tmp 2]) [(0, .d (.int .i64 n))] Tryz.func303 Tryz.ntmps303 Tryz.results303 (fun S0 O0 w0 m0 hm0 => ?_)
  refine gS (gR ?_)
  refine vq rfl qA ?_
  refine gN (tN (gS (gR ?_)))
  refine vq rfl qM ?_
  refine vq rfl q_geq ?_
  refine vq rfl qM ?_
  refine sg rfl (fun hg => qM) ?_
  refine sg rfl (fun hg => sP 6 rfl hg q_leq) ?_
  refine vq rfl q_and ?_
  refine vq rfl qA ?_
  refine gN (tN (gT ?_))
  refine fin1 (by simp) ?_
  exact ⟨rfl, rfl⟩
theorem c320 (f b c : Int) : Pf Tryz.prog 320 [.agg [.int .i64 f, .int .i64 b, .int .i64 c]] (.d (.int .i64 (lastS f b c))) := by
  refine pf_body (rvs := [.tmp 2]) [(0, .d (.agg [.int .i64 f, .int .i64 b, .int .i64 c]))] Tryz.func320 Tryz.ntmps320 Tryz.results320 (fun S0 O0 w0 m0 hm0 => ?_)
  refine gS (gR ?_)
  refine sv rfl y_box ?_
  refine gF 0 [] (.agg [.int .i64 f, .int .i64 b, .int .i64 c]) rfl ?_
  refine vq rfl qA ?_
  refine gN (tN (gS (gR ?_)))
  refine vq rfl (qF u260 rfl sz3) ?_
  refine vq rfl (qL u3) ?_
  refine vq rfl (qF u260 rfl sz3) ?_
  refine vq rfl (qL u3) ?_
  refine vq rfl (qF u260 rfl sz3) ?_
  refine vq rfl (qL u3) ?_
  refine vq rfl (q_sub (hw := rfl)) ?_
  refine vq rfl (q_mul (hw := rfl)) ?_
  refine vq rfl (q_add (hw := rfl)) ?_
  refine vq rfl qA ?_
  refine gN (tN (gT ?_))
  refine fin1 (by simp) ?_
  exact ⟨rfl, rfl⟩
theorem c304 (f b c : Int) : Pf Tryz.prog 304 [.agg [.int .i64 f, .int .i64 b, .int .i64 c]] (.tup [.d (.agg [.int .i64 (normalS f b c).1.1, .int .i64 (normalS f b c).1.2.1, .int .i64 (normalS f b c).1.2.2]), .d (.int .i64 (normalS f b c).2)]) := by
  refine pf_body (rvs := [.cell 2 199, .tmp 3]) [(0, .d (.agg [.int .i64 f, .int .i64 b, .int .i64 c]))] Tryz.func304 Tryz.ntmps304 Tryz.results304 (fun S0 O0 w0 m0 hm0 => ?_)
  refine gS (gR ?_)
  refine sv rfl y_box ?_
  refine gF 0 [] (.agg [.int .i64 f, .int .i64 b, .int .i64 c]) rfl ?_
  refine sv rfl (y_alloc zr199) ?_
  refine vq rfl qA ?_
  refine gN (tN (gS (gS (gR ?_))))
  refine vq rfl (qF u260 rfl sz3) ?_
  refine vq rfl (qL u3) ?_
  refine vq rfl q_leq ?_
  refine gN (tN ?_)
  refine gC (fun hb0 => ?_) (fun hb0 => ?_)
  ·
    refine gS (gR ?_)
    refine vq rfl (q_buildS pl199 zr199) ?_
    refine sa rfl (dS sz199) ?_
    refine vq rfl qA ?_
    refine gN (tN (gT (tR ?_)))
    refine fincd sz199 u199 (by simp) ?_
    exact ⟨by rw [normalS, if_pos (of_decide_eq_true hb0)], rfl⟩
  refine gK (tN (gS ?_))
  refine g_cg [9, 10, 11, 12, 13, 14, 15, 16, 17, 18, 19, 20, 21, 4] (fun bq => cond (bq 13) ([[.d (.int .i64 0), .d (.int .i64 0), .d (.int .i64 0)]] ++ [cond (bq 14) [.d (.int .i64 (lowS f b c)), .d (.int .i64 (highS f b c)), .d (.int .i64 b)] [.d (.int .i64 0), .d (.int .i64 0), .d (.int .i64 0)]]) [[.d (.int .i64 0), .d (.int .i64 0), .d (.int .i64 0)]]) rfl ?_
  refine cP [] ?_
  refine cS 1 (fun bq rest hc1 hc2 hc3 => vq rfl (qF u260 rfl sz3) (gN ⟨rfl, rfl⟩)) ?_
  refine cP [0] ?_
  refine cS 2 (fun bq rest hc1 hc2 hc3 => vq rfl (qL u3) (gN ⟨rfl, rfl⟩)) ?_
  refine cP [] ?_
  refine cS 3 (fun bq rest hc1 hc2 hc3 => vq rfl (qG (by exact sz260) u260 rfl) (gN ⟨rfl, rfl⟩)) ?_
  refine cP [2] ?_
  refine cS 4 (fun bq rest hc1 hc2 hc3 => gL (xs := [.tmp 11]) rfl (c320 f b c) (gN ⟨rfl, rfl⟩)) ?_
  refine cP [1, 3] ?_
  refine cS 5 (fun bq rest hc1 hc2 hc3 => sv rfl (Yld_pure rfl (of_decide_eq_true rfl) q_min) (gN ⟨rfl, rfl⟩)) ?_
  refine cP [] ?_
  refine cS 6 (fun bq rest hc1 hc2 hc3 => vq rfl (qF u260 rfl sz3) (gN ⟨rfl, rfl⟩)) ?_
  refine cP [5] ?_
  refine cS 7 (fun bq rest hc1 hc2 hc3 => vq rfl (qL u3) (gN ⟨rfl, rfl⟩)) ?_
  refine cP [] ?_
  refine cS 8 (fun bq rest hc1 hc2 hc3 => vq rfl (qG (by exact sz260) u260 rfl) (gN ⟨rfl, rfl⟩)) ?_
  refine cP [7, 3] ?_
  refine cS 9 (fun bq rest hc1 hc2 hc3 => gL (xs := [.tmp 16]) rfl (c320 f b c) (gN ⟨rfl, rfl⟩)) ?_
  refine cP [6, 8] ?_
  refine cS 10 (fun bq rest hc1 hc2 hc3 => sv rfl (Yld_pure rfl (of_decide_eq_true rfl) q_max) (gN ⟨rfl, rfl⟩)) ?_
  refine cP [] ?_
  refine cS 11 (fun bq rest hc1 hc2 hc3 => vq rfl (qF u260 rfl sz3) (gN ⟨rfl, rfl⟩)) ?_
  refine cP [10] ?_
  refine cS 12 (fun bq rest hc1 hc2 hc3 => vq rfl (qL u3) (gN ⟨rfl, rfl⟩)) ?_
  refine cP [4, 9, 11] ?_
  refine cS 13 (fun bq rest hc1 hc2 hc3 => vq rfl (q_buildS pl199 zr199) (gN ⟨rfl, rfl⟩)) ?_
  refine cP [] ?_
  refine cS 14 (fun bq rest hc1 hc2 hc3 => by
      have hs := hc3.no 14 13 hc1
      have e1 : upd bq 13 13 = true := rfl
      have e2 : upd bq 13 14 = false := hs
      simp only [hc1, cond_false]
      refine sv rfl (y_alloc zr199) ?_
      exact (gN ⟨rfl, by rw [e1, e2]; rfl⟩)) ?_
  refine cP [13, 12, 8, 0, 1, 2, 3, 4, 5, 6, 7, 8, 9, 10, 11, 12, 13] ?_
  refine cg_act 15 (fun bq rest hc1 hc2 hc3 => by
      have ha := hc2 13 dep_in
      have e1 : upd bq 14 13 = true := ha
      have e2 : upd bq 14 14 = true := rfl
      simp only [ha, hc1, cond_true, cond_false]
      refine sa rfl (dS sz199) ?_
      exact (gN ⟨rfl, by rw [e1, e2]; rfl⟩)) ?_
  refine cg_done (mem'' := [[.d (.int .i64 0), .d (.int .i64 0), .d (.int .i64 0)], [.d (.int .i64 (lowS f b c)), .d (.int .i64 (highS f b c)), .d (.int .i64 b)]]) ?_
  refine tN ?_
  refine G_seq_cut (α := Int) (fun st => ⟨[(1, .d (.ptr (.agg [.int .i64 f, .int .i64 b, .int .i64 c]))), (2, .ref 0 0), (3, .d (.int .i64 0)), (4, .ref 1 0)], [[.d (.int .i64 0), .d (.int .i64 0), .d (.int .i64 0)], [.d (.int .i64 (lowS f b c)), .d (.int .i64 (highS f b c)), .d (.int .i64 st)]]⟩) (fun st => st = if (c == 1) = true then 1 else b) (fun Q' hn he hr => ?_) (fun st hst => ?_)
  ·
    refine gS ?_
    refine gP [0, 1, 2, 3, 4] ?_
    refine gR ?_
    refine vq rfl (qF u260 rfl sz3) ?_
    refine vq rfl (qL u3) ?_
    refine vq rfl q_eql ?_
    refine gN (tN ?_)
    refine gC (fun hb1 => ?_) (fun hb1 => ?_)
    ·
      refine gR ?_
      refine sv rfl (y_fieldAt 2 u199 rfl sz3) ?_
      refine sa rfl (dS sz3) ?_
      refine gN ?_
      refine hn _ 1 (by rw [if_pos hb1]) le_of
    refine gK ?_
    refine hn _ b (by rw [if_neg (by rw [hb1]; decide)]) le_of
  have h0 := of_decide_eq_false hb0
  refine gS (gS (gR ?_))
  refine sv rfl (y_fieldAt 0 u199 rfl sz3) ?_
  refine sv rfl (y_load_leaf u3) ?_
  refine gL (xs := [.tmp 27]) rfl (c303 _) ?_
  refine vq rfl q_not ?_
  refine vq rfl qM ?_
  refine sg rfl (fun hg => q_fieldAddr u199 rfl sz3) ?_
  refine sg rfl (fun hg => sP 31 rfl hg (qO u3)) ?_
  refine g_callg (xs := [.tmp 32]) rfl (fun hg => c303 _) ?_
  refine sg rfl (fun hg => sP 33 rfl hg q_not) ?_
  refine vq rfl q_or ?_
  refine gN (tN ?_)
  refine gC (fun hb2 => ?_) (fun hb2 => ?_)
  ·
    refine gS ?_
    refine gP [0, 1, 2, 3, 4] ?_
    refine gR ?_
    refine vq rfl (q_buildS pl199 zr199) ?_
    refine sa rfl (dS sz199) ?_
    refine vq rfl qA ?_
    refine gN (tN (gT (tR ?_)))
    refine fincd sz199 u199 (by simp) ?_
    exact ⟨by rw [normalS, if_neg h0, if_pos hb2], rfl⟩
  refine gK (tN (gS ?_))
  refine gP [0, 1, 2, 3, 4] ?_
  refine gR ?_
  refine sv rfl (y_load_agg sz199 u199 rfl) ?_
  refine sa rfl (dS sz199) ?_
  refine vq rfl qA ?_
  refine gN (tN (gT ?_))
  refine fincd sz199 u199 (by simp) ?_
  exact ⟨by rw [normalS, if_neg h0, if_neg (by rw [hb2]; decide), ← hst], rfl⟩
theorem c305 (f b c : Int) : Pf Tryz.prog 305 [.agg [.int .i64 f, .int .i64 b, .int .i64 c]] (.d (.agg [.int .i64 (turnS f b c).1, .int .i64 (turnS f b c).2.1, .int .i64 (turnS f b c).2.2])) := by
  refine pf_body (rvs := [.cell 2 260]) [(0, .d (.agg [.int .i64 f, .int .i64 b, .int .i64 c]))] Tryz.func305 Tryz.ntmps305 Tryz.results305 (fun S0 O0 w0 m0 hm0 => ?_)
  refine gS (gR ?_)
  refine sv rfl y_box ?_
  refine gF 0 [] (.agg [.int .i64 f, .int .i64 b, .int .i64 c]) rfl ?_
  refine sv rfl (y_alloc zr260) ?_
  refine gN (tN (gS (gS (gR ?_))))
  refine vq rfl (qF u260 rfl sz3) ?_
  refine vq rfl (qL u3) ?_
  refine vq rfl q_eql ?_
  refine gN (tN ?_)
  refine gC (fun hb0 => ?_) (fun hb0 => ?_)
  ·
    refine gS (gR ?_)
    refine vq rfl (qG (by exact sz260) u260 rfl) ?_
    refine sa rfl (dS sz260) ?_
    refine gN (tN (gT (tR ?_)))
    refine findc sz260 u260 (by simp) ?_
    exact ⟨by rw [turnS, if_pos hb0], rfl⟩
  refine gK (tN (gS ?_))
  refine g_cg [7, 8, 9, 10, 11, 12, 13, 14] (fun bq => [cond (bq 8) [.d (.int .i64 (lastS f b c)), .d (.int .i64 (W (0 - b))), .d (.int .i64 c)] [.d (.int .i64 0), .d (.int .i64 0), .d (.int .i64 0)]]) rfl ?_
  refine cP [] ?_
  refine cS 1 (fun bq rest hc1 hc2 hc3 => vq rfl (qG (by exact sz260) u260 rfl) (gN ⟨rfl, rfl⟩)) ?_
  refine cP [0] ?_
  refine cS 2 (fun bq rest hc1 hc2 hc3 => gL (xs := [.tmp 7]) rfl (c320 f b c) (gN ⟨rfl, rfl⟩)) ?_
  refine cP [] ?_
  refine cS 3 (fun bq rest hc1 hc2 hc3 => vq rfl (qF u260 rfl sz3) (gN ⟨rfl, rfl⟩)) ?_
  refine cP [2] ?_
  refine cS 4 (fun bq rest hc1 hc2 hc3 => vq rfl (qL u3) (gN ⟨rfl, rfl⟩)) ?_
  refine cP [3] ?_
  refine cS 5 (fun bq rest hc1 hc2 hc3 => vq rfl ((q_neg (hr := rfl))) (gN ⟨rfl, rfl⟩)) ?_
  refine cP [] ?_
  refine cS 6 (fun bq rest hc1 hc2 hc3 => vq rfl (qF u260 rfl sz3) (gN ⟨rfl, rfl⟩)) ?_
  refine cP [5] ?_
  refine cS 7 (fun bq rest hc1 hc2 hc3 => vq rfl (qL u3) (gN ⟨rfl, rfl⟩)) ?_
  refine cP [1, 4, 6] ?_
  refine cS 8 (fun bq rest hc1 hc2 hc3 => vq rfl (q_buildS pl260 zr260) (gN ⟨rfl, rfl⟩)) ?_
  refine cP [7, 1, 0, 1, 2, 3, 4, 5, 6, 7] ?_
  refine cg_act 9 (fun bq rest hc1 hc2 hc3 => by
      have e2 : upd bq 8 8 = true := rfl
      simp only [hc1, cond_false]
      refine sa rfl (dS sz260) ?_
      exact (gN ⟨rfl, by rw [e2]; rfl⟩)) ?_
  refine cg_done (mem'' := [[.d (.int .i64 (lastS f b c)), .d (.int .i64 (W (0 - b))), .d (.int .i64 c)]]) ?_
  refine tN (gT ?_)
  refine findc sz260 u260 (by simp) ?_
  exact ⟨by rw [turnS, if_neg (by rw [hb0]; decide)], rfl⟩
end Go.Proofs.YtklkbfpjimeaoaaGreat
namespace Go.Proofs.YtklkbfpjimeaoaaGreat
open Go Go.Proofs.YtklkbfpjimeaoaaGreat.E
theorem check_st {lo hi st : Int} (h : checkS lo hi st = 0) (hle : lo ≤ hi) : st ≠ 0 := by
  rintro rfl
  unfold checkS at h
  split at h
  · rw [if_pos (by simp)] at h
    cases h
  · rename_i hn
    apply hn
    simp
def byN (f b c m : Int) : (Int × Int × Int) × Int := normalS f (W (b * m)) (W ((W (W (c + m) - 1)).tdiv m))
def byS (lo hi st n : Int) : (Int × Int × Int) × Int :=
  if (checkS lo hi st != 0) = true then ((0, 0, 0), checkS lo hi st)
  else if (n == 0) = true then ((0, 0, 0), 1)
  else if (!withinB n) = true then ((0, 0, 0), 4)
  else if n < 0 then byN (turnS (seriesS lo hi st).1 (seriesS lo hi st).2.1 (seriesS lo hi st).2.2).1 (turnS (seriesS lo hi st).1 (seriesS lo hi st).2.1 (seriesS lo hi st).2.2).2.1 (turnS (seriesS lo hi st).1 (seriesS lo hi st).2.1 (seriesS lo hi st).2.2).2.2 (W (0 - n))
  else byN (seriesS lo hi st).1 (seriesS lo hi st).2.1 (seriesS lo hi st).2.2 n
def countS (lo hi st n : Int) : (Int × Int × Int) × Int :=
  if (checkS lo hi st != 0) = true then ((0, 0, 0), checkS lo hi st)
  else if (decide (n > (seriesS lo hi st).2.2) || decide (n < W (0 - (seriesS lo hi st).2.2))) = true then ((0, 0, 0), 5)
  else if n < 0 then normalS (W ((seriesS lo hi st).1 + W ((seriesS lo hi st).2.1 * W ((seriesS lo hi st).2.2 + n)))) (seriesS lo hi st).2.1 (W (0 - n))
  else normalS (seriesS lo hi st).1 (seriesS lo hi st).2.1 n
set_option maxHeartbeats 1000000 in
theorem c246 (lo hi : Int) : Pf Tryz.prog 246 [.int .i64 lo, .int .i64 hi, .int .i64 1] (.tup [.d (.agg [.int .i64 (ofS lo hi).1.1, .int .i64 (ofS lo hi).1.2.1, .int .i64 (ofS lo hi).1.2.2]), .d (.int .i64 (ofS lo hi).2)]) := by
  refine pf_body (rvs := [.cell 6 199, .tmp 7]) [(0, .d (.int .i64 lo)), (1, .d (.int .i64 hi)), (2, .d (.int .i64 1))] Tryz.func246 Tryz.ntmps246 Tryz.results246 (fun S0 O0 w0 m0 hm0 => ?_)
  refine gS (gR ?_)
  refine sv rfl (y_alloc zr199) ?_
  refine vq rfl qA ?_
  refine gN (tN (gS (G_block (gS (gR ?_)))))
  refine vq rfl qM ?_
  refine vq rfl q_eql ?_
  refine vq rfl qA ?_
  refine gN (tN ?_)
  refine gC (fun hb0 => ?_) (fun hb0 => ?_)
  ·
    exact absurd hb0 (by decide)
  refine gS (gR ?_)
  refine vq rfl qM ?_
  refine gL (xs := [.tmp 13]) rfl (c303 lo) ?_
  refine vq rfl q_not ?_
  refine vq rfl qM ?_
  refine sg rfl (fun hg => qM) ?_
  refine g_callg (xs := [.tmp 17]) rfl (fun hg => c303 hi) ?_
  refine sg rfl (fun hg => sP 18 rfl hg q_not) ?_
  refine vq rfl q_or ?_
  refine vq rfl qM ?_
  refine sg rfl (fun hg => qM) ?_
  refine g_callg (xs := [.tmp 22]) rfl (fun hg => c303 1) ?_
  refine sg rfl (fun hg => sP 23 rfl hg q_not) ?_
  refine vq rfl q_or ?_
  refine vq rfl qA ?_
  refine gN (tN ?_)
  refine gC (fun hb1 => ?_) (fun hb1 => ?_)
  ·
    refine gS ?_
    refine gP [0, 1, 2, 6, 7] ?_
    refine gR ?_
    refine vq rfl (q_buildS pl199 zr199) ?_
    refine sa rfl (dS sz199) ?_
    refine vq rfl qA ?_
    refine gN (tN (gT (bR (tR ?_))))
    refine fincd sz199 u199 (by simp) ?_
    exact ⟨by rw [ofS, if_pos hb1], rfl⟩
  refine gS ?_
  refine gP [0, 1, 2, 6, 7] ?_
  refine gR ?_
  refine vq rfl qM ?_
  refine vq rfl qM ?_
  refine vq rfl q_gtr ?_
  refine vq rfl qA ?_
  refine gN (tN ?_)
  refine gC (fun hb2 => ?_) (fun hb2 => ?_)
  ·
    refine gS (gR ?_)
    refine vq rfl (q_buildS pl260 zr260) ?_
    refine gL (xs := [.tmp 31]) rfl (c304 0 0 0) ?_
    refine vq rfl qE ?_
    refine vq rfl qE ?_
    refine sa rfl (dS sz199) ?_
    refine vq rfl qA ?_
    refine gN (tN (gT (bR (tR ?_))))
    refine fincd sz199 u199 (by simp) ?_
    exact ⟨by rw [ofS, if_neg (by rw [hb1]; decide), if_pos (of_decide_eq_true hb2)], rfl⟩
  refine gS (gR ?_)
  refine vq rfl qM ?_
  refine vq rfl q_lss ?_
  refine vq rfl qA ?_
  refine gN (tN ?_)
  refine gC (fun hb3 => ?_) (fun hb3 => ?_)
  ·
    exact absurd hb3 (by decide)
  refine gK (bN (tN (gS (gR ?_))))
  refine vq rfl qM ?_
  refine vq rfl qM ?_
  refine vq rfl qM ?_
  refine vq rfl qM ?_
  refine vq rfl (q_sub (hw := rfl)) ?_
  refine vq rfl qM ?_
  refine vq rfl (q_quo (show (1 : Int) ≠ 0 by decide) rfl) ?_
  refine vq rfl (q_add (hw := rfl)) ?_
  refine vq rfl (q_buildS pl260 zr260) ?_
  refine gL (xs := [.tmp 59]) rfl (c304 _ _ _) ?_
  refine vq rfl qE ?_
  refine vq rfl qE ?_
  refine sa rfl (dS sz199) ?_
  refine vq rfl qA ?_
  refine gN (tN (gT ?_))
  refine fincd sz199 u199 (by simp) ?_
  exact ⟨by rw [ofS, if_neg (by rw [hb1]; decide), if_neg (of_decide_eq_false hb2)]; rfl, rfl⟩
set_option maxHeartbeats 1000000 in
theorem c249 (lo hi st : Int) (hw : wf64 st) : Pf Tryz.prog 249 [.agg [.int .i64 lo, .int .i64 hi, .int .i64 st]] (.d (.int .i64 (checkS lo hi st))) := by
  refine pf_body (rvs := [.tmp 2]) [(0, .d (.agg [.int .i64 lo, .int .i64 hi, .int .i64 st]))] Tryz.func249 Tryz.ntmps249 Tryz.results249 (fun S0 O0 w0 m0 hm0 => ?_)
  refine gS (gR ?_)
  refine sv rfl y_box ?_
  refine gF 0 [] (.agg [.int .i64 lo, .int .i64 hi, .int .i64 st]) rfl ?_
  refine vq rfl qA ?_
  refine gN (tN (gS (gR ?_)))
  refine vq rfl (qG (by exact sz199) u199 rfl) ?_
  refine vq rfl (q_buildS pl199 zr199) ?_
  refine vq rfl ((q_structeq (eq_rg lo hi st))) ?_
  refine vq rfl qA ?_
  refine gN (tN (gS (gR ?_)))
  refine vq rfl (qF u199 rfl sz3) ?_
  refine vq rfl (qL u3) ?_
  refine vq rfl (qF u199 rfl sz3) ?_
  refine vq rfl (qL u3) ?_
  refine vq rfl q_eql ?_
  refine vq rfl qM ?_
  refine sg rfl (fun hg => qF u199 rfl sz3) ?_
  refine sg rfl (fun hg => sP 15 rfl hg (qL u3)) ?_
  refine sg rfl (fun hg => sP 16 rfl hg q_eql) ?_
  refine vq rfl q_and ?_
  refine vq rfl qA ?_
  refine gN (tN ?_)
  refine G_seq_cut (α := Unit) (fun _u => ⟨[(1, .d (.ptr (.agg [.int .i64 lo, .int .i64 hi, .int .i64 st]))), (2, .d (.int .i64 0))], []⟩) (fun _u => checkS lo hi st = limS lo hi) (fun Q' hn he hr => ?_) (fun _u h_u => ?_)
  ·
    refine gS ?_
    refine gP [0, 1, 2, 3, 4, 5] ?_
    refine gR ?_
    refine vq rfl qM ?_
    refine vq rfl q_not ?_
    refine vq rfl qM ?_
    refine sg rfl (fun hg => qM) ?_
    refine sg rfl (fun hg => sP 22 rfl hg q_not) ?_
    refine vq rfl q_and ?_
    refine gN (tN ?_)
    refine gC (fun hb0 => ?_) (fun hb0 => ?_)
    ·
      refine gS (gS (gR ?_))
      refine vq rfl (qF u199 rfl sz3) ?_
      refine vq rfl (qL u3) ?_
      refine vq rfl (qF u199 rfl sz3) ?_
      refine vq rfl (qL u3) ?_
      refine vq rfl q_geq ?_
      refine vq rfl qM ?_
      refine sg rfl (fun hg => qF u199 rfl sz3) ?_
      refine sg rfl (fun hg => sP 31 rfl hg (qL u3)) ?_
      refine sg rfl (fun hg => sP 32 rfl hg q_eql) ?_
      refine vq rfl q_or ?_
      refine gN (tN ?_)
      refine gC (fun hb1 => ?_) (fun hb1 => ?_)
      ·
        refine gS ?_
        refine gP [0, 1, 2, 3, 4, 5] ?_
        refine gR ?_
        refine vq rfl qA ?_
        refine gN (tN (gT (tR ?_)))
        refine hr _ ?_
        refine fin1 (by simp) ?_
        exact ⟨by rw [checkS, if_pos hb0, if_pos hb1], rfl⟩
      have hst : st ≠ 0 := by
        rintro rfl
        simp at hb1
      refine gK (tN (gS ?_))
      refine gP [0, 1, 2, 3, 4, 5] ?_
      refine gR ?_
      refine vq rfl (qF u199 rfl sz3) ?_
      refine vq rfl (qL u3) ?_
      refine vq rfl (q_convert u3 u286) ?_
      refine vq rfl qA ?_
      refine gN (tN ?_)
      refine G_seq_cut (α := Int) (fun x => ⟨[(1, .d (.ptr (.agg [.int .i64 lo, .int .i64 hi, .int .i64 st]))), (2, .d (.int .i64 0)), (5, .d (.int .u64 x))], []⟩) (fun x => x = stepS st) (fun Q' hn he hr => ?_) (fun x hx => ?_)
      ·
        refine gS (gR ?_)
        refine vq rfl (qF u199 rfl sz3) ?_
        refine vq rfl (qL u3) ?_
        refine vq rfl q_lss ?_
        refine gN (tN ?_)
        refine gC (fun hb2 => ?_) (fun hb2 => ?_)
        ·
          refine gR ?_
          refine vq rfl qM ?_
          refine vq rfl ((q_neg (hr := rfl))) ?_
          refine vq rfl qA ?_
          refine gN ?_
          refine hn _ (U (0 - U st)) (by rw [stepS, if_pos (of_decide_eq_true hb2)]) le_of
        refine gK ?_
        refine hn _ (U st) (by rw [stepS, if_neg (of_decide_eq_false hb2)]) le_of
      have hx0 : x ≠ 0 := by
        rw [hx]
        unfold stepS
        split
        · rename_i h; exact Un_ne hw h
        · exact U_ne hw hst
      refine gS (gR ?_)
      refine vq rfl (qF u199 rfl sz3) ?_
      refine vq rfl (qL u3) ?_
      refine vq rfl (qF u199 rfl sz3) ?_
      refine vq rfl (qL u3) ?_
      refine vq rfl (q_sub (hw := rfl)) ?_
      refine vq rfl (q_convert u3 u286) ?_
      refine vq rfl qM ?_
      refine vq rfl (q_rem hx0 rfl) ?_
      refine vq rfl q_neq ?_
      refine gN (tN ?_)
      refine gC (fun hb3 => ?_) (fun hb3 => ?_)
      ·
        refine gS ?_
        refine gP [0, 1, 2, 3, 4, 5] ?_
        refine gR ?_
        refine vq rfl qA ?_
        refine gN (tN (gT ?_))
        refine hr _ ?_
        refine fin1 (by simp) ?_
        exact ⟨by rw [checkS, if_pos hb0, if_neg (by rw [hb1]; decide), if_pos (by rw [← hx]; exact hb3)], rfl⟩
      refine gK ?_
      refine hn _ () (by rw [checkS, if_pos hb0, if_neg (by rw [hb1]; decide), if_neg (by rw [← hx]; show ¬ ((U (W (hi - lo))).tmod x != 0) = true; rw [show ((U (W (hi - lo))).tmod x != 0) = false from hb3]; decide)]) le_of
    refine gK ?_
    refine hn _ () (by rw [checkS, if_neg (by rw [hb0]; decide)]) le_of
  skip
  refine gS (gS (gR ?_))
  refine vq rfl (qF u199 rfl sz3) ?_
  refine vq rfl (qL u3) ?_
  refine gL (xs := [.tmp 53]) rfl (c303 lo) ?_
  refine vq rfl q_not ?_
  refine vq rfl qM ?_
  refine sg rfl (fun hg => qF u199 rfl sz3) ?_
  refine sg rfl (fun hg => sP 57 rfl hg (qL u3)) ?_
  refine g_callg (xs := [.tmp 58]) rfl (fun hg => c303 hi) ?_
  refine sg rfl (fun hg => sP 59 rfl hg q_not) ?_
  refine vq rfl q_or ?_
  refine gN (tN ?_)
  refine gC (fun hb4 => ?_) (fun hb4 => ?_)
  ·
    refine gS ?_
    refine gP [0, 1, 2, 3, 4, 5] ?_
    refine gR ?_
    refine vq rfl qA ?_
    refine gN (tN (gT (tR ?_)))
    refine fin1 (by simp) ?_
    exact ⟨by rw [h_u, limS, if_pos hb4], rfl⟩
  refine gK (tN (gS ?_))
  refine gP [0, 1, 2, 3, 4, 5] ?_
  refine gR ?_
  refine vq rfl qA ?_
  refine gN (tN (gT ?_))
  refine fin1 (by simp) ?_
  exact ⟨by rw [h_u, limS, if_neg (by rw [hb4]; decide)], rfl⟩
set_option maxHeartbeats 1000000 in
theorem c250 (lo hi st : Int) (hw : wf64 st) (h0 : lo ≤ hi → st ≠ 0) : Pf Tryz.prog 250 [.agg [.int .i64 lo, .int .i64 hi, .int .i64 st]] (.d (.agg [.int .i64 (seriesS lo hi st).1, .int .i64 (seriesS lo hi st).2.1, .int .i64 (seriesS lo hi st).2.2])) := by
  refine pf_body (rvs := [.cell 2 260]) [(0, .d (.agg [.int .i64 lo, .int .i64 hi, .int .i64 st]))] Tryz.func250 Tryz.ntmps250 Tryz.results250 (fun S0 O0 w0 m0 hm0 => ?_)
  refine gS (gR ?_)
  refine sv rfl y_box ?_
  refine gF 0 [] (.agg [.int .i64 lo, .int .i64 hi, .int .i64 st]) rfl ?_
  refine sv rfl (y_alloc zr260) ?_
  refine gN (tN (gS (G_block (gS (gR ?_)))))
  refine vq rfl (qF u199 rfl sz3) ?_
  refine vq rfl (qL u3) ?_
  refine vq rfl (qF u199 rfl sz3) ?_
  refine vq rfl (qL u3) ?_
  refine vq rfl q_gtr ?_
  refine vq rfl qA ?_
  refine gN (tN ?_)
  refine gC (fun hb0 => ?_) (fun hb0 => ?_)
  ·
    refine gS (gR ?_)
    refine vq rfl (q_buildS pl260 zr260) ?_
    refine sa rfl (dS sz260) ?_
    refine gN (tN (gT (bR (tR ?_))))
    refine findc sz260 u260 (by simp) ?_
    exact ⟨by rw [seriesS, if_pos (of_decide_eq_true hb0)], rfl⟩
  have hle := of_decide_eq_false hb0
  have hst := h0 (by omega)
  refine gS (gR ?_)
  refine vq rfl (qF u199 rfl sz3) ?_
  refine vq rfl (qL u3) ?_
  refine vq rfl q_lss ?_
  refine vq rfl qA ?_
  refine gN (tN ?_)
  refine gC (fun hb1 => ?_) (fun hb1 => ?_)
  ·
    refine gS ?_
    refine gP [0, 1, 2] ?_
    refine g_cg [14, 15, 16, 17, 18, 19, 20, 21, 22, 23, 24, 25, 26, 27, 28] (fun bq => [cond (bq 15) [.d (.int .i64 hi), .d (.int .i64 st), .d (.int .i64 (W (W ((W (hi - lo)).tdiv (W (0 - st))) + 1)))] [.d (.int .i64 0), .d (.int .i64 0), .d (.int .i64 0)]]) rfl ?_
    refine cP [] ?_
    refine cS 1 (fun bq rest hc1 hc2 hc3 => vq rfl (qF u199 rfl sz3) (gN ⟨rfl, rfl⟩)) ?_
    refine cP [0] ?_
    refine cS 2 (fun bq rest hc1 hc2 hc3 => vq rfl (qL u3) (gN ⟨rfl, rfl⟩)) ?_
    refine cP [] ?_
    refine cS 3 (fun bq rest hc1 hc2 hc3 => vq rfl (qF u199 rfl sz3) (gN ⟨rfl, rfl⟩)) ?_
    refine cP [2] ?_
    refine cS 4 (fun bq rest hc1 hc2 hc3 => vq rfl (qL u3) (gN ⟨rfl, rfl⟩)) ?_
    refine cP [] ?_
    refine cS 5 (fun bq rest hc1 hc2 hc3 => vq rfl (qF u199 rfl sz3) (gN ⟨rfl, rfl⟩)) ?_
    refine cP [4] ?_
    refine cS 6 (fun bq rest hc1 hc2 hc3 => vq rfl (qL u3) (gN ⟨rfl, rfl⟩)) ?_
    refine cP [] ?_
    refine cS 7 (fun bq rest hc1 hc2 hc3 => vq rfl (qF u199 rfl sz3) (gN ⟨rfl, rfl⟩)) ?_
    refine cP [6] ?_
    refine cS 8 (fun bq rest hc1 hc2 hc3 => vq rfl (qL u3) (gN ⟨rfl, rfl⟩)) ?_
    refine cP [5, 7] ?_
    refine cS 9 (fun bq rest hc1 hc2 hc3 => vq rfl (q_sub (hw := rfl)) (gN ⟨rfl, rfl⟩)) ?_
    refine cP [] ?_
    refine cS 10 (fun bq rest hc1 hc2 hc3 => vq rfl (qF u199 rfl sz3) (gN ⟨rfl, rfl⟩)) ?_
    refine cP [9] ?_
    refine cS 11 (fun bq rest hc1 hc2 hc3 => vq rfl (qL u3) (gN ⟨rfl, rfl⟩)) ?_
    refine cP [10] ?_
    refine cS 12 (fun bq rest hc1 hc2 hc3 => vq rfl ((q_neg (hr := rfl))) (gN ⟨rfl, rfl⟩)) ?_
    refine cP [8, 11] ?_
    refine cS 13 (fun bq rest hc1 hc2 hc3 => vq rfl (q_quo (W_neg hw (of_decide_eq_true hb1)) rfl) (gN ⟨rfl, rfl⟩)) ?_
    refine cP [12] ?_
    refine cS 14 (fun bq rest hc1 hc2 hc3 => vq rfl (q_add (hw := rfl)) (gN ⟨rfl, rfl⟩)) ?_
    refine cP [1, 3, 13] ?_
    refine cS 15 (fun bq rest hc1 hc2 hc3 => vq rfl (q_buildS pl260 zr260) (gN ⟨rfl, rfl⟩)) ?_
    refine cP [14, 0, 1, 2, 3, 4, 5, 6, 7, 8, 9, 10, 11, 12, 13, 14] ?_
    refine cg_act 16 (fun bq rest hc1 hc2 hc3 => by
        have e2 : upd bq 15 15 = true := rfl
        simp only [hc1, cond_false]
        refine sa rfl (dS sz260) ?_
        exact (gN ⟨rfl, by rw [e2]; rfl⟩)) ?_
    refine cg_done (mem'' := [[.d (.int .i64 hi), .d (.int .i64 st), .d (.int .i64 (W (W ((W (hi - lo)).tdiv (W (0 - st))) + 1)))]]) ?_
    refine tN (gT (bR (tR ?_)))
    refine findc sz260 u260 (by simp) ?_
    exact ⟨by rw [seriesS, if_neg hle, if_pos (of_decide_eq_true hb1)], rfl⟩
  refine gK (bN (tN (gS ?_)))
  refine gP [0, 1, 2] ?_
  refine g_cg [29, 30, 31, 32, 33, 34, 35, 36, 37, 38, 39, 40, 41, 42] (fun bq => [cond (bq 14) [.d (.int .i64 lo), .d (.int .i64 st), .d (.int .i64 (W (W ((W (hi - lo)).tdiv st) + 1)))] [.d (.int .i64 0), .d (.int .i64 0), .d (.int .i64 0)]]) rfl ?_
  refine cP [] ?_
  refine cS 1 (fun bq rest hc1 hc2 hc3 => vq rfl (qF u199 rfl sz3) (gN ⟨rfl, rfl⟩)) ?_
  refine cP [0] ?_
  refine cS 2 (fun bq rest hc1 hc2 hc3 => vq rfl (qL u3) (gN ⟨rfl, rfl⟩)) ?_
  refine cP [] ?_
  refine cS 3 (fun bq rest hc1 hc2 hc3 => vq rfl (qF u199 rfl sz3) (gN ⟨rfl, rfl⟩)) ?_
  refine cP [2] ?_
  refine cS 4 (fun bq rest hc1 hc2 hc3 => vq rfl (qL u3) (gN ⟨rfl, rfl⟩)) ?_
  refine cP [] ?_
  refine cS 5 (fun bq rest hc1 hc2 hc3 => vq rfl (qF u199 rfl sz3) (gN ⟨rfl, rfl⟩)) ?_
  refine cP [4] ?_
  refine cS 6 (fun bq rest hc1 hc2 hc3 => vq rfl (qL u3) (gN ⟨rfl, rfl⟩)) ?_
  refine cP [] ?_
  refine cS 7 (fun bq rest hc1 hc2 hc3 => vq rfl (qF u199 rfl sz3) (gN ⟨rfl, rfl⟩)) ?_
  refine cP [6] ?_
  refine cS 8 (fun bq rest hc1 hc2 hc3 => vq rfl (qL u3) (gN ⟨rfl, rfl⟩)) ?_
  refine cP [5, 7] ?_
  refine cS 9 (fun bq rest hc1 hc2 hc3 => vq rfl (q_sub (hw := rfl)) (gN ⟨rfl, rfl⟩)) ?_
  refine cP [] ?_
  refine cS 10 (fun bq rest hc1 hc2 hc3 => vq rfl (qF u199 rfl sz3) (gN ⟨rfl, rfl⟩)) ?_
  refine cP [9] ?_
  refine cS 11 (fun bq rest hc1 hc2 hc3 => vq rfl (qL u3) (gN ⟨rfl, rfl⟩)) ?_
  refine cP [8, 10] ?_
  refine cS 12 (fun bq rest hc1 hc2 hc3 => vq rfl (q_quo hst rfl) (gN ⟨rfl, rfl⟩)) ?_
  refine cP [11] ?_
  refine cS 13 (fun bq rest hc1 hc2 hc3 => vq rfl (q_add (hw := rfl)) (gN ⟨rfl, rfl⟩)) ?_
  refine cP [1, 3, 12] ?_
  refine cS 14 (fun bq rest hc1 hc2 hc3 => vq rfl (q_buildS pl260 zr260) (gN ⟨rfl, rfl⟩)) ?_
  refine cP [13, 0, 1, 2, 3, 4, 5, 6, 7, 8, 9, 10, 11, 12, 13] ?_
  refine cg_act 15 (fun bq rest hc1 hc2 hc3 => by
      have e2 : upd bq 14 14 = true := rfl
      simp only [hc1, cond_false]
      refine sa rfl (dS sz260) ?_
      exact (gN ⟨rfl, by rw [e2]; rfl⟩)) ?_
  refine cg_done (mem'' := [[.d (.int .i64 lo), .d (.int .i64 st), .d (.int .i64 (W (W ((W (hi - lo)).tdiv st) + 1)))]]) ?_
  refine tN (gT ?_)
  refine findc sz260 u260 (by simp) ?_
  exact ⟨by rw [seriesS, if_neg hle, if_neg (of_decide_eq_false hb1)], rfl⟩
theorem c187 (lo hi st : Int) (hw : wf64 st) : Pf Tryz.prog 187 [.agg [.int .i64 lo, .int .i64 hi, .int .i64 st]] (.d (.int .i64 (sizeS lo hi st))) := by
  refine pf_body (rvs := [.tmp 2]) [(0, .d (.agg [.int .i64 lo, .int .i64 hi, .int .i64 st]))] Tryz.func187 Tryz.ntmps187 Tryz.results187 (fun S0 O0 w0 m0 hm0 => ?_)
  refine gS (gR ?_)
  refine sv rfl y_box ?_
  refine gF 0 [] (.agg [.int .i64 lo, .int .i64 hi, .int .i64 st]) rfl ?_
  refine vq rfl qA ?_
  refine gN (tN (gS (gS (gR ?_))))
  refine vq rfl (qG (by exact sz199) u199 rfl) ?_
  refine gL (xs := [.tmp 3]) rfl (c249 lo hi st hw) ?_
  refine vq rfl q_neq ?_
  refine gN (tN ?_)
  refine gC (fun hb0 => ?_) (fun hb0 => ?_)
  ·
    refine gS (gR ?_)
    refine vq rfl qA ?_
    refine gN (tN (gT (tR ?_)))
    refine fin1 (by simp) ?_
    exact ⟨by rw [sizeS, if_pos hb0], rfl⟩
  refine gK (tN (gS (gR ?_)))
  refine vq rfl (qG (by exact sz199) u199 rfl) ?_
  refine gL (xs := [.tmp 6]) rfl (c250 lo hi st hw (check_st (by simpa using hb0))) ?_
  refine vq rfl ((q_field u260 rfl u3)) ?_
  refine vq rfl qA ?_
  refine gN (tN (gT ?_))
  refine fin1 (by simp) ?_
  exact ⟨by rw [sizeS, if_neg (by rw [hb0]; decide)], rfl⟩
set_option maxHeartbeats 4000000 in
theorem c247 (lo hi st n : Int) (hw : wf64 st) : Pf Tryz.prog 247 [.agg [.int .i64 lo, .int .i64 hi, .int .i64 st], .int .i64 n] (.tup [.d (.agg [.int .i64 (byS lo hi st n).1.1, .int .i64 (byS lo hi st n).1.2.1, .int .i64 (byS lo hi st n).1.2.2]), .d (.int .i64 (byS lo hi st n).2)]) := by
  refine pf_body (rvs := [.cell 4 199, .tmp 5]) [(0, .d (.agg [.int .i64 lo, .int .i64 hi, .int .i64 st])), (1, .d (.int .i64 n))] Tryz.func247 Tryz.ntmps247 Tryz.results247 (fun S0 O0 w0 m0 hm0 => ?_)
  refine gS (gR ?_)
  refine sv rfl y_box ?_
  refine gF 0 [] (.agg [.int .i64 lo, .int .i64 hi, .int .i64 st]) rfl ?_
  refine sv rfl (y_alloc zr199) ?_
  refine vq rfl qA ?_
  refine gN (tN (gS (gS (gR ?_))))
  refine vq rfl (qG (by exact sz199) u199 rfl) ?_
  refine gL (xs := [.tmp 8]) rfl (c249 lo hi st hw) ?_
  refine vq rfl qA ?_
  refine gN (tN (G_block (gS (gR ?_))))
  refine vq rfl qM ?_
  refine vq rfl q_neq ?_
  refine vq rfl qA ?_
  refine gN (tN ?_)
  refine gC (fun hb0 => ?_) (fun hb0 => ?_)
  ·
    refine gS (gR ?_)
    refine vq rfl (q_buildS pl199 zr199) ?_
    refine vq rfl qM ?_
    refine sa rfl (dS sz199) ?_
    refine vq rfl qA ?_
    refine gN (tN (gT (bR (tR ?_))))
    refine fincd sz199 u199 (by simp) ?_
    exact ⟨by rw [byS, if_pos hb0], rfl⟩
  refine gS (gR ?_)
  refine vq rfl qM ?_
  refine vq rfl q_eql ?_
  refine vq rfl qA ?_
  refine gN (tN ?_)
  refine gC (fun hb1 => ?_) (fun hb1 => ?_)
  ·
    refine gS ?_
    refine gP [0, 1, 2, 4, 5, 6, 7] ?_
    refine gR ?_
    refine vq rfl (q_buildS pl199 zr199) ?_
    refine sa rfl (dS sz199) ?_
    refine vq rfl qA ?_
    refine gN (tN (gT (bR (tR ?_))))
    refine fincd sz199 u199 (by simp) ?_
    exact ⟨by rw [byS, if_neg (by rw [hb0]; decide), if_pos hb1], rfl⟩
  refine gS ?_
  refine gP [0, 1, 2, 4, 5, 6, 7] ?_
  refine gR ?_
  refine vq rfl qM ?_
  refine gL (xs := [.tmp 20]) rfl (c303 n) ?_
  refine vq rfl q_not ?_
  refine vq rfl qA ?_
  refine gN (tN ?_)
  refine gC (fun hb2 => ?_) (fun hb2 => ?_)
  ·
    refine gS (gR ?_)
    refine vq rfl (q_buildS pl199 zr199) ?_
    refine sa rfl (dS sz199) ?_
    refine vq rfl qA ?_
    refine gN (tN (gT (bR (tR ?_))))
    refine fincd sz199 u199 (by simp) ?_
    exact ⟨by rw [byS, if_neg (by rw [hb0]; decide), if_neg (by rw [hb1]; decide), if_pos hb2], rfl⟩
  refine gK (bN (tN (gS (gR ?_))))
  refine vq rfl (qG (by exact sz199) u199 rfl) ?_
  refine gL (xs := [.tmp 24]) rfl (c250 lo hi st hw (check_st (by simpa using hb0))) ?_
  refine sv rfl (y_alloc zr260) ?_
  refine sa rfl (dS sz260) ?_
  refine gN (tN ?_)
  refine G_seq_cut (α := Int × Int × Int × Int) (fun x => ⟨[(1, .d (.int .i64 x.2.2.2)), (4, .ref 0 0), (7, .ref 1 0)], [[.d (.int .i64 0), .d (.int .i64 0), .d (.int .i64 0)], [.d (.int .i64 x.1), .d (.int .i64 x.2.1), .d (.int .i64 x.2.2.1)]]⟩) (fun x => byS lo hi st n = byN x.1 x.2.1 x.2.2.1 x.2.2.2 ∧ x.2.2.2 ≠ 0) (fun Q' hn he hr => ?_) (fun x hx => ?_)
  ·
    refine gS (gR ?_)
    refine vq rfl qM ?_
    refine vq rfl q_lss ?_
    refine gN (tN ?_)
    refine gC (fun hb3 => ?_) (fun hb3 => ?_)
    ·
      refine gR ?_
      refine sv rfl (y_load_agg sz260 u260 rfl) ?_
      refine gL (xs := [.tmp 28]) rfl (c305 _ _ _) ?_
      refine vq rfl qM ?_
      refine vq rfl ((q_neg (hr := rfl))) ?_
      refine sa rfl (dS sz260) ?_
      refine vq rfl qA ?_
      refine gN ?_
      refine hn _ ((turnS (seriesS lo hi st).1 (seriesS lo hi st).2.1 (seriesS lo hi st).2.2).1, (turnS (seriesS lo hi st).1 (seriesS lo hi st).2.1 (seriesS lo hi st).2.2).2.1, (turnS (seriesS lo hi st).1 (seriesS lo hi st).2.1 (seriesS lo hi st).2.2).2.2, W (0 - n)) ⟨by rw [byS, if_neg (by rw [hb0]; decide), if_neg (by rw [hb1]; decide), if_neg (by rw [hb2]; decide), if_pos (of_decide_eq_true hb3)], W_neg (by have := hb2; simp [withinB] at this; unfold wf64; omega) (of_decide_eq_true hb3)⟩ le_of
    refine gK ?_
    refine hn _ ((seriesS lo hi st).1, (seriesS lo hi st).2.1, (seriesS lo hi st).2.2, n) ⟨by rw [byS, if_neg (by rw [hb0]; decide), if_neg (by rw [hb1]; decide), if_neg (by rw [hb2]; decide), if_neg (of_decide_eq_false hb3)], by show n ≠ 0; simpa using hb1⟩ le_of
  obtain ⟨f, b, c, m⟩ := x
  obtain ⟨hx1, hx2⟩ := hx
  replace hx2 : m ≠ 0 := hx2
  replace hx1 : byS lo hi st n = byN f b c m := hx1
  refine gS ?_
  refine g_cg [32, 33, 34, 35, 36, 37, 38, 39, 40, 41, 42, 43, 44, 45, 46, 47, 48, 5] (fun bq => [cond (bq 17) [.d (.int .i64 (byN f b c m).1.1), .d (.int .i64 (byN f b c m).1.2.1), .d (.int .i64 (byN f b c m).1.2.2)] [.d (.int .i64 0), .d (.int .i64 0), .d (.int .i64 0)], [.d (.int .i64 f), .d (.int .i64 b), .d (.int .i64 c)]]) rfl ?_
  refine cP [] ?_
  refine cS 1 (fun bq rest hc1 hc2 hc3 => sv rfl (y_fieldAt 0 u260 rfl sz3) (gN ⟨rfl, rfl⟩)) ?_
  refine cP [0] ?_
  refine cS 2 (fun bq rest hc1 hc2 hc3 => sv rfl (y_load_leaf u3) (gN ⟨rfl, rfl⟩)) ?_
  refine cP [] ?_
  refine cS 3 (fun bq rest hc1 hc2 hc3 => sv rfl (y_fieldAt 1 u260 rfl sz3) (gN ⟨rfl, rfl⟩)) ?_
  refine cP [2] ?_
  refine cS 4 (fun bq rest hc1 hc2 hc3 => sv rfl (y_load_leaf u3) (gN ⟨rfl, rfl⟩)) ?_
  refine cP [] ?_
  refine cS 5 (fun bq rest hc1 hc2 hc3 => vq rfl qM (gN ⟨rfl, rfl⟩)) ?_
  refine cP [3, 4] ?_
  refine cS 6 (fun bq rest hc1 hc2 hc3 => vq rfl (q_mul (hw := rfl)) (gN ⟨rfl, rfl⟩)) ?_
  refine cP [] ?_
  refine cS 7 (fun bq rest hc1 hc2 hc3 => sv rfl (y_fieldAt 2 u260 rfl sz3) (gN ⟨rfl, rfl⟩)) ?_
  refine cP [6] ?_
  refine cS 8 (fun bq rest hc1 hc2 hc3 => sv rfl (y_load_leaf u3) (gN ⟨rfl, rfl⟩)) ?_
  refine cP [] ?_
  refine cS 9 (fun bq rest hc1 hc2 hc3 => vq rfl qM (gN ⟨rfl, rfl⟩)) ?_
  refine cP [7, 8] ?_
  refine cS 10 (fun bq rest hc1 hc2 hc3 => vq rfl (q_add (hw := rfl)) (gN ⟨rfl, rfl⟩)) ?_
  refine cP [9] ?_
  refine cS 11 (fun bq rest hc1 hc2 hc3 => vq rfl (q_sub (hw := rfl)) (gN ⟨rfl, rfl⟩)) ?_
  refine cP [] ?_
  refine cS 12 (fun bq rest hc1 hc2 hc3 => vq rfl qM (gN ⟨rfl, rfl⟩)) ?_
  refine cP [10, 11] ?_
  refine cS 13 (fun bq rest hc1 hc2 hc3 => vq rfl (q_quo hx2 rfl) (gN ⟨rfl, rfl⟩)) ?_
  refine cP [1, 5, 12] ?_
  refine cS 14 (fun bq rest hc1 hc2 hc3 => vq rfl (q_buildS pl260 zr260) (gN ⟨rfl, rfl⟩)) ?_
  refine cP [13] ?_
  refine cS 15 (fun bq rest hc1 hc2 hc3 => gL (xs := [.tmp 45]) rfl (c304 _ _ _) (gN ⟨rfl, rfl⟩)) ?_
  refine cP [14] ?_
  refine cS 16 (fun bq rest hc1 hc2 hc3 => vq rfl qE (gN ⟨rfl, rfl⟩)) ?_
  refine cP [14] ?_
  refine cS 17 (fun bq rest hc1 hc2 hc3 => vq rfl qE (gN ⟨rfl, rfl⟩)) ?_
  refine cP [15, 14, 0, 1, 2, 3, 4, 5, 6, 7, 8, 9, 10, 11, 12, 13, 14, 15, 16] ?_
  refine cg_act 18 (fun bq rest hc1 hc2 hc3 => by
      have e2 : upd bq 17 17 = true := rfl
      simp only [hc1, cond_false]
      refine sa rfl (dS sz199) ?_
      exact (gN ⟨rfl, by rw [e2]; rfl⟩)) ?_
  refine cP [16, 17, 0, 1, 2, 3, 4, 5, 6, 7, 8, 9, 10, 11, 12, 13, 14, 15, 16, 17] ?_
  refine cS 19 (fun bq rest hc1 hc2 hc3 => vq rfl qA (gN ⟨rfl, rfl⟩)) ?_
  refine cg_done (mem'' := [[.d (.int .i64 (byN f b c m).1.1), .d (.int .i64 (byN f b c m).1.2.1), .d (.int .i64 (byN f b c m).1.2.2)], [.d (.int .i64 f), .d (.int .i64 b), .d (.int .i64 c)]]) ?_
  refine tN (gT ?_)
  refine fincd sz199 u199 (by simp) ?_
  exact ⟨by rw [hx1]; rfl, rfl⟩
set_option maxHeartbeats 4000000 in
theorem c248 (lo hi st n : Int) (hw : wf64 st) : Pf Tryz.prog 248 [.agg [.int .i64 lo, .int .i64 hi, .int .i64 st], .int .i64 n] (.tup [.d (.agg [.int .i64 (countS lo hi st n).1.1, .int .i64 (countS lo hi st n).1.2.1, .int .i64 (countS lo hi st n).1.2.2]), .d (.int .i64 (countS lo hi st n).2)]) := by
  refine pf_body (rvs := [.cell 4 199, .tmp 5]) [(0, .d (.agg [.int .i64 lo, .int .i64 hi, .int .i64 st])), (1, .d (.int .i64 n))] Tryz.func248 Tryz.ntmps248 Tryz.results248 (fun S0 O0 w0 m0 hm0 => ?_)
  refine gS (gR ?_)
  refine sv rfl y_box ?_
  refine gF 0 [] (.agg [.int .i64 lo, .int .i64 hi, .int .i64 st]) rfl ?_
  refine sv rfl (y_alloc zr199) ?_
  refine vq rfl qA ?_
  refine gN (tN (gS (gS (gR ?_))))
  refine vq rfl (qG (by exact sz199) u199 rfl) ?_
  refine gL (xs := [.tmp 8]) rfl (c249 lo hi st hw) ?_
  refine vq rfl qA ?_
  refine gN (tN (gS (gR ?_)))
  refine vq rfl qM ?_
  refine vq rfl q_neq ?_
  refine gN (tN ?_)
  refine gC (fun hb0 => ?_) (fun hb0 => ?_)
  ·
    refine gS (gR ?_)
    refine vq rfl (q_buildS pl199 zr199) ?_
    refine vq rfl qM ?_
    refine sa rfl (dS sz199) ?_
    refine vq rfl qA ?_
    refine gN (tN (gT (tR ?_)))
    refine fincd sz199 u199 (by simp) ?_
    exact ⟨by rw [countS, if_pos hb0], rfl⟩
  refine gK (tN (gS (gR ?_)))
  refine vq rfl (qG (by exact sz199) u199 rfl) ?_
  refine gL (xs := [.tmp 14]) rfl (c250 lo hi st hw (check_st (by simpa using hb0))) ?_
  refine sv rfl (y_alloc zr260) ?_
  refine sa rfl (dS sz260) ?_
  refine gN (tN (gS (gS ?_)))
  refine gP [0, 1, 2, 4, 5, 6, 7] ?_
  refine gR ?_
  refine vq rfl qM ?_
  refine sv rfl (y_fieldAt 2 u260 rfl sz3) ?_
  refine sv rfl (y_load_leaf u3) ?_
  refine vq rfl q_gtr ?_
  refine vq rfl qM ?_
  refine sg rfl (fun hg => qM) ?_
  refine sg rfl (fun hg => q_fieldAddr u260 rfl sz3) ?_
  refine sg rfl (fun hg => sP 22 rfl hg (qO u3)) ?_
  refine sg rfl (fun hg => sP 23 rfl hg (q_neg (hr := rfl))) ?_
  refine sg rfl (fun hg => sP 24 rfl hg (sP 21 rfl hg q_lss)) ?_
  refine vq rfl q_or ?_
  refine gN (tN ?_)
  refine gC (fun hb1 => ?_) (fun hb1 => ?_)
  ·
    refine gS (gR ?_)
    refine vq rfl (q_buildS pl199 zr199) ?_
    refine sa rfl (dS sz199) ?_
    refine vq rfl qA ?_
    refine gN (tN (gT (tR ?_)))
    refine fincd sz199 u199 (by simp) ?_
    exact ⟨by rw [countS, if_neg (by rw [hb0]; decide), if_pos (show (decide (n > (seriesS lo hi st).2.2) || decide (n < W (0 - (seriesS lo hi st).2.2))) = true from hb1)], rfl⟩
  refine gK (tN ?_)
  refine G_seq_cut (α := Int × Int) (fun x => ⟨[(1, .d (.int .i64 x.2)), (4, .ref 0 0), (7, .ref 1 0)], [[.d (.int .i64 0), .d (.int .i64 0), .d (.int .i64 0)], [.d (.int .i64 x.1), .d (.int .i64 (seriesS lo hi st).2.1), .d (.int .i64 (seriesS lo hi st).2.2)]]⟩) (fun x => countS lo hi st n = normalS x.1 (seriesS lo hi st).2.1 x.2) (fun Q' hn he hr => ?_) (fun x hx => ?_)
  ·
    refine gS (gR ?_)
    refine vq rfl qM ?_
    refine vq rfl q_lss ?_
    refine gN (tN ?_)
    refine gC (fun hb2 => ?_) (fun hb2 => ?_)
    ·
      refine gS ?_
      refine gP [0, 1, 2, 4, 5, 6, 7] ?_
      refine gR ?_
      refine sv rfl (y_fieldAt 0 u260 rfl sz3) ?_
      refine sv rfl (y_load_leaf u3) ?_
      refine sv rfl (y_fieldAt 1 u260 rfl sz3) ?_
      refine sv rfl (y_load_leaf u3) ?_
      refine sv rfl (y_fieldAt 2 u260 rfl sz3) ?_
      refine sv rfl (y_load_leaf u3) ?_
      refine vq rfl qM ?_
      refine vq rfl (q_add (hw := rfl)) ?_
      refine vq rfl (q_mul (hw := rfl)) ?_
      refine vq rfl (q_add (hw := rfl)) ?_
      refine sv rfl (y_fieldAt 0 u260 rfl sz3) ?_
      refine sa rfl (dS sz3) ?_
      refine gN (tN ?_)
      refine gP [0, 1, 2, 4, 5, 6, 7] ?_
      refine gR ?_
      refine vq rfl qM ?_
      refine vq rfl ((q_neg (hr := rfl))) ?_
      refine vq rfl qA ?_
      refine gN ?_
      refine hn _ (W ((seriesS lo hi st).1 + W ((seriesS lo hi st).2.1 * W ((seriesS lo hi st).2.2 + n))), W (0 - n)) (by rw [countS, if_neg (by rw [hb0]; decide), if_neg (by show ¬ (_ || _) = true; rw [show (decide (n > (seriesS lo hi st).2.2) || decide (n < W (0 - (seriesS lo hi st).2.2))) = false from hb1]; decide), if_pos (of_decide_eq_true hb2)]) le_of
    refine gK ?_
    refine hn _ ((seriesS lo hi st).1, n) (by rw [countS, if_neg (by rw [hb0]; decide), if_neg (by show ¬ (_ || _) = true; rw [show (decide (n > (seriesS lo hi st).2.2) || decide (n < W (0 - (seriesS lo hi st).2.2))) = false from hb1]; decide), if_neg (of_decide_eq_false hb2)]) le_of
  obtain ⟨f, m⟩ := x
  replace hx : countS lo hi st n = normalS f (seriesS lo hi st).2.1 m := hx
  refine gS ?_
  refine gP [0, 1, 2, 4, 5, 6, 7] ?_
  refine gR ?_
  refine vq rfl qM ?_
  refine sv rfl (y_fieldAt 2 u260 rfl sz3) ?_
  refine sa rfl (dS sz3) ?_
  refine gN (tN (gS (gR ?_)))
  refine sv rfl (y_load_agg sz260 u260 rfl) ?_
  refine gL (xs := [.tmp 45]) rfl (c304 _ _ _) ?_
  refine vq rfl qE ?_
  refine vq rfl qE ?_
  refine sa rfl (dS sz199) ?_
  refine vq rfl qA ?_
  refine gN (tN (gT ?_))
  refine fincd sz199 u199 (by simp) ?_
  exact ⟨by rw [hx], rfl⟩
end Go.Proofs.YtklkbfpjimeaoaaGreat
