/- Contracts of functions. Conditions: none. -/
import Derived.Test.YtphfdmagkgpgfaaWn
namespace Go.Proofs.Ytphfdmagkgpgfaa
open Go Go.Proofs.Ytphfdmagkgpgfaa.E

theorem enc_zero {xs : List WIns} (h : encE xs = 0) : ∃ ws, encS xs = some ws ∧ encL xs = ws ∧ ¬ (xs.length : Int) > 160000 := by
  unfold encE at h
  split at h
  · cases h
  · rename_i hl
    cases he : encS xs with
    | none => rw [he] at h; cases h
    | some ws => exact ⟨ws, rfl, by unfold encL; rw [if_neg hl, he]; rfl, hl⟩
theorem dec_zero {ws : List Int} (h : decE ws = 0) : ∃ xs, decS ws = some xs ∧ decL ws = xs ∧ ¬ (ws.length : Int) > 320000 := by
  unfold decE at h
  split at h
  · cases h
  · rename_i hl
    cases he : decS ws with
    | none => rw [he] at h; cases h
    | some xs => exact ⟨xs, rfl, by unfold decL; rw [if_neg hl, he]; rfl, hl⟩
theorem encL_words (xs : List WIns) : Words (encL xs) := by
  unfold encL
  split
  · intro x hx; cases hx
  · cases he : encS xs with
    | none => intro x hx; cases hx
    | some ws => exact encS_words he
theorem dec_enc_law {xs : List WIns} (ho : ∀ x ∈ xs, InsOk x) (hl : xs.length ≤ 300) (h : encE xs = 0) : decL (encL xs) = xs ∧ decE (encL xs) = 0 := by
  obtain ⟨ws, h1, h2, _⟩ := enc_zero h
  have hlen := encS_len h1
  have hd := dec_of_enc ho h1
  have hn : ¬ (ws.length : Int) > 320000 := by omega
  rw [h2]
  unfold decL decE
  rw [if_neg hn, if_neg hn, hd]
  exact ⟨rfl, rfl⟩
theorem enc_app_law {xs ys : List WIns} (hl : xs.length ≤ 300) (hl' : ys.length ≤ 300) (h : encE xs = 0) (h' : encE ys = 0) : encL (xs ++ ys) = encL xs ++ encL ys ∧ encE (xs ++ ys) = 0 := by
  obtain ⟨a, h1, h2, _⟩ := enc_zero h
  obtain ⟨b, h3, h4, _⟩ := enc_zero h'
  have he := encS_append h1 h3
  have hn : ¬ ((xs ++ ys).length : Int) > 160000 := by rw [List.length_append]; omega
  rw [h2, h4]
  unfold encL encE
  rw [if_neg hn, if_neg hn, he]
  exact ⟨rfl, rfl⟩
theorem enc_dec_law {ws : List Int} (hw : Words ws) (hl : ws.length ≤ 300) (h : decE ws = 0) : encL (decL ws) = ws ∧ encE (decL ws) = 0 := by
  obtain ⟨xs, h1, h2, _⟩ := dec_zero h
  have he := enc_of_dec _ (Nat.le_refl _) hw h1
  have hlen := decS_len _ (Nat.le_refl _) h1
  have hn : ¬ (xs.length : Int) > 160000 := by omega
  rw [h2]
  unfold encL encE
  rw [if_neg hn, if_neg hn, he]
  exact ⟨rfl, rfl⟩
theorem c30x {xs : List WIns} (ho : ∀ x ∈ xs, InsOk x) (hl : xs.length ≤ 300) (h : encE xs = 0) : Pf Try.prog 30 [.sl (u64s (encL xs))] (.tup [.d (.sl (xs.map WIns.d)), .d (.int .i64 0)]) := by
  obtain ⟨h1, h2⟩ := dec_enc_law ho hl h
  have h3 := encL_len xs
  have := c30t (encL xs) (by omega) (encL_words xs)
  rw [h1, h2] at this
  exact this
theorem c27app {xs ys : List WIns} (hl : xs.length ≤ 300) (hl' : ys.length ≤ 300) (h : encE xs = 0) (h' : encE ys = 0) : Pf Try.prog 27 [.sl (xs.map WIns.d ++ ys.map WIns.d)] (.tup [.d (.sl (u64s (encL xs) ++ u64s (encL ys))), .d (.int .i64 0)]) := by
  obtain ⟨h1, h2⟩ := enc_app_law hl hl' h h'
  have := c27t (xs ++ ys) (by rw [List.length_append]; omega)
  rw [h1, h2] at this
  unfold insD u64s at this
  rw [List.map_append, List.map_append] at this
  exact this
theorem c32app (a b : List Int) (hl : (a ++ b).length ≤ 1000000) : Pf Try.prog 32 [.sl (u64s a ++ u64s b), .sl (u64s a ++ u64s b)] (.d (.bool true)) := by
  have := c32 (a ++ b) (a ++ b) hl
  rw [decide_eq_true rfl] at this
  unfold u64s at this
  rw [List.map_append] at this
  exact this
theorem c27x {ws : List Int} (hw : Words ws) (hl : ws.length ≤ 300) (h : decE ws = 0) : Pf Try.prog 27 [.sl ((decL ws).map WIns.d)] (.tup [.d (.sl (u64s ws)), .d (.int .i64 0)]) := by
  obtain ⟨h1, h2⟩ := enc_dec_law hw hl h
  have h3 := decL_len ws
  have := c27t (decL ws) (by omega)
  rw [h1, h2] at this
  exact this
theorem ins_el2 (xs ys : List WIns) : ∀ x ∈ xs.map WIns.d ++ ys.map WIns.d, ∃ dx, x = .agg dx ∧ dx.length = 6 := fun x hx => by
  rcases List.mem_append.1 hx with h | h
  · exact ins_el xs x h
  · exact ins_el ys x h
theorem long_cb (xs ys : List WIns) : ∀ x ∈ xs.map WIns.d ++ ys.map WIns.d, Pf Try.prog 35 ([] ++ [x] ++ []) (.d (.bool (longT x))) := fun x hx => by
  rcases List.mem_append.1 hx with h | h
  · obtain ⟨i, _, rfl⟩ := List.mem_map.1 h; exact c35 i
  · obtain ⟨i, _, rfl⟩ := List.mem_map.1 h; exact c35 i

set_option maxHeartbeats 2000000 in
theorem c8 (xs ys : List WIns) (ws : List Int) (hlx : xs.length ≤ 140737488355328) (hly : ys.length ≤ 140737488355328) (hlw : ws.length ≤ 140737488355328) (hox : ∀ x ∈ xs, InsOk x) (hwords : Words ws) : Pf Try.prog 8 [insD xs, insD ys, .sl (u64s ws)] (.d (.bool true)) := by
  refine pf_body (rvs := [.tmp 6]) [(0, .d (.sl (xs.map WIns.d))), (1, .d (.sl (ys.map WIns.d))), (2, .d (.sl (u64s ws)))] Try.func8 Try.ntmps8 Try.results8 (fun S0 O0 w0 m0 hm0 => ?_)
  refine G_seq ?_
  refine g_region ?_
  refine sv rfl (y_assign) ?_
  refine GOps_nil ?_
  refine thn_normal ?_
  refine G_seq ?_
  refine G_seq_cut (α := Bool) (fun z => ⟨[(38, .d (.bool z)), (0, .d (.sl (xs.map WIns.d))), (1, .d (.sl (ys.map WIns.d))), (2, .d (.sl (u64s ws)))], []⟩) (fun z => z = false → xs.length ≤ 300 ∧ ys.length ≤ 300 ∧ ws.length ≤ 300) (fun Q' hn he hr => ?_) (fun z hz => ?_)
  ·
    refine g_region ?_
    refine sv rfl (y_move) ?_
    refine sv rfl (y_len Try.underlying44) ?_
    refine sv rfl (y_gtr) ?_
    refine sv rfl (y_move) ?_
    refine sg rfl (fun hg => q_move) ?_
    refine sg rfl (fun hg => strip 23 (by simp only [GS.set, GS.get, List.lookup_cons, Nat.reduceBEq] <;> rfl) hg (q_len Try.underlying44)) ?_
    refine sg rfl (fun hg => strip 24 (by simp only [GS.set, GS.get, List.lookup_cons, Nat.reduceBEq] <;> rfl) hg (q_gtr)) ?_
    refine sv rfl (y_or) ?_
    refine sv rfl (y_move) ?_
    refine sg rfl (fun hg => q_move) ?_
    refine sg rfl (fun hg => strip 28 (by simp only [GS.set, GS.get, List.lookup_cons, Nat.reduceBEq] <;> rfl) hg (q_len Try.underlying45)) ?_
    refine sg rfl (fun hg => strip 29 (by simp only [GS.set, GS.get, List.lookup_cons, Nat.reduceBEq] <;> rfl) hg (q_gtr)) ?_
    refine sv rfl (y_or) ?_
    refine sv rfl (y_move) ?_
    refine g_split 32 false (fun hsp => ?_) (fun hsp => ?_)
    ·
      have hl300 : xs.length ≤ 300 ∧ ys.length ≤ 300 ∧ ws.length ≤ 300 := by
        simp [u64s] at hsp
        omega
      obtain ⟨hq1, hq2, hq3⟩ := hl300
      refine sgo rfl hsp (y_move) ?_
      refine g_callo (xs := [.tmp 33]) rfl hsp (c34 xs (by omega)) ?_
      refine sgo rfl hsp (y_move) ?_
      refine sgo rfl hsp (y_appendA Try.underlying44 inf48 (xs := xs.map WIns.d) (ys := ys.map WIns.d) (ins_cells ys) (by simp [lim, u64s]; omega) (by simp [lim, u64s]; omega)) ?_
      refine g_callo (xs := [.tmp 36, .func 35]) rfl hsp (c25 (xs.map WIns.d ++ ys.map WIns.d) 35 [] [] longT (by simp; omega) (ins_el2 xs ys) (long_cb xs ys)) ?_
      refine sv rfl (y_or) ?_
      refine GOps_nil ?_
      refine hn _ _ ?_ le_of
      exact fun _ => ⟨hq1, hq2, hq3⟩
    ·
      have hoff : ¬ (((decide (((xs.map WIns.d).length : Int) > 300) || decide (((ys.map WIns.d).length : Int) > 300)) || decide (((u64s ws).length : Int) > 300)) = false) := by
        intro h
        rw [h] at hsp
        exact absurd hsp (by decide)
      refine sgf rfl hsp ?_
      refine sgf rfl hsp ?_
      refine sgf rfl hsp ?_
      refine sgf rfl hsp ?_
      refine sgf rfl hsp ?_
      refine sv rfl (y_or (u := false) (hy := under_absurd hoff _ _)) ?_
      refine GOps_nil ?_
      refine hn _ _ ?_ le_of
      exact fun hz => absurd (by simpa using hz) hoff
  ·
    skip
    refine g_cond (fun hb0 => ?_) (fun hb0 => ?_)
    ·
      refine G_seq ?_
      refine g_keep [0, 1, 2, 6, 7, 8, 9, 10, 11, 12, 13, 14, 15, 16, 17, 18] ?_
      refine g_region ?_
      refine g_call (xs := []) rfl (c20) ?_
      refine sv rfl (y_assign) ?_
      refine GOps_nil ?_
      refine thn_normal ?_
      refine G_ret ?_
      refine thn_ret ?_
      refine fin1 (by simp) ?_
      exact ⟨rfl, rfl⟩
    ·
      obtain ⟨hl1, hl2, hl3⟩ := hz hb0
      have hex := encL_len xs
      have hey := encL_len ys
      have hdw := decL_len ws
      refine G_skip ?_
      refine thn_normal ?_
      refine G_seq ?_
      refine g_keep [0, 1, 2, 6, 7, 8, 9, 10, 11, 12, 13, 14, 15, 16, 17, 18] ?_
      refine g_region ?_
      refine sv rfl (y_move) ?_
      refine g_call (xs := [.tmp 41]) rfl (c28 xs (by omega)) ?_
      refine g_call (xs := [.tmp 42]) rfl (c27t xs (by omega)) ?_
      refine sv rfl (y_move) ?_
      refine sv rfl (y_extract) ?_
      refine sv rfl (y_extract) ?_
      first | refine sv rfl (y_assign_take) ?_ | refine sv rfl (y_assign) ?_
      refine sv rfl (y_assign) ?_
      refine GOps_nil ?_
      refine thn_normal ?_
      refine G_seq ?_
      refine g_region ?_
      refine sv rfl (y_move) ?_
      refine g_call (xs := [.tmp 47]) rfl (c28 ys (by omega)) ?_
      refine g_call (xs := [.tmp 48]) rfl (c27t ys (by omega)) ?_
      refine sv rfl (y_move) ?_
      refine sv rfl (y_extract) ?_
      refine sv rfl (y_extract) ?_
      first | refine sv rfl (y_assign_take) ?_ | refine sv rfl (y_assign) ?_
      refine sv rfl (y_assign) ?_
      refine GOps_nil ?_
      refine thn_normal ?_
      refine G_seq_cut (α := Unit) (fun z => ⟨[(7, .d (.sl (u64s (encL xs)))), (8, .d (.int .i64 (encE xs))), (9, .d (.sl (u64s (encL ys)))), (10, .d (.int .i64 (encE ys))), (0, .d (.sl (xs.map WIns.d))), (1, .d (.sl (ys.map WIns.d))), (2, .d (.sl (u64s ws)))], []⟩) (fun z => True) (fun Q' hn he hr => ?_) (fun z hz => ?_)
      ·
        refine G_seq ?_
        refine g_keep [0, 1, 2, 6, 7, 8, 9, 10, 11, 12, 13, 14, 15, 16, 17, 18] ?_
        refine g_region ?_
        refine sv rfl (y_move) ?_
        refine sv rfl (y_eql) ?_
        refine GOps_nil ?_
        refine thn_normal ?_
        refine g_cond (fun hb1 => ?_) (fun hb1 => ?_)
        ·
          have he : encE xs = 0 := by simpa using hb1
          refine G_seq ?_
          refine g_region ?_
          refine sv rfl (y_move) ?_
          refine g_call (xs := [.tmp 55]) rfl (c30x hox hl1 he) ?_
          refine sv rfl (y_move) ?_
          refine sv rfl (y_extract) ?_
          refine sv rfl (y_extract) ?_
          first | refine sv rfl (y_assign_take) ?_ | refine sv rfl (y_assign) ?_
          refine sv rfl (y_assign) ?_
          refine GOps_nil ?_
          refine thn_normal ?_
          refine G_seq ?_
          refine g_region ?_
          refine sv rfl (y_move) ?_
          refine sv rfl (y_neq) ?_
          refine sv rfl (y_move) ?_
          refine sgo rfl rfl (y_move) ?_
          refine sgo rfl rfl (y_move) ?_
          refine g_callo (xs := [.tmp 63]) rfl rfl (c28 xs (by omega)) ?_
          refine g_callo (xs := [.tmp 62, .tmp 64]) rfl rfl (c33 xs (by omega)) ?_
          refine sgo rfl rfl (y_not) ?_
          refine sv rfl (y_or) ?_
          refine GOps_nil ?_
          refine thn_normal ?_
          refine g_cond (fun hb2 => ?_) (fun hb2 => ?_)
          ·
            simp at hb2
          ·
            refine G_skip ?_
            refine hn _ () trivial le_of
        ·
          refine G_skip ?_
          refine hn _ () trivial le_of
      ·
        skip
        refine G_seq_cut (α := Unit) (fun z => ⟨[(2, .d (.sl (u64s ws)))], []⟩) (fun z => True) (fun Q' hn he hr => ?_) (fun z hz => ?_)
        ·
          refine G_seq ?_
          refine g_region ?_
          refine sv rfl (y_move) ?_
          refine sv rfl (y_eql) ?_
          refine sv rfl (y_move) ?_
          refine sg rfl (fun hg => q_move) ?_
          refine sg rfl (fun hg => strip 71 (by simp only [GS.set, GS.get, List.lookup_cons, Nat.reduceBEq] <;> rfl) hg (q_eql)) ?_
          refine sv rfl (y_and) ?_
          refine GOps_nil ?_
          refine thn_normal ?_
          refine g_cond (fun hb3 => ?_) (fun hb3 => ?_)
          ·
            have he3 : encE xs = 0 ∧ encE ys = 0 := by simpa using hb3
            refine G_seq ?_
            refine g_region ?_
            refine sv rfl (y_move) ?_
            refine g_call (xs := [.tmp 75]) rfl (c28 xs (by omega)) ?_
            refine sv rfl (y_move) ?_
            refine g_call (xs := [.tmp 77]) rfl (c28 ys (by omega)) ?_
            refine sv rfl (y_appendA Try.underlying53 inf63 (xs := xs.map WIns.d) (ys := ys.map WIns.d) (ins_cells ys) (by simp [lim, u64s]; omega) (by simp [lim, u64s]; omega)) ?_
            refine g_call (xs := [.tmp 79]) rfl (c27app hl1 hl2 he3.1 he3.2) ?_
            refine sv rfl (y_move) ?_
            refine sv rfl (y_extract) ?_
            refine sv rfl (y_extract) ?_
            first | refine sv rfl (y_assign_take) ?_ | refine sv rfl (y_assign) ?_
            refine sv rfl (y_assign) ?_
            refine GOps_nil ?_
            refine thn_normal ?_
            refine G_seq ?_
            refine g_keep [0, 1, 2, 6, 7, 8, 9, 10, 11, 12, 13, 14, 15, 16, 17, 18] ?_
            refine g_region ?_
            refine sv rfl (y_move) ?_
            refine sv rfl (y_neq) ?_
            refine sv rfl (y_move) ?_
            refine sgo rfl rfl (y_move) ?_
            refine sgo rfl rfl (y_move) ?_
            refine g_callo (xs := [.tmp 87]) rfl rfl (c36 (encL xs) (by omega)) ?_
            refine sgo rfl rfl (y_move) ?_
            refine sgo rfl rfl (y_appendA Try.underlying45 inf61 (xs := u64s (encL xs)) (ys := u64s (encL ys)) (u64s_cells _) (by simp [lim, u64s]; omega) (by simp [lim, u64s]; omega)) ?_
            refine g_callo (xs := [.tmp 86, .tmp 90]) rfl rfl (c32app (encL xs) (encL ys) (by rw [List.length_append]; omega)) ?_
            refine sgo rfl rfl (y_not) ?_
            refine sv rfl (y_or) ?_
            refine GOps_nil ?_
            refine thn_normal ?_
            refine g_cond (fun hb4 => ?_) (fun hb4 => ?_)
            ·
              simp at hb4
            ·
              refine G_skip ?_
              refine hn _ () trivial le_of
          ·
            refine G_skip ?_
            refine hn _ () trivial le_of
        ·
          skip
          refine G_seq ?_
          refine G_seq ?_
          refine g_region ?_
          refine sv rfl (y_move) ?_
          refine g_call (xs := [.tmp 95]) rfl (c30t ws (by omega) hwords) ?_
          refine sv rfl (y_move) ?_
          refine sv rfl (y_extract) ?_
          refine sv rfl (y_extract) ?_
          first | refine sv rfl (y_assign_take) ?_ | refine sv rfl (y_assign) ?_
          refine sv rfl (y_assign) ?_
          refine GOps_nil ?_
          refine thn_normal ?_
          refine G_seq ?_
          refine g_keep [0, 1, 2, 6, 7, 8, 9, 10, 11, 12, 13, 14, 15, 16, 17, 18] ?_
          refine g_region ?_
          refine sv rfl (y_move) ?_
          refine sv rfl (y_eql) ?_
          refine GOps_nil ?_
          refine thn_normal ?_
          refine g_cond (fun hb5 => ?_) (fun hb5 => ?_)
          ·
            have he5 : decE ws = 0 := by simpa using hb5
            refine G_seq ?_
            refine g_region ?_
            refine sv rfl (y_move) ?_
            refine g_call (xs := [.tmp 102]) rfl (c27x hwords hl3 he5) ?_
            refine sv rfl (y_move) ?_
            refine sv rfl (y_extract) ?_
            refine sv rfl (y_extract) ?_
            first | refine sv rfl (y_assign_take) ?_ | refine sv rfl (y_assign) ?_
            refine sv rfl (y_assign) ?_
            refine GOps_nil ?_
            refine thn_normal ?_
            refine G_seq ?_
            refine g_region ?_
            refine sv rfl (y_move) ?_
            refine sv rfl (y_neq) ?_
            refine sv rfl (y_move) ?_
            refine sgo rfl rfl (y_move) ?_
            refine sgo rfl rfl (y_move) ?_
            refine g_callo (xs := [.tmp 109, .tmp 110]) rfl rfl (c32 ws ws (by omega)) ?_
            refine sgo rfl rfl (y_not) ?_
            refine sv rfl (y_or) ?_
            refine GOps_nil ?_
            refine thn_normal ?_
            refine g_cond (fun hb6 => ?_) (fun hb6 => ?_)
            ·
              simp at hb6
            ·
              refine G_skip ?_
              refine thn_normal ?_
              refine G_seq ?_
              refine g_keep [0, 1, 2, 6, 7, 8, 9, 10, 11, 12, 13, 14, 15, 16, 17, 18] ?_
              refine g_region ?_
              refine g_call (xs := []) rfl (c20) ?_
              refine sv rfl (y_assign) ?_
              refine GOps_nil ?_
              refine thn_normal ?_
              refine G_ret ?_
              refine fin1 (by simp) ?_
              exact ⟨rfl, rfl⟩
          ·
            refine G_skip ?_
            refine thn_normal ?_
            refine G_seq ?_
            refine g_region ?_
            refine g_call (xs := []) rfl (c20) ?_
            refine sv rfl (y_assign) ?_
            refine GOps_nil ?_
            refine thn_normal ?_
            refine G_ret ?_
            refine fin1 (by simp) ?_
            exact ⟨rfl, rfl⟩

end Go.Proofs.Ytphfdmagkgpgfaa
