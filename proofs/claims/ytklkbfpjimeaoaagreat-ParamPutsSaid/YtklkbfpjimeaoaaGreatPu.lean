/- Contracts of functions. Conditions: none. -/
import Derived.Test.YtklkbfpjimeaoaaGreatPt
namespace Go.Proofs.YtklkbfpjimeaoaaGreat
open Go Go.Proofs.YtklkbfpjimeaoaaGreat.E
theorem c200 (nm : ByteArray) : Pf Tryz.prog 200 [.nil, .str nm] (.d .nil) := by
  refine pf_body (rvs := [.tmp 4]) [(0, .d .nil), (1, .d (.str nm))] Tryz.func200 Tryz.ntmps200 Tryz.results200 (fun S0 O0 w0 m0 hm0 => ?_)
  refine G_seq ?_
  refine g_region ?_
  refine sv rfl (y_assign) ?_
  refine GOps_nil ?_
  refine thn_normal ?_
  refine G_seq ?_
  refine G_block ?_
  refine g_loop (α := Unit) (fun z => ⟨[(0, .d .nil), (1, .d (.str nm))], []⟩) (fun z => 0) (fun z => True) () trivial (fun z hz Q' hn0 he0 hr0 => ?_) (le_of)
  skip
  refine G_seq ?_
  refine G_seq ?_
  refine g_region ?_
  have hno : ((!true) == true) = false := rfl
  refine sv rfl (y_move) ?_
  refine sv rfl (Yld_pure rfl (of_decide_eq_true rfl) (q_ptrneq Tryz.underlying111)) ?_
  refine sv rfl (y_move) ?_
  refine sgx rfl ?_ ?_
  · first | exact hno | (rw [hno]; rfl) | simp [hno] | simp_all
  refine sgx rfl ?_ ?_
  · first | exact hno | (rw [hno]; rfl) | simp [hno] | simp_all
  refine sgx rfl ?_ ?_
  · first | exact hno | (rw [hno]; rfl) | simp [hno] | simp_all
  refine sgx rfl ?_ ?_
  · first | exact hno | (rw [hno]; rfl) | simp [hno] | simp_all
  refine sgx rfl ?_ ?_
  · first | exact hno | (rw [hno]; rfl) | simp [hno] | simp_all
  refine sgx rfl ?_ ?_
  · first | exact hno | (rw [hno]; rfl) | simp [hno] | simp_all
  refine sgx rfl ?_ ?_
  · first | exact hno | (rw [hno]; rfl) | simp [hno] | simp_all
  refine sv rfl (y_and) ?_
  refine GOps_nil ?_
  refine thn_normal ?_
  refine g_cond (fun hb0 => ?_) (fun hb0 => ?_)
  ·
    exact absurd hb0 (by simp)
  ·
    refine G_exit ?_
    refine thn_exit ?_
    refine he0 _ _ ?_
    refine blk_exit ?_
    refine thn_normal ?_
    refine G_seq ?_
    refine g_region ?_
    refine sv rfl (y_move) ?_
    refine sv rfl (y_assign) ?_
    refine GOps_nil ?_
    refine thn_normal ?_
    refine G_ret ?_
    refine fin1 (by simp) ?_
    exact ⟨rfl, rfl⟩
theorem c199x (x nm : ByteArray) : Pf Tryz.prog 199 [.sl [.str x], .str nm] (.d (.bool (decide (nm = x)))) := by
  have h := c199 [x] nm (by simp)
  rw [show hasB [x] nm = decide (nm = x) from by unfold hasB; rw [List.any_cons, List.any_nil, Bool.or_false]] at h
  exact h
theorem c199e (nm : ByteArray) : Pf Tryz.prog 199 [.sl [], .str nm] (.d (.bool false)) := c199 [] nm (by simp)
/-- The list of names so far: none, or the one. -/
def outB (x : ByteArray) : Bool → List PV
  | false => [.nils]
  | true => [.d (.sl [.str x])]
theorem tri (a b : Bool) : (a = false ∧ (a || b) = false) ∨ (a = false ∧ (a || b) = true) ∨ (a = true ∧ (a || b) = true) := by cases a <;> cases b <;> simp
theorem uses_drop {x : ByteArray} {ks : List Tr} {z : Nat} {k : Tr} (h : ks[z]? = some k) (b : Bool) : (b || Tr.usess x (ks.drop z)) = ((b || k.uses x) || Tr.usess x (ks.drop (z + 1))) := by
  obtain ⟨hlt, rfl⟩ := List.getElem?_eq_some_iff.1 h
  rw [List.drop_eq_getElem_cons hlt, Tr.usess, Bool.or_assoc]
set_option maxHeartbeats 8000000 in
theorem c114n (x : ByteArray) : ∀ (n : Nat) (t : Tr), t.size ≤ n → t.shaped = true → t.Ok → EK t.op → ∀ b r : Bool, (b || t.uses x) = r → Gm Tryz.prog 114 [.d t.d, .d .nil, .d (.sl [.str x]), .ref 0 0] [outB x b] (.tup []) [outB x r] := by
  intro n
  induction n with
  | zero => intro t h; exact absurd t.size_pos (by omega)
  | succ n ih =>
    intro t hsz hsh hok hek b r hr
    obtain ⟨op, name, num, ks⟩ := t
    replace hek : EK op := hek
    obtain ⟨hrt, hks⟩ := Tr.shaped_mk hsh
    have hkk : ∀ k ∈ ks, EK k.op := by
      rcases hek with h | rfl
      · exact expr_kid hrt h
      · obtain rfl := type_kids hrt
        simp
    have hI : ∀ k ∈ ks, ∀ b r : Bool, (b || k.uses x) = r → Gm Tryz.prog 114 [.d k.d, .d .nil, .d (.sl [.str x]), .ref 0 0] [outB x b] (.tup []) [outB x r] := fun k hk => ih k (by have := Tr.size_mem hk; rw [Tr.size] at hsz; omega) (hks k hk) (Tr.kids_ok hok k hk) (hkk k hk)
    rw [Tr.d_mk]
    cases hok with | mk h1 h2 h3 h4 h5 =>
    refine gm_body (rvs := []) 1 [(0, .d (.agg [.int .i64 op, .str name, .int .i64 num, .sl (ks.map Tr.d)])), (1, .d .nil), (2, .d (.sl [.str x])), (3, .ref 0 0)] Tryz.func114 Tryz.ntmps114 Tryz.results114 (fun S0 O0 w0 m0 hm0 => ?_)
    refine G_seq ?_
    refine g_region ?_
    refine sv rfl (y_box) ?_
    refine g_freeze 1 [outB x b] (.agg [.int .i64 op, .str name, .int .i64 num, .sl (ks.map Tr.d)]) rfl ?_ (hrf := by cases b <;> rfl)
    refine sv rfl (y_box) ?_
    refine g_freeze 1 [outB x b] .nil rfl ?_ (hrf := by cases b <;> rfl)
    refine GOps_nil ?_
    refine thn_normal ?_
    refine G_seq ?_
    refine g_region ?_
    refine sv rfl (y_makeFunc (xs := []) (ys := [.tmp 5])) ?_
    refine sv rfl (y_assign) ?_
    refine GOps_nil ?_
    refine thn_normal ?_
    refine G_seq ?_
    refine G_seq ?_
    refine g_region ?_
    first | refine sv rfl (y_fieldAt 0 Tryz.underlying27 rfl sz3) ?_ | refine sv rfl (y_fieldAddr Tryz.underlying27 rfl sz3) ?_ | refine sv rfl (y_fieldp_leaf Tryz.underlying27 rfl sz3) ?_
    first | refine sv rfl (y_load_leaf Tryz.underlying3) ?_ | refine sv rfl (y_loadp_leaf Tryz.underlying3) ?_
    refine sv rfl (y_eql) ?_
    refine GOps_nil ?_
    refine thn_normal ?_
    refine g_cond (fun hb0 => ?_) (fun hb0 => ?_)
    ·
      refine G_seq ?_
      refine G_seq ?_
      have hun : (b || decide (name = x)) = r := by rw [← hr, Tr.uses, if_pos (by simpa using hb0)]
      obtain ⟨rfl, hr1⟩ | ⟨rfl, hr1⟩ | ⟨rfl, hr1⟩ := tri b (decide (name = x)) <;> simp only [outB] <;> (rw [hun] at hr1; subst hr1)
      ·
        refine g_cg0 [21, 22, 23, 24, 25, 26, 27, 28, 29, 30, 31, 32, 33, 34, 35, 36, 37, 38, 39, 40] ?_
        refine cg_pre [] ?_
        refine cg_st 1 (fun bq rest hc1 hc2 hc3 => sv rfl (y_move) (GOps_nil ⟨rfl, rfl⟩)) ?_
        refine cg_pre [] ?_
        first | refine cg_st 2 (fun bq rest hc1 hc2 hc3 => sv rfl (y_fieldAt 1 Tryz.underlying27 rfl sz9) (GOps_nil ⟨rfl, rfl⟩)) ?_ | refine cg_st 2 (fun bq rest hc1 hc2 hc3 => sv rfl (y_fieldAddr Tryz.underlying27 rfl sz9) (GOps_nil ⟨rfl, rfl⟩)) ?_ | refine cg_st 2 (fun bq rest hc1 hc2 hc3 => sv rfl (y_fieldp_leaf Tryz.underlying27 rfl sz9) (GOps_nil ⟨rfl, rfl⟩)) ?_
        refine cg_pre [1] ?_
        first | refine cg_st 3 (fun bq rest hc1 hc2 hc3 => sv rfl (y_load_leaf Tryz.underlying9) (GOps_nil ⟨rfl, rfl⟩)) ?_ | refine cg_st 3 (fun bq rest hc1 hc2 hc3 => sv rfl (y_loadp_leaf Tryz.underlying9) (GOps_nil ⟨rfl, rfl⟩)) ?_
        refine cg_pre [0, 2] ?_
        refine cg_st 4 (fun bq rest hc1 hc2 hc3 => g_call (xs := [.tmp 21, .tmp 23]) rfl (c199x x name) (GOps_nil ⟨rfl, rfl⟩)) ?_
        refine cg_pre [3, 3] ?_
        refine cg_st 5 (fun bq rest hc1 hc2 hc3 => sv rfl (y_move) (GOps_nil ⟨rfl, rfl⟩)) ?_
        refine cg_pre [4] ?_
        first | refine cg_st 6 (fun bq rest hc1 hc2 hc3 => sg rfl (fun hg => q_load_leaf Tryz.underlying111) (GOps_nil ⟨rfl, rfl⟩)) ?_ | refine cg_st 6 (fun bq rest hc1 hc2 hc3 => sg rfl (fun hg => q_loadp_leaf Tryz.underlying111) (GOps_nil ⟨rfl, rfl⟩)) ?_
        refine cg_pre [4] ?_
        first | refine cg_st 7 (fun bq rest hc1 hc2 hc3 => sg rfl (fun hg => q_fieldAddr Tryz.underlying27 rfl sz9) (GOps_nil ⟨rfl, rfl⟩)) ?_ | refine cg_st 7 (fun bq rest hc1 hc2 hc3 => sg rfl (fun hg => q_fieldp_leaf Tryz.underlying27 rfl sz9) (GOps_nil ⟨rfl, rfl⟩)) ?_
        refine cg_pre [6, 4] ?_
        first | refine cg_st 8 (fun bq rest hc1 hc2 hc3 => sg rfl (fun hg => strip 27 (by simp only [GS.set, GS.get, List.lookup_cons, Nat.reduceBEq] <;> rfl) hg (q_load_leaf Tryz.underlying9)) (GOps_nil ⟨rfl, rfl⟩)) ?_ | refine cg_st 8 (fun bq rest hc1 hc2 hc3 => sg rfl (fun hg => strip 27 (by simp only [GS.set, GS.get, List.lookup_cons, Nat.reduceBEq] <;> rfl) hg (q_loadp_leaf Tryz.underlying9)) (GOps_nil ⟨rfl, rfl⟩)) ?_
        refine cg_pre [5, 7, 4, 4] ?_
        refine cg_st 9 (fun bq rest hc1 hc2 hc3 => g_callg (xs := [.tmp 26, .tmp 28]) rfl (fun hg => c200 name) (GOps_nil ⟨rfl, rfl⟩)) ?_
        refine cg_pre [8, 4] ?_
        refine cg_st 10 (fun bq rest hc1 hc2 hc3 => sg rfl (fun hg => strip 29 (by simp only [GS.set, GS.get, List.lookup_cons, Nat.reduceBEq] <;> rfl) hg (q_ptreql Tryz.underlying111)) (GOps_nil ⟨rfl, rfl⟩)) ?_
        refine cg_pre [4, 9] ?_
        refine cg_st 11 (fun bq rest hc1 hc2 hc3 => sv rfl (y_and) (GOps_nil ⟨rfl, rfl⟩)) ?_
        refine cg_pre [10, 8] ?_
        refine cg_st 12 (fun bq rest hc1 hc2 hc3 => sv rfl (y_move) (GOps_nil ⟨rfl, rfl⟩)) ?_
        refine cg_pre [11] ?_
        refine cg_st 13 (fun bq rest hc1 hc2 hc3 => sg rfl (fun hg => q_move) (GOps_nil ⟨rfl, rfl⟩)) ?_
        refine cg_pre [12, 11] ?_
        first | refine cg_st 14 (fun bq rest hc1 hc2 hc3 => sg rfl (fun hg => strip 33 (by simp only [GS.set, GS.get, List.lookup_cons, Nat.reduceBEq] <;> rfl) hg (q_nilCheck)) (GOps_nil ⟨rfl, rfl⟩)) ?_ | refine cg_st 14 (fun bq rest hc1 hc2 hc3 => sg rfl (fun hg => strip 33 (by simp only [GS.set, GS.get, List.lookup_cons, Nat.reduceBEq] <;> rfl) hg (q_nilCheckR)) (GOps_nil ⟨rfl, rfl⟩)) ?_
        refine cg_pre [13, 11] ?_
        first | refine cg_st 15 (fun bq rest hc1 hc2 hc3 => sg rfl (fun hg => strip 34 (by simp only [GS.set, GS.get, List.lookup_cons, Nat.reduceBEq] <;> rfl) hg (q_load_leaf Tryz.underlying63)) (GOps_nil ⟨rfl, rfl⟩)) ?_ | refine cg_st 15 (fun bq rest hc1 hc2 hc3 => sg rfl (fun hg => strip 34 (by simp only [GS.set, GS.get, List.lookup_cons, Nat.reduceBEq] <;> rfl) hg (q_loadp_leaf Tryz.underlying63)) (GOps_nil ⟨rfl, rfl⟩)) ?_
        refine cg_pre [11] ?_
        first | refine cg_st 16 (fun bq rest hc1 hc2 hc3 => sg rfl (fun hg => q_fieldAddr Tryz.underlying27 rfl sz9) (GOps_nil ⟨rfl, rfl⟩)) ?_ | refine cg_st 16 (fun bq rest hc1 hc2 hc3 => sg rfl (fun hg => q_fieldp_leaf Tryz.underlying27 rfl sz9) (GOps_nil ⟨rfl, rfl⟩)) ?_
        refine cg_pre [15, 11] ?_
        first | refine cg_st 17 (fun bq rest hc1 hc2 hc3 => sg rfl (fun hg => strip 36 (by simp only [GS.set, GS.get, List.lookup_cons, Nat.reduceBEq] <;> rfl) hg (q_load_leaf Tryz.underlying9)) (GOps_nil ⟨rfl, rfl⟩)) ?_ | refine cg_st 17 (fun bq rest hc1 hc2 hc3 => sg rfl (fun hg => strip 36 (by simp only [GS.set, GS.get, List.lookup_cons, Nat.reduceBEq] <;> rfl) hg (q_loadp_leaf Tryz.underlying9)) (GOps_nil ⟨rfl, rfl⟩)) ?_
        refine cg_pre [14, 16, 11, 11] ?_
        refine cg_st 18 (fun bq rest hc1 hc2 hc3 => g_callg (xs := [.tmp 35, .tmp 37]) rfl (fun hg => c199e name) (GOps_nil ⟨rfl, rfl⟩)) ?_
        refine cg_pre [17, 11] ?_
        refine cg_st 19 (fun bq rest hc1 hc2 hc3 => sg rfl (fun hg => strip 38 (by simp only [GS.set, GS.get, List.lookup_cons, Nat.reduceBEq] <;> rfl) hg (q_not)) (GOps_nil ⟨rfl, rfl⟩)) ?_
        refine cg_pre [11, 18] ?_
        refine cg_st 20 (fun bq rest hc1 hc2 hc3 => sv rfl (y_and) (GOps_nil ⟨rfl, rfl⟩)) ?_
        refine cg_done ?_
        refine thn_normal ?_
        refine g_cond (fun hb1 => ?_) (fun hb1 => ?_)
        ·
          exfalso
          simp at hun
          simp [hun] at hb1
        ·
          refine G_skip ?_
          refine thn_normal ?_
          refine G_ret ?_
          refine thn_ret ?_
          refine finm (mem' := [[.nils]]) (by simp) ?_
          exact ⟨rfl, rfl⟩
      ·
        refine g_cg0 [21, 22, 23, 24, 25, 26, 27, 28, 29, 30, 31, 32, 33, 34, 35, 36, 37, 38, 39, 40] ?_
        refine cg_pre [] ?_
        refine cg_st 1 (fun bq rest hc1 hc2 hc3 => sv rfl (y_move) (GOps_nil ⟨rfl, rfl⟩)) ?_
        refine cg_pre [] ?_
        first | refine cg_st 2 (fun bq rest hc1 hc2 hc3 => sv rfl (y_fieldAt 1 Tryz.underlying27 rfl sz9) (GOps_nil ⟨rfl, rfl⟩)) ?_ | refine cg_st 2 (fun bq rest hc1 hc2 hc3 => sv rfl (y_fieldAddr Tryz.underlying27 rfl sz9) (GOps_nil ⟨rfl, rfl⟩)) ?_ | refine cg_st 2 (fun bq rest hc1 hc2 hc3 => sv rfl (y_fieldp_leaf Tryz.underlying27 rfl sz9) (GOps_nil ⟨rfl, rfl⟩)) ?_
        refine cg_pre [1] ?_
        first | refine cg_st 3 (fun bq rest hc1 hc2 hc3 => sv rfl (y_load_leaf Tryz.underlying9) (GOps_nil ⟨rfl, rfl⟩)) ?_ | refine cg_st 3 (fun bq rest hc1 hc2 hc3 => sv rfl (y_loadp_leaf Tryz.underlying9) (GOps_nil ⟨rfl, rfl⟩)) ?_
        refine cg_pre [0, 2] ?_
        refine cg_st 4 (fun bq rest hc1 hc2 hc3 => g_call (xs := [.tmp 21, .tmp 23]) rfl (c199x x name) (GOps_nil ⟨rfl, rfl⟩)) ?_
        refine cg_pre [3, 3] ?_
        refine cg_st 5 (fun bq rest hc1 hc2 hc3 => sv rfl (y_move) (GOps_nil ⟨rfl, rfl⟩)) ?_
        refine cg_pre [4] ?_
        first | refine cg_st 6 (fun bq rest hc1 hc2 hc3 => sg rfl (fun hg => q_load_leaf Tryz.underlying111) (GOps_nil ⟨rfl, rfl⟩)) ?_ | refine cg_st 6 (fun bq rest hc1 hc2 hc3 => sg rfl (fun hg => q_loadp_leaf Tryz.underlying111) (GOps_nil ⟨rfl, rfl⟩)) ?_
        refine cg_pre [4] ?_
        first | refine cg_st 7 (fun bq rest hc1 hc2 hc3 => sg rfl (fun hg => q_fieldAddr Tryz.underlying27 rfl sz9) (GOps_nil ⟨rfl, rfl⟩)) ?_ | refine cg_st 7 (fun bq rest hc1 hc2 hc3 => sg rfl (fun hg => q_fieldp_leaf Tryz.underlying27 rfl sz9) (GOps_nil ⟨rfl, rfl⟩)) ?_
        refine cg_pre [6, 4] ?_
        first | refine cg_st 8 (fun bq rest hc1 hc2 hc3 => sg rfl (fun hg => strip 27 (by simp only [GS.set, GS.get, List.lookup_cons, Nat.reduceBEq] <;> rfl) hg (q_load_leaf Tryz.underlying9)) (GOps_nil ⟨rfl, rfl⟩)) ?_ | refine cg_st 8 (fun bq rest hc1 hc2 hc3 => sg rfl (fun hg => strip 27 (by simp only [GS.set, GS.get, List.lookup_cons, Nat.reduceBEq] <;> rfl) hg (q_loadp_leaf Tryz.underlying9)) (GOps_nil ⟨rfl, rfl⟩)) ?_
        refine cg_pre [5, 7, 4, 4] ?_
        refine cg_st 9 (fun bq rest hc1 hc2 hc3 => g_callg (xs := [.tmp 26, .tmp 28]) rfl (fun hg => c200 name) (GOps_nil ⟨rfl, rfl⟩)) ?_
        refine cg_pre [8, 4] ?_
        refine cg_st 10 (fun bq rest hc1 hc2 hc3 => sg rfl (fun hg => strip 29 (by simp only [GS.set, GS.get, List.lookup_cons, Nat.reduceBEq] <;> rfl) hg (q_ptreql Tryz.underlying111)) (GOps_nil ⟨rfl, rfl⟩)) ?_
        refine cg_pre [4, 9] ?_
        refine cg_st 11 (fun bq rest hc1 hc2 hc3 => sv rfl (y_and) (GOps_nil ⟨rfl, rfl⟩)) ?_
        refine cg_pre [10, 8] ?_
        refine cg_st 12 (fun bq rest hc1 hc2 hc3 => sv rfl (y_move) (GOps_nil ⟨rfl, rfl⟩)) ?_
        refine cg_pre [11] ?_
        refine cg_st 13 (fun bq rest hc1 hc2 hc3 => sg rfl (fun hg => q_move) (GOps_nil ⟨rfl, rfl⟩)) ?_
        refine cg_pre [12, 11] ?_
        first | refine cg_st 14 (fun bq rest hc1 hc2 hc3 => sg rfl (fun hg => strip 33 (by simp only [GS.set, GS.get, List.lookup_cons, Nat.reduceBEq] <;> rfl) hg (q_nilCheck)) (GOps_nil ⟨rfl, rfl⟩)) ?_ | refine cg_st 14 (fun bq rest hc1 hc2 hc3 => sg rfl (fun hg => strip 33 (by simp only [GS.set, GS.get, List.lookup_cons, Nat.reduceBEq] <;> rfl) hg (q_nilCheckR)) (GOps_nil ⟨rfl, rfl⟩)) ?_
        refine cg_pre [13, 11] ?_
        first | refine cg_st 15 (fun bq rest hc1 hc2 hc3 => sg rfl (fun hg => strip 34 (by simp only [GS.set, GS.get, List.lookup_cons, Nat.reduceBEq] <;> rfl) hg (q_load_leaf Tryz.underlying63)) (GOps_nil ⟨rfl, rfl⟩)) ?_ | refine cg_st 15 (fun bq rest hc1 hc2 hc3 => sg rfl (fun hg => strip 34 (by simp only [GS.set, GS.get, List.lookup_cons, Nat.reduceBEq] <;> rfl) hg (q_loadp_leaf Tryz.underlying63)) (GOps_nil ⟨rfl, rfl⟩)) ?_
        refine cg_pre [11] ?_
        first | refine cg_st 16 (fun bq rest hc1 hc2 hc3 => sg rfl (fun hg => q_fieldAddr Tryz.underlying27 rfl sz9) (GOps_nil ⟨rfl, rfl⟩)) ?_ | refine cg_st 16 (fun bq rest hc1 hc2 hc3 => sg rfl (fun hg => q_fieldp_leaf Tryz.underlying27 rfl sz9) (GOps_nil ⟨rfl, rfl⟩)) ?_
        refine cg_pre [15, 11] ?_
        first | refine cg_st 17 (fun bq rest hc1 hc2 hc3 => sg rfl (fun hg => strip 36 (by simp only [GS.set, GS.get, List.lookup_cons, Nat.reduceBEq] <;> rfl) hg (q_load_leaf Tryz.underlying9)) (GOps_nil ⟨rfl, rfl⟩)) ?_ | refine cg_st 17 (fun bq rest hc1 hc2 hc3 => sg rfl (fun hg => strip 36 (by simp only [GS.set, GS.get, List.lookup_cons, Nat.reduceBEq] <;> rfl) hg (q_loadp_leaf Tryz.underlying9)) (GOps_nil ⟨rfl, rfl⟩)) ?_
        refine cg_pre [14, 16, 11, 11] ?_
        refine cg_st 18 (fun bq rest hc1 hc2 hc3 => g_callg (xs := [.tmp 35, .tmp 37]) rfl (fun hg => c199e name) (GOps_nil ⟨rfl, rfl⟩)) ?_
        refine cg_pre [17, 11] ?_
        refine cg_st 19 (fun bq rest hc1 hc2 hc3 => sg rfl (fun hg => strip 38 (by simp only [GS.set, GS.get, List.lookup_cons, Nat.reduceBEq] <;> rfl) hg (q_not)) (GOps_nil ⟨rfl, rfl⟩)) ?_
        refine cg_pre [11, 18] ?_
        refine cg_st 20 (fun bq rest hc1 hc2 hc3 => sv rfl (y_and) (GOps_nil ⟨rfl, rfl⟩)) ?_
        refine cg_done ?_
        refine thn_normal ?_
        refine g_cond (fun hb2 => ?_) (fun hb2 => ?_)
        ·
          have hnx : name = x := by simpa using hun
          subst hnx
          refine g_keep [0, 1, 2, 3, 4, 5, 8, 9, 10, 12, 14, 16, 98, 99, 100, 125, 126, 127, 138, 139, 140] ?_
          refine g_cg [41, 42, 43, 44, 45, 46, 47, 48, 49] (fun bq => [cond (bq 9) [.d (.sl [.str name])] [.nils]]) rfl ?_
          refine cg_pre [] ?_
          refine cg_st 1 (fun bq rest hc1 hc2 hc3 => sv rfl (y_move) (GOps_nil ⟨rfl, rfl⟩)) ?_
          refine cg_pre [] ?_
          refine cg_st 2 (fun bq rest hc1 hc2 hc3 => sv rfl (y_move) (GOps_nil ⟨rfl, rfl⟩)) ?_
          refine cg_pre [1] ?_
          first | refine cg_st 3 (fun bq rest hc1 hc2 hc3 => sv rfl (y_nilCheck) (GOps_nil ⟨rfl, rfl⟩)) ?_ | refine cg_st 3 (fun bq rest hc1 hc2 hc3 => sv rfl (y_nilCheckR) (GOps_nil ⟨rfl, rfl⟩)) ?_
          refine cg_pre [2] ?_
          refine cg_st 4 (fun bq rest hc1 hc2 hc3 => by
              have hs := hc3.no 9 3 hc1
              have e2 : upd bq 3 9 = false := hs
              simp only [hs, cond_false]
              refine sv rfl (y_load_leaf Tryz.underlying63) ?_
              exact (GOps_nil ⟨rfl, by rw [e2]; rfl⟩)) ?_
          refine cg_pre [] ?_
          first | refine cg_st 5 (fun bq rest hc1 hc2 hc3 => sv rfl (y_fieldAt 1 Tryz.underlying27 rfl sz9) (GOps_nil ⟨rfl, rfl⟩)) ?_ | refine cg_st 5 (fun bq rest hc1 hc2 hc3 => sv rfl (y_fieldAddr Tryz.underlying27 rfl sz9) (GOps_nil ⟨rfl, rfl⟩)) ?_ | refine cg_st 5 (fun bq rest hc1 hc2 hc3 => sv rfl (y_fieldp_leaf Tryz.underlying27 rfl sz9) (GOps_nil ⟨rfl, rfl⟩)) ?_
          refine cg_pre [4] ?_
          first | refine cg_st 6 (fun bq rest hc1 hc2 hc3 => sv rfl (y_load_leaf Tryz.underlying9) (GOps_nil ⟨rfl, rfl⟩)) ?_ | refine cg_st 6 (fun bq rest hc1 hc2 hc3 => sv rfl (y_loadp_leaf Tryz.underlying9) (GOps_nil ⟨rfl, rfl⟩)) ?_
          refine cg_pre [5] ?_
          refine cg_st 7 (fun bq rest hc1 hc2 hc3 => sv rfl (y_buildSlice (xs := [.tmp 46]) Tryz.underlying63 inf9) (GOps_nil ⟨rfl, rfl⟩)) ?_
          refine cg_pre [3, 6] ?_
          refine cg_st 8 (fun bq rest hc1 hc2 hc3 => sv rfl (y_appendNilD Tryz.underlying63 inf9) (GOps_nil ⟨rfl, rfl⟩)) ?_
          refine cg_pre [0, 0, 1, 2, 3, 4, 5, 6, 7] ?_
          first | refine cg_st 9 (fun bq rest hc1 hc2 hc3 => sv rfl (y_nilCheck) (GOps_nil ⟨rfl, rfl⟩)) ?_ | refine cg_st 9 (fun bq rest hc1 hc2 hc3 => sv rfl (y_nilCheckR) (GOps_nil ⟨rfl, rfl⟩)) ?_
          refine cg_pre [8, 7, 7, 0, 1, 2, 3, 4, 5, 6, 7] ?_
          refine cg_act 10 (fun bq rest hc1 hc2 hc3 => by
              have e2 : upd bq 9 9 = true := rfl
              simp only [hc1, cond_false]
              refine sa rfl (d_store sz63) ?_
              exact (GOps_nil ⟨rfl, by rw [e2]; rfl⟩)) ?_
          refine cg_done (mem'' := [[.d (.sl [.str name])]]) ?_
          refine thn_normal ?_
          refine G_ret ?_
          refine thn_ret ?_
          refine finm (mem' := [[.d (.sl [.str name])]]) (by simp) ?_
          exact ⟨rfl, rfl⟩
        ·
          exfalso
          simp at hun
          simp [hun] at hb2
      ·
        refine g_cg0 [21, 22, 23, 24, 25, 26, 27, 28, 29, 30, 31, 32, 33, 34, 35, 36, 37, 38, 39, 40] ?_
        refine cg_pre [] ?_
        refine cg_st 1 (fun bq rest hc1 hc2 hc3 => sv rfl (y_move) (GOps_nil ⟨rfl, rfl⟩)) ?_
        refine cg_pre [] ?_
        first | refine cg_st 2 (fun bq rest hc1 hc2 hc3 => sv rfl (y_fieldAt 1 Tryz.underlying27 rfl sz9) (GOps_nil ⟨rfl, rfl⟩)) ?_ | refine cg_st 2 (fun bq rest hc1 hc2 hc3 => sv rfl (y_fieldAddr Tryz.underlying27 rfl sz9) (GOps_nil ⟨rfl, rfl⟩)) ?_ | refine cg_st 2 (fun bq rest hc1 hc2 hc3 => sv rfl (y_fieldp_leaf Tryz.underlying27 rfl sz9) (GOps_nil ⟨rfl, rfl⟩)) ?_
        refine cg_pre [1] ?_
        first | refine cg_st 3 (fun bq rest hc1 hc2 hc3 => sv rfl (y_load_leaf Tryz.underlying9) (GOps_nil ⟨rfl, rfl⟩)) ?_ | refine cg_st 3 (fun bq rest hc1 hc2 hc3 => sv rfl (y_loadp_leaf Tryz.underlying9) (GOps_nil ⟨rfl, rfl⟩)) ?_
        refine cg_pre [0, 2] ?_
        refine cg_st 4 (fun bq rest hc1 hc2 hc3 => g_call (xs := [.tmp 21, .tmp 23]) rfl (c199x x name) (GOps_nil ⟨rfl, rfl⟩)) ?_
        refine cg_pre [3, 3] ?_
        refine cg_st 5 (fun bq rest hc1 hc2 hc3 => sv rfl (y_move) (GOps_nil ⟨rfl, rfl⟩)) ?_
        refine cg_pre [4] ?_
        first | refine cg_st 6 (fun bq rest hc1 hc2 hc3 => sg rfl (fun hg => q_load_leaf Tryz.underlying111) (GOps_nil ⟨rfl, rfl⟩)) ?_ | refine cg_st 6 (fun bq rest hc1 hc2 hc3 => sg rfl (fun hg => q_loadp_leaf Tryz.underlying111) (GOps_nil ⟨rfl, rfl⟩)) ?_
        refine cg_pre [4] ?_
        first | refine cg_st 7 (fun bq rest hc1 hc2 hc3 => sg rfl (fun hg => q_fieldAddr Tryz.underlying27 rfl sz9) (GOps_nil ⟨rfl, rfl⟩)) ?_ | refine cg_st 7 (fun bq rest hc1 hc2 hc3 => sg rfl (fun hg => q_fieldp_leaf Tryz.underlying27 rfl sz9) (GOps_nil ⟨rfl, rfl⟩)) ?_
        refine cg_pre [6, 4] ?_
        first | refine cg_st 8 (fun bq rest hc1 hc2 hc3 => sg rfl (fun hg => strip 27 (by simp only [GS.set, GS.get, List.lookup_cons, Nat.reduceBEq] <;> rfl) hg (q_load_leaf Tryz.underlying9)) (GOps_nil ⟨rfl, rfl⟩)) ?_ | refine cg_st 8 (fun bq rest hc1 hc2 hc3 => sg rfl (fun hg => strip 27 (by simp only [GS.set, GS.get, List.lookup_cons, Nat.reduceBEq] <;> rfl) hg (q_loadp_leaf Tryz.underlying9)) (GOps_nil ⟨rfl, rfl⟩)) ?_
        refine cg_pre [5, 7, 4, 4] ?_
        refine cg_st 9 (fun bq rest hc1 hc2 hc3 => g_callg (xs := [.tmp 26, .tmp 28]) rfl (fun hg => c200 name) (GOps_nil ⟨rfl, rfl⟩)) ?_
        refine cg_pre [8, 4] ?_
        refine cg_st 10 (fun bq rest hc1 hc2 hc3 => sg rfl (fun hg => strip 29 (by simp only [GS.set, GS.get, List.lookup_cons, Nat.reduceBEq] <;> rfl) hg (q_ptreql Tryz.underlying111)) (GOps_nil ⟨rfl, rfl⟩)) ?_
        refine cg_pre [4, 9] ?_
        refine cg_st 11 (fun bq rest hc1 hc2 hc3 => sv rfl (y_and) (GOps_nil ⟨rfl, rfl⟩)) ?_
        refine cg_pre [10, 8] ?_
        refine cg_st 12 (fun bq rest hc1 hc2 hc3 => sv rfl (y_move) (GOps_nil ⟨rfl, rfl⟩)) ?_
        refine cg_pre [11] ?_
        refine cg_st 13 (fun bq rest hc1 hc2 hc3 => sg rfl (fun hg => q_move) (GOps_nil ⟨rfl, rfl⟩)) ?_
        refine cg_pre [12, 11] ?_
        first | refine cg_st 14 (fun bq rest hc1 hc2 hc3 => sg rfl (fun hg => strip 33 (by simp only [GS.set, GS.get, List.lookup_cons, Nat.reduceBEq] <;> rfl) hg (q_nilCheck)) (GOps_nil ⟨rfl, rfl⟩)) ?_ | refine cg_st 14 (fun bq rest hc1 hc2 hc3 => sg rfl (fun hg => strip 33 (by simp only [GS.set, GS.get, List.lookup_cons, Nat.reduceBEq] <;> rfl) hg (q_nilCheckR)) (GOps_nil ⟨rfl, rfl⟩)) ?_
        refine cg_pre [13, 11] ?_
        first | refine cg_st 15 (fun bq rest hc1 hc2 hc3 => sg rfl (fun hg => strip 34 (by simp only [GS.set, GS.get, List.lookup_cons, Nat.reduceBEq] <;> rfl) hg (q_load_leaf Tryz.underlying63)) (GOps_nil ⟨rfl, rfl⟩)) ?_ | refine cg_st 15 (fun bq rest hc1 hc2 hc3 => sg rfl (fun hg => strip 34 (by simp only [GS.set, GS.get, List.lookup_cons, Nat.reduceBEq] <;> rfl) hg (q_loadp_leaf Tryz.underlying63)) (GOps_nil ⟨rfl, rfl⟩)) ?_
        refine cg_pre [11] ?_
        first | refine cg_st 16 (fun bq rest hc1 hc2 hc3 => sg rfl (fun hg => q_fieldAddr Tryz.underlying27 rfl sz9) (GOps_nil ⟨rfl, rfl⟩)) ?_ | refine cg_st 16 (fun bq rest hc1 hc2 hc3 => sg rfl (fun hg => q_fieldp_leaf Tryz.underlying27 rfl sz9) (GOps_nil ⟨rfl, rfl⟩)) ?_
        refine cg_pre [15, 11] ?_
        first | refine cg_st 17 (fun bq rest hc1 hc2 hc3 => sg rfl (fun hg => strip 36 (by simp only [GS.set, GS.get, List.lookup_cons, Nat.reduceBEq] <;> rfl) hg (q_load_leaf Tryz.underlying9)) (GOps_nil ⟨rfl, rfl⟩)) ?_ | refine cg_st 17 (fun bq rest hc1 hc2 hc3 => sg rfl (fun hg => strip 36 (by simp only [GS.set, GS.get, List.lookup_cons, Nat.reduceBEq] <;> rfl) hg (q_loadp_leaf Tryz.underlying9)) (GOps_nil ⟨rfl, rfl⟩)) ?_
        refine cg_pre [14, 16, 11, 11] ?_
        refine cg_st 18 (fun bq rest hc1 hc2 hc3 => g_callg (xs := [.tmp 35, .tmp 37]) rfl (fun hg => c199x x name) (GOps_nil ⟨rfl, rfl⟩)) ?_
        refine cg_pre [17, 11] ?_
        refine cg_st 19 (fun bq rest hc1 hc2 hc3 => sg rfl (fun hg => strip 38 (by simp only [GS.set, GS.get, List.lookup_cons, Nat.reduceBEq] <;> rfl) hg (q_not)) (GOps_nil ⟨rfl, rfl⟩)) ?_
        refine cg_pre [11, 18] ?_
        refine cg_st 20 (fun bq rest hc1 hc2 hc3 => sv rfl (y_and) (GOps_nil ⟨rfl, rfl⟩)) ?_
        refine cg_done ?_
        refine thn_normal ?_
        refine g_cond (fun hb3 => ?_) (fun hb3 => ?_)
        ·
          exfalso
          simp at hb3
        ·
          refine G_skip ?_
          refine thn_normal ?_
          refine G_ret ?_
          refine thn_ret ?_
          refine finm (mem' := [[.d (.sl [.str x])]]) (by simp) ?_
          exact ⟨rfl, rfl⟩
    ·
      refine G_skip ?_
      refine thn_normal ?_
      refine G_seq ?_
      refine g_region ?_
      first | refine sv rfl (y_fieldAt 0 Tryz.underlying27 rfl sz3) ?_ | refine sv rfl (y_fieldAddr Tryz.underlying27 rfl sz3) ?_ | refine sv rfl (y_fieldp_leaf Tryz.underlying27 rfl sz3) ?_
      first | refine sv rfl (y_load_leaf Tryz.underlying3) ?_ | refine sv rfl (y_loadp_leaf Tryz.underlying3) ?_
      refine sv rfl (y_eql) ?_
      refine sv rfl (y_move) ?_
      first | refine sg rfl (fun hg => q_fieldAddr Tryz.underlying27 rfl sz3) ?_ | refine sg rfl (fun hg => q_fieldp_leaf Tryz.underlying27 rfl sz3) ?_
      first | refine sg rfl (fun hg => strip 54 (by simp only [GS.set, GS.get, List.lookup_cons, Nat.reduceBEq] <;> rfl) hg (q_load_leaf Tryz.underlying3)) ?_ | refine sg rfl (fun hg => strip 54 (by simp only [GS.set, GS.get, List.lookup_cons, Nat.reduceBEq] <;> rfl) hg (q_loadp_leaf Tryz.underlying3)) ?_
      refine sg rfl (fun hg => strip 55 (by simp only [GS.set, GS.get, List.lookup_cons, Nat.reduceBEq] <;> rfl) hg (q_eql)) ?_
      refine sv rfl (y_or) ?_
      refine sv rfl (y_move) ?_
      first | refine sg rfl (fun hg => q_fieldAddr Tryz.underlying27 rfl sz3) ?_ | refine sg rfl (fun hg => q_fieldp_leaf Tryz.underlying27 rfl sz3) ?_
      first | refine sg rfl (fun hg => strip 59 (by simp only [GS.set, GS.get, List.lookup_cons, Nat.reduceBEq] <;> rfl) hg (q_load_leaf Tryz.underlying3)) ?_ | refine sg rfl (fun hg => strip 59 (by simp only [GS.set, GS.get, List.lookup_cons, Nat.reduceBEq] <;> rfl) hg (q_loadp_leaf Tryz.underlying3)) ?_
      refine sg rfl (fun hg => strip 60 (by simp only [GS.set, GS.get, List.lookup_cons, Nat.reduceBEq] <;> rfl) hg (q_eql)) ?_
      refine sv rfl (y_or) ?_
      refine sv rfl (y_assign) ?_
      refine GOps_nil ?_
      refine thn_normal ?_
      refine G_seq ?_
      refine G_seq ?_
      refine g_keep [0, 1, 2, 3, 4, 5, 8, 9, 10, 12, 14, 16, 98, 99, 100, 125, 126, 127, 138, 139, 140] ?_
      refine g_region ?_
      refine sv rfl (y_move) ?_
      refine sv rfl (y_move) ?_
      first | refine sg rfl (fun hg => q_fieldAddr Tryz.underlying27 rfl sz3) ?_ | refine sg rfl (fun hg => q_fieldp_leaf Tryz.underlying27 rfl sz3) ?_
      first | refine sg rfl (fun hg => strip 65 (by simp only [GS.set, GS.get, List.lookup_cons, Nat.reduceBEq] <;> rfl) hg (q_load_leaf Tryz.underlying3)) ?_ | refine sg rfl (fun hg => strip 65 (by simp only [GS.set, GS.get, List.lookup_cons, Nat.reduceBEq] <;> rfl) hg (q_loadp_leaf Tryz.underlying3)) ?_
      refine sg rfl (fun hg => strip 66 (by simp only [GS.set, GS.get, List.lookup_cons, Nat.reduceBEq] <;> rfl) hg (q_geq)) ?_
      refine sv rfl (y_and) ?_
      refine sv rfl (y_move) ?_
      first | refine sg rfl (fun hg => q_fieldAddr Tryz.underlying27 rfl sz3) ?_ | refine sg rfl (fun hg => q_fieldp_leaf Tryz.underlying27 rfl sz3) ?_
      first | refine sg rfl (fun hg => strip 70 (by simp only [GS.set, GS.get, List.lookup_cons, Nat.reduceBEq] <;> rfl) hg (q_load_leaf Tryz.underlying3)) ?_ | refine sg rfl (fun hg => strip 70 (by simp only [GS.set, GS.get, List.lookup_cons, Nat.reduceBEq] <;> rfl) hg (q_loadp_leaf Tryz.underlying3)) ?_
      refine sg rfl (fun hg => strip 71 (by simp only [GS.set, GS.get, List.lookup_cons, Nat.reduceBEq] <;> rfl) hg (q_leq)) ?_
      refine sv rfl (y_and) ?_
      refine sv rfl (y_move) ?_
      first | refine sg rfl (fun hg => q_fieldAddr Tryz.underlying27 rfl sz22) ?_ | refine sg rfl (fun hg => q_fieldp_leaf Tryz.underlying27 rfl sz22) ?_
      first | refine sg rfl (fun hg => strip 75 (by simp only [GS.set, GS.get, List.lookup_cons, Nat.reduceBEq] <;> rfl) hg (q_load_leaf Tryz.underlying22)) ?_ | refine sg rfl (fun hg => strip 75 (by simp only [GS.set, GS.get, List.lookup_cons, Nat.reduceBEq] <;> rfl) hg (q_loadp_leaf Tryz.underlying22)) ?_
      refine sg rfl (fun hg => strip 76 (by simp only [GS.set, GS.get, List.lookup_cons, Nat.reduceBEq] <;> rfl) hg (q_len Tryz.underlying22)) ?_
      first | refine sg rfl (fun hg => q_fieldAddr Tryz.underlying27 rfl sz3) ?_ | refine sg rfl (fun hg => q_fieldp_leaf Tryz.underlying27 rfl sz3) ?_
      first | refine sg rfl (fun hg => strip 78 (by simp only [GS.set, GS.get, List.lookup_cons, Nat.reduceBEq] <;> rfl) hg (q_load_leaf Tryz.underlying3)) ?_ | refine sg rfl (fun hg => strip 78 (by simp only [GS.set, GS.get, List.lookup_cons, Nat.reduceBEq] <;> rfl) hg (q_loadp_leaf Tryz.underlying3)) ?_
      refine sg rfl (fun hg => strip 79 (by simp only [GS.set, GS.get, List.lookup_cons, Nat.reduceBEq] <;> rfl) hg (q_add)) ?_
      refine sg rfl (fun hg => strip 80 (by simp only [GS.set, GS.get, List.lookup_cons, Nat.reduceBEq] <;> rfl) hg (strip 77 (by simp only [GS.set, GS.get, List.lookup_cons, Nat.reduceBEq] <;> rfl) hg (q_geq))) ?_
      refine sv rfl (y_and) ?_
      refine GOps_nil ?_
      refine thn_normal ?_
      refine g_cond (fun hb4 => ?_) (fun hb4 => ?_)
      ·
        exfalso
        simp [hek.ne (k := 54) rfl (by decide), hek.ne (k := 55) rfl (by decide), hek.ne (k := 56) rfl (by decide)] at hb4
      ·
        refine G_skip ?_
        refine thn_normal ?_
        refine G_seq ?_
        refine g_keep [0, 1, 2, 3, 4, 5, 8, 9, 10, 12, 14, 16, 98, 99, 100, 125, 126, 127, 138, 139, 140] ?_
        refine g_region ?_
        first | refine sv rfl (y_fieldAt 3 Tryz.underlying27 rfl sz22) ?_ | refine sv rfl (y_fieldAddr Tryz.underlying27 rfl sz22) ?_ | refine sv rfl (y_fieldp_leaf Tryz.underlying27 rfl sz22) ?_
        first | refine sv rfl (y_load_leaf Tryz.underlying22) ?_ | refine sv rfl (y_loadp_leaf Tryz.underlying22) ?_
        refine sv rfl (y_len Tryz.underlying22) ?_
        refine sv rfl (y_move) ?_
        refine GOps_nil ?_
        refine thn_normal ?_
        refine G_block ?_
        refine g_loop (α := Nat × Bool) (fun z => ⟨[(140, .d (.int .i64 (z.1 : Nat))), (139, .d (.int .i64 ((ks.map Tr.d).length : Nat))), (138, .d (.sl (ks.map Tr.d))), (2, .d (.sl [.str x])), (3, .ref 0 0), (5, .d (.ptr .nil))], [outB x z.2]⟩) (fun z => ks.length - z.1) (fun z => z.1 ≤ ks.length ∧ (z.2 || Tr.usess x (ks.drop z.1)) = r) (0, b) ⟨Nat.zero_le _, by rw [← hr, Tr.uses, if_neg (by rw [hb0]; decide)]; rfl⟩ (fun z hz Q' hn0 he0 hr0 => ?_) (le_of (hm := by cases b <;> exact MSub.cons (CSub.cons (.inl rfl) rfl CSub.nil) MSub.nil))
        obtain ⟨z, b⟩ := z
        obtain ⟨hz1, hz2⟩ := hz
        replace hz1 : z ≤ ks.length := hz1
        replace hz2 : (b || Tr.usess x (ks.drop z)) = r := hz2
        refine G_seq ?_
        refine g_region ?_
        refine sv rfl (y_lss) ?_
        refine GOps_nil ?_
        refine thn_normal ?_
        refine G_seq ?_
        refine g_cond (fun hb5 => ?_) (fun hb5 => ?_)
        ·
          have hlt : z < ks.length := by simpa using hb5
          obtain ⟨k, hk⟩ : ∃ k, ks[z]? = some k := ⟨_, List.getElem?_eq_getElem hlt⟩
          have hmem := List.mem_of_getElem? hk
          have hxd := Tr.ds_get hk
          have hxa := hxd
          obtain ⟨kop, knm, knu, kks, hka⟩ := k.d_agg
          rw [hka] at hxa
          have hkop : EK kop := by have h := hkk k hmem; obtain ⟨o, n, u, l⟩ := k; rw [Tr.d_mk] at hka; injection hka with hka; injection hka with hka; injection hka with _ hka; subst hka; exact h
          refine G_skip ?_
          refine thn_normal ?_
          refine G_seq ?_
          refine G_block ?_
          refine G_seq ?_
          obtain ⟨rfl, hr1⟩ | ⟨rfl, hr1⟩ | ⟨rfl, hr1⟩ := tri b (k.uses x) <;> simp only [outB]
          ·
            refine g_region ?_
            refine sv rfl (y_indexAddr Tryz.underlying22 sz27) ?_
            first | refine sv rfl (y_load_agg sz27 Tryz.underlying27 rfl) ?_ | refine sv rfl (y_loadp_agg (by exact sz27) Tryz.underlying27 rfl) ?_
            refine sv rfl (y_alloc zr27) ?_
            first | refine sa rfl (d_store sz27) ?_ | refine sa rfl (d_store_take sz27) ?_
            refine g_freeze 1 [[.nils]] (.agg [.int .i64 kop, .str knm, .int .i64 knu, .sl (kks.map Tr.d)]) rfl ?_
            refine GOps_nil ?_
            refine thn_normal ?_
            refine G_seq ?_
            refine g_region ?_
            first | refine sv rfl (y_load_agg sz27 Tryz.underlying27 rfl) ?_ | refine sv rfl (y_loadp_agg (by exact sz27) Tryz.underlying27 rfl) ?_
            first | refine sv rfl (y_load_leaf Tryz.underlying111) ?_ | refine sv rfl (y_loadp_leaf Tryz.underlying111) ?_
            refine sv rfl (y_move) ?_
            refine sv rfl (y_move) ?_
            refine g_callm [0] rfl (show Gm Tryz.prog 114 [.d (.agg [.int .i64 kop, .str knm, .int .i64 knu, .sl (kks.map Tr.d)]), .d .nil, .d (.sl [.str x]), .ref 0 0] [[.nils]] (.tup []) [[.nils]] from hka ▸ hI k hmem false false hr1) ?_
            refine GOps_nil ?_
            refine thn_normal ?_
            refine G_seq ?_
            refine g_region ?_
            first | refine sv rfl (y_fieldAt 0 Tryz.underlying27 rfl sz3) ?_ | refine sv rfl (y_fieldAddr Tryz.underlying27 rfl sz3) ?_ | refine sv rfl (y_fieldp_leaf Tryz.underlying27 rfl sz3) ?_
            first | refine sv rfl (y_load_leaf Tryz.underlying3) ?_ | refine sv rfl (y_loadp_leaf Tryz.underlying3) ?_
            refine sv rfl (y_eql) ?_
            refine GOps_nil ?_
            refine thn_normal ?_
            refine g_cond (fun hb6 => ?_) (fun hb6 => ?_)
            ·
              exfalso
              rw [hkop.ne (k := 50) rfl (by decide)] at hb6
              cases hb6
            ·
              refine G_skip ?_
              refine blk_normal ?_
              refine thn_normal ?_
              refine g_keep [0, 1, 2, 3, 4, 5, 8, 9, 10, 12, 14, 16, 98, 99, 100, 125, 126, 127, 138, 139, 140] ?_
              refine g_region ?_
              refine sv rfl (y_add) ?_
              refine sv rfl (y_move) ?_
              refine GOps_nil ?_
              refine hn0 _ (z + 1, false) ⟨by show z + 1 ≤ ks.length; omega, by rw [← hz2, uses_drop hk, hr1]⟩ (by show ks.length - (z + 1) < ks.length - z; omega) le_of
          ·
            refine g_region ?_
            refine sv rfl (y_indexAddr Tryz.underlying22 sz27) ?_
            first | refine sv rfl (y_load_agg sz27 Tryz.underlying27 rfl) ?_ | refine sv rfl (y_loadp_agg (by exact sz27) Tryz.underlying27 rfl) ?_
            refine sv rfl (y_alloc zr27) ?_
            first | refine sa rfl (d_store sz27) ?_ | refine sa rfl (d_store_take sz27) ?_
            refine g_freeze 1 [[.nils]] (.agg [.int .i64 kop, .str knm, .int .i64 knu, .sl (kks.map Tr.d)]) rfl ?_
            refine GOps_nil ?_
            refine thn_normal ?_
            refine G_seq ?_
            refine g_region ?_
            first | refine sv rfl (y_load_agg sz27 Tryz.underlying27 rfl) ?_ | refine sv rfl (y_loadp_agg (by exact sz27) Tryz.underlying27 rfl) ?_
            first | refine sv rfl (y_load_leaf Tryz.underlying111) ?_ | refine sv rfl (y_loadp_leaf Tryz.underlying111) ?_
            refine sv rfl (y_move) ?_
            refine sv rfl (y_move) ?_
            refine g_callm [0] rfl (show Gm Tryz.prog 114 [.d (.agg [.int .i64 kop, .str knm, .int .i64 knu, .sl (kks.map Tr.d)]), .d .nil, .d (.sl [.str x]), .ref 0 0] [[.nils]] (.tup []) [[.d (.sl [.str x])]] from hka ▸ hI k hmem false true hr1) ?_
            refine GOps_nil ?_
            refine thn_normal ?_
            refine G_seq ?_
            refine g_region ?_
            first | refine sv rfl (y_fieldAt 0 Tryz.underlying27 rfl sz3) ?_ | refine sv rfl (y_fieldAddr Tryz.underlying27 rfl sz3) ?_ | refine sv rfl (y_fieldp_leaf Tryz.underlying27 rfl sz3) ?_
            first | refine sv rfl (y_load_leaf Tryz.underlying3) ?_ | refine sv rfl (y_loadp_leaf Tryz.underlying3) ?_
            refine sv rfl (y_eql) ?_
            refine GOps_nil ?_
            refine thn_normal ?_
            refine g_cond (fun hb7 => ?_) (fun hb7 => ?_)
            ·
              exfalso
              rw [hkop.ne (k := 50) rfl (by decide)] at hb7
              cases hb7
            ·
              refine G_skip ?_
              refine blk_normal ?_
              refine thn_normal ?_
              refine g_keep [0, 1, 2, 3, 4, 5, 8, 9, 10, 12, 14, 16, 98, 99, 100, 125, 126, 127, 138, 139, 140] ?_
              refine g_region ?_
              refine sv rfl (y_add) ?_
              refine sv rfl (y_move) ?_
              refine GOps_nil ?_
              refine hn0 _ (z + 1, true) ⟨by show z + 1 ≤ ks.length; omega, by rw [← hz2, uses_drop hk, hr1]⟩ (by show ks.length - (z + 1) < ks.length - z; omega) le_of
          ·
            refine g_region ?_
            refine sv rfl (y_indexAddr Tryz.underlying22 sz27) ?_
            first | refine sv rfl (y_load_agg sz27 Tryz.underlying27 rfl) ?_ | refine sv rfl (y_loadp_agg (by exact sz27) Tryz.underlying27 rfl) ?_
            refine sv rfl (y_alloc zr27) ?_
            first | refine sa rfl (d_store sz27) ?_ | refine sa rfl (d_store_take sz27) ?_
            refine g_freeze 1 [[.d (.sl [.str x])]] (.agg [.int .i64 kop, .str knm, .int .i64 knu, .sl (kks.map Tr.d)]) rfl ?_
            refine GOps_nil ?_
            refine thn_normal ?_
            refine G_seq ?_
            refine g_region ?_
            first | refine sv rfl (y_load_agg sz27 Tryz.underlying27 rfl) ?_ | refine sv rfl (y_loadp_agg (by exact sz27) Tryz.underlying27 rfl) ?_
            first | refine sv rfl (y_load_leaf Tryz.underlying111) ?_ | refine sv rfl (y_loadp_leaf Tryz.underlying111) ?_
            refine sv rfl (y_move) ?_
            refine sv rfl (y_move) ?_
            refine g_callm [0] rfl (show Gm Tryz.prog 114 [.d (.agg [.int .i64 kop, .str knm, .int .i64 knu, .sl (kks.map Tr.d)]), .d .nil, .d (.sl [.str x]), .ref 0 0] [[.d (.sl [.str x])]] (.tup []) [[.d (.sl [.str x])]] from hka ▸ hI k hmem true true hr1) ?_
            refine GOps_nil ?_
            refine thn_normal ?_
            refine G_seq ?_
            refine g_region ?_
            first | refine sv rfl (y_fieldAt 0 Tryz.underlying27 rfl sz3) ?_ | refine sv rfl (y_fieldAddr Tryz.underlying27 rfl sz3) ?_ | refine sv rfl (y_fieldp_leaf Tryz.underlying27 rfl sz3) ?_
            first | refine sv rfl (y_load_leaf Tryz.underlying3) ?_ | refine sv rfl (y_loadp_leaf Tryz.underlying3) ?_
            refine sv rfl (y_eql) ?_
            refine GOps_nil ?_
            refine thn_normal ?_
            refine g_cond (fun hb8 => ?_) (fun hb8 => ?_)
            ·
              exfalso
              rw [hkop.ne (k := 50) rfl (by decide)] at hb8
              cases hb8
            ·
              refine G_skip ?_
              refine blk_normal ?_
              refine thn_normal ?_
              refine g_keep [0, 1, 2, 3, 4, 5, 8, 9, 10, 12, 14, 16, 98, 99, 100, 125, 126, 127, 138, 139, 140] ?_
              refine g_region ?_
              refine sv rfl (y_add) ?_
              refine sv rfl (y_move) ?_
              refine GOps_nil ?_
              refine hn0 _ (z + 1, true) ⟨by show z + 1 ≤ ks.length; omega, by rw [← hz2, uses_drop hk, hr1]⟩ (by show ks.length - (z + 1) < ks.length - z; omega) le_of
        ·
          have hge : z = ks.length := by
            have : ¬ (z : Int) < (ks.map Tr.d).length := by simpa using hb5
            rw [List.length_map] at this
            omega
          refine G_exit ?_
          refine thn_exit ?_
          refine he0 _ _ ?_
          refine blk_exit ?_
          subst hge
          rw [List.drop_length, Tr.usess, Bool.or_false] at hz2
          subst hz2
          cases b
          · refine finm (mem' := [[.nils]]) (by simp) ?_
            exact ⟨rfl, rfl⟩
          · refine finm (mem' := [[.d (.sl [.str x])]]) (by simp) ?_
            exact ⟨rfl, rfl⟩
set_option maxHeartbeats 1000000 in
theorem c43 (t : Tr) (x : ByteArray) (hsh : t.shaped = true) (hok : t.Ok) (hek : EK t.op) : Pf Tryz.prog 43 [t.d, .sl [.str x]] (.d (.sl (if t.uses x = true then [.str x] else []))) := by
  obtain ⟨op, name, num, ks⟩ := t
  rw [Tr.d_mk]
  try simp only [Tr.op_mk, Tr.nm_mk, Tr.nu_mk, Tr.kids_mk]
  refine pf_body (rvs := [.tmp 4]) [(0, .d (.agg [.int .i64 op, .str name, .int .i64 num, .sl (ks.map Tr.d)])), (1, .d (.sl [.str x]))] Tryz.func43 Tryz.ntmps43 Tryz.results43 (fun S0 O0 w0 m0 hm0 => ?_)
  refine G_seq ?_
  refine g_region ?_
  refine sv rfl (y_box) ?_
  refine g_freeze 0 [] (.agg [.int .i64 op, .str name, .int .i64 num, .sl (ks.map Tr.d)]) rfl ?_
  refine sv rfl (y_assign) ?_
  refine GOps_nil ?_
  refine thn_normal ?_
  refine G_seq ?_
  refine g_region ?_
  refine sv rfl (y_alloc zr63) ?_
  refine GOps_nil ?_
  refine thn_normal ?_
  refine G_seq ?_
  rcases hu : (Tr.mk op name num ks).uses x with _ | _
  ·
    refine g_region ?_
    first | refine sv rfl (y_load_agg sz27 Tryz.underlying27 rfl) ?_ | refine sv rfl (y_loadp_agg (by exact sz27) Tryz.underlying27 rfl) ?_
    refine sv rfl (y_move) ?_
    refine g_callm [0] rfl (show Gm Tryz.prog 114 [.d (.agg [.int .i64 op, .str name, .int .i64 num, .sl (ks.map Tr.d)]), .d .nil, .d (.sl [.str x]), .ref 0 0] [[.nils]] (.tup []) [[.nils]] from Tr.d_mk op name num ks ▸ c114n x _ (.mk op name num ks) (Nat.le_refl _) hsh hok hek false false (by rw [hu]; rfl)) ?_
    refine GOps_nil ?_
    refine thn_normal ?_
    refine G_seq ?_
    refine g_region ?_
    first | refine sv rfl (y_load_leaf Tryz.underlying63) ?_ | refine sv rfl (y_loadp_leaf Tryz.underlying63) ?_
    first | refine sv rfl (y_assign_take) ?_ | refine sv rfl (y_assign) ?_
    refine GOps_nil ?_
    refine thn_normal ?_
    refine G_ret ?_
    refine find1 (by simp) ?_
    exact ⟨by simp, rfl⟩
  ·
    refine g_region ?_
    first | refine sv rfl (y_load_agg sz27 Tryz.underlying27 rfl) ?_ | refine sv rfl (y_loadp_agg (by exact sz27) Tryz.underlying27 rfl) ?_
    refine sv rfl (y_move) ?_
    refine g_callm [0] rfl (show Gm Tryz.prog 114 [.d (.agg [.int .i64 op, .str name, .int .i64 num, .sl (ks.map Tr.d)]), .d .nil, .d (.sl [.str x]), .ref 0 0] [[.nils]] (.tup []) [[.d (.sl [.str x])]] from Tr.d_mk op name num ks ▸ c114n x _ (.mk op name num ks) (Nat.le_refl _) hsh hok hek false true (by rw [hu]; rfl)) ?_
    refine GOps_nil ?_
    refine thn_normal ?_
    refine G_seq ?_
    refine g_region ?_
    first | refine sv rfl (y_load_leaf Tryz.underlying63) ?_ | refine sv rfl (y_loadp_leaf Tryz.underlying63) ?_
    first | refine sv rfl (y_assign_take) ?_ | refine sv rfl (y_assign) ?_
    refine GOps_nil ?_
    refine thn_normal ?_
    refine G_ret ?_
    refine find1 (by simp) ?_
    exact ⟨by simp, rfl⟩
end Go.Proofs.YtklkbfpjimeaoaaGreat
