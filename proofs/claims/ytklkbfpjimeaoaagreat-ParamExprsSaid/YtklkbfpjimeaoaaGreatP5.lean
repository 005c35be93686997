/- Contracts of functions. Conditions: none. -/
import Derived.Test.YtklkbfpjimeaoaaGreatPq
namespace Go.Proofs.YtklkbfpjimeaoaaGreat
open Go Go.Proofs.YtklkbfpjimeaoaaGreat.E
set_option maxHeartbeats 4000000 in
theorem c5 (t : Tr) (hok : t.Ok) : Pf Tryz.prog 5 [t.d] (.d (.bool true)) := by
  obtain ⟨op, name, num, ks⟩ := t
  rw [Tr.d_mk]
  try simp only [Tr.op_mk, Tr.nm_mk, Tr.nu_mk, Tr.kids_mk]
  refine pf_body (rvs := [.tmp 2]) [(0, .d (.agg [.int .i64 op, .str name, .int .i64 num, .sl (ks.map Tr.d)]))] Tryz.func5 Tryz.ntmps5 Tryz.results5 (fun S0 O0 w0 m0 hm0 => ?_)
  refine G_seq ?_
  refine g_region ?_
  refine sv rfl (y_box) ?_
  refine g_freeze 0 [] (.agg [.int .i64 op, .str name, .int .i64 num, .sl (ks.map Tr.d)]) rfl ?_
  refine sv rfl (y_assign) ?_
  refine GOps_nil ?_
  refine thn_normal ?_
  refine G_seq ?_
  refine G_seq ?_
  refine g_region ?_
  have hsz9 : (Tr.mk op name num ks).few 150 = true → (Tr.mk op name num ks).size ≤ 1000000000 := fun h => by
    have := (Tr.few_size (by decide) h).1
    omega
  first | refine sv rfl (y_load_agg sz27 Tryz.underlying27 rfl) ?_ | refine sv rfl (y_loadp_agg (by exact sz27) Tryz.underlying27 rfl) ?_
  refine g_call (xs := [.tmp 8, .const (.int .i64 (150))]) rfl ((Tr.d_mk op name num ks ▸ c26 (Tr.mk op name num ks) 150 hok (by decide) (by decide))) ?_
  refine sv rfl (y_not) ?_
  refine sv rfl (y_move) ?_
  first | refine sg rfl (fun hg => q_load_agg sz27 Tryz.underlying27 rfl) ?_ | refine sg rfl (fun hg => q_loadp_agg (by exact sz27) Tryz.underlying27 rfl) ?_
  refine g_callg (xs := [.tmp 12]) rfl (fun hg => (Tr.d_mk op name num ks ▸ c24 (Tr.mk op name num ks) hok (hsz9 (by simpa using hg)))) ?_
  refine sg rfl (fun hg => strip 13 (by simp only [GS.set, GS.get, List.lookup_cons, Nat.reduceBEq] <;> rfl) hg (q_neq)) ?_
  refine sv rfl (y_or) ?_
  refine GOps_nil ?_
  refine thn_normal ?_
  refine g_cond (fun hb0 => ?_) (fun hb0 => ?_)
  ·
    refine G_seq ?_
    refine g_region ?_
    refine g_call (xs := []) rfl (c27) ?_
    refine sv rfl (y_assign) ?_
    refine GOps_nil ?_
    refine thn_normal ?_
    refine G_ret ?_
    refine thn_ret ?_
    refine fin1 (by simp) ?_
    exact ⟨rfl, rfl⟩
  ·
    obtain ⟨hfw, hne⟩ : (Tr.mk op name num ks).few 150 = true ∧ nodeE (Tr.mk op name num ks) = 0 := by simpa using hb0
    have hs := (Tr.few_size (by decide) hfw).1
    have hq := QT.of hne hok
    obtain ⟨hxs, hxo⟩ := expr_size _ _ (Nat.le_refl _) hq
    have htw := expr_twice _ _ (Nat.le_refl _) hq
    obtain ⟨he1, he2⟩ := expr_eval hq
    have q1 := c28n _ (Tr.mk op name num ks) (Nat.le_refl _) hok (by omega)
    have q2 := c29 (Tr.mk op name num ks) hok (by omega) [] COk_nil
    have q3 := c29 (Tr.mk op name num ks).expr hxo (by omega) [] COk_nil
    have q4 := c28n _ (Tr.mk op name num ks).expr (Nat.le_refl _) hxo (by omega)
    have q5 := c30n _ (Tr.mk op name num ks).expr (Nat.le_refl _) hxo
    have q6 := c30n _ (evalT (Tr.mk op name num ks) []).1 (Nat.le_refl _) (evalT_okv hq)
    rw [htw] at q4
    rw [← he2] at q3
    rw [(evalT (Tr.mk op name num ks) []).1.d_eta] at q2 q3 q6
    rw [(Tr.mk op name num ks).expr.d_eta] at q1 q3 q4 q5
    rw [Tr.d_mk] at q1 q2
    generalize (Tr.mk op name num ks).expr.op = xop at q1 q3 q4 q5
    generalize (Tr.mk op name num ks).expr.nm = xnm at q1 q3 q4 q5
    generalize (Tr.mk op name num ks).expr.nu = xnu at q1 q3 q4 q5
    generalize (Tr.mk op name num ks).expr.kids = xks at q1 q3 q4 q5
    generalize (evalT (Tr.mk op name num ks) []).1.op = vop at q2 q3 q6
    generalize (evalT (Tr.mk op name num ks) []).1.nm = vnm at q2 q3 q6
    generalize (evalT (Tr.mk op name num ks) []).1.nu = vnu at q2 q3 q6
    generalize (evalT (Tr.mk op name num ks) []).1.kids = vks at q2 q3 q6
    generalize (evalT (Tr.mk op name num ks) []).2 = ea at q2 he1
    generalize (evalT (Tr.mk op name num ks).expr []).2 = eb at q3 he1
    clear hxs hxo htw he2 hq
    refine G_skip ?_
    refine thn_normal ?_
    refine G_seq ?_
    refine g_region ?_
    first | refine sv rfl (y_load_agg sz27 Tryz.underlying27 rfl) ?_ | refine sv rfl (y_loadp_agg (by exact sz27) Tryz.underlying27 rfl) ?_
    refine g_call (xs := [.tmp 17]) rfl (q1) ?_
    refine sv rfl (y_alloc zr27) ?_
    first | refine sa rfl (d_store sz27) ?_ | refine sa rfl (d_store_take sz27) ?_
    refine g_freeze 0 [] (.agg [.int .i64 xop, .str xnm, .int .i64 xnu, .sl (xks.map Tr.d)]) rfl ?_
    refine GOps_nil ?_
    refine thn_normal ?_
    refine G_seq ?_
    refine g_keep [0, 1, 2, 3, 4, 5, 6, 7] ?_
    refine g_region ?_
    first | refine sv rfl (y_load_agg sz27 Tryz.underlying27 rfl) ?_ | refine sv rfl (y_loadp_agg (by exact sz27) Tryz.underlying27 rfl) ?_
    refine g_call (xs := [.tmp 20, .const (.slice none 0 0)]) rfl (q2) ?_
    refine sv rfl (y_move) ?_
    refine sv rfl (y_extract) ?_
    refine sv rfl (y_extract) ?_
    refine sv rfl (y_alloc zr27) ?_
    first | refine sa rfl (d_store sz27) ?_ | refine sa rfl (d_store_take sz27) ?_
    refine g_freeze 0 [] (.agg [.int .i64 vop, .str vnm, .int .i64 vnu, .sl (vks.map Tr.d)]) rfl ?_
    refine sv rfl (y_assign) ?_
    refine GOps_nil ?_
    refine thn_normal ?_
    refine G_seq ?_
    refine g_region ?_
    first | refine sv rfl (y_load_agg sz27 Tryz.underlying27 rfl) ?_ | refine sv rfl (y_loadp_agg (by exact sz27) Tryz.underlying27 rfl) ?_
    refine g_call (xs := [.tmp 25, .const (.slice none 0 0)]) rfl (q3) ?_
    refine sv rfl (y_move) ?_
    refine sv rfl (y_extract) ?_
    refine sv rfl (y_extract) ?_
    refine sv rfl (y_alloc zr27) ?_
    first | refine sa rfl (d_store sz27) ?_ | refine sa rfl (d_store_take sz27) ?_
    refine g_freeze 0 [] (.agg [.int .i64 vop, .str vnm, .int .i64 vnu, .sl (vks.map Tr.d)]) rfl ?_
    refine sv rfl (y_assign) ?_
    refine GOps_nil ?_
    refine thn_normal ?_
    refine G_seq ?_
    refine g_keep [0, 1, 2, 3, 4, 5, 6, 7] ?_
    refine g_cg0 [29, 30, 31, 32, 33, 34, 35, 36, 37, 38, 39, 40, 41, 42, 43, 44, 45, 46, 47, 2] ?_
    refine cg_pre [] ?_
    first | refine cg_st 1 (fun bq rest hc1 hc2 hc3 => sv rfl (y_load_agg sz27 Tryz.underlying27 rfl) (GOps_nil ⟨rfl, rfl⟩)) ?_ | refine cg_st 1 (fun bq rest hc1 hc2 hc3 => sv rfl (y_loadp_agg (by exact sz27) Tryz.underlying27 rfl) (GOps_nil ⟨rfl, rfl⟩)) ?_
    refine cg_pre [0] ?_
    refine cg_st 2 (fun bq rest hc1 hc2 hc3 => g_call (xs := [.tmp 29]) rfl (q4) (GOps_nil ⟨rfl, rfl⟩)) ?_
    refine cg_pre [] ?_
    first | refine cg_st 3 (fun bq rest hc1 hc2 hc3 => sv rfl (y_load_agg sz27 Tryz.underlying27 rfl) (GOps_nil ⟨rfl, rfl⟩)) ?_ | refine cg_st 3 (fun bq rest hc1 hc2 hc3 => sv rfl (y_loadp_agg (by exact sz27) Tryz.underlying27 rfl) (GOps_nil ⟨rfl, rfl⟩)) ?_
    refine cg_pre [1, 2, 1] ?_
    refine cg_st 4 (fun bq rest hc1 hc2 hc3 => g_call (xs := [.tmp 30, .tmp 31]) rfl (q5) (GOps_nil ⟨rfl, rfl⟩)) ?_
    refine cg_pre [3, 3] ?_
    refine cg_st 5 (fun bq rest hc1 hc2 hc3 => sv rfl (y_move) (GOps_nil ⟨rfl, rfl⟩)) ?_
    refine cg_pre [4] ?_
    refine cg_st 6 (fun bq rest hc1 hc2 hc3 => sg rfl (fun hg => q_move) (GOps_nil ⟨rfl, rfl⟩)) ?_
    refine cg_pre [5, 4] ?_
    refine cg_st 7 (fun bq rest hc1 hc2 hc3 => sg rfl (fun hg => strip 34 (by simp only [GS.set, GS.get, List.lookup_cons, Nat.reduceBEq] <;> rfl) hg (q_eql)) (GOps_nil ⟨rfl, rfl⟩)) ?_
    refine cg_pre [4] ?_
    refine cg_st 8 (fun bq rest hc1 hc2 hc3 => sg rfl (fun hg => q_move) (GOps_nil ⟨rfl, rfl⟩)) ?_
    refine cg_pre [7, 4] ?_
    refine cg_st 9 (fun bq rest hc1 hc2 hc3 => sg rfl (fun hg => strip 36 (by simp only [GS.set, GS.get, List.lookup_cons, Nat.reduceBEq] <;> rfl) hg (q_eql)) (GOps_nil ⟨rfl, rfl⟩)) ?_
    refine cg_pre [6, 8, 4] ?_
    refine cg_st 10 (fun bq rest hc1 hc2 hc3 => sg rfl (fun hg => strip 37 (by simp only [GS.set, GS.get, List.lookup_cons, Nat.reduceBEq] <;> rfl) hg (strip 35 (by simp only [GS.set, GS.get, List.lookup_cons, Nat.reduceBEq] <;> rfl) hg (q_booleq Tryz.underlying4))) (GOps_nil ⟨rfl, rfl⟩)) ?_
    refine cg_pre [4, 9] ?_
    refine cg_st 11 (fun bq rest hc1 hc2 hc3 => sv rfl (y_and) (GOps_nil ⟨rfl, rfl⟩)) ?_
    refine cg_pre [10, 4] ?_
    refine cg_st 12 (fun bq rest hc1 hc2 hc3 => sv rfl (y_move) (GOps_nil ⟨rfl, rfl⟩)) ?_
    refine cg_pre [11] ?_
    first | refine cg_st 13 (fun bq rest hc1 hc2 hc3 => sg rfl (fun hg => q_load_agg sz27 Tryz.underlying27 rfl) (GOps_nil ⟨rfl, rfl⟩)) ?_ | refine cg_st 13 (fun bq rest hc1 hc2 hc3 => sg rfl (fun hg => q_loadp_agg (by exact sz27) Tryz.underlying27 rfl) (GOps_nil ⟨rfl, rfl⟩)) ?_
    refine cg_pre [11] ?_
    first | refine cg_st 14 (fun bq rest hc1 hc2 hc3 => sg rfl (fun hg => q_load_agg sz27 Tryz.underlying27 rfl) (GOps_nil ⟨rfl, rfl⟩)) ?_ | refine cg_st 14 (fun bq rest hc1 hc2 hc3 => sg rfl (fun hg => q_loadp_agg (by exact sz27) Tryz.underlying27 rfl) (GOps_nil ⟨rfl, rfl⟩)) ?_
    refine cg_pre [12, 13, 11, 11] ?_
    refine cg_st 15 (fun bq rest hc1 hc2 hc3 => g_callg (xs := [.tmp 41, .tmp 42]) rfl (fun hg => q6) (GOps_nil ⟨rfl, rfl⟩)) ?_
    refine cg_pre [11, 14] ?_
    refine cg_st 16 (fun bq rest hc1 hc2 hc3 => sv rfl (y_and) (GOps_nil ⟨rfl, rfl⟩)) ?_
    refine cg_pre [15, 14] ?_
    refine cg_st 17 (fun bq rest hc1 hc2 hc3 => sv rfl (y_move) (GOps_nil ⟨rfl, rfl⟩)) ?_
    refine cg_pre [16, 16] ?_
    refine cg_st 18 (fun bq rest hc1 hc2 hc3 => g_callg (xs := []) rfl (fun hg => c27) (GOps_nil ⟨rfl, rfl⟩)) ?_
    refine cg_pre [16, 17] ?_
    refine cg_st 19 (fun bq rest hc1 hc2 hc3 => sv rfl (y_and) (GOps_nil ⟨rfl, rfl⟩)) ?_
    refine cg_pre [18, 17, 0, 1, 2, 3, 4, 5, 6, 7, 8, 9, 10, 11, 12, 13, 14, 15, 16, 17, 18] ?_
    refine cg_st 20 (fun bq rest hc1 hc2 hc3 => sv rfl (y_assign) (GOps_nil ⟨rfl, rfl⟩)) ?_
    refine cg_done ?_
    refine thn_normal ?_
    refine G_ret ?_
    refine fin1 (by simp) ?_
    exact ⟨by rw [he1]; simp, rfl⟩

end Go.Proofs.YtklkbfpjimeaoaaGreat
