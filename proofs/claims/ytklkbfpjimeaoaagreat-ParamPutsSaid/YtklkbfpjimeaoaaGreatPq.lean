/- Contracts of functions. Conditions: none. -/
import Derived.Test.YtklkbfpjimeaoaaGreatPp
namespace Go.Proofs.YtklkbfpjimeaoaaGreat
open Go Go.Proofs.YtklkbfpjimeaoaaGreat.E
theorem c97 (n : Int) : Pf Tryz.prog 97 [.int .i64 n] (.d (.agg [.int .i64 1, .str ⟨#[]⟩, .int .i64 n, .sl []])) := by
  refine pf_body (rvs := [.cell 2 27]) [(0, .d (.int .i64 n))] Tryz.func97 Tryz.ntmps97 Tryz.results97 (fun S0 O0 w0 m0 hm0 => ?_)
  refine G_seq ?_
  refine g_region ?_
  refine sv rfl (y_alloc zr27) ?_
  refine GOps_nil ?_
  refine thn_normal ?_
  refine G_seq ?_
  refine g_region ?_
  refine sv rfl (y_move) ?_
  refine sv rfl (y_buildS pl27 zr27) ?_
  first | refine sa rfl (d_store sz27) ?_ | refine sa rfl (d_store_take sz27) ?_
  refine GOps_nil ?_
  refine thn_normal ?_
  refine G_ret ?_
  refine findc sz27 Tryz.underlying27 (by simp) ?_
  exact ⟨by rfl, rfl⟩
theorem c98 (s : ByteArray) (l : List D) : Pf Tryz.prog 98 [.str s, .sl l] (.d (.agg [.int .i64 6, .str s, .int .i64 0, .sl l])) := by
  refine pf_body (rvs := [.cell 4 27]) [(0, .d (.str s)), (1, .d (.sl l))] Tryz.func98 Tryz.ntmps98 Tryz.results98 (fun S0 O0 w0 m0 hm0 => ?_)
  refine G_seq ?_
  refine g_region ?_
  refine sv rfl (y_alloc zr27) ?_
  refine GOps_nil ?_
  refine thn_normal ?_
  refine G_seq ?_
  refine g_region ?_
  refine sv rfl (y_move) ?_
  refine sv rfl (y_move) ?_
  refine sv rfl (y_buildS pl27 zr27) ?_
  first | refine sa rfl (d_store sz27) ?_ | refine sa rfl (d_store_take sz27) ?_
  refine GOps_nil ?_
  refine thn_normal ?_
  refine G_ret ?_
  refine findc sz27 Tryz.underlying27 (by simp) ?_
  exact ⟨by rfl, rfl⟩
/-- The chapter's first example. -/
def awT : Tr := .mk 19 ⟨#[]⟩ 0 [.mk 6 ⟨#[62]⟩ 0 [.mk 4 ⟨#[107]⟩ 0 [], .mk 1 ⟨#[]⟩ 2 []], .mk 6 ⟨#[42]⟩ 0 [.mk 1 ⟨#[]⟩ 2 [], .mk 4 ⟨#[107]⟩ 0 []], .mk 4 ⟨#[120]⟩ 0 []]
def awC : List (ByteArray × Tr) := [(⟨#[107]⟩, intT 3)]
theorem aw_ev : evalT awT awC = (intT 6, 0) := by rfl
def okTr : Nat → Tr → Bool
  | 0, _ => false
  | n + 1, .mk op nm num ks => ((((Lit.int .i64 op).wf && decide (nm.size ≤ 140737488355328)) && (Lit.int .i64 num).wf) && decide (ks.length ≤ 140737488355328)) && ks.all (okTr n)
theorem okTr_ok : ∀ (n : Nat) (t : Tr), okTr n t = true → t.Ok := by
  intro n
  induction n with
  | zero => intro t h; cases h
  | succ n ih =>
    intro t h
    obtain ⟨op, nm, num, ks⟩ := t
    rw [okTr] at h
    simp only [Bool.and_eq_true, decide_eq_true_eq, List.all_eq_true] at h
    exact .mk h.1.1.1.1 h.1.1.1.2 h.1.1.2 h.1.2 fun k hk => ih k (h.2 k hk)
theorem aw_ok : awT.Ok := okTr_ok 5 awT (by rfl)
theorem awC_ok : COk awC := ⟨by decide, fun c hc => by
  rw [awC, List.mem_singleton] at hc
  subst hc
  exact ⟨okTr_ok 5 _ (by rfl), by decide⟩⟩
theorem aw29 : Pf Tryz.prog 29 [.agg [.int .i64 19, .str ⟨#[]⟩, .int .i64 0, .sl [.agg [.int .i64 6, .str ⟨#[62]⟩, .int .i64 0, .sl [.agg [.int .i64 4, .str ⟨#[107]⟩, .int .i64 0, .sl []], .agg [.int .i64 1, .str ⟨#[]⟩, .int .i64 2, .sl []]]], .agg [.int .i64 6, .str ⟨#[42]⟩, .int .i64 0, .sl [.agg [.int .i64 1, .str ⟨#[]⟩, .int .i64 2, .sl []], .agg [.int .i64 4, .str ⟨#[107]⟩, .int .i64 0, .sl []]]], .agg [.int .i64 4, .str ⟨#[120]⟩, .int .i64 0, .sl []]]], .sl [.agg [.str ⟨#[107]⟩, .int .i64 1, .str ⟨#[]⟩, .int .i64 3, .sl []]]] (.tup [.d (.agg [.int .i64 1, .str ⟨#[]⟩, .int .i64 6, .sl []]), .d (.int .i64 0)]) := by
  have h := c29 awT aw_ok (by decide) awC awC_ok
  rw [aw_ev] at h
  exact h
set_option maxHeartbeats 8000000 in
theorem c27  : Pf Tryz.prog 27 [] (.d (.bool true)) := by
  refine pf_body (rvs := [.tmp 0]) [] Tryz.func27 Tryz.ntmps27 Tryz.results27 (fun S0 O0 w0 m0 hm0 => ?_)
  refine G_seq ?_
  refine g_region ?_
  refine sv rfl (y_assign) ?_
  refine GOps_nil ?_
  refine thn_normal ?_
  refine G_seq ?_
  refine g_region ?_
  refine sv rfl (y_buildS pl27 zr27) ?_
  refine sv rfl (y_alloc zr27) ?_
  first | refine sa rfl (d_store sz27) ?_ | refine sa rfl (d_store_take sz27) ?_
  refine g_freeze 0 [] (.agg [.int .i64 4, .str ⟨#[107]⟩, .int .i64 0, .sl []]) rfl ?_
  refine GOps_nil ?_
  refine thn_normal ?_
  refine G_seq ?_
  refine g_region ?_
  refine sv rfl (y_assign) ?_
  refine GOps_nil ?_
  refine thn_normal ?_
  refine G_seq ?_
  refine g_region ?_
  refine sv rfl (y_assign) ?_
  refine GOps_nil ?_
  refine thn_normal ?_
  refine G_seq ?_
  refine g_cg [8, 9, 10, 11, 12, 13, 14, 15, 16, 17, 18, 19, 20, 21, 22, 4] (fun bq => cond (bq 15) ([] ++ [cond (bq 16) [.d (.int .i64 19), .d (.str ⟨#[]⟩), .d (.int .i64 0), .d (.sl [.agg [.int .i64 6, .str ⟨#[62]⟩, .int .i64 0, .sl [.agg [.int .i64 4, .str ⟨#[107]⟩, .int .i64 0, .sl []], .agg [.int .i64 1, .str ⟨#[]⟩, .int .i64 2, .sl []]]], .agg [.int .i64 6, .str ⟨#[42]⟩, .int .i64 0, .sl [.agg [.int .i64 1, .str ⟨#[]⟩, .int .i64 2, .sl []], .agg [.int .i64 4, .str ⟨#[107]⟩, .int .i64 0, .sl []]]], .agg [.int .i64 4, .str ⟨#[120]⟩, .int .i64 0, .sl []]])] [.d (.int .i64 0), .d (.str ⟨#[]⟩), .d (.int .i64 0), .nils]]) []) rfl ?_
  refine cg_pre [] ?_
  refine cg_st 1 (fun bq rest hc1 hc2 hc3 => sv rfl (y_move) (GOps_nil ⟨rfl, rfl⟩)) ?_
  refine cg_pre [] ?_
  first | refine cg_st 2 (fun bq rest hc1 hc2 hc3 => sv rfl (y_load_agg sz27 Tryz.underlying27 rfl) (GOps_nil ⟨rfl, rfl⟩)) ?_ | refine cg_st 2 (fun bq rest hc1 hc2 hc3 => sv rfl (y_loadp_agg (by exact sz27) Tryz.underlying27 rfl) (GOps_nil ⟨rfl, rfl⟩)) ?_
  refine cg_pre [] ?_
  refine cg_st 3 (fun bq rest hc1 hc2 hc3 => sv rfl (y_move) (GOps_nil ⟨rfl, rfl⟩)) ?_
  refine cg_pre [2] ?_
  refine cg_st 4 (fun bq rest hc1 hc2 hc3 => g_call (xs := [.const (.int .i64 (2))]) rfl (c97 2) (GOps_nil ⟨rfl, rfl⟩)) ?_
  refine cg_pre [1, 3] ?_
  refine cg_st 5 (fun bq rest hc1 hc2 hc3 => sv rfl (y_buildSlice (xs := [.tmp 9, .tmp 11]) Tryz.underlying22 inf27) (GOps_nil ⟨rfl, rfl⟩)) ?_
  refine cg_pre [0, 4, 3] ?_
  refine cg_st 6 (fun bq rest hc1 hc2 hc3 => g_call (xs := [.const (.string ⟨#[62]⟩), .tmp 12]) rfl (c98 _ _) (GOps_nil ⟨rfl, rfl⟩)) ?_
  refine cg_pre [] ?_
  refine cg_st 7 (fun bq rest hc1 hc2 hc3 => sv rfl (y_move) (GOps_nil ⟨rfl, rfl⟩)) ?_
  refine cg_pre [] ?_
  refine cg_st 8 (fun bq rest hc1 hc2 hc3 => sv rfl (y_move) (GOps_nil ⟨rfl, rfl⟩)) ?_
  refine cg_pre [7, 5] ?_
  refine cg_st 9 (fun bq rest hc1 hc2 hc3 => g_call (xs := [.const (.int .i64 (2))]) rfl (c97 2) (GOps_nil ⟨rfl, rfl⟩)) ?_
  refine cg_pre [] ?_
  first | refine cg_st 10 (fun bq rest hc1 hc2 hc3 => sv rfl (y_load_agg sz27 Tryz.underlying27 rfl) (GOps_nil ⟨rfl, rfl⟩)) ?_ | refine cg_st 10 (fun bq rest hc1 hc2 hc3 => sv rfl (y_loadp_agg (by exact sz27) Tryz.underlying27 rfl) (GOps_nil ⟨rfl, rfl⟩)) ?_
  refine cg_pre [8, 9] ?_
  refine cg_st 11 (fun bq rest hc1 hc2 hc3 => sv rfl (y_buildSlice (xs := [.tmp 16, .tmp 17]) Tryz.underlying22 inf27) (GOps_nil ⟨rfl, rfl⟩)) ?_
  refine cg_pre [6, 10, 8] ?_
  refine cg_st 12 (fun bq rest hc1 hc2 hc3 => g_call (xs := [.const (.string ⟨#[42]⟩), .tmp 18]) rfl (c98 _ _) (GOps_nil ⟨rfl, rfl⟩)) ?_
  refine cg_pre [] ?_
  refine cg_st 13 (fun bq rest hc1 hc2 hc3 => sv rfl (y_buildS pl27 zr27) (GOps_nil ⟨rfl, rfl⟩)) ?_
  refine cg_pre [5, 11, 12] ?_
  refine cg_st 14 (fun bq rest hc1 hc2 hc3 => sv rfl (y_buildSlice (xs := [.tmp 13, .tmp 19, .tmp 20]) Tryz.underlying22 inf27) (GOps_nil ⟨rfl, rfl⟩)) ?_
  refine cg_pre [13] ?_
  refine cg_st 15 (fun bq rest hc1 hc2 hc3 => sv rfl (y_buildS pl27 zr27) (GOps_nil ⟨rfl, rfl⟩)) ?_
  refine cg_pre [] ?_
  refine cg_st 16 (fun bq rest hc1 hc2 hc3 => by
      have hs := hc3.no 16 15 hc1
      have e1 : upd bq 15 15 = true := rfl
      have e2 : upd bq 15 16 = false := hs
      simp only [hc1, cond_false]
      refine sv rfl (y_alloc zr27) ?_
      exact (GOps_nil ⟨rfl, by rw [e1, e2]; rfl⟩)) ?_
  refine cg_pre [15, 14, 11, 0, 1, 2, 3, 4, 5, 6, 7, 8, 9, 10, 11, 12, 13, 14, 15] ?_
  refine cg_act 17 (fun bq rest hc1 hc2 hc3 => by
      have ha := hc2 15 dep_in
      have e1 : upd bq 16 15 = true := ha
      have e2 : upd bq 16 16 = true := rfl
      simp only [ha, hc1, cond_true, cond_false]
      refine sa rfl (d_store sz27) ?_
      exact (GOps_nil ⟨rfl, by rw [e1, e2]; rfl⟩)) ?_
  refine cg_done (mem'' := [[.d (.int .i64 19), .d (.str ⟨#[]⟩), .d (.int .i64 0), .d (.sl [.agg [.int .i64 6, .str ⟨#[62]⟩, .int .i64 0, .sl [.agg [.int .i64 4, .str ⟨#[107]⟩, .int .i64 0, .sl []], .agg [.int .i64 1, .str ⟨#[]⟩, .int .i64 2, .sl []]]], .agg [.int .i64 6, .str ⟨#[42]⟩, .int .i64 0, .sl [.agg [.int .i64 1, .str ⟨#[]⟩, .int .i64 2, .sl []], .agg [.int .i64 4, .str ⟨#[107]⟩, .int .i64 0, .sl []]]], .agg [.int .i64 4, .str ⟨#[120]⟩, .int .i64 0, .sl []]])]]) ?_
  refine thn_normal ?_
  refine G_seq ?_
  refine g_keep [0, 1, 2, 3, 4, 5, 6] ?_
  refine g_frz 0 [] (.agg [.int .i64 19, .str ⟨#[]⟩, .int .i64 0, .sl [.agg [.int .i64 6, .str ⟨#[62]⟩, .int .i64 0, .sl [.agg [.int .i64 4, .str ⟨#[107]⟩, .int .i64 0, .sl []], .agg [.int .i64 1, .str ⟨#[]⟩, .int .i64 2, .sl []]]], .agg [.int .i64 6, .str ⟨#[42]⟩, .int .i64 0, .sl [.agg [.int .i64 1, .str ⟨#[]⟩, .int .i64 2, .sl []], .agg [.int .i64 4, .str ⟨#[107]⟩, .int .i64 0, .sl []]]], .agg [.int .i64 4, .str ⟨#[120]⟩, .int .i64 0, .sl []]]]) rfl ?_
  refine g_cg [24, 25, 26, 27, 28, 29, 23, 30, 31, 5, 6] (fun bq => cond (bq 9) ([] ++ [cond (bq 10) [.d (.int .i64 1), .d (.str ⟨#[]⟩), .d (.int .i64 6), .d (.sl [])] [.d (.int .i64 0), .d (.str ⟨#[]⟩), .d (.int .i64 0), .nils]]) []) rfl ?_
  refine cg_pre [] ?_
  first | refine cg_st 1 (fun bq rest hc1 hc2 hc3 => sv rfl (y_load_agg sz27 Tryz.underlying27 rfl) (GOps_nil ⟨rfl, rfl⟩)) ?_ | refine cg_st 1 (fun bq rest hc1 hc2 hc3 => sv rfl (y_loadp_agg (by exact sz27) Tryz.underlying27 rfl) (GOps_nil ⟨rfl, rfl⟩)) ?_
  refine cg_pre [] ?_
  refine cg_st 2 (fun bq rest hc1 hc2 hc3 => sv rfl (y_move) (GOps_nil ⟨rfl, rfl⟩)) ?_
  refine cg_pre [1] ?_
  refine cg_st 3 (fun bq rest hc1 hc2 hc3 => g_call (xs := [.const (.int .i64 (3))]) rfl (c97 3) (GOps_nil ⟨rfl, rfl⟩)) ?_
  refine cg_pre [2] ?_
  refine cg_st 4 (fun bq rest hc1 hc2 hc3 => sv rfl (y_buildS pl66 zr66) (GOps_nil ⟨rfl, rfl⟩)) ?_
  refine cg_pre [3] ?_
  refine cg_st 5 (fun bq rest hc1 hc2 hc3 => sv rfl (y_buildSlice (xs := [.tmp 27]) Tryz.underlying51 inf66) (GOps_nil ⟨rfl, rfl⟩)) ?_
  refine cg_pre [0, 4, 2] ?_
  refine cg_st 6 (fun bq rest hc1 hc2 hc3 => g_call (xs := [.tmp 24, .tmp 28]) rfl (aw29) (GOps_nil ⟨rfl, rfl⟩)) ?_
  refine cg_pre [5] ?_
  refine cg_st 7 (fun bq rest hc1 hc2 hc3 => sv rfl (y_move) (GOps_nil ⟨rfl, rfl⟩)) ?_
  refine cg_pre [6] ?_
  refine cg_st 8 (fun bq rest hc1 hc2 hc3 => sv rfl (y_extract) (GOps_nil ⟨rfl, rfl⟩)) ?_
  refine cg_pre [6] ?_
  refine cg_st 9 (fun bq rest hc1 hc2 hc3 => sv rfl (y_extract) (GOps_nil ⟨rfl, rfl⟩)) ?_
  refine cg_pre [] ?_
  refine cg_st 10 (fun bq rest hc1 hc2 hc3 => by
      have hs := hc3.no 10 9 hc1
      have e1 : upd bq 9 9 = true := rfl
      have e2 : upd bq 9 10 = false := hs
      simp only [hc1, cond_false]
      refine sv rfl (y_alloc zr27) ?_
      exact (GOps_nil ⟨rfl, by rw [e1, e2]; rfl⟩)) ?_
  refine cg_pre [9, 7, 5, 0, 1, 2, 3, 4, 5, 6, 7, 9] ?_
  refine cg_act 11 (fun bq rest hc1 hc2 hc3 => by
      have ha := hc2 9 dep_in
      have e1 : upd bq 10 9 = true := ha
      have e2 : upd bq 10 10 = true := rfl
      simp only [ha, hc1, cond_true, cond_false]
      refine sa rfl (d_store sz27) ?_
      exact (GOps_nil ⟨rfl, by rw [e1, e2]; rfl⟩)) ?_
  refine cg_pre [8, 10, 0, 1, 2, 3, 4, 5, 6, 7, 8, 9, 10] ?_
  refine cg_st 12 (fun bq rest hc1 hc2 hc3 => sv rfl (y_assign) (GOps_nil ⟨rfl, rfl⟩)) ?_
  refine cg_done (mem'' := [[.d (.int .i64 1), .d (.str ⟨#[]⟩), .d (.int .i64 6), .d (.sl [])]]) ?_
  refine thn_normal ?_
  refine G_seq ?_
  refine g_keep [0, 1, 2, 3, 4, 5, 6] ?_
  refine g_region ?_
  refine sv rfl (y_move) ?_
  refine sv rfl (y_eql) ?_
  refine sv rfl (y_move) ?_
  first | refine sgo rfl (by rfl) (y_fieldAddr Tryz.underlying27 rfl sz3) ?_ | refine sgo rfl (by rfl) (y_fieldp_leaf Tryz.underlying27 rfl sz3) ?_
  first | refine sgo rfl (by rfl) (y_load_leaf Tryz.underlying3) ?_ | refine sgo rfl (by rfl) (y_loadp_leaf Tryz.underlying3) ?_
  refine sgo rfl (by rfl) (y_eql) ?_
  refine sv rfl (y_and) ?_
  refine sv rfl (y_move) ?_
  first | refine sgo rfl (by rfl) (y_fieldAddr Tryz.underlying27 rfl sz3) ?_ | refine sgo rfl (by rfl) (y_fieldp_leaf Tryz.underlying27 rfl sz3) ?_
  first | refine sgo rfl (by rfl) (y_load_leaf Tryz.underlying3) ?_ | refine sgo rfl (by rfl) (y_loadp_leaf Tryz.underlying3) ?_
  refine sgo rfl (by rfl) (y_eql) ?_
  refine sv rfl (y_and) ?_
  refine sv rfl (y_assign) ?_
  refine GOps_nil ?_
  refine thn_normal ?_
  refine G_ret ?_
  refine fin1 (by simp) ?_
  exact ⟨by rfl, rfl⟩
theorem lim_iff (t : Tr) : limitsE [t] = 0 ↔ (t.size : Int) ≤ 4000 ∧ t.depth ≤ 60 := by
  have hd := Tr.depth_bd t
  have hs : Tr.sizes [t] = t.size := by simp [Tr.sizes]
  have hp : Tr.deeps [t] 0 = t.depth := by
    rw [Tr.deeps, Tr.deeps, if_pos (by omega)]
  unfold limitsE
  rw [hs, hp]
  by_cases h1 : (t.size : Int) > 4000
  · rw [if_pos h1]; constructor
    · intro h; cases h
    · intro h; omega
  · rw [if_neg h1]
    by_cases h2 : t.depth > 60
    · rw [if_pos h2]; constructor
      · intro h; cases h
      · intro h; omega
    · rw [if_neg h2]; constructor
      · intro _; omega
      · intro _; rfl
/-- Of the right shape, within the limits. -/
def QT (t : Tr) : Prop := limitsE [t] = 0 ∧ t.shaped = true ∧ t.Ok
theorem QT.of {t : Tr} (h : nodeE t = 0) (hok : t.Ok) : QT t := by
  obtain ⟨op, nm, num, ks⟩ := t
  refine ⟨?_, nodeE_shaped h, hok⟩
  rw [nodeE] at h
  split at h
  · exact h
  · rename_i h1
    simpa using h1
theorem nodeE_expr {op : Int} {nm : ByteArray} {num : Int} {ks : List Tr} (h : QT (.mk op nm num ks)) (ho : isExprB op = true) : nodeE (.mk op nm num ks) = 0 := by
  rw [nodeE, if_neg (by rw [h.1]; decide), if_neg (by rw [ho, h.2.1]; simp)]
theorem kl_nil : kl [] = [] := rfl
def evR : Option Tr → Tr × Int
  | none => (z0, 140)
  | some v => (v, 0)
theorem evalT_expr {op : Int} {nm : ByteArray} {num : Int} {ks : List Tr} (h : QT (.mk op nm num ks)) (ho : isExprB op = true) : evalT (.mk op nm num ks) [] = evR ((Tr.mk op nm num ks).value []) := by
  rw [evalT, nodeE_expr h ho, if_neg (by decide), ho, if_neg (by decide), badC_nil, if_neg (by decide), kl_nil]
  cases (Tr.mk op nm num ks).value [] <;> rfl
def exR (op : Int) (nm : ByteArray) (num : Int) (ks : List Tr) : Option Tr → Tr
  | none => .mk op nm num (ks.map Tr.expr)
  | some v => v
theorem expr_expr {op : Int} {nm : ByteArray} {num : Int} {ks : List Tr} (h : QT (.mk op nm num ks)) (ho : isExprB op = true) : (Tr.mk op nm num ks).expr = exR op nm num ks ((Tr.mk op nm num ks).value []) := by
  rw [Tr.expr, ho, if_neg (by decide), evalT_expr h ho]
  cases (Tr.mk op nm num ks).value [] with
  | none => rw [Tr.exprs_map]; rfl
  | some v => rfl
theorem ValOk.shaped {v : Tr} (h : ValOk v) : v.shaped = true := by
  rcases h with ⟨n, _, rfl⟩ | ⟨b, rfl⟩
  · rfl
  · cases b <;> rfl
theorem ValOk.okT {v : Tr} (h : ValOk v) : v.Ok := by
  rcases h with ⟨n, hn, rfl⟩ | ⟨b, rfl⟩
  · refine .mk (by decide) (by decide) ?_ (by decide) (by simp)
    simpa [Lit.wf, IntKind.min, IntKind.max, IntKind.signed, IntKind.bits, wf64] using hn
  · cases b
    · exact .mk (by decide) (by decide) (by decide) (by decide) (by simp)
    · exact .mk (by decide) (by decide) (by decide) (by decide) (by simp)
theorem ValOk.one {v : Tr} (h : ValOk v) : v.size = 1 := by
  rcases h with ⟨n, _, rfl⟩ | ⟨b, rfl⟩
  · rw [intT, Tr.size, Tr.sizes]
  · rw [boolT, Tr.size, Tr.sizes]
theorem ValOk.QT {v : Tr} (h : ValOk v) : QT v := by
  refine ⟨?_, h.shaped, h.okT⟩
  rw [lim_iff, h.one]
  have := Tr.depth_bd v
  have := h.one
  omega
theorem ValOk.self {v : Tr} (h : ValOk v) (l : KL) : v.value l = some v ∧ v.span l = noSP := by
  rcases h with ⟨n, _, rfl⟩ | ⟨b, rfl⟩
  · exact ⟨rfl, rfl⟩
  · exact ⟨rfl, rfl⟩
theorem ValOk.eval {v : Tr} (h : ValOk v) : evalT v [] = (v, 0) ∧ v.expr = v := by
  have hq := h.QT
  have hv := (h.self []).1
  rcases h with ⟨n, hn, rfl⟩ | ⟨b, rfl⟩
  · refine ⟨?_, ?_⟩
    · rw [intT] at hq hv ⊢; rw [evalT_expr hq rfl, hv]; rfl
    · rw [intT] at hq hv ⊢; rw [expr_expr hq rfl, hv]; rfl
  · refine ⟨?_, ?_⟩
    · rw [boolT] at hq hv ⊢; rw [evalT_expr hq rfl, hv]; rfl
    · rw [boolT] at hq hv ⊢; rw [expr_expr hq rfl, hv]; rfl
theorem spans_get (l : KL) (ks : List Tr) : Tr.spans l ks = ks.map (Tr.span l) := by
  induction ks with
  | nil => rw [Tr.spans]; rfl
  | cons k r ih => rw [Tr.spans, ih]; rfl
theorem KOk_nil : KOk [] := fun x hx => by cases hx
theorem QT.val {t : Tr} (h : QT t) {v : Tr} (hv : t.value [] = some v) : ValOk v := value_ok [] KOk_nil _ t (Nat.le_refl _) h.2.2 h.2.1 v hv
theorem Tr.d_eta (t : Tr) : t.d = .agg [.int .i64 t.op, .str t.nm, .int .i64 t.nu, .sl (t.kids.map Tr.d)] := by
  obtain ⟨op, nm, num, ks⟩ := t
  exact Tr.d_mk ..
theorem z0_ok : z0.Ok := okTr_ok 5 z0 (by rfl)
end Go.Proofs.YtklkbfpjimeaoaaGreat
