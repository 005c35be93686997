/- Contracts of functions. Conditions: none. -/
import Derived.Test.YtklkbfpjimeaoaaGreatPl
namespace Go.Proofs.YtklkbfpjimeaoaaGreat
open Go Go.Proofs.YtklkbfpjimeaoaaGreat.E
abbrev SP := (Int × Int × Int) × Bool
def noSP : SP := ((0, 0, 0), false)
def v0 (vs : List (Option Tr)) (i : Nat) : Option Tr := vs.getD i none
def s0 (ss : List SP) : SP := ss.getD 0 noSP
def okSP (x : (Int × Int × Int) × Int) : SP := (x.1, x.2 == 0)
def sizeB : ByteArray := ⟨#[115, 105, 122, 101]⟩
/-- The range that an expression is, from the values and the ranges of its Kids. -/
def spanN (op : Int) (vs : List (Option Tr)) (ss : List SP) : SP :=
  if (op == 7) = true then (if (!isV (v0 vs 0) 1 || !isV (v0 vs 1) 1) = true then noSP else okSP (ofS (nuV (v0 vs 0)) (nuV (v0 vs 1))))
  else if (op == 8 || op == 9) = true then
    (if (!(s0 ss).2 || !isV (v0 vs 1) 1) = true then noSP
     else if (op == 9) = true then okSP (countS (s0 ss).1.1 (s0 ss).1.2.1 (s0 ss).1.2.2 (nuV (v0 vs 1))) else okSP (byS (s0 ss).1.1 (s0 ss).1.2.1 (s0 ss).1.2.2 (nuV (v0 vs 1))))
  else noSP
/-- The value of an expression, from the values and the ranges of its Kids. -/
def valN (l : KL) (op : Int) (nm : ByteArray) (num : Int) (ks : List Tr) (vs : List (Option Tr)) (ss : List SP) : Option Tr :=
  if (op == 1 || op == 2) = true then some (.mk op nm num ks)
  else if (op == 4) = true then findK nm l
  else if (op == 5) = true then unaryV nm (v0 vs 0)
  else if (op == 6) = true then binV nm (v0 vs 0) (v0 vs 1)
  else if (op == 19) = true then (if (!isV (v0 vs 0) 2) = true then none else v0 vs (2 - nuV (v0 vs 0)).toNat)
  else if (op == 14) = true then (if ((s0 ss).2 && decide (nm = sizeB)) = true then some (intT (sizeS (s0 ss).1.1 (s0 ss).1.2.1 (s0 ss).1.2.2)) else none)
  else none
set_option maxHeartbeats 8000000 in
theorem c185x (l : KL) (op : Int) (nm : ByteArray) (num : Int) (ks : List Tr) (vs : List (Option Tr)) (ss : List SP)
    (h7 : (op == 7) = true → ∃ k0 k1 a b, ks = [k0, k1] ∧ vs = [a, b] ∧ Pf Tryz.prog 104 [k0.d, knD l] (.d (valD a)) ∧ Pf Tryz.prog 104 [k1.d, knD l] (.d (valD b)))
    (h8 : (op == 8 || op == 9) = true → ∃ k0 k1 a b r ss', ks = [k0, k1] ∧ vs = [a, b] ∧ ss = r :: ss' ∧ Pf Tryz.prog 185 [k0.d, knD l] (.tup [.d (.agg [.int .i64 r.1.1, .int .i64 r.1.2.1, .int .i64 r.1.2.2]), .d (.bool r.2)]) ∧ wf64 r.1.2.2 ∧ Pf Tryz.prog 104 [k1.d, knD l] (.d (valD b))) : Pf Tryz.prog 185 [.agg [.int .i64 op, .str nm, .int .i64 num, .sl (ks.map Tr.d)], knD l] (.tup [.d (.agg [.int .i64 (spanN op vs ss).1.1, .int .i64 (spanN op vs ss).1.2.1, .int .i64 (spanN op vs ss).1.2.2]), .d (.bool (spanN op vs ss).2)]) := by
  refine pf_body (rvs := [.cell 4 199, .tmp 5]) [(0, .d (.agg [.int .i64 op, .str nm, .int .i64 num, .sl (ks.map Tr.d)])), (1, .d (knD l))] Tryz.func185 Tryz.ntmps185 Tryz.results185 (fun S0 O0 w0 m0 hm0 => ?_)
  refine G_seq ?_
  refine g_region ?_
  refine sv rfl (y_box) ?_
  refine g_freeze 0 [] (.agg [.int .i64 op, .str nm, .int .i64 num, .sl (ks.map Tr.d)]) rfl ?_
  refine sv rfl (y_alloc zr199) ?_
  refine sv rfl (y_assign) ?_
  refine GOps_nil ?_
  refine thn_normal ?_
  refine G_seq ?_
  refine G_seq ?_
  refine g_region ?_
  first | refine sv rfl (y_fieldAt 0 Tryz.underlying27 rfl sz3) ?_ | refine sv rfl (y_fieldAddr Tryz.underlying27 rfl sz3) ?_ | refine sv rfl (y_fieldp_leaf Tryz.underlying27 rfl sz3) ?_
  first | refine sv rfl (y_load_leaf Tryz.underlying3) ?_ | refine sv rfl (y_loadp_leaf Tryz.underlying3) ?_
  refine GOps_nil ?_
  refine thn_normal ?_
  refine G_block ?_
  refine G_seq ?_
  refine g_region ?_
  refine sv rfl (y_eql) ?_
  refine sv rfl (y_assign) ?_
  refine GOps_nil ?_
  refine thn_normal ?_
  refine g_cond (fun hb0 => ?_) (fun hb0 => ?_)
  ·
    obtain ⟨k0, k1, a, b, hks, hvs, q0, q1⟩ := h7 hb0
    have hca := valD_cells a
    have hcb := valD_cells b
    obtain ⟨op0, nm0, nu0, ks0, ha0⟩ := k0.d_agg
    have hx0 : (ks.map Tr.d)[0]? = some (.agg [.int .i64 op0, .str nm0, .int .i64 nu0, .sl (ks0.map Tr.d)]) := by rw [hks, ← ha0]; rfl
    obtain ⟨op1, nm1, nu1, ks1, ha1⟩ := k1.d_agg
    have hx1 : (ks.map Tr.d)[1]? = some (.agg [.int .i64 op1, .str nm1, .int .i64 nu1, .sl (ks1.map Tr.d)]) := by rw [hks, ← ha1]; rfl
    refine G_seq ?_
    refine g_cg0 [19, 20, 21, 22, 23, 24, 25, 26, 27, 28, 29, 30, 6, 7] ?_
    refine cg_pre [] ?_
    first | refine cg_st 1 (fun bq rest hc1 hc2 hc3 => sv rfl (y_fieldAt 3 Tryz.underlying27 rfl sz22) (GOps_nil ⟨rfl, rfl⟩)) ?_ | refine cg_st 1 (fun bq rest hc1 hc2 hc3 => sv rfl (y_fieldAddr Tryz.underlying27 rfl sz22) (GOps_nil ⟨rfl, rfl⟩)) ?_ | refine cg_st 1 (fun bq rest hc1 hc2 hc3 => sv rfl (y_fieldp_leaf Tryz.underlying27 rfl sz22) (GOps_nil ⟨rfl, rfl⟩)) ?_
    refine cg_pre [0] ?_
    first | refine cg_st 2 (fun bq rest hc1 hc2 hc3 => sv rfl (y_load_leaf Tryz.underlying22) (GOps_nil ⟨rfl, rfl⟩)) ?_ | refine cg_st 2 (fun bq rest hc1 hc2 hc3 => sv rfl (y_loadp_leaf Tryz.underlying22) (GOps_nil ⟨rfl, rfl⟩)) ?_
    refine cg_pre [1] ?_
    refine cg_st 3 (fun bq rest hc1 hc2 hc3 => sv rfl (y_indexAddr Tryz.underlying22 sz27) (GOps_nil ⟨rfl, rfl⟩)) ?_
    refine cg_pre [2] ?_
    first | refine cg_st 4 (fun bq rest hc1 hc2 hc3 => sv rfl (y_load_agg sz27 Tryz.underlying27 rfl) (GOps_nil ⟨rfl, rfl⟩)) ?_ | refine cg_st 4 (fun bq rest hc1 hc2 hc3 => sv rfl (y_loadp_agg (by exact sz27) Tryz.underlying27 rfl) (GOps_nil ⟨rfl, rfl⟩)) ?_
    refine cg_pre [] ?_
    refine cg_st 5 (fun bq rest hc1 hc2 hc3 => sv rfl (y_move) (GOps_nil ⟨rfl, rfl⟩)) ?_
    refine cg_pre [3, 4] ?_
    refine cg_st 6 (fun bq rest hc1 hc2 hc3 => g_call (xs := [.tmp 22, .tmp 23]) rfl ((ha0 ▸ q0)) (GOps_nil ⟨rfl, rfl⟩)) ?_
    refine cg_pre [] ?_
    first | refine cg_st 7 (fun bq rest hc1 hc2 hc3 => sv rfl (y_fieldAt 3 Tryz.underlying27 rfl sz22) (GOps_nil ⟨rfl, rfl⟩)) ?_ | refine cg_st 7 (fun bq rest hc1 hc2 hc3 => sv rfl (y_fieldAddr Tryz.underlying27 rfl sz22) (GOps_nil ⟨rfl, rfl⟩)) ?_ | refine cg_st 7 (fun bq rest hc1 hc2 hc3 => sv rfl (y_fieldp_leaf Tryz.underlying27 rfl sz22) (GOps_nil ⟨rfl, rfl⟩)) ?_
    refine cg_pre [6] ?_
    first | refine cg_st 8 (fun bq rest hc1 hc2 hc3 => sv rfl (y_load_leaf Tryz.underlying22) (GOps_nil ⟨rfl, rfl⟩)) ?_ | refine cg_st 8 (fun bq rest hc1 hc2 hc3 => sv rfl (y_loadp_leaf Tryz.underlying22) (GOps_nil ⟨rfl, rfl⟩)) ?_
    refine cg_pre [7] ?_
    refine cg_st 9 (fun bq rest hc1 hc2 hc3 => sv rfl (y_indexAddr Tryz.underlying22 sz27) (GOps_nil ⟨rfl, rfl⟩)) ?_
    refine cg_pre [8] ?_
    first | refine cg_st 10 (fun bq rest hc1 hc2 hc3 => sv rfl (y_load_agg sz27 Tryz.underlying27 rfl) (GOps_nil ⟨rfl, rfl⟩)) ?_ | refine cg_st 10 (fun bq rest hc1 hc2 hc3 => sv rfl (y_loadp_agg (by exact sz27) Tryz.underlying27 rfl) (GOps_nil ⟨rfl, rfl⟩)) ?_
    refine cg_pre [] ?_
    refine cg_st 11 (fun bq rest hc1 hc2 hc3 => sv rfl (y_move) (GOps_nil ⟨rfl, rfl⟩)) ?_
    refine cg_pre [9, 10, 5] ?_
    refine cg_st 12 (fun bq rest hc1 hc2 hc3 => g_call (xs := [.tmp 28, .tmp 29]) rfl ((ha1 ▸ q1)) (GOps_nil ⟨rfl, rfl⟩)) ?_
    refine cg_pre [5, 11, 0, 1, 2, 3, 4, 5] ?_
    refine cg_st 13 (fun bq rest hc1 hc2 hc3 => sv rfl (y_assign) (GOps_nil ⟨rfl, rfl⟩)) ?_
    refine cg_pre [11, 12, 0, 1, 2, 3, 4, 5, 6, 7, 8, 9, 10, 11, 12] ?_
    refine cg_st 14 (fun bq rest hc1 hc2 hc3 => sv rfl (y_assign) (GOps_nil ⟨rfl, rfl⟩)) ?_
    refine cg_done ?_
    refine thn_normal ?_
    refine G_seq ?_
    refine G_seq ?_
    refine g_keep [0, 1, 2, 4, 5, 6, 7, 8, 9, 10, 11, 12, 13, 14, 16, 55] ?_
    refine g_region ?_
    refine sv rfl (y_move) ?_
    refine g_call (xs := [.tmp 31, .const (.int .i64 (1))]) rfl (c184 a 1) ?_
    refine sv rfl (y_not) ?_
    refine sv rfl (y_move) ?_
    refine sg rfl (fun hg => q_move) ?_
    refine g_callg (xs := [.tmp 35, .const (.int .i64 (1))]) rfl (fun hg => c184 b 1) ?_
    refine sg rfl (fun hg => strip 36 (by simp only [GS.set, GS.get, List.lookup_cons, Nat.reduceBEq] <;> rfl) hg (q_not)) ?_
    refine sv rfl (y_or) ?_
    refine GOps_nil ?_
    refine thn_normal ?_
    refine g_cond (fun hb1 => ?_) (fun hb1 => ?_)
    ·
      refine G_seq ?_
      refine g_region ?_
      refine sv rfl (y_buildS pl199 zr199) ?_
      first | refine sa rfl (d_store sz199) ?_ | refine sa rfl (d_store_take sz199) ?_
      refine sv rfl (y_assign) ?_
      refine GOps_nil ?_
      refine thn_normal ?_
      refine G_ret ?_
      refine thn_ret ?_
      refine blk_ret ?_
      refine thn_ret ?_
      refine fincd sz199 Tryz.underlying199 (by simp) ?_
      exact ⟨by rw [spanN, if_pos hb0, hvs]; show _ = PV.tup [_, _]; rw [if_pos (show (!isV (v0 [a, b] 0) 1 || !isV (v0 [a, b] 1) 1) = true from hb1)]; try rfl, rfl⟩
    ·
      have hab := hb1
      simp only [Bool.or_eq_false_iff, Bool.not_eq_false'] at hab
      obtain ⟨hka, hkb⟩ := hab
      obtain ⟨ta, rfl, haop⟩ := isV_some hka
      obtain ⟨aop, anm, anu, aks, haa⟩ := ta.d_agg
      have hna : nuV (some ta) = anu := by obtain ⟨o, n, u, l⟩ := ta; rw [Tr.d_mk] at haa; injection haa with ha; injection ha with ha1 ha; injection ha with ha2 ha; injection ha with ha3 ha; injection ha3
      rw [show valD (some ta) = .ptr ta.d from rfl, haa]
      obtain ⟨tb, rfl, hbop⟩ := isV_some hkb
      obtain ⟨bop, bnm, bnu, bks, hab⟩ := tb.d_agg
      have hnb : nuV (some tb) = bnu := by obtain ⟨o, n, u, l⟩ := tb; rw [Tr.d_mk] at hab; injection hab with ha; injection ha with ha1 ha; injection ha with ha2 ha; injection ha with ha3 ha; injection ha3
      rw [show valD (some tb) = .ptr tb.d from rfl, hab]
      refine G_skip ?_
      refine thn_normal ?_
      refine G_seq ?_
      refine g_cg [41, 42, 43, 44, 45, 46, 47, 48, 49, 40, 50, 51, 8, 9] (fun bq => cond (bq 12) ([[.d (.int .i64 0), .d (.int .i64 0), .d (.int .i64 0)]] ++ [cond (bq 13) [.d (.int .i64 (ofS anu bnu).1.1), .d (.int .i64 (ofS anu bnu).1.2.1), .d (.int .i64 (ofS anu bnu).1.2.2)] [.d (.int .i64 0), .d (.int .i64 0), .d (.int .i64 0)]]) [[.d (.int .i64 0), .d (.int .i64 0), .d (.int .i64 0)]]) rfl ?_
      refine cg_pre [] ?_
      refine cg_st 1 (fun bq rest hc1 hc2 hc3 => sv rfl (y_move) (GOps_nil ⟨rfl, rfl⟩)) ?_
      refine cg_pre [0] ?_
      refine cg_st 2 (fun bq rest hc1 hc2 hc3 => sv rfl (y_nilCheck) (GOps_nil ⟨rfl, rfl⟩)) ?_
      refine cg_pre [1] ?_
      first | refine cg_st 3 (fun bq rest hc1 hc2 hc3 => sv rfl (y_fieldAt 2 Tryz.underlying27 rfl sz3) (GOps_nil ⟨rfl, rfl⟩)) ?_ | refine cg_st 3 (fun bq rest hc1 hc2 hc3 => sv rfl (y_fieldAddr Tryz.underlying27 rfl sz3) (GOps_nil ⟨rfl, rfl⟩)) ?_ | refine cg_st 3 (fun bq rest hc1 hc2 hc3 => sv rfl (y_fieldp_leaf Tryz.underlying27 rfl sz3) (GOps_nil ⟨rfl, rfl⟩)) ?_
      refine cg_pre [2] ?_
      first | refine cg_st 4 (fun bq rest hc1 hc2 hc3 => sv rfl (y_load_leaf Tryz.underlying3) (GOps_nil ⟨rfl, rfl⟩)) ?_ | refine cg_st 4 (fun bq rest hc1 hc2 hc3 => sv rfl (y_loadp_leaf Tryz.underlying3) (GOps_nil ⟨rfl, rfl⟩)) ?_
      refine cg_pre [] ?_
      refine cg_st 5 (fun bq rest hc1 hc2 hc3 => sv rfl (y_move) (GOps_nil ⟨rfl, rfl⟩)) ?_
      refine cg_pre [4] ?_
      refine cg_st 6 (fun bq rest hc1 hc2 hc3 => sv rfl (y_nilCheck) (GOps_nil ⟨rfl, rfl⟩)) ?_
      refine cg_pre [5] ?_
      first | refine cg_st 7 (fun bq rest hc1 hc2 hc3 => sv rfl (y_fieldAt 2 Tryz.underlying27 rfl sz3) (GOps_nil ⟨rfl, rfl⟩)) ?_ | refine cg_st 7 (fun bq rest hc1 hc2 hc3 => sv rfl (y_fieldAddr Tryz.underlying27 rfl sz3) (GOps_nil ⟨rfl, rfl⟩)) ?_ | refine cg_st 7 (fun bq rest hc1 hc2 hc3 => sv rfl (y_fieldp_leaf Tryz.underlying27 rfl sz3) (GOps_nil ⟨rfl, rfl⟩)) ?_
      refine cg_pre [6] ?_
      first | refine cg_st 8 (fun bq rest hc1 hc2 hc3 => sv rfl (y_load_leaf Tryz.underlying3) (GOps_nil ⟨rfl, rfl⟩)) ?_ | refine cg_st 8 (fun bq rest hc1 hc2 hc3 => sv rfl (y_loadp_leaf Tryz.underlying3) (GOps_nil ⟨rfl, rfl⟩)) ?_
      refine cg_pre [3, 7] ?_
      refine cg_st 9 (fun bq rest hc1 hc2 hc3 => g_call (xs := [.tmp 44, .tmp 48, .const (.int .i64 (1))]) rfl (c246 anu bnu) (GOps_nil ⟨rfl, rfl⟩)) ?_
      refine cg_pre [8] ?_
      refine cg_st 10 (fun bq rest hc1 hc2 hc3 => sv rfl (y_move) (GOps_nil ⟨rfl, rfl⟩)) ?_
      refine cg_pre [9] ?_
      refine cg_st 11 (fun bq rest hc1 hc2 hc3 => sv rfl (y_extract) (GOps_nil ⟨rfl, rfl⟩)) ?_
      refine cg_pre [9] ?_
      refine cg_st 12 (fun bq rest hc1 hc2 hc3 => sv rfl (y_extract) (GOps_nil ⟨rfl, rfl⟩)) ?_
      refine cg_pre [] ?_
      refine cg_st 13 (fun bq rest hc1 hc2 hc3 => by
          have hs := hc3.no 13 12 hc1
          have e1 : upd bq 12 12 = true := rfl
          have e2 : upd bq 12 13 = false := hs
          simp only [hc1, cond_false]
          refine sv rfl (y_alloc zr199) ?_
          exact (GOps_nil ⟨rfl, by rw [e1, e2]; rfl⟩)) ?_
      refine cg_pre [12, 10, 8, 0, 1, 2, 3, 4, 5, 6, 7, 8, 9, 10, 12] ?_
      refine cg_act 14 (fun bq rest hc1 hc2 hc3 => by
          have ha := hc2 12 dep_in
          have e1 : upd bq 13 12 = true := ha
          have e2 : upd bq 13 13 = true := rfl
          simp only [ha, hc1, cond_true, cond_false]
          refine sa rfl (d_store sz199) ?_
          exact (GOps_nil ⟨rfl, by rw [e1, e2]; rfl⟩)) ?_
      refine cg_pre [11, 13, 0, 1, 2, 3, 4, 5, 6, 7, 8, 9, 10, 11, 12, 13] ?_
      refine cg_st 15 (fun bq rest hc1 hc2 hc3 => sv rfl (y_assign) (GOps_nil ⟨rfl, rfl⟩)) ?_
      refine cg_done (mem'' := [[.d (.int .i64 0), .d (.int .i64 0), .d (.int .i64 0)], [.d (.int .i64 (ofS anu bnu).1.1), .d (.int .i64 (ofS anu bnu).1.2.1), .d (.int .i64 (ofS anu bnu).1.2.2)]]) ?_
      refine thn_normal ?_
      refine G_seq ?_
      refine g_keep [0, 1, 2, 4, 5, 6, 7, 8, 9, 10, 11, 12, 13, 14, 16, 55] ?_
      refine g_region ?_
      first | refine sv rfl (y_load_agg sz199 Tryz.underlying199 rfl) ?_ | refine sv rfl (y_loadp_agg (by exact sz199) Tryz.underlying199 rfl) ?_
      refine sv rfl (y_move) ?_
      refine sv rfl (y_eql) ?_
      first | refine sa rfl (d_store sz199) ?_ | refine sa rfl (d_store_take sz199) ?_
      refine sv rfl (y_assign) ?_
      refine GOps_nil ?_
      refine thn_normal ?_
      refine G_ret ?_
      refine blk_ret ?_
      refine thn_ret ?_
      refine fincd sz199 Tryz.underlying199 (by simp) ?_
      exact ⟨by rw [spanN, if_pos hb0, hvs, if_neg (by rw [show (!isV (v0 [some ta, some tb] 0) 1 || !isV (v0 [some ta, some tb] 1) 1) = false from hb1]; decide), show nuV (v0 [some ta, some tb] 0) = anu from hna, show nuV (v0 [some ta, some tb] 1) = bnu from hnb]; try rfl, rfl⟩
  ·
    refine G_seq_cut (α := Bool) (fun w => ⟨[(1, .d (knD l)), (2, .d (.ptr (.agg [.int .i64 op, .str nm, .int .i64 num, .sl (ks.map Tr.d)]))), (4, .ref 0 0), (5, .d (.bool false)), (55, .d (.bool w))], [[.d (.int .i64 0), .d (.int .i64 0), .d (.int .i64 0)]]⟩) (fun w => w = (op == 8 || op == 9)) (fun Q' hn he hr => ?_) (fun w hw => ?_)
    ·
      refine G_seq ?_
      refine g_region ?_
      refine sv rfl (y_eql) ?_
      refine sv rfl (y_assign) ?_
      refine GOps_nil ?_
      refine thn_normal ?_
      refine g_cond (fun hb2 => ?_) (fun hb2 => ?_)
      ·
        refine G_skip ?_
        refine hn _ (op == 8) (by rw [hb2]; rfl) le_of
      ·
        refine g_region ?_
        refine sv rfl (y_eql) ?_
        refine sv rfl (y_assign) ?_
        refine GOps_nil ?_
        refine hn _ (op == 9) (by rw [hb2]; rfl) le_of
    ·
      skip
      refine g_cond (fun hb3 => ?_) (fun hb3 => ?_)
      ·
        obtain ⟨k0, k1, a, b, r, ss', hks, hvs, hss, q0, hwf, q1⟩ := h8 (hw ▸ hb3)
        have hcb := valD_cells b
        obtain ⟨op0, nm0, nu0, ks0, ha0⟩ := k0.d_agg
        have hx0 : (ks.map Tr.d)[0]? = some (.agg [.int .i64 op0, .str nm0, .int .i64 nu0, .sl (ks0.map Tr.d)]) := by rw [hks, ← ha0]; rfl
        obtain ⟨op1, nm1, nu1, ks1, ha1⟩ := k1.d_agg
        have hx1 : (ks.map Tr.d)[1]? = some (.agg [.int .i64 op1, .str nm1, .int .i64 nu1, .sl (ks1.map Tr.d)]) := by rw [hks, ← ha1]; rfl
        refine G_seq ?_
        refine g_region ?_
        first | refine sv rfl (y_fieldAt 3 Tryz.underlying27 rfl sz22) ?_ | refine sv rfl (y_fieldAddr Tryz.underlying27 rfl sz22) ?_ | refine sv rfl (y_fieldp_leaf Tryz.underlying27 rfl sz22) ?_
        first | refine sv rfl (y_load_leaf Tryz.underlying22) ?_ | refine sv rfl (y_loadp_leaf Tryz.underlying22) ?_
        refine sv rfl (y_indexAddr Tryz.underlying22 sz27) ?_
        first | refine sv rfl (y_load_agg sz27 Tryz.underlying27 rfl) ?_ | refine sv rfl (y_loadp_agg (by exact sz27) Tryz.underlying27 rfl) ?_
        refine sv rfl (y_move) ?_
        refine g_call (xs := [.tmp 62, .tmp 63]) rfl ((ha0 ▸ q0)) ?_
        refine sv rfl (y_move) ?_
        refine sv rfl (y_extract) ?_
        refine sv rfl (y_extract) ?_
        refine sv rfl (y_alloc zr199) ?_
        first | refine sa rfl (d_store sz199) ?_ | refine sa rfl (d_store_take sz199) ?_
        refine sv rfl (y_assign) ?_
        refine GOps_nil ?_
        refine thn_normal ?_
        refine G_seq ?_
        refine g_keep [0, 1, 2, 4, 5, 6, 7, 8, 9, 10, 11, 12, 13, 14, 16, 55] ?_
        refine g_region ?_
        first | refine sv rfl (y_fieldAt 3 Tryz.underlying27 rfl sz22) ?_ | refine sv rfl (y_fieldAddr Tryz.underlying27 rfl sz22) ?_ | refine sv rfl (y_fieldp_leaf Tryz.underlying27 rfl sz22) ?_
        first | refine sv rfl (y_load_leaf Tryz.underlying22) ?_ | refine sv rfl (y_loadp_leaf Tryz.underlying22) ?_
        refine sv rfl (y_indexAddr Tryz.underlying22 sz27) ?_
        first | refine sv rfl (y_load_agg sz27 Tryz.underlying27 rfl) ?_ | refine sv rfl (y_loadp_agg (by exact sz27) Tryz.underlying27 rfl) ?_
        refine sv rfl (y_move) ?_
        refine g_call (xs := [.tmp 70, .tmp 71]) rfl ((ha1 ▸ q1)) ?_
        refine sv rfl (y_assign) ?_
        refine GOps_nil ?_
        refine thn_normal ?_
        refine G_seq ?_
        refine G_seq ?_
        refine g_region ?_
        refine sv rfl (y_move) ?_
        refine sv rfl (y_not) ?_
        refine sv rfl (y_move) ?_
        refine sg rfl (fun hg => q_move) ?_
        refine g_callg (xs := [.tmp 76, .const (.int .i64 (1))]) rfl (fun hg => c184 b 1) ?_
        refine sg rfl (fun hg => strip 77 (by simp only [GS.set, GS.get, List.lookup_cons, Nat.reduceBEq] <;> rfl) hg (q_not)) ?_
        refine sv rfl (y_or) ?_
        refine GOps_nil ?_
        refine thn_normal ?_
        refine g_cond (fun hb4 => ?_) (fun hb4 => ?_)
        ·
          refine G_seq ?_
          refine g_keep [0, 1, 2, 4, 5, 6, 7, 8, 9, 10, 11, 12, 13, 14, 16, 55] ?_
          refine g_region ?_
          refine sv rfl (y_buildS pl199 zr199) ?_
          first | refine sa rfl (d_store sz199) ?_ | refine sa rfl (d_store_take sz199) ?_
          refine sv rfl (y_assign) ?_
          refine GOps_nil ?_
          refine thn_normal ?_
          refine G_ret ?_
          refine thn_ret ?_
          refine blk_ret ?_
          refine thn_ret ?_
          refine fincd sz199 Tryz.underlying199 (by simp) ?_
          exact ⟨by rw [spanN, if_neg (by rw [hb0]; decide), if_pos (hw ▸ hb3), hvs, hss, if_pos (show (!(s0 (r :: ss')).2 || !isV (v0 [a, b] 1) 1) = true from hb4)]; try rfl, rfl⟩
        ·
          have hab := hb4
          simp only [Bool.or_eq_false_iff, Bool.not_eq_false'] at hab
          obtain ⟨hka, hkb⟩ := hab
          obtain ⟨tb, rfl, hbop⟩ := isV_some hkb
          obtain ⟨bop, bnm, bnu, bks, hab⟩ := tb.d_agg
          have hnb : nuV (some tb) = bnu := by obtain ⟨o, n, u, l⟩ := tb; rw [Tr.d_mk] at hab; injection hab with ha; injection ha with ha1 ha; injection ha with ha2 ha; injection ha with ha3 ha; injection ha3
          rw [show valD (some tb) = .ptr tb.d from rfl, hab]
          refine G_skip ?_
          refine thn_normal ?_
          refine G_seq ?_
          refine g_keep [0, 1, 2, 4, 5, 6, 7, 8, 9, 10, 11, 12, 13, 14, 16, 55] ?_
          refine g_region ?_
          refine sv rfl (y_assign) ?_
          refine GOps_nil ?_
          refine thn_normal ?_
          refine G_seq ?_
          refine G_seq ?_
          refine g_region ?_
          first | refine sv rfl (y_fieldAt 0 Tryz.underlying27 rfl sz3) ?_ | refine sv rfl (y_fieldAddr Tryz.underlying27 rfl sz3) ?_ | refine sv rfl (y_fieldp_leaf Tryz.underlying27 rfl sz3) ?_
          first | refine sv rfl (y_load_leaf Tryz.underlying3) ?_ | refine sv rfl (y_loadp_leaf Tryz.underlying3) ?_
          refine sv rfl (y_eql) ?_
          refine GOps_nil ?_
          refine thn_normal ?_
          refine g_cond (fun hb5 => ?_) (fun hb5 => ?_)
          ·
            refine g_region ?_
            refine sv rfl (y_assign) ?_
            refine GOps_nil ?_
            refine thn_normal ?_
            refine G_seq ?_
            refine g_cg [85, 86, 87, 88, 89, 90, 91, 84, 92, 93, 14] (fun bq => [[.d (.int .i64 0), .d (.int .i64 0), .d (.int .i64 0)], cond (bq 10) [.d (.int .i64 ((countS r.1.1 r.1.2.1 r.1.2.2 bnu)).1.1), .d (.int .i64 ((countS r.1.1 r.1.2.1 r.1.2.2 bnu)).1.2.1), .d (.int .i64 ((countS r.1.1 r.1.2.1 r.1.2.2 bnu)).1.2.2)] [.d (.int .i64 r.1.1), .d (.int .i64 r.1.2.1), .d (.int .i64 r.1.2.2)]]) rfl ?_
            refine cg_pre [] ?_
            refine cg_st 1 (fun bq rest hc1 hc2 hc3 => sv rfl (y_move) (GOps_nil ⟨rfl, rfl⟩)) ?_
            refine cg_pre [] ?_
            refine cg_st 2 (fun bq rest hc1 hc2 hc3 => by
                have hs := hc3.no 10 1 hc1
                have e2 : upd bq 1 10 = false := hs
                simp only [hs, cond_false]
                refine sv rfl (y_load_agg sz199 Tryz.underlying199 rfl) ?_
                exact (GOps_nil ⟨rfl, by rw [e2]; rfl⟩)) ?_
            refine cg_pre [] ?_
            refine cg_st 3 (fun bq rest hc1 hc2 hc3 => sv rfl (y_move) (GOps_nil ⟨rfl, rfl⟩)) ?_
            refine cg_pre [2] ?_
            refine cg_st 4 (fun bq rest hc1 hc2 hc3 => sv rfl (y_nilCheck) (GOps_nil ⟨rfl, rfl⟩)) ?_
            refine cg_pre [3] ?_
            first | refine cg_st 5 (fun bq rest hc1 hc2 hc3 => sv rfl (y_fieldAt 2 Tryz.underlying27 rfl sz3) (GOps_nil ⟨rfl, rfl⟩)) ?_ | refine cg_st 5 (fun bq rest hc1 hc2 hc3 => sv rfl (y_fieldAddr Tryz.underlying27 rfl sz3) (GOps_nil ⟨rfl, rfl⟩)) ?_ | refine cg_st 5 (fun bq rest hc1 hc2 hc3 => sv rfl (y_fieldp_leaf Tryz.underlying27 rfl sz3) (GOps_nil ⟨rfl, rfl⟩)) ?_
            refine cg_pre [4] ?_
            first | refine cg_st 6 (fun bq rest hc1 hc2 hc3 => sv rfl (y_load_leaf Tryz.underlying3) (GOps_nil ⟨rfl, rfl⟩)) ?_ | refine cg_st 6 (fun bq rest hc1 hc2 hc3 => sv rfl (y_loadp_leaf Tryz.underlying3) (GOps_nil ⟨rfl, rfl⟩)) ?_
            refine cg_pre [0, 1, 5] ?_
            refine cg_st 7 (fun bq rest hc1 hc2 hc3 => g_call (xs := [.tmp 86, .tmp 90]) rfl (c248 r.1.1 r.1.2.1 r.1.2.2 bnu hwf) (GOps_nil ⟨rfl, rfl⟩)) ?_
            refine cg_pre [6] ?_
            refine cg_st 8 (fun bq rest hc1 hc2 hc3 => sv rfl (y_move) (GOps_nil ⟨rfl, rfl⟩)) ?_
            refine cg_pre [7] ?_
            refine cg_st 9 (fun bq rest hc1 hc2 hc3 => sv rfl (y_extract) (GOps_nil ⟨rfl, rfl⟩)) ?_
            refine cg_pre [7] ?_
            refine cg_st 10 (fun bq rest hc1 hc2 hc3 => sv rfl (y_extract) (GOps_nil ⟨rfl, rfl⟩)) ?_
            refine cg_pre [8, 6, 0, 1, 2, 3, 4, 5, 6, 7, 8] ?_
            refine cg_act 11 (fun bq rest hc1 hc2 hc3 => by
                have e2 : upd bq 10 10 = true := rfl
                simp only [hc1, cond_false]
                refine sa rfl (d_store sz199) ?_
                exact (GOps_nil ⟨rfl, by rw [e2]; rfl⟩)) ?_
            refine cg_pre [9, 10, 0, 1, 2, 3, 4, 5, 6, 7, 8, 9, 10] ?_
            refine cg_st 12 (fun bq rest hc1 hc2 hc3 => sv rfl (y_assign) (GOps_nil ⟨rfl, rfl⟩)) ?_
            refine cg_done (mem'' := [[.d (.int .i64 0), .d (.int .i64 0), .d (.int .i64 0)], [.d (.int .i64 ((countS r.1.1 r.1.2.1 r.1.2.2 bnu)).1.1), .d (.int .i64 ((countS r.1.1 r.1.2.1 r.1.2.2 bnu)).1.2.1), .d (.int .i64 ((countS r.1.1 r.1.2.1 r.1.2.2 bnu)).1.2.2)]]) ?_
            refine thn_normal ?_
            refine G_seq ?_
            refine g_keep [0, 1, 2, 4, 5, 6, 7, 8, 9, 10, 11, 12, 13, 14, 16, 55] ?_
            refine g_region ?_
            first | refine sv rfl (y_load_agg sz199 Tryz.underlying199 rfl) ?_ | refine sv rfl (y_loadp_agg (by exact sz199) Tryz.underlying199 rfl) ?_
            refine sv rfl (y_move) ?_
            refine sv rfl (y_eql) ?_
            first | refine sa rfl (d_store sz199) ?_ | refine sa rfl (d_store_take sz199) ?_
            refine sv rfl (y_assign) ?_
            refine GOps_nil ?_
            refine thn_normal ?_
            refine G_ret ?_
            refine blk_ret ?_
            refine thn_ret ?_
            refine fincd sz199 Tryz.underlying199 (by simp) ?_
            exact ⟨by rw [spanN, if_neg (by rw [hb0]; decide), if_pos (hw ▸ hb3), hvs, hss, if_neg (by rw [show (!(s0 (r :: ss')).2 || !isV (v0 [a, some tb] 1) 1) = false from hb4]; decide), if_pos hb5, show nuV (v0 [a, some tb] 1) = bnu from hnb]; try rfl, rfl⟩
          ·
            refine G_skip ?_
            refine thn_normal ?_
            refine G_seq ?_
            refine g_cg [85, 86, 87, 88, 89, 90, 91, 84, 92, 93, 14] (fun bq => [[.d (.int .i64 0), .d (.int .i64 0), .d (.int .i64 0)], cond (bq 10) [.d (.int .i64 ((byS r.1.1 r.1.2.1 r.1.2.2 bnu)).1.1), .d (.int .i64 ((byS r.1.1 r.1.2.1 r.1.2.2 bnu)).1.2.1), .d (.int .i64 ((byS r.1.1 r.1.2.1 r.1.2.2 bnu)).1.2.2)] [.d (.int .i64 r.1.1), .d (.int .i64 r.1.2.1), .d (.int .i64 r.1.2.2)]]) rfl ?_
            refine cg_pre [] ?_
            refine cg_st 1 (fun bq rest hc1 hc2 hc3 => sv rfl (y_move) (GOps_nil ⟨rfl, rfl⟩)) ?_
            refine cg_pre [] ?_
            refine cg_st 2 (fun bq rest hc1 hc2 hc3 => by
                have hs := hc3.no 10 1 hc1
                have e2 : upd bq 1 10 = false := hs
                simp only [hs, cond_false]
                refine sv rfl (y_load_agg sz199 Tryz.underlying199 rfl) ?_
                exact (GOps_nil ⟨rfl, by rw [e2]; rfl⟩)) ?_
            refine cg_pre [] ?_
            refine cg_st 3 (fun bq rest hc1 hc2 hc3 => sv rfl (y_move) (GOps_nil ⟨rfl, rfl⟩)) ?_
            refine cg_pre [2] ?_
            refine cg_st 4 (fun bq rest hc1 hc2 hc3 => sv rfl (y_nilCheck) (GOps_nil ⟨rfl, rfl⟩)) ?_
            refine cg_pre [3] ?_
            first | refine cg_st 5 (fun bq rest hc1 hc2 hc3 => sv rfl (y_fieldAt 2 Tryz.underlying27 rfl sz3) (GOps_nil ⟨rfl, rfl⟩)) ?_ | refine cg_st 5 (fun bq rest hc1 hc2 hc3 => sv rfl (y_fieldAddr Tryz.underlying27 rfl sz3) (GOps_nil ⟨rfl, rfl⟩)) ?_ | refine cg_st 5 (fun bq rest hc1 hc2 hc3 => sv rfl (y_fieldp_leaf Tryz.underlying27 rfl sz3) (GOps_nil ⟨rfl, rfl⟩)) ?_
            refine cg_pre [4] ?_
            first | refine cg_st 6 (fun bq rest hc1 hc2 hc3 => sv rfl (y_load_leaf Tryz.underlying3) (GOps_nil ⟨rfl, rfl⟩)) ?_ | refine cg_st 6 (fun bq rest hc1 hc2 hc3 => sv rfl (y_loadp_leaf Tryz.underlying3) (GOps_nil ⟨rfl, rfl⟩)) ?_
            refine cg_pre [0, 1, 5] ?_
            refine cg_st 7 (fun bq rest hc1 hc2 hc3 => g_call (xs := [.tmp 86, .tmp 90]) rfl (c247 r.1.1 r.1.2.1 r.1.2.2 bnu hwf) (GOps_nil ⟨rfl, rfl⟩)) ?_
            refine cg_pre [6] ?_
            refine cg_st 8 (fun bq rest hc1 hc2 hc3 => sv rfl (y_move) (GOps_nil ⟨rfl, rfl⟩)) ?_
            refine cg_pre [7] ?_
            refine cg_st 9 (fun bq rest hc1 hc2 hc3 => sv rfl (y_extract) (GOps_nil ⟨rfl, rfl⟩)) ?_
            refine cg_pre [7] ?_
            refine cg_st 10 (fun bq rest hc1 hc2 hc3 => sv rfl (y_extract) (GOps_nil ⟨rfl, rfl⟩)) ?_
            refine cg_pre [8, 6, 0, 1, 2, 3, 4, 5, 6, 7, 8] ?_
            refine cg_act 11 (fun bq rest hc1 hc2 hc3 => by
                have e2 : upd bq 10 10 = true := rfl
                simp only [hc1, cond_false]
                refine sa rfl (d_store sz199) ?_
                exact (GOps_nil ⟨rfl, by rw [e2]; rfl⟩)) ?_
            refine cg_pre [9, 10, 0, 1, 2, 3, 4, 5, 6, 7, 8, 9, 10] ?_
            refine cg_st 12 (fun bq rest hc1 hc2 hc3 => sv rfl (y_assign) (GOps_nil ⟨rfl, rfl⟩)) ?_
            refine cg_done (mem'' := [[.d (.int .i64 0), .d (.int .i64 0), .d (.int .i64 0)], [.d (.int .i64 ((byS r.1.1 r.1.2.1 r.1.2.2 bnu)).1.1), .d (.int .i64 ((byS r.1.1 r.1.2.1 r.1.2.2 bnu)).1.2.1), .d (.int .i64 ((byS r.1.1 r.1.2.1 r.1.2.2 bnu)).1.2.2)]]) ?_
            refine thn_normal ?_
            refine G_seq ?_
            refine g_keep [0, 1, 2, 4, 5, 6, 7, 8, 9, 10, 11, 12, 13, 14, 16, 55] ?_
            refine g_region ?_
            first | refine sv rfl (y_load_agg sz199 Tryz.underlying199 rfl) ?_ | refine sv rfl (y_loadp_agg (by exact sz199) Tryz.underlying199 rfl) ?_
            refine sv rfl (y_move) ?_
            refine sv rfl (y_eql) ?_
            first | refine sa rfl (d_store sz199) ?_ | refine sa rfl (d_store_take sz199) ?_
            refine sv rfl (y_assign) ?_
            refine GOps_nil ?_
            refine thn_normal ?_
            refine G_ret ?_
            refine blk_ret ?_
            refine thn_ret ?_
            refine fincd sz199 Tryz.underlying199 (by simp) ?_
            exact ⟨by rw [spanN, if_neg (by rw [hb0]; decide), if_pos (hw ▸ hb3), hvs, hss, if_neg (by rw [show (!(s0 (r :: ss')).2 || !isV (v0 [a, some tb] 1) 1) = false from hb4]; decide), if_neg (by rw [hb5]; decide), show nuV (v0 [a, some tb] 1) = bnu from hnb]; try rfl, rfl⟩
      ·
        refine G_skip ?_
        refine blk_normal ?_
        refine thn_normal ?_
        refine G_seq ?_
        refine g_region ?_
        refine sv rfl (y_buildS pl199 zr199) ?_
        first | refine sa rfl (d_store sz199) ?_ | refine sa rfl (d_store_take sz199) ?_
        refine sv rfl (y_assign) ?_
        refine GOps_nil ?_
        refine thn_normal ?_
        refine G_ret ?_
        refine fincd sz199 Tryz.underlying199 (by simp) ?_
        exact ⟨by rw [spanN, if_neg (by rw [hb0]; decide), if_neg (by rw [← hw, hb3]; decide)]; try rfl, rfl⟩
set_option maxHeartbeats 8000000 in
theorem c104x (l : KL) (op : Int) (nm : ByteArray) (num : Int) (ks : List Tr) (vs : List (Option Tr)) (ss : List SP)
    (h5 : (op == 5) = true → ∃ k0 a, ks = [k0] ∧ vs = [a] ∧ Pf Tryz.prog 104 [k0.d, knD l] (.d (valD a)))
    (h6 : (op == 6) = true → ∃ k0 k1 a b, ks = [k0, k1] ∧ vs = [a, b] ∧ Pf Tryz.prog 104 [k0.d, knD l] (.d (valD a)) ∧ Pf Tryz.prog 104 [k1.d, knD l] (.d (valD b)))
    (h19 : (op == 19) = true → ∃ k0 k1 k2 a b c, ks = [k0, k1, k2] ∧ vs = [a, b, c] ∧ Pf Tryz.prog 104 [k0.d, knD l] (.d (valD a)) ∧ Pf Tryz.prog 104 [k1.d, knD l] (.d (valD b)) ∧ Pf Tryz.prog 104 [k2.d, knD l] (.d (valD c)) ∧ ∀ t, a = some t → t.op = 2 → t.nu = 0 ∨ t.nu = 1)
    (h14 : (op == 14) = true → ∃ k0 r, ks = [k0] ∧ ss = [r] ∧ Pf Tryz.prog 185 [k0.d, knD l] (.tup [.d (.agg [.int .i64 r.1.1, .int .i64 r.1.2.1, .int .i64 r.1.2.2]), .d (.bool r.2)]) ∧ wf64 r.1.2.2) : Pf Tryz.prog 104 [.agg [.int .i64 op, .str nm, .int .i64 num, .sl (ks.map Tr.d)], knD l] (.d (valD (valN l op nm num ks vs ss))) := by
  refine pf_body (rvs := [.tmp 4]) [(0, .d (.agg [.int .i64 op, .str nm, .int .i64 num, .sl (ks.map Tr.d)])), (1, .d (knD l))] Tryz.func104 Tryz.ntmps104 Tryz.results104 (fun S0 O0 w0 m0 hm0 => ?_)
  refine G_seq ?_
  refine g_region ?_
  refine sv rfl (y_box) ?_
  refine g_freeze 0 [] (.agg [.int .i64 op, .str nm, .int .i64 num, .sl (ks.map Tr.d)]) rfl ?_
  refine sv rfl (y_assign) ?_
  refine GOps_nil ?_
  refine thn_normal ?_
  refine G_seq ?_
  refine G_seq ?_
  refine g_region ?_
  first | refine sv rfl (y_fieldAt 0 Tryz.underlying27 rfl sz3) ?_ | refine sv rfl (y_fieldAddr Tryz.underlying27 rfl sz3) ?_ | refine sv rfl (y_fieldp_leaf Tryz.underlying27 rfl sz3) ?_
  first | refine sv rfl (y_load_leaf Tryz.underlying3) ?_ | refine sv rfl (y_loadp_leaf Tryz.underlying3) ?_
  refine GOps_nil ?_
  refine thn_normal ?_
  refine G_block ?_
  refine G_seq_cut (α := Bool) (fun w => ⟨[(1, .d (knD l)), (2, .d (.ptr (.agg [.int .i64 op, .str nm, .int .i64 num, .sl (ks.map Tr.d)]))), (9, .d (.int .i64 op)), (10, .d (.bool w))], []⟩) (fun w => w = (op == 1 || op == 2)) (fun Q' hn he hr => ?_) (fun w hw => ?_)
  ·
    refine G_seq ?_
    refine g_region ?_
    refine sv rfl (y_eql) ?_
    refine sv rfl (y_assign) ?_
    refine GOps_nil ?_
    refine thn_normal ?_
    refine g_cond (fun hb0 => ?_) (fun hb0 => ?_)
    ·
      refine G_skip ?_
      refine hn _ (op == 1) (by rw [hb0]; rfl) le_of
    ·
      refine g_region ?_
      refine sv rfl (y_eql) ?_
      refine sv rfl (y_assign) ?_
      refine GOps_nil ?_
      refine hn _ (op == 2) (by rw [hb0]; rfl) le_of
  ·
    skip
    refine g_cond (fun hb1 => ?_) (fun hb1 => ?_)
    ·
      refine G_seq ?_
      refine g_region ?_
      refine sv rfl (y_assign) ?_
      refine GOps_nil ?_
      refine thn_normal ?_
      refine G_ret ?_
      refine blk_ret ?_
      refine thn_ret ?_
      refine fin1 (by simp) ?_
      exact ⟨by rw [valN, if_pos (hw ▸ hb1), valD, Tr.d_mk]; try rfl, rfl⟩
    ·
      refine G_seq ?_
      refine g_region ?_
      refine sv rfl (y_eql) ?_
      refine sv rfl (y_assign) ?_
      refine GOps_nil ?_
      refine thn_normal ?_
      refine g_cond (fun hb2 => ?_) (fun hb2 => ?_)
      ·
        refine G_seq ?_
        refine g_region ?_
        refine sv rfl (y_move) ?_
        first | refine sv rfl (y_fieldAt 1 Tryz.underlying27 rfl sz9) ?_ | refine sv rfl (y_fieldAddr Tryz.underlying27 rfl sz9) ?_ | refine sv rfl (y_fieldp_leaf Tryz.underlying27 rfl sz9) ?_
        first | refine sv rfl (y_load_leaf Tryz.underlying9) ?_ | refine sv rfl (y_loadp_leaf Tryz.underlying9) ?_
        refine g_call (xs := [.tmp 15, .tmp 17]) rfl (c181 l nm) ?_
        refine sv rfl (y_assign) ?_
        refine GOps_nil ?_
        refine thn_normal ?_
        refine G_ret ?_
        refine blk_ret ?_
        refine thn_ret ?_
        refine fin1 (by simp) ?_
        exact ⟨by rw [valN, if_neg (by rw [← hw, hb1]; decide), if_pos hb2]; try rfl, rfl⟩
      ·
        refine G_seq ?_
        refine g_region ?_
        refine sv rfl (y_eql) ?_
        refine sv rfl (y_assign) ?_
        refine GOps_nil ?_
        refine thn_normal ?_
        refine g_cond (fun hb3 => ?_) (fun hb3 => ?_)
        ·
          obtain ⟨k0, a, hks, hvs, q0⟩ := h5 hb3
          obtain ⟨op0, nm0, nu0, ks0, ha0⟩ := k0.d_agg
          have hx0 : (ks.map Tr.d)[0]? = some (.agg [.int .i64 op0, .str nm0, .int .i64 nu0, .sl (ks0.map Tr.d)]) := by rw [hks, ← ha0]; rfl
          refine G_seq ?_
          refine g_keep [0, 1, 2, 4, 5, 6, 7, 9, 10] ?_
          refine g_cg0 [21, 22, 23, 24, 25, 26, 27, 28, 29, 4] ?_
          refine cg_pre [] ?_
          first | refine cg_st 1 (fun bq rest hc1 hc2 hc3 => sv rfl (y_fieldAt 1 Tryz.underlying27 rfl sz9) (GOps_nil ⟨rfl, rfl⟩)) ?_ | refine cg_st 1 (fun bq rest hc1 hc2 hc3 => sv rfl (y_fieldAddr Tryz.underlying27 rfl sz9) (GOps_nil ⟨rfl, rfl⟩)) ?_ | refine cg_st 1 (fun bq rest hc1 hc2 hc3 => sv rfl (y_fieldp_leaf Tryz.underlying27 rfl sz9) (GOps_nil ⟨rfl, rfl⟩)) ?_
          refine cg_pre [0] ?_
          first | refine cg_st 2 (fun bq rest hc1 hc2 hc3 => sv rfl (y_load_leaf Tryz.underlying9) (GOps_nil ⟨rfl, rfl⟩)) ?_ | refine cg_st 2 (fun bq rest hc1 hc2 hc3 => sv rfl (y_loadp_leaf Tryz.underlying9) (GOps_nil ⟨rfl, rfl⟩)) ?_
          refine cg_pre [] ?_
          first | refine cg_st 3 (fun bq rest hc1 hc2 hc3 => sv rfl (y_fieldAt 3 Tryz.underlying27 rfl sz22) (GOps_nil ⟨rfl, rfl⟩)) ?_ | refine cg_st 3 (fun bq rest hc1 hc2 hc3 => sv rfl (y_fieldAddr Tryz.underlying27 rfl sz22) (GOps_nil ⟨rfl, rfl⟩)) ?_ | refine cg_st 3 (fun bq rest hc1 hc2 hc3 => sv rfl (y_fieldp_leaf Tryz.underlying27 rfl sz22) (GOps_nil ⟨rfl, rfl⟩)) ?_
          refine cg_pre [2] ?_
          first | refine cg_st 4 (fun bq rest hc1 hc2 hc3 => sv rfl (y_load_leaf Tryz.underlying22) (GOps_nil ⟨rfl, rfl⟩)) ?_ | refine cg_st 4 (fun bq rest hc1 hc2 hc3 => sv rfl (y_loadp_leaf Tryz.underlying22) (GOps_nil ⟨rfl, rfl⟩)) ?_
          refine cg_pre [3] ?_
          refine cg_st 5 (fun bq rest hc1 hc2 hc3 => sv rfl (y_indexAddr Tryz.underlying22 sz27) (GOps_nil ⟨rfl, rfl⟩)) ?_
          refine cg_pre [4] ?_
          first | refine cg_st 6 (fun bq rest hc1 hc2 hc3 => sv rfl (y_load_agg sz27 Tryz.underlying27 rfl) (GOps_nil ⟨rfl, rfl⟩)) ?_ | refine cg_st 6 (fun bq rest hc1 hc2 hc3 => sv rfl (y_loadp_agg (by exact sz27) Tryz.underlying27 rfl) (GOps_nil ⟨rfl, rfl⟩)) ?_
          refine cg_pre [] ?_
          refine cg_st 7 (fun bq rest hc1 hc2 hc3 => sv rfl (y_move) (GOps_nil ⟨rfl, rfl⟩)) ?_
          refine cg_pre [5, 6] ?_
          refine cg_st 8 (fun bq rest hc1 hc2 hc3 => g_call (xs := [.tmp 26, .tmp 27]) rfl ((ha0 ▸ q0)) (GOps_nil ⟨rfl, rfl⟩)) ?_
          refine cg_pre [1, 7, 7] ?_
          refine cg_st 9 (fun bq rest hc1 hc2 hc3 => g_call (xs := [.tmp 22, .tmp 28]) rfl (c182 nm a) (GOps_nil ⟨rfl, rfl⟩)) ?_
          refine cg_pre [8, 8, 0, 1, 2, 3, 4, 5, 6, 7, 8] ?_
          refine cg_st 10 (fun bq rest hc1 hc2 hc3 => sv rfl (y_assign) (GOps_nil ⟨rfl, rfl⟩)) ?_
          refine cg_done ?_
          refine thn_normal ?_
          refine G_ret ?_
          refine blk_ret ?_
          refine thn_ret ?_
          refine fin1 (by simp) ?_
          exact ⟨by rw [valN, if_neg (by rw [← hw, hb1]; decide), if_neg (by rw [hb2]; decide), if_pos hb3, hvs]; try rfl, rfl⟩
        ·
          refine G_seq ?_
          refine g_keep [0, 1, 2, 4, 5, 6, 7, 9, 10] ?_
          refine g_region ?_
          refine sv rfl (y_eql) ?_
          refine sv rfl (y_assign) ?_
          refine GOps_nil ?_
          refine thn_normal ?_
          refine g_cond (fun hb4 => ?_) (fun hb4 => ?_)
          ·
            obtain ⟨k0, k1, a, b, hks, hvs, q0, q1⟩ := h6 hb4
            refine G_seq ?_
            refine g_region ?_
            first | refine sv rfl (y_load_agg sz27 Tryz.underlying27 rfl) ?_ | refine sv rfl (y_loadp_agg (by exact sz27) Tryz.underlying27 rfl) ?_
            refine sv rfl (y_move) ?_
            refine g_call (xs := [.tmp 32, .tmp 33]) rfl ((hks ▸ c183 l op nm num k0 k1 a b q0 q1)) ?_
            refine sv rfl (y_assign) ?_
            refine GOps_nil ?_
            refine thn_normal ?_
            refine G_ret ?_
            refine blk_ret ?_
            refine thn_ret ?_
            refine fin1 (by simp) ?_
            exact ⟨by rw [valN, if_neg (by rw [← hw, hb1]; decide), if_neg (by rw [hb2]; decide), if_neg (by rw [hb3]; decide), if_pos hb4, hvs]; try rfl, rfl⟩
          ·
            refine G_seq ?_
            refine g_region ?_
            refine sv rfl (y_eql) ?_
            refine sv rfl (y_assign) ?_
            refine GOps_nil ?_
            refine thn_normal ?_
            refine g_cond (fun hb5 => ?_) (fun hb5 => ?_)
            ·
              obtain ⟨k0, k1, k2, a, b, c, hks, hvs, q0, q1, q2, hab⟩ := h19 hb5
              have hca := valD_cells a
              obtain ⟨op0, nm0, nu0, ks0, ha0⟩ := k0.d_agg
              have hx0 : (ks.map Tr.d)[0]? = some (.agg [.int .i64 op0, .str nm0, .int .i64 nu0, .sl (ks0.map Tr.d)]) := by rw [hks, ← ha0]; rfl
              obtain ⟨op1, nm1, nu1, ks1, ha1⟩ := k1.d_agg
              have hx1 : (ks.map Tr.d)[1]? = some (.agg [.int .i64 op1, .str nm1, .int .i64 nu1, .sl (ks1.map Tr.d)]) := by rw [hks, ← ha1]; rfl
              obtain ⟨op2, nm2, nu2, ks2, ha2⟩ := k2.d_agg
              have hx2 : (ks.map Tr.d)[2]? = some (.agg [.int .i64 op2, .str nm2, .int .i64 nu2, .sl (ks2.map Tr.d)]) := by rw [hks, ← ha2]; rfl
              refine G_seq ?_
              refine g_region ?_
              first | refine sv rfl (y_fieldAt 3 Tryz.underlying27 rfl sz22) ?_ | refine sv rfl (y_fieldAddr Tryz.underlying27 rfl sz22) ?_ | refine sv rfl (y_fieldp_leaf Tryz.underlying27 rfl sz22) ?_
              first | refine sv rfl (y_load_leaf Tryz.underlying22) ?_ | refine sv rfl (y_loadp_leaf Tryz.underlying22) ?_
              refine sv rfl (y_indexAddr Tryz.underlying22 sz27) ?_
              first | refine sv rfl (y_load_agg sz27 Tryz.underlying27 rfl) ?_ | refine sv rfl (y_loadp_agg (by exact sz27) Tryz.underlying27 rfl) ?_
              refine sv rfl (y_move) ?_
              refine g_call (xs := [.tmp 40, .tmp 41]) rfl ((ha0 ▸ q0)) ?_
              refine sv rfl (y_assign) ?_
              refine GOps_nil ?_
              refine thn_normal ?_
              refine G_seq ?_
              refine G_seq ?_
              refine g_region ?_
              refine sv rfl (y_move) ?_
              refine g_call (xs := [.tmp 43, .const (.int .i64 (2))]) rfl (c184 a 2) ?_
              refine sv rfl (y_not) ?_
              refine GOps_nil ?_
              refine thn_normal ?_
              refine g_cond (fun hb6 => ?_) (fun hb6 => ?_)
              ·
                refine G_seq ?_
                refine g_keep [0, 1, 2, 4, 5, 6, 7, 9, 10] ?_
                refine g_region ?_
                refine sv rfl (y_assign) ?_
                refine GOps_nil ?_
                refine thn_normal ?_
                refine G_ret ?_
                refine thn_ret ?_
                refine blk_ret ?_
                refine thn_ret ?_
                refine fin1 (by simp) ?_
                exact ⟨by rw [valN, if_neg (by rw [← hw, hb1]; decide), if_neg (by rw [hb2]; decide), if_neg (by rw [hb3]; decide), if_neg (by rw [hb4]; decide), if_pos hb5, hvs, if_pos (show (!isV (v0 [a, b, c] 0) 2) = true from hb6)]; try rfl, rfl⟩
              ·
                have hka : isV a 2 = true := by simpa using hb6
                obtain ⟨ta, rfl, haop⟩ := isV_some hka
                obtain ⟨aop, anm, anu, aks, haa⟩ := ta.d_agg
                have hna : nuV (some ta) = anu := by obtain ⟨o, n, u, l⟩ := ta; rw [Tr.d_mk] at haa; injection haa with ha; injection ha with ha1 ha; injection ha with ha2 ha; injection ha with ha3 ha; injection ha3
                rw [show valD (some ta) = .ptr ta.d from rfl, haa]
                have hnn := hab ta rfl haop
                rw [show ta.nu = anu from hna] at hnn
                refine G_skip ?_
                refine thn_normal ?_
                refine G_seq ?_
                rcases hnn with rfl | rfl
                ·
                  refine g_keep [0, 1, 2, 4, 5, 6, 7, 9, 10] ?_
                  refine g_cg0 [46, 47, 48, 49, 50, 51, 52, 53, 54, 55, 56, 4] ?_
                  refine cg_pre [] ?_
                  first | refine cg_st 1 (fun bq rest hc1 hc2 hc3 => sv rfl (y_fieldAt 3 Tryz.underlying27 rfl sz22) (GOps_nil ⟨rfl, rfl⟩)) ?_ | refine cg_st 1 (fun bq rest hc1 hc2 hc3 => sv rfl (y_fieldAddr Tryz.underlying27 rfl sz22) (GOps_nil ⟨rfl, rfl⟩)) ?_ | refine cg_st 1 (fun bq rest hc1 hc2 hc3 => sv rfl (y_fieldp_leaf Tryz.underlying27 rfl sz22) (GOps_nil ⟨rfl, rfl⟩)) ?_
                  refine cg_pre [0] ?_
                  first | refine cg_st 2 (fun bq rest hc1 hc2 hc3 => sv rfl (y_load_leaf Tryz.underlying22) (GOps_nil ⟨rfl, rfl⟩)) ?_ | refine cg_st 2 (fun bq rest hc1 hc2 hc3 => sv rfl (y_loadp_leaf Tryz.underlying22) (GOps_nil ⟨rfl, rfl⟩)) ?_
                  refine cg_pre [] ?_
                  refine cg_st 3 (fun bq rest hc1 hc2 hc3 => sv rfl (y_move) (GOps_nil ⟨rfl, rfl⟩)) ?_
                  refine cg_pre [2] ?_
                  refine cg_st 4 (fun bq rest hc1 hc2 hc3 => sv rfl (y_nilCheck) (GOps_nil ⟨rfl, rfl⟩)) ?_
                  refine cg_pre [3] ?_
                  first | refine cg_st 5 (fun bq rest hc1 hc2 hc3 => sv rfl (y_fieldAt 2 Tryz.underlying27 rfl sz3) (GOps_nil ⟨rfl, rfl⟩)) ?_ | refine cg_st 5 (fun bq rest hc1 hc2 hc3 => sv rfl (y_fieldAddr Tryz.underlying27 rfl sz3) (GOps_nil ⟨rfl, rfl⟩)) ?_ | refine cg_st 5 (fun bq rest hc1 hc2 hc3 => sv rfl (y_fieldp_leaf Tryz.underlying27 rfl sz3) (GOps_nil ⟨rfl, rfl⟩)) ?_
                  refine cg_pre [4] ?_
                  first | refine cg_st 6 (fun bq rest hc1 hc2 hc3 => sv rfl (y_load_leaf Tryz.underlying3) (GOps_nil ⟨rfl, rfl⟩)) ?_ | refine cg_st 6 (fun bq rest hc1 hc2 hc3 => sv rfl (y_loadp_leaf Tryz.underlying3) (GOps_nil ⟨rfl, rfl⟩)) ?_
                  refine cg_pre [5] ?_
                  refine cg_st 7 (fun bq rest hc1 hc2 hc3 => sv rfl (y_sub (hw := (show IntKind.i64.wrap (2 - 0) = 2 from by decide))) (GOps_nil ⟨rfl, rfl⟩)) ?_
                  refine cg_pre [1, 6] ?_
                  refine cg_st 8 (fun bq rest hc1 hc2 hc3 => sv rfl (y_indexAddr Tryz.underlying22 sz27) (GOps_nil ⟨rfl, rfl⟩)) ?_
                  refine cg_pre [7] ?_
                  first | refine cg_st 9 (fun bq rest hc1 hc2 hc3 => sv rfl (y_load_agg sz27 Tryz.underlying27 rfl) (GOps_nil ⟨rfl, rfl⟩)) ?_ | refine cg_st 9 (fun bq rest hc1 hc2 hc3 => sv rfl (y_loadp_agg (by exact sz27) Tryz.underlying27 rfl) (GOps_nil ⟨rfl, rfl⟩)) ?_
                  refine cg_pre [] ?_
                  refine cg_st 10 (fun bq rest hc1 hc2 hc3 => sv rfl (y_move) (GOps_nil ⟨rfl, rfl⟩)) ?_
                  refine cg_pre [8, 9] ?_
                  refine cg_st 11 (fun bq rest hc1 hc2 hc3 => g_call (xs := [.tmp 54, .tmp 55]) rfl ((ha2 ▸ q2)) (GOps_nil ⟨rfl, rfl⟩)) ?_
                  refine cg_pre [10, 10, 0, 1, 2, 3, 4, 5, 6, 7, 8, 9, 10] ?_
                  refine cg_st 12 (fun bq rest hc1 hc2 hc3 => sv rfl (y_assign) (GOps_nil ⟨rfl, rfl⟩)) ?_
                  refine cg_done ?_
                  refine thn_normal ?_
                  refine G_ret ?_
                  refine blk_ret ?_
                  refine thn_ret ?_
                  refine fin1 (by simp) ?_
                  exact ⟨by rw [valN, if_neg (by rw [← hw, hb1]; decide), if_neg (by rw [hb2]; decide), if_neg (by rw [hb3]; decide), if_neg (by rw [hb4]; decide), if_pos hb5, hvs, if_neg (by rw [show (!isV (v0 [some ta, b, c] 0) 2) = false from hb6]; decide), show nuV (v0 [some ta, b, c] 0) = 0 from hna]; try rfl, rfl⟩
                ·
                  refine g_keep [0, 1, 2, 4, 5, 6, 7, 9, 10] ?_
                  refine g_cg0 [46, 47, 48, 49, 50, 51, 52, 53, 54, 55, 56, 4] ?_
                  refine cg_pre [] ?_
                  first | refine cg_st 1 (fun bq rest hc1 hc2 hc3 => sv rfl (y_fieldAt 3 Tryz.underlying27 rfl sz22) (GOps_nil ⟨rfl, rfl⟩)) ?_ | refine cg_st 1 (fun bq rest hc1 hc2 hc3 => sv rfl (y_fieldAddr Tryz.underlying27 rfl sz22) (GOps_nil ⟨rfl, rfl⟩)) ?_ | refine cg_st 1 (fun bq rest hc1 hc2 hc3 => sv rfl (y_fieldp_leaf Tryz.underlying27 rfl sz22) (GOps_nil ⟨rfl, rfl⟩)) ?_
                  refine cg_pre [0] ?_
                  first | refine cg_st 2 (fun bq rest hc1 hc2 hc3 => sv rfl (y_load_leaf Tryz.underlying22) (GOps_nil ⟨rfl, rfl⟩)) ?_ | refine cg_st 2 (fun bq rest hc1 hc2 hc3 => sv rfl (y_loadp_leaf Tryz.underlying22) (GOps_nil ⟨rfl, rfl⟩)) ?_
                  refine cg_pre [] ?_
                  refine cg_st 3 (fun bq rest hc1 hc2 hc3 => sv rfl (y_move) (GOps_nil ⟨rfl, rfl⟩)) ?_
                  refine cg_pre [2] ?_
                  refine cg_st 4 (fun bq rest hc1 hc2 hc3 => sv rfl (y_nilCheck) (GOps_nil ⟨rfl, rfl⟩)) ?_
                  refine cg_pre [3] ?_
                  first | refine cg_st 5 (fun bq rest hc1 hc2 hc3 => sv rfl (y_fieldAt 2 Tryz.underlying27 rfl sz3) (GOps_nil ⟨rfl, rfl⟩)) ?_ | refine cg_st 5 (fun bq rest hc1 hc2 hc3 => sv rfl (y_fieldAddr Tryz.underlying27 rfl sz3) (GOps_nil ⟨rfl, rfl⟩)) ?_ | refine cg_st 5 (fun bq rest hc1 hc2 hc3 => sv rfl (y_fieldp_leaf Tryz.underlying27 rfl sz3) (GOps_nil ⟨rfl, rfl⟩)) ?_
                  refine cg_pre [4] ?_
                  first | refine cg_st 6 (fun bq rest hc1 hc2 hc3 => sv rfl (y_load_leaf Tryz.underlying3) (GOps_nil ⟨rfl, rfl⟩)) ?_ | refine cg_st 6 (fun bq rest hc1 hc2 hc3 => sv rfl (y_loadp_leaf Tryz.underlying3) (GOps_nil ⟨rfl, rfl⟩)) ?_
                  refine cg_pre [5] ?_
                  refine cg_st 7 (fun bq rest hc1 hc2 hc3 => sv rfl (y_sub (hw := (show IntKind.i64.wrap (2 - 1) = 1 from by decide))) (GOps_nil ⟨rfl, rfl⟩)) ?_
                  refine cg_pre [1, 6] ?_
                  refine cg_st 8 (fun bq rest hc1 hc2 hc3 => sv rfl (y_indexAddr Tryz.underlying22 sz27) (GOps_nil ⟨rfl, rfl⟩)) ?_
                  refine cg_pre [7] ?_
                  first | refine cg_st 9 (fun bq rest hc1 hc2 hc3 => sv rfl (y_load_agg sz27 Tryz.underlying27 rfl) (GOps_nil ⟨rfl, rfl⟩)) ?_ | refine cg_st 9 (fun bq rest hc1 hc2 hc3 => sv rfl (y_loadp_agg (by exact sz27) Tryz.underlying27 rfl) (GOps_nil ⟨rfl, rfl⟩)) ?_
                  refine cg_pre [] ?_
                  refine cg_st 10 (fun bq rest hc1 hc2 hc3 => sv rfl (y_move) (GOps_nil ⟨rfl, rfl⟩)) ?_
                  refine cg_pre [8, 9] ?_
                  refine cg_st 11 (fun bq rest hc1 hc2 hc3 => g_call (xs := [.tmp 54, .tmp 55]) rfl ((ha1 ▸ q1)) (GOps_nil ⟨rfl, rfl⟩)) ?_
                  refine cg_pre [10, 10, 0, 1, 2, 3, 4, 5, 6, 7, 8, 9, 10] ?_
                  refine cg_st 12 (fun bq rest hc1 hc2 hc3 => sv rfl (y_assign) (GOps_nil ⟨rfl, rfl⟩)) ?_
                  refine cg_done ?_
                  refine thn_normal ?_
                  refine G_ret ?_
                  refine blk_ret ?_
                  refine thn_ret ?_
                  refine fin1 (by simp) ?_
                  exact ⟨by rw [valN, if_neg (by rw [← hw, hb1]; decide), if_neg (by rw [hb2]; decide), if_neg (by rw [hb3]; decide), if_neg (by rw [hb4]; decide), if_pos hb5, hvs, if_neg (by rw [show (!isV (v0 [some ta, b, c] 0) 2) = false from hb6]; decide), show nuV (v0 [some ta, b, c] 0) = 1 from hna]; try rfl, rfl⟩
            ·
              refine G_seq ?_
              refine g_region ?_
              refine sv rfl (y_eql) ?_
              refine sv rfl (y_assign) ?_
              refine GOps_nil ?_
              refine thn_normal ?_
              refine g_cond (fun hb7 => ?_) (fun hb7 => ?_)
              ·
                obtain ⟨k0, r, hks, hss, q0, hwf⟩ := h14 hb7
                obtain ⟨op0, nm0, nu0, ks0, ha0⟩ := k0.d_agg
                have hx0 : (ks.map Tr.d)[0]? = some (.agg [.int .i64 op0, .str nm0, .int .i64 nu0, .sl (ks0.map Tr.d)]) := by rw [hks, ← ha0]; rfl
                refine G_seq ?_
                refine g_region ?_
                first | refine sv rfl (y_fieldAt 3 Tryz.underlying27 rfl sz22) ?_ | refine sv rfl (y_fieldAddr Tryz.underlying27 rfl sz22) ?_ | refine sv rfl (y_fieldp_leaf Tryz.underlying27 rfl sz22) ?_
                first | refine sv rfl (y_load_leaf Tryz.underlying22) ?_ | refine sv rfl (y_loadp_leaf Tryz.underlying22) ?_
                refine sv rfl (y_indexAddr Tryz.underlying22 sz27) ?_
                first | refine sv rfl (y_load_agg sz27 Tryz.underlying27 rfl) ?_ | refine sv rfl (y_loadp_agg (by exact sz27) Tryz.underlying27 rfl) ?_
                refine sv rfl (y_move) ?_
                refine g_call (xs := [.tmp 63, .tmp 64]) rfl ((ha0 ▸ q0)) ?_
                refine sv rfl (y_move) ?_
                refine sv rfl (y_extract) ?_
                refine sv rfl (y_extract) ?_
                refine sv rfl (y_alloc zr199) ?_
                first | refine sa rfl (d_store sz199) ?_ | refine sa rfl (d_store_take sz199) ?_
                refine sv rfl (y_assign) ?_
                refine GOps_nil ?_
                refine thn_normal ?_
                refine G_seq ?_
                refine g_keep [0, 1, 2, 4, 5, 6, 7, 9, 10] ?_
                refine g_region ?_
                refine sv rfl (y_move) ?_
                refine sv rfl (y_move) ?_
                first | refine sg rfl (fun hg => q_fieldAddr Tryz.underlying27 rfl sz9) ?_ | refine sg rfl (fun hg => q_fieldp_leaf Tryz.underlying27 rfl sz9) ?_
                first | refine sg rfl (fun hg => strip 70 (by simp only [GS.set, GS.get, List.lookup_cons, Nat.reduceBEq] <;> rfl) hg (q_load_leaf Tryz.underlying9)) ?_ | refine sg rfl (fun hg => strip 70 (by simp only [GS.set, GS.get, List.lookup_cons, Nat.reduceBEq] <;> rfl) hg (q_loadp_leaf Tryz.underlying9)) ?_
                refine sg rfl (fun hg => strip 71 (by simp only [GS.set, GS.get, List.lookup_cons, Nat.reduceBEq] <;> rfl) hg (q_streq)) ?_
                refine sv rfl (y_and) ?_
                refine GOps_nil ?_
                refine thn_normal ?_
                refine g_cond (fun hb8 => ?_) (fun hb8 => ?_)
                ·
                  refine G_seq ?_
                  refine g_region ?_
                  first | refine sv rfl (y_load_agg sz199 Tryz.underlying199 rfl) ?_ | refine sv rfl (y_loadp_agg (by exact sz199) Tryz.underlying199 rfl) ?_
                  refine g_call (xs := [.tmp 74]) rfl (c187 r.1.1 r.1.2.1 r.1.2.2 hwf) ?_
                  refine g_call (xs := [.tmp 75]) rfl (c186 _) ?_
                  refine sv rfl (y_assign) ?_
                  refine GOps_nil ?_
                  refine thn_normal ?_
                  refine G_ret ?_
                  refine blk_ret ?_
                  refine thn_ret ?_
                  refine fin1 (by simp) ?_
                  exact ⟨by rw [valN, if_neg (by rw [← hw, hb1]; decide), if_neg (by rw [hb2]; decide), if_neg (by rw [hb3]; decide), if_neg (by rw [hb4]; decide), if_neg (by rw [hb5]; decide), if_pos hb7, hss, if_pos (show ((s0 [r]).2 && decide (nm = sizeB)) = true from hb8)]; try rfl, rfl⟩
                ·
                  refine G_skip ?_
                  refine blk_normal ?_
                  refine thn_normal ?_
                  refine G_seq ?_
                  refine g_region ?_
                  refine sv rfl (y_assign) ?_
                  refine GOps_nil ?_
                  refine thn_normal ?_
                  refine G_ret ?_
                  refine fin1 (by simp) ?_
                  exact ⟨by rw [valN, if_neg (by rw [← hw, hb1]; decide), if_neg (by rw [hb2]; decide), if_neg (by rw [hb3]; decide), if_neg (by rw [hb4]; decide), if_neg (by rw [hb5]; decide), if_pos hb7, hss, if_neg (by rw [show ((s0 [r]).2 && decide (nm = sizeB)) = false from hb8]; decide)]; try rfl, rfl⟩
              ·
                refine G_skip ?_
                refine blk_normal ?_
                refine thn_normal ?_
                refine G_seq ?_
                refine g_region ?_
                refine sv rfl (y_assign) ?_
                refine GOps_nil ?_
                refine thn_normal ?_
                refine G_ret ?_
                refine fin1 (by simp) ?_
                exact ⟨by rw [valN, if_neg (by rw [← hw, hb1]; decide), if_neg (by rw [hb2]; decide), if_neg (by rw [hb3]; decide), if_neg (by rw [hb4]; decide), if_neg (by rw [hb5]; decide), if_neg (by rw [hb7]; decide)]; try rfl, rfl⟩
end Go.Proofs.YtklkbfpjimeaoaaGreat
