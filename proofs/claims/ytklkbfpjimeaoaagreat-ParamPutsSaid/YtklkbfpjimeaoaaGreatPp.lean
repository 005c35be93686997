/- Contracts of functions. Conditions: none. -/
import Derived.Test.YtklkbfpjimeaoaaGreatPo
namespace Go.Proofs.YtklkbfpjimeaoaaGreat
open Go Go.Proofs.YtklkbfpjimeaoaaGreat.E
def z0 : Tr := .mk 0 ⟨#[]⟩ 0 []
/-- The value of an expression, or an error. -/
def evalT : Tr → List (ByteArray × Tr) → Tr × Int
  | .mk op name num ks, l =>
    if (nodeE (.mk op name num ks) != 0) = true then (z0, nodeE (.mk op name num ks))
    else if (!isExprB op) = true then (z0, 2)
    else if (!constsB l) = true then (z0, 1)
    else match (Tr.mk op name num ks).value (kl l) with
      | none => (z0, 140)
      | some v => (v, 0)
theorem nodeE_shaped {op : Int} {name : ByteArray} {num : Int} {ks : List Tr} (h : nodeE (.mk op name num ks) = 0) : (Tr.mk op name num ks).shaped = true := by
  rw [nodeE] at h
  split at h
  · rename_i h1
    rw [h] at h1
    cases h1
  · split at h
    · cases h
    · rename_i h2
      cases hs : (Tr.mk op name num ks).shaped with
      | true => rfl
      | false => rw [hs] at h2; simp at h2
theorem lit_ok {t : Tr} (hok : t.Ok) (hsh : t.shaped = true) (h : t.op = 1 ∨ t.op = 2) : ValOk t := by
  obtain ⟨op, nm, num, ks⟩ := t
  rcases h with h | h
  · replace h : op = 1 := h
    subst h
    obtain ⟨rfl, rfl⟩ := lit1 hsh
    refine .inl ⟨num, ?_, rfl⟩
    cases hok with | mk h1 h2 h3 h4 h5 =>
    simpa [Lit.wf, IntKind.min, IntKind.max, IntKind.signed, IntKind.bits, wf64] using h3
  · replace h : op = 2 := h
    subst h
    obtain ⟨rfl, rfl, rfl | rfl⟩ := lit2 hsh
    · exact .inr ⟨false, rfl⟩
    · exact .inr ⟨true, rfl⟩
theorem badC_ok {c : ByteArray × Tr} (hok : c.2.Ok) (h : badC c = false) : ValOk c.2 := by
  obtain ⟨n, op, name, num, ks⟩ := c
  simp only [badC, Bool.or_eq_false_iff, Bool.and_eq_false_iff, bne_eq_false_iff_eq] at h
  exact lit_ok hok (nodeE_shaped h.2) h.1
theorem kl_ok {l : List (ByteArray × Tr)} (hl : COk l) (h : constsB l = true) : KOk (kl l) := by
  intro x hx t ht
  unfold kl at hx
  rw [List.mem_reverse, List.mem_map] at hx
  obtain ⟨c, hc, rfl⟩ := hx
  injection ht with ht
  subst ht
  unfold constsB at h
  rw [Bool.not_eq_true', List.any_eq_false] at h
  exact badC_ok (hl.2 c hc).1 (by simpa using h c hc)
set_option maxHeartbeats 8000000 in
theorem c29 (t : Tr) (hok : t.Ok) (hszb : t.size ≤ 1000000) (l : List (ByteArray × Tr)) (hl : COk l) : Pf Tryz.prog 29 [t.d, .sl (l.map cD)] (.tup [.d (evalT t l).1.d, .d (.int .i64 (evalT t l).2)]) := by
  obtain ⟨op, name, num, ks⟩ := t
  rw [Tr.d_mk]
  try simp only [Tr.op_mk, Tr.nm_mk, Tr.nu_mk, Tr.kids_mk]
  refine pf_body (rvs := [.cell 4 27, .tmp 5]) [(0, .d (.agg [.int .i64 op, .str name, .int .i64 num, .sl (ks.map Tr.d)])), (1, .d (.sl (l.map cD)))] Tryz.func29 Tryz.ntmps29 Tryz.results29 (fun S0 O0 w0 m0 hm0 => ?_)
  refine G_seq ?_
  refine g_region ?_
  refine sv rfl (y_box) ?_
  refine g_freeze 0 [] (.agg [.int .i64 op, .str name, .int .i64 num, .sl (ks.map Tr.d)]) rfl ?_
  refine sv rfl (y_alloc zr27) ?_
  refine sv rfl (y_assign) ?_
  refine GOps_nil ?_
  refine thn_normal ?_
  refine G_seq ?_
  refine G_seq ?_
  refine g_region ?_
  first | refine sv rfl (y_load_agg sz27 Tryz.underlying27 rfl) ?_ | refine sv rfl (y_loadp_agg (by exact sz27) Tryz.underlying27 rfl) ?_
  refine g_call (xs := [.tmp 8]) rfl ((Tr.d_mk op name num ks ▸ c24 (.mk op name num ks) hok (by omega))) ?_
  refine sv rfl (y_assign) ?_
  refine GOps_nil ?_
  refine thn_normal ?_
  refine G_seq ?_
  refine g_region ?_
  refine sv rfl (y_move) ?_
  refine sv rfl (y_neq) ?_
  refine GOps_nil ?_
  refine thn_normal ?_
  refine g_cond (fun hb0 => ?_) (fun hb0 => ?_)
  ·
    refine G_seq ?_
    refine g_region ?_
    refine sv rfl (y_buildS pl27 zr27) ?_
    refine sv rfl (y_move) ?_
    first | refine sa rfl (d_store sz27) ?_ | refine sa rfl (d_store_take sz27) ?_
    refine sv rfl (y_assign) ?_
    refine GOps_nil ?_
    refine thn_normal ?_
    refine G_ret ?_
    refine thn_ret ?_
    refine fincd sz27 Tryz.underlying27 (by simp) ?_
    exact ⟨by rw [evalT, if_pos hb0, z0, Tr.d_mk]; rfl, rfl⟩
  ·
    have hsh := nodeE_shaped (op := op) (name := name) (num := num) (ks := ks) (by simpa using hb0)
    refine G_skip ?_
    refine thn_normal ?_
    refine G_seq ?_
    refine G_seq ?_
    refine g_region ?_
    first | refine sv rfl (y_load_agg sz27 Tryz.underlying27 rfl) ?_ | refine sv rfl (y_loadp_agg (by exact sz27) Tryz.underlying27 rfl) ?_
    refine g_call (xs := [.tmp 14]) rfl ((show Pf Tryz.prog 99 [.agg [.int .i64 op, .str name, .int .i64 num, .sl (ks.map Tr.d)]] (.d (.bool (isExprB op))) from Tr.d_mk op name num ks ▸ c99 (.mk op name num ks))) ?_
    refine sv rfl (y_not) ?_
    refine GOps_nil ?_
    refine thn_normal ?_
    refine g_cond (fun hb1 => ?_) (fun hb1 => ?_)
    ·
      refine G_seq ?_
      refine g_region ?_
      refine sv rfl (y_buildS pl27 zr27) ?_
      first | refine sa rfl (d_store sz27) ?_ | refine sa rfl (d_store_take sz27) ?_
      refine sv rfl (y_assign) ?_
      refine GOps_nil ?_
      refine thn_normal ?_
      refine G_ret ?_
      refine thn_ret ?_
      refine fincd sz27 Tryz.underlying27 (by simp) ?_
      exact ⟨by rw [evalT, if_neg (by rw [hb0]; decide), if_pos hb1, z0, Tr.d_mk]; rfl, rfl⟩
    ·
      refine G_skip ?_
      refine thn_normal ?_
      refine G_seq ?_
      refine G_seq ?_
      refine g_region ?_
      refine sv rfl (y_move) ?_
      refine g_call (xs := [.tmp 18]) rfl (c103 l hl) ?_
      refine sv rfl (y_not) ?_
      refine GOps_nil ?_
      refine thn_normal ?_
      refine g_cond (fun hb2 => ?_) (fun hb2 => ?_)
      ·
        refine G_seq ?_
        refine g_keep [0, 1, 2, 4, 5, 6, 7] ?_
        refine g_region ?_
        refine sv rfl (y_buildS pl27 zr27) ?_
        first | refine sa rfl (d_store sz27) ?_ | refine sa rfl (d_store_take sz27) ?_
        refine sv rfl (y_assign) ?_
        refine GOps_nil ?_
        refine thn_normal ?_
        refine G_ret ?_
        refine thn_ret ?_
        refine fincd sz27 Tryz.underlying27 (by simp) ?_
        exact ⟨by rw [evalT, if_neg (by rw [hb0]; decide), if_neg (by rw [hb1]; decide), if_pos hb2, z0, Tr.d_mk]; rfl, rfl⟩
      ·
        have hkl := kl_ok hl (by simpa using hb2)
        refine G_skip ?_
        refine thn_normal ?_
        refine G_seq ?_
        rcases hv : (Tr.mk op name num ks).value (kl l) with _ | v
        ·
          refine g_keep [0, 1, 2, 4, 5, 6, 7] ?_
          refine g_cg0 [22, 23, 24, 25, 7] ?_
          refine cg_pre [] ?_
          first | refine cg_st 1 (fun bq rest hc1 hc2 hc3 => sv rfl (y_load_agg sz27 Tryz.underlying27 rfl) (GOps_nil ⟨rfl, rfl⟩)) ?_ | refine cg_st 1 (fun bq rest hc1 hc2 hc3 => sv rfl (y_loadp_agg (by exact sz27) Tryz.underlying27 rfl) (GOps_nil ⟨rfl, rfl⟩)) ?_
          refine cg_pre [] ?_
          refine cg_st 2 (fun bq rest hc1 hc2 hc3 => sv rfl (y_move) (GOps_nil ⟨rfl, rfl⟩)) ?_
          refine cg_pre [1] ?_
          refine cg_st 3 (fun bq rest hc1 hc2 hc3 => g_call (xs := [.tmp 23]) rfl (c105 l hl) (GOps_nil ⟨rfl, rfl⟩)) ?_
          refine cg_pre [0, 2, 2] ?_
          refine cg_st 4 (fun bq rest hc1 hc2 hc3 => g_call (xs := [.tmp 22, .tmp 24]) rfl ((Tr.d_mk op name num ks ▸ c104 (kl l) hkl (.mk op name num ks) hok hsh)) (GOps_nil ⟨rfl, rfl⟩)) ?_
          rw [hv, valD]
          refine cg_pre [3, 3, 0, 1, 2, 3] ?_
          refine cg_st 5 (fun bq rest hc1 hc2 hc3 => sv rfl (y_assign) (GOps_nil ⟨rfl, rfl⟩)) ?_
          refine cg_done ?_
          refine thn_normal ?_
          refine G_seq ?_
          refine G_seq ?_
          refine g_region ?_
          refine sv rfl (y_move) ?_
          refine sv rfl (Yld_pure rfl (of_decide_eq_true rfl) (q_ptreql Tryz.underlying139)) ?_
          refine GOps_nil ?_
          refine thn_normal ?_
          refine g_cond (fun hb3 => ?_) (fun hb3 => ?_)
          ·
            refine G_seq ?_
            refine g_region ?_
            refine sv rfl (y_buildS pl27 zr27) ?_
            first | refine sa rfl (d_store sz27) ?_ | refine sa rfl (d_store_take sz27) ?_
            refine sv rfl (y_assign) ?_
            refine GOps_nil ?_
            refine thn_normal ?_
            refine G_ret ?_
            refine thn_ret ?_
            refine fincd sz27 Tryz.underlying27 (by simp) ?_
            exact ⟨by rw [evalT, if_neg (by rw [hb0]; decide), if_neg (by rw [hb1]; decide), if_neg (by rw [hb2]; decide), hv, z0, Tr.d_mk]; rfl, rfl⟩
          ·
            exact absurd hb3 (by decide)
        ·
          refine g_keep [0, 1, 2, 4, 5, 6, 7] ?_
          refine g_cg0 [22, 23, 24, 25, 7] ?_
          refine cg_pre [] ?_
          first | refine cg_st 1 (fun bq rest hc1 hc2 hc3 => sv rfl (y_load_agg sz27 Tryz.underlying27 rfl) (GOps_nil ⟨rfl, rfl⟩)) ?_ | refine cg_st 1 (fun bq rest hc1 hc2 hc3 => sv rfl (y_loadp_agg (by exact sz27) Tryz.underlying27 rfl) (GOps_nil ⟨rfl, rfl⟩)) ?_
          refine cg_pre [] ?_
          refine cg_st 2 (fun bq rest hc1 hc2 hc3 => sv rfl (y_move) (GOps_nil ⟨rfl, rfl⟩)) ?_
          refine cg_pre [1] ?_
          refine cg_st 3 (fun bq rest hc1 hc2 hc3 => g_call (xs := [.tmp 23]) rfl (c105 l hl) (GOps_nil ⟨rfl, rfl⟩)) ?_
          refine cg_pre [0, 2, 2] ?_
          refine cg_st 4 (fun bq rest hc1 hc2 hc3 => g_call (xs := [.tmp 22, .tmp 24]) rfl ((Tr.d_mk op name num ks ▸ c104 (kl l) hkl (.mk op name num ks) hok hsh)) (GOps_nil ⟨rfl, rfl⟩)) ?_
          obtain ⟨vop, vnm, vnu, vks, hva⟩ := v.d_agg
          have hvo := value_ok (kl l) hkl _ _ (Nat.le_refl _) hok hsh v hv
          rw [hv, valD, hva]
          refine cg_pre [3, 3, 0, 1, 2, 3] ?_
          refine cg_st 5 (fun bq rest hc1 hc2 hc3 => sv rfl (y_assign) (GOps_nil ⟨rfl, rfl⟩)) ?_
          refine cg_done ?_
          refine thn_normal ?_
          refine G_seq ?_
          refine G_seq ?_
          refine g_region ?_
          refine sv rfl (y_move) ?_
          refine sv rfl (Yld_pure rfl (of_decide_eq_true rfl) (q_ptreql Tryz.underlying139)) ?_
          refine GOps_nil ?_
          refine thn_normal ?_
          refine g_cond (fun hb4 => ?_) (fun hb4 => ?_)
          ·
            exact absurd hb4 (by decide)
          ·
            refine G_skip ?_
            refine thn_normal ?_
            refine G_seq ?_
            refine g_region ?_
            refine sv rfl (y_move) ?_
            refine sv rfl (y_nilCheck) ?_
            first | refine sv rfl (y_load_agg sz27 Tryz.underlying27 rfl) ?_ | refine sv rfl (y_loadp_agg (by exact sz27) Tryz.underlying27 rfl) ?_
            refine g_call (xs := [.tmp 31]) rfl ((hva ▸ c100 v hvo.lens)) ?_
            first | refine sa rfl (d_store sz27) ?_ | refine sa rfl (d_store_take sz27) ?_
            refine sv rfl (y_assign) ?_
            refine GOps_nil ?_
            refine thn_normal ?_
            refine G_ret ?_
            refine fincd sz27 Tryz.underlying27 (by simp) ?_
            exact ⟨by rw [evalT, if_neg (by rw [hb0]; decide), if_neg (by rw [hb1]; decide), if_neg (by rw [hb2]; decide), hv, hva], rfl⟩
mutual
/-- An expression whose largest parts with a value are replaced by it. -/
def Tr.expr : Tr → Tr
  | .mk op name num ks =>
    if (!isExprB op) = true then .mk op name num ks
    else if ((evalT (.mk op name num ks) []).2 == 0) = true then (evalT (.mk op name num ks) []).1 else .mk op name num (Tr.exprs ks)
def Tr.exprs : List Tr → List Tr
  | [] => []
  | k :: r => k.expr :: Tr.exprs r
end
theorem Tr.exprs_map (ks : List Tr) : Tr.exprs ks = ks.map Tr.expr := by
  induction ks with
  | nil => rw [Tr.exprs]; rfl
  | cons k r ih => rw [Tr.exprs, ih]; rfl
theorem COk_nil : COk [] := ⟨by simp, by simp⟩
end Go.Proofs.YtklkbfpjimeaoaaGreat
