/- Contracts of functions. Conditions: none. -/
import Derived.Test.YtklkbfpjimeaoaaGreatPf
namespace Go.Proofs.YtklkbfpjimeaoaaGreat
open Go Go.Proofs.YtklkbfpjimeaoaaGreat.E
/-- A node by itself is right. -/
def rightB : Tr → Bool
  | .mk op name num ks =>
    if (otherB (.mk op name num ks)).2 = true then (otherB (.mk op name num ks)).1
    else match shGet op with
      | none => false
      | some ⟨nm, nb, _, _, ok⟩ =>
        if (op == 0 || (!nb && num != 0)) = true then false
        else if (match nm with | none => decide (name ≠ ⟨#[]⟩) | some x => !hasB (x.1 :: x.2) name) = true then false else ok (.mk op name num ks)
theorem shGet_names {op : Int} {a : ByteArray} {l : List ByteArray} {nb : Bool} {g : Nat} {caps : List D} {ok : Tr → Bool} (h : shGet op = some ⟨some (a, l), nb, g, caps, ok⟩) : (a :: l).length ≤ 100 := by
  have hall : ∀ x ∈ shapeTab, (match x.2.names with | some y => decide ((y.1 :: y.2).length ≤ 100) | none => true) = true := by
    intro x hx
    simp only [shapeTab, List.mem_cons, List.not_mem_nil, or_false] at hx
    rcases hx with rfl | rfl | rfl | rfl | rfl | rfl | rfl | rfl | rfl | rfl | rfl | rfl | rfl | rfl | rfl | rfl | rfl | rfl | rfl | rfl | rfl | rfl | rfl | rfl | rfl | rfl | rfl | rfl | rfl | rfl | rfl | rfl | rfl <;> rfl
  unfold shGet at h
  cases hf : shapeTab.find? (fun x => decide (x.1 = op)) with
  | none => rw [hf] at h; cases h
  | some x =>
    rw [hf] at h
    injection h with h
    replace h : x.2 = _ := h
    have := hall x (List.mem_of_find?_eq_some hf)
    rw [h] at this
    exact of_decide_eq_true this
set_option maxHeartbeats 8000000 in
theorem c165 (t : Tr) (hok : t.Ok) : Pf Tryz.prog 165 [t.d, .map shapesM] (.d (.bool (rightB t))) := by
  obtain ⟨op, name, num, ks⟩ := t
  rw [Tr.d_mk]
  try simp only [Tr.op_mk, Tr.nm_mk, Tr.nu_mk, Tr.kids_mk]
  refine pf_body (rvs := [.tmp 4]) [(0, .d (.agg [.int .i64 op, .str name, .int .i64 num, .sl (ks.map Tr.d)])), (1, .d (.map shapesM))] Tryz.func165 Tryz.ntmps165 Tryz.results165 (fun S0 O0 w0 m0 hm0 => ?_)
  refine G_seq ?_
  refine g_region ?_
  refine sv rfl (y_box) ?_
  refine g_freeze 0 [] (.agg [.int .i64 op, .str name, .int .i64 num, .sl (ks.map Tr.d)]) rfl ?_
  refine sv rfl (y_assign) ?_
  refine GOps_nil ?_
  refine thn_normal ?_
  refine G_seq ?_
  refine G_seq ?_
  refine g_region ?_
  first | refine sv rfl (y_load_agg sz27 Tryz.underlying27 rfl) ?_ | refine sv rfl (y_loadp_agg (by exact sz27) Tryz.underlying27 rfl) ?_
  refine g_call (xs := [.tmp 10]) rfl ((Tr.d_mk op name num ks ▸ c234 (.mk op name num ks) hok)) ?_
  refine sv rfl (y_move) ?_
  refine sv rfl (y_extract) ?_
  refine sv rfl (y_extract) ?_
  refine sv rfl (y_assign) ?_
  refine sv rfl (y_assign) ?_
  refine GOps_nil ?_
  refine thn_normal ?_
  refine G_seq ?_
  refine g_region ?_
  refine sv rfl (y_move) ?_
  refine GOps_nil ?_
  refine thn_normal ?_
  refine g_cond (fun hb0 => ?_) (fun hb0 => ?_)
  ·
    refine G_seq ?_
    refine g_region ?_
    refine sv rfl (y_move) ?_
    refine sv rfl (y_assign) ?_
    refine GOps_nil ?_
    refine thn_normal ?_
    refine G_ret ?_
    refine thn_ret ?_
    refine fin1 (by simp) ?_
    exact ⟨by rw [rightB, if_pos hb0], rfl⟩
  ·
    refine G_skip ?_
    refine thn_normal ?_
    refine G_seq ?_
    rcases hsh : shGet op with _ | ⟨_ | ⟨na, nl⟩, nb, g, caps, ok⟩
    ·
      refine g_region ?_
      refine sv rfl (y_move) ?_
      first | refine sv rfl (y_fieldAt 0 Tryz.underlying27 rfl sz3) ?_ | refine sv rfl (y_fieldAddr Tryz.underlying27 rfl sz3) ?_ | refine sv rfl (y_fieldp_leaf Tryz.underlying27 rfl sz3) ?_
      first | refine sv rfl (y_load_leaf Tryz.underlying3) ?_ | refine sv rfl (y_loadp_leaf Tryz.underlying3) ?_
      refine sv rfl (Yld_pure rfl (of_decide_eq_true rfl) (q_lookup2 (zd := .agg [.sl [], .bool false, .nilF]) Tryz.underlying127 Tryz.underlying3 zr189)) ?_
      rw [mget_sh, mhas_sh, hsh]
      dsimp only [Sh.d, namesD, List.map_cons, Option.isSome]
      refine sv rfl (y_move) ?_
      refine sv rfl (y_extract) ?_
      refine sv rfl (y_extract) ?_
      refine sv rfl (y_alloc zr189) ?_
      first | refine sa rfl (d_store sz189) ?_ | refine sa rfl (d_store_take sz189) ?_
      refine sv rfl (y_assign) ?_
      refine GOps_nil ?_
      refine thn_normal ?_
      refine G_seq ?_
      refine G_seq ?_
      refine g_keep [0, 1, 2, 4, 5, 6, 7, 8] ?_
      refine g_region ?_
      refine sv rfl (y_move) ?_
      refine sv rfl (y_not) ?_
      refine sv rfl (y_move) ?_
      first | refine sg rfl (fun hg => q_fieldAddr Tryz.underlying27 rfl sz3) ?_ | refine sg rfl (fun hg => q_fieldp_leaf Tryz.underlying27 rfl sz3) ?_
      first | refine sg rfl (fun hg => strip 26 (by simp only [GS.set, GS.get, List.lookup_cons, Nat.reduceBEq] <;> rfl) hg (q_load_leaf Tryz.underlying3)) ?_ | refine sg rfl (fun hg => strip 26 (by simp only [GS.set, GS.get, List.lookup_cons, Nat.reduceBEq] <;> rfl) hg (q_loadp_leaf Tryz.underlying3)) ?_
      refine sg rfl (fun hg => strip 27 (by simp only [GS.set, GS.get, List.lookup_cons, Nat.reduceBEq] <;> rfl) hg (q_eql)) ?_
      refine sv rfl (y_or) ?_
      refine sv rfl (y_move) ?_
      first | refine sg rfl (fun hg => q_fieldAddr Tryz.underlying189 rfl sz4) ?_ | refine sg rfl (fun hg => q_fieldp_leaf Tryz.underlying189 rfl sz4) ?_
      first | refine sg rfl (fun hg => strip 31 (by simp only [GS.set, GS.get, List.lookup_cons, Nat.reduceBEq] <;> rfl) hg (q_load_leaf Tryz.underlying4)) ?_ | refine sg rfl (fun hg => strip 31 (by simp only [GS.set, GS.get, List.lookup_cons, Nat.reduceBEq] <;> rfl) hg (q_loadp_leaf Tryz.underlying4)) ?_
      refine sg rfl (fun hg => strip 32 (by simp only [GS.set, GS.get, List.lookup_cons, Nat.reduceBEq] <;> rfl) hg (q_not)) ?_
      refine sg rfl (fun hg => strip 33 (by simp only [GS.set, GS.get, List.lookup_cons, Nat.reduceBEq] <;> rfl) hg (q_move)) ?_
      first | refine sg rfl (fun hg => q_fieldAddr Tryz.underlying27 rfl sz3) ?_ | refine sg rfl (fun hg => q_fieldp_leaf Tryz.underlying27 rfl sz3) ?_
      first | refine sg rfl (fun hg => strip 35 (by simp only [GS.set, GS.get, List.lookup_cons, Nat.reduceBEq] <;> rfl) hg (q_load_leaf Tryz.underlying3)) ?_ | refine sg rfl (fun hg => strip 35 (by simp only [GS.set, GS.get, List.lookup_cons, Nat.reduceBEq] <;> rfl) hg (q_loadp_leaf Tryz.underlying3)) ?_
      refine sg rfl (fun hg => strip 36 (by simp only [GS.set, GS.get, List.lookup_cons, Nat.reduceBEq] <;> rfl) hg (q_neq)) ?_
      refine sg rfl (fun hg => strip 34 (by simp only [GS.set, GS.get, List.lookup_cons, Nat.reduceBEq] <;> rfl) hg (q_and)) ?_
      refine sv rfl (y_or) ?_
      refine GOps_nil ?_
      refine thn_normal ?_
      refine g_cond (fun hb1 => ?_) (fun hb1 => ?_)
      ·
        refine G_seq ?_
        refine g_keep [0, 1, 2, 4, 5, 6, 7, 8] ?_
        refine g_region ?_
        refine sv rfl (y_assign) ?_
        refine GOps_nil ?_
        refine thn_normal ?_
        refine G_ret ?_
        refine thn_ret ?_
        refine fin1 (by simp) ?_
        exact ⟨by rw [rightB, if_neg (by rw [hb0]; decide), hsh], rfl⟩
      ·
        exact absurd hb1 (by simp)
    ·
      refine g_region ?_
      refine sv rfl (y_move) ?_
      first | refine sv rfl (y_fieldAt 0 Tryz.underlying27 rfl sz3) ?_ | refine sv rfl (y_fieldAddr Tryz.underlying27 rfl sz3) ?_ | refine sv rfl (y_fieldp_leaf Tryz.underlying27 rfl sz3) ?_
      first | refine sv rfl (y_load_leaf Tryz.underlying3) ?_ | refine sv rfl (y_loadp_leaf Tryz.underlying3) ?_
      refine sv rfl (Yld_pure rfl (of_decide_eq_true rfl) (q_lookup2 (zd := .agg [.sl [], .bool false, .nilF]) Tryz.underlying127 Tryz.underlying3 zr189)) ?_
      rw [mget_sh, mhas_sh, hsh]
      dsimp only [Sh.d, namesD, List.map_cons, Option.isSome]
      refine sv rfl (y_move) ?_
      refine sv rfl (y_extract) ?_
      refine sv rfl (y_extract) ?_
      refine sv rfl (y_alloc zr189) ?_
      first | refine sa rfl (d_store sz189) ?_ | refine sa rfl (d_store_take sz189) ?_
      refine sv rfl (y_assign) ?_
      refine GOps_nil ?_
      refine thn_normal ?_
      refine G_seq ?_
      refine G_seq ?_
      refine g_keep [0, 1, 2, 4, 5, 6, 7, 8] ?_
      refine g_region ?_
      refine sv rfl (y_move) ?_
      refine sv rfl (y_not) ?_
      refine sv rfl (y_move) ?_
      first | refine sg rfl (fun hg => q_fieldAddr Tryz.underlying27 rfl sz3) ?_ | refine sg rfl (fun hg => q_fieldp_leaf Tryz.underlying27 rfl sz3) ?_
      first | refine sg rfl (fun hg => strip 26 (by simp only [GS.set, GS.get, List.lookup_cons, Nat.reduceBEq] <;> rfl) hg (q_load_leaf Tryz.underlying3)) ?_ | refine sg rfl (fun hg => strip 26 (by simp only [GS.set, GS.get, List.lookup_cons, Nat.reduceBEq] <;> rfl) hg (q_loadp_leaf Tryz.underlying3)) ?_
      refine sg rfl (fun hg => strip 27 (by simp only [GS.set, GS.get, List.lookup_cons, Nat.reduceBEq] <;> rfl) hg (q_eql)) ?_
      refine sv rfl (y_or) ?_
      refine sv rfl (y_move) ?_
      first | refine sg rfl (fun hg => q_fieldAddr Tryz.underlying189 rfl sz4) ?_ | refine sg rfl (fun hg => q_fieldp_leaf Tryz.underlying189 rfl sz4) ?_
      first | refine sg rfl (fun hg => strip 31 (by simp only [GS.set, GS.get, List.lookup_cons, Nat.reduceBEq] <;> rfl) hg (q_load_leaf Tryz.underlying4)) ?_ | refine sg rfl (fun hg => strip 31 (by simp only [GS.set, GS.get, List.lookup_cons, Nat.reduceBEq] <;> rfl) hg (q_loadp_leaf Tryz.underlying4)) ?_
      refine sg rfl (fun hg => strip 32 (by simp only [GS.set, GS.get, List.lookup_cons, Nat.reduceBEq] <;> rfl) hg (q_not)) ?_
      refine sg rfl (fun hg => strip 33 (by simp only [GS.set, GS.get, List.lookup_cons, Nat.reduceBEq] <;> rfl) hg (q_move)) ?_
      first | refine sg rfl (fun hg => q_fieldAddr Tryz.underlying27 rfl sz3) ?_ | refine sg rfl (fun hg => q_fieldp_leaf Tryz.underlying27 rfl sz3) ?_
      first | refine sg rfl (fun hg => strip 35 (by simp only [GS.set, GS.get, List.lookup_cons, Nat.reduceBEq] <;> rfl) hg (q_load_leaf Tryz.underlying3)) ?_ | refine sg rfl (fun hg => strip 35 (by simp only [GS.set, GS.get, List.lookup_cons, Nat.reduceBEq] <;> rfl) hg (q_loadp_leaf Tryz.underlying3)) ?_
      refine sg rfl (fun hg => strip 36 (by simp only [GS.set, GS.get, List.lookup_cons, Nat.reduceBEq] <;> rfl) hg (q_neq)) ?_
      refine sg rfl (fun hg => strip 34 (by simp only [GS.set, GS.get, List.lookup_cons, Nat.reduceBEq] <;> rfl) hg (q_and)) ?_
      refine sv rfl (y_or) ?_
      refine GOps_nil ?_
      refine thn_normal ?_
      refine g_cond (fun hb2 => ?_) (fun hb2 => ?_)
      ·
        refine G_seq ?_
        refine g_keep [0, 1, 2, 4, 5, 6, 7, 8] ?_
        refine g_region ?_
        refine sv rfl (y_assign) ?_
        refine GOps_nil ?_
        refine thn_normal ?_
        refine G_ret ?_
        refine thn_ret ?_
        refine fin1 (by simp) ?_
        exact ⟨by rw [rightB, if_neg (by rw [hb0]; decide), hsh]; dsimp only; rw [if_pos (by simpa using hb2)], rfl⟩
      ·
        refine G_skip ?_
        refine thn_normal ?_
        refine G_seq ?_
        refine G_seq ?_
        refine g_keep [0, 1, 2, 4, 5, 6, 7, 8] ?_
        refine g_region ?_
        first | refine sv rfl (y_fieldAt 0 Tryz.underlying189 rfl sz63) ?_ | refine sv rfl (y_fieldAddr Tryz.underlying189 rfl sz63) ?_ | refine sv rfl (y_fieldp_leaf Tryz.underlying189 rfl sz63) ?_
        first | refine sv rfl (y_load_leaf Tryz.underlying63) ?_ | refine sv rfl (y_loadp_leaf Tryz.underlying63) ?_
        refine sv rfl (Yld_pure rfl (of_decide_eq_true rfl) (q_sleql Tryz.underlying63)) ?_
        refine sv rfl (y_move) ?_
        first | refine sg rfl (fun hg => q_fieldAddr Tryz.underlying27 rfl sz9) ?_ | refine sg rfl (fun hg => q_fieldp_leaf Tryz.underlying27 rfl sz9) ?_
        first | refine sg rfl (fun hg => strip 44 (by simp only [GS.set, GS.get, List.lookup_cons, Nat.reduceBEq] <;> rfl) hg (q_load_leaf Tryz.underlying9)) ?_ | refine sg rfl (fun hg => strip 44 (by simp only [GS.set, GS.get, List.lookup_cons, Nat.reduceBEq] <;> rfl) hg (q_loadp_leaf Tryz.underlying9)) ?_
        refine sg rfl (fun hg => strip 45 (by simp only [GS.set, GS.get, List.lookup_cons, Nat.reduceBEq] <;> rfl) hg (q_strne)) ?_
        refine sv rfl (y_and) ?_
        refine sv rfl (y_move) ?_
        first | refine sg rfl (fun hg => q_fieldAddr Tryz.underlying189 rfl sz63) ?_ | refine sg rfl (fun hg => q_fieldp_leaf Tryz.underlying189 rfl sz63) ?_
        first | refine sg rfl (fun hg => strip 49 (by simp only [GS.set, GS.get, List.lookup_cons, Nat.reduceBEq] <;> rfl) hg (q_load_leaf Tryz.underlying63)) ?_ | refine sg rfl (fun hg => strip 49 (by simp only [GS.set, GS.get, List.lookup_cons, Nat.reduceBEq] <;> rfl) hg (q_loadp_leaf Tryz.underlying63)) ?_
        refine sg rfl (fun hg => strip 50 (by simp only [GS.set, GS.get, List.lookup_cons, Nat.reduceBEq] <;> rfl) hg (q_slneq Tryz.underlying63)) ?_
        refine sg rfl (fun hg => strip 51 (by simp only [GS.set, GS.get, List.lookup_cons, Nat.reduceBEq] <;> rfl) hg (q_move)) ?_
        first | refine sg rfl (fun hg => q_fieldAddr Tryz.underlying189 rfl sz63) ?_ | refine sg rfl (fun hg => q_fieldp_leaf Tryz.underlying189 rfl sz63) ?_
        first | refine sg rfl (fun hg => strip 53 (by simp only [GS.set, GS.get, List.lookup_cons, Nat.reduceBEq] <;> rfl) hg (q_load_leaf Tryz.underlying63)) ?_ | refine sg rfl (fun hg => strip 53 (by simp only [GS.set, GS.get, List.lookup_cons, Nat.reduceBEq] <;> rfl) hg (q_loadp_leaf Tryz.underlying63)) ?_
        first | refine sg rfl (fun hg => q_fieldAddr Tryz.underlying27 rfl sz9) ?_ | refine sg rfl (fun hg => q_fieldp_leaf Tryz.underlying27 rfl sz9) ?_
        first | refine sg rfl (fun hg => strip 55 (by simp only [GS.set, GS.get, List.lookup_cons, Nat.reduceBEq] <;> rfl) hg (q_load_leaf Tryz.underlying9)) ?_ | refine sg rfl (fun hg => strip 55 (by simp only [GS.set, GS.get, List.lookup_cons, Nat.reduceBEq] <;> rfl) hg (q_loadp_leaf Tryz.underlying9)) ?_
        refine sgx rfl ?_ ?_
        · simp
        refine sg rfl (fun hg => strip 57 (by simp only [GS.set, GS.get, List.lookup_cons, Nat.reduceBEq] <;> rfl) hg (q_not)) ?_
        refine sg rfl (fun hg => strip 52 (by simp only [GS.set, GS.get, List.lookup_cons, Nat.reduceBEq] <;> rfl) hg (q_and)) ?_
        refine sv rfl (y_or) ?_
        refine GOps_nil ?_
        refine thn_normal ?_
        refine g_cond (fun hb3 => ?_) (fun hb3 => ?_)
        ·
          refine G_seq ?_
          refine g_keep [0, 1, 2, 4, 5, 6, 7, 8] ?_
          refine g_region ?_
          refine sv rfl (y_assign) ?_
          refine GOps_nil ?_
          refine thn_normal ?_
          refine G_ret ?_
          refine thn_ret ?_
          refine fin1 (by simp) ?_
          exact ⟨by rw [rightB, if_neg (by rw [hb0]; decide), hsh]; dsimp only; rw [if_neg (by simpa using hb2), if_pos (by simpa using hb3)], rfl⟩
        ·
          refine G_skip ?_
          refine thn_normal ?_
          refine G_seq ?_
          refine g_keep [0, 1, 2, 4, 5, 6, 7, 8] ?_
          refine g_region ?_
          first | refine sv rfl (y_fieldAt 2 Tryz.underlying189 rfl sz48) ?_ | refine sv rfl (y_fieldAddr Tryz.underlying189 rfl sz48) ?_ | refine sv rfl (y_fieldp_leaf Tryz.underlying189 rfl sz48) ?_
          first | refine sv rfl (y_load_leaf Tryz.underlying48) ?_ | refine sv rfl (y_loadp_leaf Tryz.underlying48) ?_
          first | refine sv rfl (y_load_agg sz27 Tryz.underlying27 rfl) ?_ | refine sv rfl (y_loadp_agg (by exact sz27) Tryz.underlying27 rfl) ?_
          refine g_call (xs := [.tmp 63]) rfl ((Tr.d_mk op name num ks ▸ shGet_ok hsh hok)) ?_
          refine sv rfl (y_assign) ?_
          refine GOps_nil ?_
          refine thn_normal ?_
          refine G_ret ?_
          refine fin1 (by simp) ?_
          exact ⟨by rw [rightB, if_neg (by rw [hb0]; decide), hsh]; dsimp only; rw [if_neg (by simpa using hb2), if_neg (by simpa using hb3)], rfl⟩
    ·
      refine g_region ?_
      refine sv rfl (y_move) ?_
      first | refine sv rfl (y_fieldAt 0 Tryz.underlying27 rfl sz3) ?_ | refine sv rfl (y_fieldAddr Tryz.underlying27 rfl sz3) ?_ | refine sv rfl (y_fieldp_leaf Tryz.underlying27 rfl sz3) ?_
      first | refine sv rfl (y_load_leaf Tryz.underlying3) ?_ | refine sv rfl (y_loadp_leaf Tryz.underlying3) ?_
      refine sv rfl (Yld_pure rfl (of_decide_eq_true rfl) (q_lookup2 (zd := .agg [.sl [], .bool false, .nilF]) Tryz.underlying127 Tryz.underlying3 zr189)) ?_
      rw [mget_sh, mhas_sh, hsh]
      dsimp only [Sh.d, namesD, List.map_cons, Option.isSome]
      refine sv rfl (y_move) ?_
      refine sv rfl (y_extract) ?_
      refine sv rfl (y_extract) ?_
      refine sv rfl (y_alloc zr189) ?_
      first | refine sa rfl (d_store sz189) ?_ | refine sa rfl (d_store_take sz189) ?_
      refine sv rfl (y_assign) ?_
      refine GOps_nil ?_
      refine thn_normal ?_
      refine G_seq ?_
      refine G_seq ?_
      refine g_keep [0, 1, 2, 4, 5, 6, 7, 8] ?_
      refine g_region ?_
      refine sv rfl (y_move) ?_
      refine sv rfl (y_not) ?_
      refine sv rfl (y_move) ?_
      first | refine sg rfl (fun hg => q_fieldAddr Tryz.underlying27 rfl sz3) ?_ | refine sg rfl (fun hg => q_fieldp_leaf Tryz.underlying27 rfl sz3) ?_
      first | refine sg rfl (fun hg => strip 26 (by simp only [GS.set, GS.get, List.lookup_cons, Nat.reduceBEq] <;> rfl) hg (q_load_leaf Tryz.underlying3)) ?_ | refine sg rfl (fun hg => strip 26 (by simp only [GS.set, GS.get, List.lookup_cons, Nat.reduceBEq] <;> rfl) hg (q_loadp_leaf Tryz.underlying3)) ?_
      refine sg rfl (fun hg => strip 27 (by simp only [GS.set, GS.get, List.lookup_cons, Nat.reduceBEq] <;> rfl) hg (q_eql)) ?_
      refine sv rfl (y_or) ?_
      refine sv rfl (y_move) ?_
      first | refine sg rfl (fun hg => q_fieldAddr Tryz.underlying189 rfl sz4) ?_ | refine sg rfl (fun hg => q_fieldp_leaf Tryz.underlying189 rfl sz4) ?_
      first | refine sg rfl (fun hg => strip 31 (by simp only [GS.set, GS.get, List.lookup_cons, Nat.reduceBEq] <;> rfl) hg (q_load_leaf Tryz.underlying4)) ?_ | refine sg rfl (fun hg => strip 31 (by simp only [GS.set, GS.get, List.lookup_cons, Nat.reduceBEq] <;> rfl) hg (q_loadp_leaf Tryz.underlying4)) ?_
      refine sg rfl (fun hg => strip 32 (by simp only [GS.set, GS.get, List.lookup_cons, Nat.reduceBEq] <;> rfl) hg (q_not)) ?_
      refine sg rfl (fun hg => strip 33 (by simp only [GS.set, GS.get, List.lookup_cons, Nat.reduceBEq] <;> rfl) hg (q_move)) ?_
      first | refine sg rfl (fun hg => q_fieldAddr Tryz.underlying27 rfl sz3) ?_ | refine sg rfl (fun hg => q_fieldp_leaf Tryz.underlying27 rfl sz3) ?_
      first | refine sg rfl (fun hg => strip 35 (by simp only [GS.set, GS.get, List.lookup_cons, Nat.reduceBEq] <;> rfl) hg (q_load_leaf Tryz.underlying3)) ?_ | refine sg rfl (fun hg => strip 35 (by simp only [GS.set, GS.get, List.lookup_cons, Nat.reduceBEq] <;> rfl) hg (q_loadp_leaf Tryz.underlying3)) ?_
      refine sg rfl (fun hg => strip 36 (by simp only [GS.set, GS.get, List.lookup_cons, Nat.reduceBEq] <;> rfl) hg (q_neq)) ?_
      refine sg rfl (fun hg => strip 34 (by simp only [GS.set, GS.get, List.lookup_cons, Nat.reduceBEq] <;> rfl) hg (q_and)) ?_
      refine sv rfl (y_or) ?_
      refine GOps_nil ?_
      refine thn_normal ?_
      refine g_cond (fun hb4 => ?_) (fun hb4 => ?_)
      ·
        refine G_seq ?_
        refine g_keep [0, 1, 2, 4, 5, 6, 7, 8] ?_
        refine g_region ?_
        refine sv rfl (y_assign) ?_
        refine GOps_nil ?_
        refine thn_normal ?_
        refine G_ret ?_
        refine thn_ret ?_
        refine fin1 (by simp) ?_
        exact ⟨by rw [rightB, if_neg (by rw [hb0]; decide), hsh]; dsimp only; rw [if_pos (by simpa using hb4)], rfl⟩
      ·
        refine G_skip ?_
        refine thn_normal ?_
        refine G_seq ?_
        refine G_seq ?_
        refine g_keep [0, 1, 2, 4, 5, 6, 7, 8] ?_
        refine g_region ?_
        first | refine sv rfl (y_fieldAt 0 Tryz.underlying189 rfl sz63) ?_ | refine sv rfl (y_fieldAddr Tryz.underlying189 rfl sz63) ?_ | refine sv rfl (y_fieldp_leaf Tryz.underlying189 rfl sz63) ?_
        first | refine sv rfl (y_load_leaf Tryz.underlying63) ?_ | refine sv rfl (y_loadp_leaf Tryz.underlying63) ?_
        refine sv rfl (Yld_pure rfl (of_decide_eq_true rfl) (q_sleql Tryz.underlying63)) ?_
        refine sv rfl (y_move) ?_
        first | refine sg rfl (fun hg => q_fieldAddr Tryz.underlying27 rfl sz9) ?_ | refine sg rfl (fun hg => q_fieldp_leaf Tryz.underlying27 rfl sz9) ?_
        first | refine sg rfl (fun hg => strip 44 (by simp only [GS.set, GS.get, List.lookup_cons, Nat.reduceBEq] <;> rfl) hg (q_load_leaf Tryz.underlying9)) ?_ | refine sg rfl (fun hg => strip 44 (by simp only [GS.set, GS.get, List.lookup_cons, Nat.reduceBEq] <;> rfl) hg (q_loadp_leaf Tryz.underlying9)) ?_
        refine sg rfl (fun hg => strip 45 (by simp only [GS.set, GS.get, List.lookup_cons, Nat.reduceBEq] <;> rfl) hg (q_strne)) ?_
        refine sv rfl (y_and) ?_
        refine sv rfl (y_move) ?_
        first | refine sg rfl (fun hg => q_fieldAddr Tryz.underlying189 rfl sz63) ?_ | refine sg rfl (fun hg => q_fieldp_leaf Tryz.underlying189 rfl sz63) ?_
        first | refine sg rfl (fun hg => strip 49 (by simp only [GS.set, GS.get, List.lookup_cons, Nat.reduceBEq] <;> rfl) hg (q_load_leaf Tryz.underlying63)) ?_ | refine sg rfl (fun hg => strip 49 (by simp only [GS.set, GS.get, List.lookup_cons, Nat.reduceBEq] <;> rfl) hg (q_loadp_leaf Tryz.underlying63)) ?_
        refine sg rfl (fun hg => strip 50 (by simp only [GS.set, GS.get, List.lookup_cons, Nat.reduceBEq] <;> rfl) hg (q_slneq Tryz.underlying63)) ?_
        refine sg rfl (fun hg => strip 51 (by simp only [GS.set, GS.get, List.lookup_cons, Nat.reduceBEq] <;> rfl) hg (q_move)) ?_
        first | refine sg rfl (fun hg => q_fieldAddr Tryz.underlying189 rfl sz63) ?_ | refine sg rfl (fun hg => q_fieldp_leaf Tryz.underlying189 rfl sz63) ?_
        first | refine sg rfl (fun hg => strip 53 (by simp only [GS.set, GS.get, List.lookup_cons, Nat.reduceBEq] <;> rfl) hg (q_load_leaf Tryz.underlying63)) ?_ | refine sg rfl (fun hg => strip 53 (by simp only [GS.set, GS.get, List.lookup_cons, Nat.reduceBEq] <;> rfl) hg (q_loadp_leaf Tryz.underlying63)) ?_
        first | refine sg rfl (fun hg => q_fieldAddr Tryz.underlying27 rfl sz9) ?_ | refine sg rfl (fun hg => q_fieldp_leaf Tryz.underlying27 rfl sz9) ?_
        first | refine sg rfl (fun hg => strip 55 (by simp only [GS.set, GS.get, List.lookup_cons, Nat.reduceBEq] <;> rfl) hg (q_load_leaf Tryz.underlying9)) ?_ | refine sg rfl (fun hg => strip 55 (by simp only [GS.set, GS.get, List.lookup_cons, Nat.reduceBEq] <;> rfl) hg (q_loadp_leaf Tryz.underlying9)) ?_
        refine g_callg (xs := [.tmp 54, .tmp 56]) rfl (fun hg => c199 (na :: nl) name (by have := shGet_names hsh; omega)) ?_
        refine sg rfl (fun hg => strip 57 (by simp only [GS.set, GS.get, List.lookup_cons, Nat.reduceBEq] <;> rfl) hg (q_not)) ?_
        refine sg rfl (fun hg => strip 52 (by simp only [GS.set, GS.get, List.lookup_cons, Nat.reduceBEq] <;> rfl) hg (q_and)) ?_
        refine sv rfl (y_or) ?_
        refine GOps_nil ?_
        refine thn_normal ?_
        refine g_cond (fun hb5 => ?_) (fun hb5 => ?_)
        ·
          refine G_seq ?_
          refine g_keep [0, 1, 2, 4, 5, 6, 7, 8] ?_
          refine g_region ?_
          refine sv rfl (y_assign) ?_
          refine GOps_nil ?_
          refine thn_normal ?_
          refine G_ret ?_
          refine thn_ret ?_
          refine fin1 (by simp) ?_
          exact ⟨by rw [rightB, if_neg (by rw [hb0]; decide), hsh]; dsimp only; rw [if_neg (by simpa using hb4), if_pos (by simpa using hb5)], rfl⟩
        ·
          refine G_skip ?_
          refine thn_normal ?_
          refine G_seq ?_
          refine g_keep [0, 1, 2, 4, 5, 6, 7, 8] ?_
          refine g_region ?_
          first | refine sv rfl (y_fieldAt 2 Tryz.underlying189 rfl sz48) ?_ | refine sv rfl (y_fieldAddr Tryz.underlying189 rfl sz48) ?_ | refine sv rfl (y_fieldp_leaf Tryz.underlying189 rfl sz48) ?_
          first | refine sv rfl (y_load_leaf Tryz.underlying48) ?_ | refine sv rfl (y_loadp_leaf Tryz.underlying48) ?_
          first | refine sv rfl (y_load_agg sz27 Tryz.underlying27 rfl) ?_ | refine sv rfl (y_loadp_agg (by exact sz27) Tryz.underlying27 rfl) ?_
          refine g_call (xs := [.tmp 63]) rfl ((Tr.d_mk op name num ks ▸ shGet_ok hsh hok)) ?_
          refine sv rfl (y_assign) ?_
          refine GOps_nil ?_
          refine thn_normal ?_
          refine G_ret ?_
          refine fin1 (by simp) ?_
          exact ⟨by rw [rightB, if_neg (by rw [hb0]; decide), hsh]; dsimp only; rw [if_neg (by simpa using hb4), if_neg (by simpa using hb5)], rfl⟩
end Go.Proofs.YtklkbfpjimeaoaaGreat
