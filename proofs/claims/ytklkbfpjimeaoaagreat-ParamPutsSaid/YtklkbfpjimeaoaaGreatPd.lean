/- Contracts of functions. Conditions: none. -/
import Derived.Test.YtklkbfpjimeaoaaGreatPc
namespace Go.Proofs.YtklkbfpjimeaoaaGreat
open Go Go.Proofs.YtklkbfpjimeaoaaGreat.E
def nn : ByteArray := ⟨#[110, 110]⟩
def eb : ByteArray := ⟨#[101, 98]⟩
/-- The rule of loops. -/
def rule157 : Tr → Bool
  | .mk op _ num ks =>
    if (num = 1 ∨ num = 2) ∧ num + 2 ≤ (ks.length : Int) then kidsB (ks.take (num + 2).toNat) (nn.extract 0 num.toNat ++ eb) && (((ks.drop (num + 2).toNat).length : Int) == 0 || (op == 55 && everyB (fun op => op == 67) (ks.drop (num + 2).toNat)))
    else false
theorem nn_size (n : Nat) : (nn.extract 0 n).size ≤ 2 := by rw [ByteArray.size_extract]; have : nn.size = 2 := rfl; omega
theorem Tr.Ok.take {op nu : Int} {nm : ByteArray} {ks : List Tr} (h : (Tr.mk op nm nu ks).Ok) (n : Nat) : (Tr.mk op nm nu (ks.take n)).Ok := by
  cases h with | mk h1 h2 h3 h4 h5 => exact .mk h1 h2 h3 (Nat.le_trans (by rw [List.length_take]; omega) h4) (fun k hk => h5 k (List.mem_of_mem_take hk))
theorem Tr.Ok.drop {op nu : Int} {nm : ByteArray} {ks : List Tr} (h : (Tr.mk op nm nu ks).Ok) (n : Nat) : (Tr.mk op nm nu (ks.drop n)).Ok := by
  cases h with | mk h1 h2 h3 h4 h5 => exact .mk h1 h2 h3 (Nat.le_trans (by rw [List.length_drop]; omega) h4) (fun k hk => h5 k (List.mem_of_mem_drop hk))
set_option maxHeartbeats 4000000 in
theorem c157 (t : Tr) (hok : t.Ok) : Pf Tryz.prog 157 [t.d] (.d (.bool (rule157 t))) := by
  obtain ⟨op, name, num, ks⟩ := t
  rw [Tr.d_mk]
  try simp only [Tr.op_mk, Tr.nm_mk, Tr.nu_mk, Tr.kids_mk]
  refine pf_body (rvs := [.tmp 2]) [(0, .d (.agg [.int .i64 op, .str name, .int .i64 num, .sl (ks.map Tr.d)]))] Tryz.func157 Tryz.ntmps157 Tryz.results157 (fun S0 O0 w0 m0 hm0 => ?_)
  refine G_seq ?_
  refine g_region ?_
  refine sv rfl (y_box) ?_
  refine g_freeze 0 [] (.agg [.int .i64 op, .str name, .int .i64 num, .sl (ks.map Tr.d)]) rfl ?_
  refine sv rfl (y_assign) ?_
  refine GOps_nil ?_
  refine thn_normal ?_
  refine G_seq ?_
  refine G_seq ?_
  refine g_region ?_
  first | refine sv rfl (y_fieldAt 2 Tryz.underlying27 rfl sz3) ?_ | refine sv rfl (y_fieldAddr Tryz.underlying27 rfl sz3) ?_ | refine sv rfl (y_fieldp_leaf Tryz.underlying27 rfl sz3) ?_
  first | refine sv rfl (y_load_leaf Tryz.underlying3) ?_ | refine sv rfl (y_loadp_leaf Tryz.underlying3) ?_
  refine sv rfl (y_neq) ?_
  refine sv rfl (y_move) ?_
  first | refine sg rfl (fun hg => q_fieldAddr Tryz.underlying27 rfl sz3) ?_ | refine sg rfl (fun hg => q_fieldp_leaf Tryz.underlying27 rfl sz3) ?_
  first | refine sg rfl (fun hg => strip 9 (by simp only [GS.set, GS.get, List.lookup_cons, Nat.reduceBEq] <;> rfl) hg (q_load_leaf Tryz.underlying3)) ?_ | refine sg rfl (fun hg => strip 9 (by simp only [GS.set, GS.get, List.lookup_cons, Nat.reduceBEq] <;> rfl) hg (q_loadp_leaf Tryz.underlying3)) ?_
  refine sg rfl (fun hg => strip 10 (by simp only [GS.set, GS.get, List.lookup_cons, Nat.reduceBEq] <;> rfl) hg (q_neq)) ?_
  refine sv rfl (y_and) ?_
  refine sv rfl (y_move) ?_
  first | refine sg rfl (fun hg => q_fieldAddr Tryz.underlying27 rfl sz22) ?_ | refine sg rfl (fun hg => q_fieldp_leaf Tryz.underlying27 rfl sz22) ?_
  first | refine sg rfl (fun hg => strip 14 (by simp only [GS.set, GS.get, List.lookup_cons, Nat.reduceBEq] <;> rfl) hg (q_load_leaf Tryz.underlying22)) ?_ | refine sg rfl (fun hg => strip 14 (by simp only [GS.set, GS.get, List.lookup_cons, Nat.reduceBEq] <;> rfl) hg (q_loadp_leaf Tryz.underlying22)) ?_
  refine sg rfl (fun hg => strip 15 (by simp only [GS.set, GS.get, List.lookup_cons, Nat.reduceBEq] <;> rfl) hg (q_len Tryz.underlying22)) ?_
  first | refine sg rfl (fun hg => q_fieldAddr Tryz.underlying27 rfl sz3) ?_ | refine sg rfl (fun hg => q_fieldp_leaf Tryz.underlying27 rfl sz3) ?_
  first | refine sg rfl (fun hg => strip 17 (by simp only [GS.set, GS.get, List.lookup_cons, Nat.reduceBEq] <;> rfl) hg (q_load_leaf Tryz.underlying3)) ?_ | refine sg rfl (fun hg => strip 17 (by simp only [GS.set, GS.get, List.lookup_cons, Nat.reduceBEq] <;> rfl) hg (q_loadp_leaf Tryz.underlying3)) ?_
  refine sg rfl (fun hg => strip 18 (by simp only [GS.set, GS.get, List.lookup_cons, Nat.reduceBEq] <;> rfl) hg (q_add (hw := rfl))) ?_
  refine sg rfl (fun hg => strip 19 (by simp only [GS.set, GS.get, List.lookup_cons, Nat.reduceBEq] <;> rfl) hg (strip 16 (by simp only [GS.set, GS.get, List.lookup_cons, Nat.reduceBEq] <;> rfl) hg (q_lss))) ?_
  refine sv rfl (y_or) ?_
  refine GOps_nil ?_
  refine thn_normal ?_
  refine g_cond (fun hb0 => ?_) (fun hb0 => ?_)
  ·
    have hn : ¬ ((num = 1 ∨ num = 2) ∧ num + 2 ≤ (ks.length : Int)) := by
      rintro ⟨h7, h8⟩
      simp only [Bool.or_eq_true, Bool.and_eq_true, bne_iff_ne, bne_eq_false_iff_eq, decide_eq_true_eq, decide_eq_false_iff_not, List.length_map] at hb0
      rcases hb0 with hb0 | hb0
      · omega
      · rw [wrap_i64 (by omega) (by omega)] at hb0
        omega
    refine G_seq ?_
    refine g_keep [0, 1, 2, 3, 4] ?_
    refine g_region ?_
    refine sv rfl (y_assign) ?_
    refine GOps_nil ?_
    refine thn_normal ?_
    refine G_ret ?_
    refine thn_ret ?_
    refine fin1 (by simp) ?_
    exact ⟨by rw [rule157, if_neg hn], rfl⟩
  ·
    have hn : (num = 1 ∨ num = 2) ∧ num + 2 ≤ (ks.length : Int) := by
      simp only [Bool.or_eq_false_iff, Bool.and_eq_false_iff, bne_iff_ne, bne_eq_false_iff_eq, decide_eq_true_eq, decide_eq_false_iff_not, List.length_map] at hb0
      obtain ⟨h7, h8⟩ := hb0
      have h9 : num = 1 ∨ num = 2 := by omega
      rw [wrap_i64 (by omega) (by omega)] at h8
      exact ⟨h9, by omega⟩
    have hn1 : 1 ≤ num ∧ num ≤ 2 := by omega
    refine G_skip ?_
    refine thn_normal ?_
    refine G_seq ?_
    refine g_keep [0, 1, 2, 3, 4] ?_
    refine g_region ?_
    first | refine sv rfl (y_load_agg sz27 Tryz.underlying27 rfl) ?_ | refine sv rfl (y_loadp_agg (by exact sz27) Tryz.underlying27 rfl) ?_
    refine sv rfl (y_alloc zr27) ?_
    first | refine sa rfl (d_store sz27) ?_ | refine sa rfl (d_store_take sz27) ?_
    refine GOps_nil ?_
    refine thn_normal ?_
    refine G_seq ?_
    refine g_region ?_
    first | refine sv rfl (y_fieldAt 3 Tryz.underlying27 rfl sz22) ?_ | refine sv rfl (y_fieldAddr Tryz.underlying27 rfl sz22) ?_ | refine sv rfl (y_fieldp_leaf Tryz.underlying27 rfl sz22) ?_
    first | refine sv rfl (y_load_leaf Tryz.underlying22) ?_ | refine sv rfl (y_loadp_leaf Tryz.underlying22) ?_
    first | refine sv rfl (y_fieldAt 2 Tryz.underlying27 rfl sz3) ?_ | refine sv rfl (y_fieldAddr Tryz.underlying27 rfl sz3) ?_ | refine sv rfl (y_fieldp_leaf Tryz.underlying27 rfl sz3) ?_
    first | refine sv rfl (y_load_leaf Tryz.underlying3) ?_ | refine sv rfl (y_loadp_leaf Tryz.underlying3) ?_
    refine sv rfl (y_add) ?_
    refine sv rfl (Yld_pure rfl (of_decide_eq_true rfl) (q_sliceh Tryz.underlying22 sz27 (Tr.ds_cells ks))) ?_
    rw [← List.map_take]
    first | refine sv rfl (y_fieldAt 3 Tryz.underlying27 rfl sz22) ?_ | refine sv rfl (y_fieldAddr Tryz.underlying27 rfl sz22) ?_ | refine sv rfl (y_fieldp_leaf Tryz.underlying27 rfl sz22) ?_
    first | refine sa rfl (d_store sz22) ?_ | refine sa rfl (d_store_take sz22) ?_
    refine g_freeze 0 [] (.agg [.int .i64 op, .str name, .int .i64 num, .sl ((ks.take (num + 2).toNat).map Tr.d)]) rfl ?_
    refine GOps_nil ?_
    refine thn_normal ?_
    refine G_seq ?_
    refine G_seq ?_
    refine g_cg0 [30, 31, 32, 33, 34, 35, 36] ?_
    refine cg_pre [] ?_
    first | refine cg_st 1 (fun bq rest hc1 hc2 hc3 => sv rfl (y_load_agg sz27 Tryz.underlying27 rfl) (GOps_nil ⟨rfl, rfl⟩)) ?_ | refine cg_st 1 (fun bq rest hc1 hc2 hc3 => sv rfl (y_loadp_agg (by exact sz27) Tryz.underlying27 rfl) (GOps_nil ⟨rfl, rfl⟩)) ?_
    refine cg_pre [] ?_
    first | refine cg_st 2 (fun bq rest hc1 hc2 hc3 => sv rfl (y_fieldAt 2 Tryz.underlying27 rfl sz3) (GOps_nil ⟨rfl, rfl⟩)) ?_ | refine cg_st 2 (fun bq rest hc1 hc2 hc3 => sv rfl (y_fieldAddr Tryz.underlying27 rfl sz3) (GOps_nil ⟨rfl, rfl⟩)) ?_ | refine cg_st 2 (fun bq rest hc1 hc2 hc3 => sv rfl (y_fieldp_leaf Tryz.underlying27 rfl sz3) (GOps_nil ⟨rfl, rfl⟩)) ?_
    refine cg_pre [1] ?_
    first | refine cg_st 3 (fun bq rest hc1 hc2 hc3 => sv rfl (y_load_leaf Tryz.underlying3) (GOps_nil ⟨rfl, rfl⟩)) ?_ | refine cg_st 3 (fun bq rest hc1 hc2 hc3 => sv rfl (y_loadp_leaf Tryz.underlying3) (GOps_nil ⟨rfl, rfl⟩)) ?_
    refine cg_pre [2] ?_
    refine cg_st 4 (fun bq rest hc1 hc2 hc3 => sv rfl (Yld_pure rfl (of_decide_eq_true rfl) (q_strh Tryz.underlying9 (h1 := by show num ≤ 2; omega))) (GOps_nil ⟨rfl, rfl⟩)) ?_
    refine cg_pre [3] ?_
    refine cg_st 5 (fun bq rest hc1 hc2 hc3 => sv rfl (y_stradd (hl := by have := nn_size num.toNat; show (nn.extract 0 num.toNat).size + 2 ≤ lim; simp only [lim]; omega)) (GOps_nil ⟨rfl, rfl⟩)) ?_
    refine cg_pre [0, 4] ?_
    refine cg_st 6 (fun bq rest hc1 hc2 hc3 => g_call (xs := [.tmp 30, .tmp 34]) rfl ((Tr.d_mk op name num (ks.take (num + 2).toNat) ▸ c156 (.mk op name num (ks.take (num + 2).toNat)) (nn.extract 0 num.toNat ++ eb) (hok.take _))) (GOps_nil ⟨rfl, rfl⟩)) ?_
    refine cg_pre [5] ?_
    refine cg_st 7 (fun bq rest hc1 hc2 hc3 => sv rfl (y_not) (GOps_nil ⟨rfl, rfl⟩)) ?_
    refine cg_done ?_
    refine thn_normal ?_
    refine g_cond (fun hb1 => ?_) (fun hb1 => ?_)
    ·
      refine G_seq ?_
      refine g_keep [0, 1, 2, 3, 4] ?_
      refine g_region ?_
      refine sv rfl (y_assign) ?_
      refine GOps_nil ?_
      refine thn_normal ?_
      refine G_ret ?_
      refine thn_ret ?_
      refine fin1 (by simp) ?_
      exact ⟨by rw [rule157, if_pos hn]; simp only [Tr.kids_mk] at hb1 ⊢; simp at hb1; simp [hb1], rfl⟩
    ·
      refine G_skip ?_
      refine thn_normal ?_
      refine G_seq ?_
      refine g_keep [0, 1, 2, 3, 4] ?_
      refine g_region ?_
      first | refine sv rfl (y_load_agg sz27 Tryz.underlying27 rfl) ?_ | refine sv rfl (y_loadp_agg (by exact sz27) Tryz.underlying27 rfl) ?_
      refine sv rfl (y_alloc zr27) ?_
      first | refine sa rfl (d_store sz27) ?_ | refine sa rfl (d_store_take sz27) ?_
      refine GOps_nil ?_
      refine thn_normal ?_
      refine G_seq ?_
      refine g_region ?_
      first | refine sv rfl (y_fieldAt 3 Tryz.underlying27 rfl sz22) ?_ | refine sv rfl (y_fieldAddr Tryz.underlying27 rfl sz22) ?_ | refine sv rfl (y_fieldp_leaf Tryz.underlying27 rfl sz22) ?_
      first | refine sv rfl (y_load_leaf Tryz.underlying22) ?_ | refine sv rfl (y_loadp_leaf Tryz.underlying22) ?_
      first | refine sv rfl (y_fieldAt 2 Tryz.underlying27 rfl sz3) ?_ | refine sv rfl (y_fieldAddr Tryz.underlying27 rfl sz3) ?_ | refine sv rfl (y_fieldp_leaf Tryz.underlying27 rfl sz3) ?_
      first | refine sv rfl (y_load_leaf Tryz.underlying3) ?_ | refine sv rfl (y_loadp_leaf Tryz.underlying3) ?_
      refine sv rfl (y_add) ?_
      refine sv rfl (Yld_pure rfl (of_decide_eq_true rfl) (q_slicel Tryz.underlying22 sz27 (Tr.ds_cells ks))) ?_
      rw [← List.map_drop]
      first | refine sv rfl (y_fieldAt 3 Tryz.underlying27 rfl sz22) ?_ | refine sv rfl (y_fieldAddr Tryz.underlying27 rfl sz22) ?_ | refine sv rfl (y_fieldp_leaf Tryz.underlying27 rfl sz22) ?_
      first | refine sa rfl (d_store sz22) ?_ | refine sa rfl (d_store_take sz22) ?_
      refine g_freeze 0 [] (.agg [.int .i64 op, .str name, .int .i64 num, .sl ((ks.drop (num + 2).toNat).map Tr.d)]) rfl ?_
      refine GOps_nil ?_
      refine thn_normal ?_
      refine G_seq ?_
      refine g_region ?_
      first | refine sv rfl (y_fieldAt 3 Tryz.underlying27 rfl sz22) ?_ | refine sv rfl (y_fieldAddr Tryz.underlying27 rfl sz22) ?_ | refine sv rfl (y_fieldp_leaf Tryz.underlying27 rfl sz22) ?_
      first | refine sv rfl (y_load_leaf Tryz.underlying22) ?_ | refine sv rfl (y_loadp_leaf Tryz.underlying22) ?_
      refine sv rfl (y_len Tryz.underlying22) ?_
      refine sv rfl (y_eql) ?_
      refine sv rfl (y_move) ?_
      first | refine sg rfl (fun hg => q_fieldAddr Tryz.underlying27 rfl sz3) ?_ | refine sg rfl (fun hg => q_fieldp_leaf Tryz.underlying27 rfl sz3) ?_
      first | refine sg rfl (fun hg => strip 50 (by simp only [GS.set, GS.get, List.lookup_cons, Nat.reduceBEq] <;> rfl) hg (q_load_leaf Tryz.underlying3)) ?_ | refine sg rfl (fun hg => strip 50 (by simp only [GS.set, GS.get, List.lookup_cons, Nat.reduceBEq] <;> rfl) hg (q_loadp_leaf Tryz.underlying3)) ?_
      refine sg rfl (fun hg => strip 51 (by simp only [GS.set, GS.get, List.lookup_cons, Nat.reduceBEq] <;> rfl) hg (q_eql)) ?_
      refine sg rfl (fun hg => strip 52 (by simp only [GS.set, GS.get, List.lookup_cons, Nat.reduceBEq] <;> rfl) hg (q_move)) ?_
      first | refine sg rfl (fun hg => q_load_agg sz27 Tryz.underlying27 rfl) ?_ | refine sg rfl (fun hg => q_loadp_agg (by exact sz27) Tryz.underlying27 rfl) ?_
      refine g_callg (xs := [.tmp 54, .func 232]) rfl (fun hg => (Tr.d_mk op name num (ks.drop (num + 2).toNat) ▸ c159 (.mk op name num (ks.drop (num + 2).toNat)) 232 (fun op => op == 67) (hok.drop _) c232)) ?_
      refine sg rfl (fun hg => strip 53 (by simp only [GS.set, GS.get, List.lookup_cons, Nat.reduceBEq] <;> rfl) hg (q_and)) ?_
      refine sv rfl (y_or) ?_
      refine sv rfl (y_assign) ?_
      refine GOps_nil ?_
      refine thn_normal ?_
      refine G_ret ?_
      refine fin1 (by simp) ?_
      exact ⟨by rw [rule157, if_pos hn]; simp only [Tr.kids_mk] at hb1 ⊢; simp at hb1; simp [hb1], rfl⟩
def andI (a b : Int) : Int := IntKind.i64.wrap (BitVec.ofInt 64 a &&& BitVec.ofInt 64 b).toNat
def voidB : ByteArray := ⟨#[118, 111, 105, 100]⟩
def varTail (nu : Int) (l : List Tr) : Bool := if (andI nu 2 != 0) = true then (match l with | [] => false | k :: r => isExprB k.op && (r.length : Int) == 0) else (l.length : Int) == 0
def varType (k : Tr) : Bool := !(k.op != 31 && (k.op != 30 || decide (k.nm = voidB)))
/-- The rule of Vars. -/
def varTy (num : Int) : List Tr → Bool
  | [] => false
  | k :: r => varType k && varTail num r
def varB : Tr → Bool
  | .mk _ name num ks =>
    if (((!nameB name || decide (num < 0)) || decide (num > 15)) || andI num 3 == 0) = true then false
    else if (andI num 1 != 0) = true then varTy num ks else varTail num ks
set_option maxHeartbeats 4000000 in
theorem c285 (t : Tr) (hok : t.Ok) : Pf Tryz.prog 285 [t.d] (.d (.bool (varB t))) := by
  obtain ⟨op, name, num, ks⟩ := t
  rw [Tr.d_mk]
  try simp only [Tr.op_mk, Tr.nm_mk, Tr.nu_mk, Tr.kids_mk]
  cases hok with | mk h1 h2 h3 h4 h5 =>
  refine pf_body (rvs := [.tmp 2]) [(0, .d (.agg [.int .i64 op, .str name, .int .i64 num, .sl (ks.map Tr.d)]))] Tryz.func285 Tryz.ntmps285 Tryz.results285 (fun S0 O0 w0 m0 hm0 => ?_)
  refine G_seq ?_
  refine g_region ?_
  refine sv rfl (y_box) ?_
  refine g_freeze 0 [] (.agg [.int .i64 op, .str name, .int .i64 num, .sl (ks.map Tr.d)]) rfl ?_
  refine sv rfl (y_assign) ?_
  refine GOps_nil ?_
  refine thn_normal ?_
  refine G_seq ?_
  refine G_seq ?_
  refine g_region ?_
  first | refine sv rfl (y_fieldAt 1 Tryz.underlying27 rfl sz9) ?_ | refine sv rfl (y_fieldAddr Tryz.underlying27 rfl sz9) ?_ | refine sv rfl (y_fieldp_leaf Tryz.underlying27 rfl sz9) ?_
  first | refine sv rfl (y_load_leaf Tryz.underlying9) ?_ | refine sv rfl (y_loadp_leaf Tryz.underlying9) ?_
  refine g_call (xs := [.tmp 5]) rfl (c167 name) ?_
  refine sv rfl (y_not) ?_
  refine sv rfl (y_move) ?_
  first | refine sg rfl (fun hg => q_fieldAddr Tryz.underlying27 rfl sz3) ?_ | refine sg rfl (fun hg => q_fieldp_leaf Tryz.underlying27 rfl sz3) ?_
  first | refine sg rfl (fun hg => strip 9 (by simp only [GS.set, GS.get, List.lookup_cons, Nat.reduceBEq] <;> rfl) hg (q_load_leaf Tryz.underlying3)) ?_ | refine sg rfl (fun hg => strip 9 (by simp only [GS.set, GS.get, List.lookup_cons, Nat.reduceBEq] <;> rfl) hg (q_loadp_leaf Tryz.underlying3)) ?_
  refine sg rfl (fun hg => strip 10 (by simp only [GS.set, GS.get, List.lookup_cons, Nat.reduceBEq] <;> rfl) hg (q_lss)) ?_
  refine sv rfl (y_or) ?_
  refine sv rfl (y_move) ?_
  first | refine sg rfl (fun hg => q_fieldAddr Tryz.underlying27 rfl sz3) ?_ | refine sg rfl (fun hg => q_fieldp_leaf Tryz.underlying27 rfl sz3) ?_
  first | refine sg rfl (fun hg => strip 14 (by simp only [GS.set, GS.get, List.lookup_cons, Nat.reduceBEq] <;> rfl) hg (q_load_leaf Tryz.underlying3)) ?_ | refine sg rfl (fun hg => strip 14 (by simp only [GS.set, GS.get, List.lookup_cons, Nat.reduceBEq] <;> rfl) hg (q_loadp_leaf Tryz.underlying3)) ?_
  refine sg rfl (fun hg => strip 15 (by simp only [GS.set, GS.get, List.lookup_cons, Nat.reduceBEq] <;> rfl) hg (q_gtr)) ?_
  refine sv rfl (y_or) ?_
  refine sv rfl (y_move) ?_
  first | refine sg rfl (fun hg => q_fieldAddr Tryz.underlying27 rfl sz3) ?_ | refine sg rfl (fun hg => q_fieldp_leaf Tryz.underlying27 rfl sz3) ?_
  first | refine sg rfl (fun hg => strip 19 (by simp only [GS.set, GS.get, List.lookup_cons, Nat.reduceBEq] <;> rfl) hg (q_load_leaf Tryz.underlying3)) ?_ | refine sg rfl (fun hg => strip 19 (by simp only [GS.set, GS.get, List.lookup_cons, Nat.reduceBEq] <;> rfl) hg (q_loadp_leaf Tryz.underlying3)) ?_
  refine sg rfl (fun hg => strip 20 (by simp only [GS.set, GS.get, List.lookup_cons, Nat.reduceBEq] <;> rfl) hg (q_bits (show _ = pure (Value.int .i64 (andI _ _)) from rfl))) ?_
  refine sg rfl (fun hg => strip 21 (by simp only [GS.set, GS.get, List.lookup_cons, Nat.reduceBEq] <;> rfl) hg (q_eql)) ?_
  refine sv rfl (y_or) ?_
  refine GOps_nil ?_
  refine thn_normal ?_
  refine g_cond (fun hb0 => ?_) (fun hb0 => ?_)
  ·
    refine G_seq ?_
    refine g_keep [0, 1, 2, 3] ?_
    refine g_region ?_
    refine sv rfl (y_assign) ?_
    refine GOps_nil ?_
    refine thn_normal ?_
    refine G_ret ?_
    refine thn_ret ?_
    refine fin1 (by simp) ?_
    exact ⟨by rw [varB, if_pos hb0], rfl⟩
  ·
    refine G_skip ?_
    refine thn_normal ?_
    refine G_seq ?_
    refine g_keep [0, 1, 2, 3] ?_
    refine g_region ?_
    first | refine sv rfl (y_fieldAt 3 Tryz.underlying27 rfl sz22) ?_ | refine sv rfl (y_fieldAddr Tryz.underlying27 rfl sz22) ?_ | refine sv rfl (y_fieldp_leaf Tryz.underlying27 rfl sz22) ?_
    first | refine sv rfl (y_load_leaf Tryz.underlying22) ?_ | refine sv rfl (y_loadp_leaf Tryz.underlying22) ?_
    first | refine sv rfl (y_assign_take) ?_ | refine sv rfl (y_assign) ?_
    refine GOps_nil ?_
    refine thn_normal ?_
    refine G_seq_cut (α := List Tr) (fun l => ⟨[(1, .d (.ptr (.agg [.int .i64 op, .str name, .int .i64 num, .sl (ks.map Tr.d)]))), (3, .d (.sl (l.map Tr.d)))], []⟩) (fun l => varB (.mk op name num ks) = varTail num l ∧ l.length ≤ 140737488355328) (fun Q' hn he hr => ?_) (fun l hl => ?_)
    ·
      refine G_seq ?_
      refine g_region ?_
      first | refine sv rfl (y_fieldAt 2 Tryz.underlying27 rfl sz3) ?_ | refine sv rfl (y_fieldAddr Tryz.underlying27 rfl sz3) ?_ | refine sv rfl (y_fieldp_leaf Tryz.underlying27 rfl sz3) ?_
      first | refine sv rfl (y_load_leaf Tryz.underlying3) ?_ | refine sv rfl (y_loadp_leaf Tryz.underlying3) ?_
      refine sv rfl (y_bits (show _ = pure (Value.int .i64 (andI _ _)) from rfl)) ?_
      refine sv rfl (y_neq) ?_
      refine GOps_nil ?_
      refine thn_normal ?_
      refine g_cond (fun hb1 => ?_) (fun hb1 => ?_)
      ·
        refine G_seq ?_
        refine G_seq ?_
        refine g_region ?_
        refine sv rfl (y_move) ?_
        refine sv rfl (y_len Tryz.underlying22) ?_
        refine sv rfl (y_eql) ?_
        refine sv rfl (y_move) ?_
        refine g_split 33 false (fun hsp => ?_) (fun hsp => ?_)
        ·
          obtain ⟨k, r, hks⟩ : ∃ k r, ks = k :: r := by
            cases hks : ks with
            | nil => exfalso; rw [hks] at hsp; exact absurd hsp (by decide)
            | cons k r => exact ⟨k, r, rfl⟩
          obtain ⟨kop, knm, knu, kks, hka⟩ := k.d_agg
          have hkop : k.op = kop ∧ k.nm = knm := by obtain ⟨o, n, u, l⟩ := k; rw [Tr.d_mk] at hka; injection hka with hka; injection hka with hka1 hka; injection hka with hka2 hka; injection hka1 with _ hka1; injection hka2 with hka2; exact ⟨hka1, hka2⟩
          have hxa : (ks.map Tr.d)[0]? = some (.agg [.int .i64 kop, .str knm, .int .i64 knu, .sl (kks.map Tr.d)]) := by rw [hks, ← hka]; rfl
          have hlen : ks.length = r.length + 1 := by rw [hks]; rfl
          have hdr : List.drop (Int.toNat 1) (List.map Tr.d ks) = List.map Tr.d r := by rw [hks]; rfl
          have hne : ((ks.map Tr.d).length : Int) ≠ 0 := by rw [List.length_map]; omega
          refine sgo rfl hsp (y_move) ?_
          refine sgo rfl hsp (y_indexAddr Tryz.underlying22 sz27) ?_
          first | refine sgo rfl hsp (y_fieldAddr Tryz.underlying27 rfl sz3) ?_ | refine sgo rfl hsp (y_fieldp_leaf Tryz.underlying27 rfl sz3) ?_
          first | refine sgo rfl hsp (y_load_leaf Tryz.underlying3) ?_ | refine sgo rfl hsp (y_loadp_leaf Tryz.underlying3) ?_
          refine sgo rfl hsp (y_neq) ?_
          refine sgo rfl hsp (y_move) ?_
          refine sg rfl (fun hg => q_move) ?_
          refine sg rfl (fun hg => strip 40 (by simp only [GS.set, GS.get, List.lookup_cons, Nat.reduceBEq] <;> rfl) hg (q_indexAddr Tryz.underlying22 sz27)) ?_
          first | refine sg rfl (fun hg => strip 41 (by simp only [GS.set, GS.get, List.lookup_cons, Nat.reduceBEq] <;> rfl) hg (q_fieldAddr Tryz.underlying27 rfl sz3)) ?_ | refine sg rfl (fun hg => strip 41 (by simp only [GS.set, GS.get, List.lookup_cons, Nat.reduceBEq] <;> rfl) hg (q_fieldp_leaf Tryz.underlying27 rfl sz3)) ?_
          first | refine sg rfl (fun hg => strip 42 (by simp only [GS.set, GS.get, List.lookup_cons, Nat.reduceBEq] <;> rfl) hg (q_load_leaf Tryz.underlying3)) ?_ | refine sg rfl (fun hg => strip 42 (by simp only [GS.set, GS.get, List.lookup_cons, Nat.reduceBEq] <;> rfl) hg (q_loadp_leaf Tryz.underlying3)) ?_
          refine sg rfl (fun hg => strip 43 (by simp only [GS.set, GS.get, List.lookup_cons, Nat.reduceBEq] <;> rfl) hg (q_neq)) ?_
          refine sg rfl (fun hg => strip 44 (by simp only [GS.set, GS.get, List.lookup_cons, Nat.reduceBEq] <;> rfl) hg (q_move)) ?_
          refine sg rfl (fun hg => q_move) ?_
          refine sg rfl (fun hg => strip 46 (by simp only [GS.set, GS.get, List.lookup_cons, Nat.reduceBEq] <;> rfl) hg (q_indexAddr Tryz.underlying22 sz27)) ?_
          first | refine sg rfl (fun hg => strip 47 (by simp only [GS.set, GS.get, List.lookup_cons, Nat.reduceBEq] <;> rfl) hg (q_fieldAddr Tryz.underlying27 rfl sz9)) ?_ | refine sg rfl (fun hg => strip 47 (by simp only [GS.set, GS.get, List.lookup_cons, Nat.reduceBEq] <;> rfl) hg (q_fieldp_leaf Tryz.underlying27 rfl sz9)) ?_
          first | refine sg rfl (fun hg => strip 48 (by simp only [GS.set, GS.get, List.lookup_cons, Nat.reduceBEq] <;> rfl) hg (q_load_leaf Tryz.underlying9)) ?_ | refine sg rfl (fun hg => strip 48 (by simp only [GS.set, GS.get, List.lookup_cons, Nat.reduceBEq] <;> rfl) hg (q_loadp_leaf Tryz.underlying9)) ?_
          refine sg rfl (fun hg => strip 49 (by simp only [GS.set, GS.get, List.lookup_cons, Nat.reduceBEq] <;> rfl) hg (q_streq)) ?_
          refine sg rfl (fun hg => strip 45 (by simp only [GS.set, GS.get, List.lookup_cons, Nat.reduceBEq] <;> rfl) hg (q_or)) ?_
          refine sgo rfl hsp (y_and) ?_
          refine sv rfl (y_or) ?_
          refine GOps_nil ?_
          refine thn_normal ?_
          refine g_cond (fun hb2 => ?_) (fun hb2 => ?_)
          ·
            have hbad : varTy num ks = false := by
              obtain ⟨g1, g2⟩ := hkop
              rw [beq_eq_false_iff_ne.2 hne, Bool.false_or] at hb2
              rw [hks, varTy, varType, g1, g2]
              rw [show (kop != 31 && (kop != 30 || decide (knm = voidB))) = true from hb2]; rfl
            refine G_seq ?_
            refine g_keep [0, 1, 2, 3] ?_
            refine g_region ?_
            refine sv rfl (y_assign) ?_
            refine GOps_nil ?_
            refine thn_normal ?_
            refine G_ret ?_
            refine thn_ret ?_
            refine hr _ ?_
            refine fin1 (by simp) ?_
            exact ⟨by rw [varB, if_neg (by rw [hb0]; decide), if_pos hb1, hbad], rfl⟩
          ·
            have hgood : varTy num ks = varTail num r := by
              obtain ⟨g1, g2⟩ := hkop
              rw [beq_eq_false_iff_ne.2 hne, Bool.false_or] at hb2
              rw [hks, varTy, varType, g1, g2]
              rw [show (kop != 31 && (kop != 30 || decide (knm = voidB))) = false from hb2]; rfl
            refine G_skip ?_
            refine thn_normal ?_
            refine g_keep [0, 1, 2, 3] ?_
            refine g_region ?_
            refine sv rfl (y_move) ?_
            refine sv rfl (Yld_pure rfl (of_decide_eq_true rfl) (q_slicel Tryz.underlying22 sz27 (Tr.ds_cells ks))) ?_
            rw [hdr]
            first | refine sv rfl (y_assign_take) ?_ | refine sv rfl (y_assign) ?_
            refine GOps_nil ?_
            refine hn _ r ⟨by rw [varB, if_neg (by rw [hb0]; decide), if_pos hb1, hgood], by omega⟩ le_of
        ·
          skip
          refine sgx rfl ?_ ?_
          · first | exact hsp | (rw [hsp]; rfl) | simp [hsp] | simp_all
          refine sgx rfl ?_ ?_
          · first | exact hsp | (rw [hsp]; rfl) | simp [hsp] | simp_all
          refine sgx rfl ?_ ?_
          · first | exact hsp | (rw [hsp]; rfl) | simp [hsp] | simp_all
          refine sgx rfl ?_ ?_
          · first | exact hsp | (rw [hsp]; rfl) | simp [hsp] | simp_all
          refine sgx rfl ?_ ?_
          · first | exact hsp | (rw [hsp]; rfl) | simp [hsp] | simp_all
          refine sgx rfl ?_ ?_
          · first | exact hsp | (rw [hsp]; rfl) | simp [hsp] | simp_all
          refine sgx rfl ?_ ?_
          · first | exact hsp | (rw [hsp]; rfl) | simp [hsp] | simp_all
          refine sgx rfl ?_ ?_
          · first | exact hsp | (rw [hsp]; rfl) | simp [hsp] | simp_all
          refine sgx rfl ?_ ?_
          · first | exact hsp | (rw [hsp]; rfl) | simp [hsp] | simp_all
          refine sgx rfl ?_ ?_
          · first | exact hsp | (rw [hsp]; rfl) | simp [hsp] | simp_all
          refine sgx rfl ?_ ?_
          · first | exact hsp | (rw [hsp]; rfl) | simp [hsp] | simp_all
          refine sgx rfl ?_ ?_
          · first | exact hsp | (rw [hsp]; rfl) | simp [hsp] | simp_all
          refine sgx rfl ?_ ?_
          · first | exact hsp | (rw [hsp]; rfl) | simp [hsp] | simp_all
          refine sgx rfl ?_ ?_
          · first | exact hsp | (rw [hsp]; rfl) | simp [hsp] | simp_all
          refine sgx rfl ?_ ?_
          · first | exact hsp | (rw [hsp]; rfl) | simp [hsp] | simp_all
          refine sgx rfl ?_ ?_
          · first | exact hsp | (rw [hsp]; rfl) | simp [hsp] | simp_all
          refine sgx rfl ?_ ?_
          · first | exact hsp | (rw [hsp]; rfl) | simp [hsp] | simp_all
          refine sgx rfl ?_ ?_
          · first | exact hsp | (rw [hsp]; rfl) | simp [hsp] | simp_all
          refine sgx rfl ?_ ?_
          · first | exact hsp | (rw [hsp]; rfl) | simp [hsp] | simp_all
          refine sv rfl (y_or) ?_
          refine GOps_nil ?_
          refine thn_normal ?_
          refine g_cond (fun hb3 => ?_) (fun hb3 => ?_)
          ·
            have hnil : varTy num ks = false := by
              cases ks with
              | nil => rfl
              | cons k r => exfalso; simp at hsp; omega
            refine G_seq ?_
            refine g_keep [0, 1, 2, 3] ?_
            refine g_region ?_
            refine sv rfl (y_assign) ?_
            refine GOps_nil ?_
            refine thn_normal ?_
            refine G_ret ?_
            refine thn_ret ?_
            refine hr _ ?_
            refine fin1 (by simp) ?_
            exact ⟨by rw [varB, if_neg (by rw [hb0]; decide), if_pos hb1, hnil], rfl⟩
          ·
            exfalso
            have h0 : (((ks.map Tr.d).length : Int) == 0) = true := by simpa using hsp
            exact absurd hb3 (by rw [h0, Bool.true_or]; decide)
      ·
        refine G_skip ?_
        refine hn _ ks ⟨by rw [varB, if_neg (by rw [hb0]; decide), if_neg (by rw [hb1]; decide)], h4⟩ le_of
    ·
      obtain ⟨hl1, hl2⟩ := hl
      refine G_seq ?_
      refine G_seq ?_
      refine g_region ?_
      first | refine sv rfl (y_fieldAt 2 Tryz.underlying27 rfl sz3) ?_ | refine sv rfl (y_fieldAddr Tryz.underlying27 rfl sz3) ?_ | refine sv rfl (y_fieldp_leaf Tryz.underlying27 rfl sz3) ?_
      first | refine sv rfl (y_load_leaf Tryz.underlying3) ?_ | refine sv rfl (y_loadp_leaf Tryz.underlying3) ?_
      refine sv rfl (y_bits (show _ = pure (Value.int .i64 (andI _ _)) from rfl)) ?_
      refine sv rfl (y_neq) ?_
      refine GOps_nil ?_
      refine thn_normal ?_
      refine g_cond (fun hb4 => ?_) (fun hb4 => ?_)
      ·
        refine G_seq ?_
        refine G_seq ?_
        refine g_region ?_
        refine sv rfl (y_move) ?_
        refine sv rfl (y_len Tryz.underlying22) ?_
        refine sv rfl (y_eql) ?_
        refine sv rfl (y_move) ?_
        refine g_split 63 false (fun hsp => ?_) (fun hsp => ?_)
        ·
          obtain ⟨k, r, hks⟩ : ∃ k r, l = k :: r := by
            cases hks : l with
            | nil => exfalso; rw [hks] at hsp; exact absurd hsp (by decide)
            | cons k r => exact ⟨k, r, rfl⟩
          obtain ⟨kop, knm, knu, kks, hka⟩ := k.d_agg
          have hkop : k.op = kop ∧ k.nm = knm := by obtain ⟨o, n, u, l⟩ := k; rw [Tr.d_mk] at hka; injection hka with hka; injection hka with hka1 hka; injection hka with hka2 hka; injection hka1 with _ hka1; injection hka2 with hka2; exact ⟨hka1, hka2⟩
          have hxa : (l.map Tr.d)[0]? = some (.agg [.int .i64 kop, .str knm, .int .i64 knu, .sl (kks.map Tr.d)]) := by rw [hks, ← hka]; rfl
          have hlen : l.length = r.length + 1 := by rw [hks]; rfl
          have hdr : List.drop (Int.toNat 1) (List.map Tr.d l) = List.map Tr.d r := by rw [hks]; rfl
          have hne : ((l.map Tr.d).length : Int) ≠ 0 := by rw [List.length_map]; omega
          refine sgo rfl hsp (y_move) ?_
          refine sgo rfl hsp (y_indexAddr Tryz.underlying22 sz27) ?_
          first | refine sgo rfl hsp (y_fieldAddr Tryz.underlying27 rfl sz3) ?_ | refine sgo rfl hsp (y_fieldp_leaf Tryz.underlying27 rfl sz3) ?_
          first | refine sgo rfl hsp (y_load_leaf Tryz.underlying3) ?_ | refine sgo rfl hsp (y_loadp_leaf Tryz.underlying3) ?_
          refine g_callo (xs := [.tmp 67]) rfl hsp (c74 kop) ?_
          refine sgo rfl hsp (y_not) ?_
          refine sv rfl (y_or) ?_
          refine GOps_nil ?_
          refine thn_normal ?_
          refine g_cond (fun hb5 => ?_) (fun hb5 => ?_)
          ·
            have hx : varTail num l = false := by
              rw [beq_eq_false_iff_ne.2 hne, Bool.false_or] at hb5
              unfold varTail
              rw [if_pos hb4, hks]
              obtain ⟨g1, g2⟩ := hkop
              simp [g1] at hb5 ⊢
              simp [hb5]
            refine G_seq ?_
            refine g_keep [0, 1, 2, 3] ?_
            refine g_region ?_
            refine sv rfl (y_assign) ?_
            refine GOps_nil ?_
            refine thn_normal ?_
            refine G_ret ?_
            refine thn_ret ?_
            refine thn_ret ?_
            refine fin1 (by simp) ?_
            exact ⟨by rw [hl1, hx], rfl⟩
          ·
            have hx : varTail num l = ((r.length : Int) == 0) := by
              rw [beq_eq_false_iff_ne.2 hne, Bool.false_or] at hb5
              unfold varTail
              rw [if_pos hb4, hks]
              obtain ⟨g1, g2⟩ := hkop
              simp [g1] at hb5 ⊢
              simp [hb5]
            refine G_skip ?_
            refine thn_normal ?_
            refine g_keep [0, 1, 2, 3] ?_
            refine g_region ?_
            refine sv rfl (y_move) ?_
            refine sv rfl (Yld_pure rfl (of_decide_eq_true rfl) (q_slicel Tryz.underlying22 sz27 (Tr.ds_cells l))) ?_
            rw [hdr]
            first | refine sv rfl (y_assign_take) ?_ | refine sv rfl (y_assign) ?_
            refine GOps_nil ?_
            refine thn_normal ?_
            refine G_seq ?_
            refine g_region ?_
            refine sv rfl (y_move) ?_
            refine sv rfl (y_len Tryz.underlying22) ?_
            refine sv rfl (y_eql) ?_
            refine sv rfl (y_assign) ?_
            refine GOps_nil ?_
            refine thn_normal ?_
            refine G_ret ?_
            refine fin1 (by simp) ?_
            exact ⟨by rw [hl1, hx]; simp, rfl⟩
        ·
          skip
          refine sgx rfl ?_ ?_
          · first | exact hsp | (rw [hsp]; rfl) | simp [hsp] | simp_all
          refine sgx rfl ?_ ?_
          · first | exact hsp | (rw [hsp]; rfl) | simp [hsp] | simp_all
          refine sgx rfl ?_ ?_
          · first | exact hsp | (rw [hsp]; rfl) | simp [hsp] | simp_all
          refine sgx rfl ?_ ?_
          · first | exact hsp | (rw [hsp]; rfl) | simp [hsp] | simp_all
          refine sgx rfl ?_ ?_
          · first | exact hsp | (rw [hsp]; rfl) | simp [hsp] | simp_all
          refine sgx rfl ?_ ?_
          · first | exact hsp | (rw [hsp]; rfl) | simp [hsp] | simp_all
          refine sv rfl (y_or) ?_
          refine GOps_nil ?_
          refine thn_normal ?_
          refine g_cond (fun hb6 => ?_) (fun hb6 => ?_)
          ·
            have hx : varTail num l = false := by
              cases l with
              | nil => unfold varTail; rw [if_pos hb4]
              | cons k r => exfalso; simp at hsp; omega
            refine G_seq ?_
            refine g_keep [0, 1, 2, 3] ?_
            refine g_region ?_
            refine sv rfl (y_assign) ?_
            refine GOps_nil ?_
            refine thn_normal ?_
            refine G_ret ?_
            refine thn_ret ?_
            refine thn_ret ?_
            refine fin1 (by simp) ?_
            exact ⟨by rw [hl1, hx], rfl⟩
          ·
            exfalso
            have h0 : (((l.map Tr.d).length : Int) == 0) = true := by simpa using hsp
            exact absurd hb6 (by rw [h0, Bool.true_or]; decide)
      ·
        refine G_skip ?_
        refine thn_normal ?_
        refine G_seq ?_
        refine g_region ?_
        refine sv rfl (y_move) ?_
        refine sv rfl (y_len Tryz.underlying22) ?_
        refine sv rfl (y_eql) ?_
        refine sv rfl (y_assign) ?_
        refine GOps_nil ?_
        refine thn_normal ?_
        refine G_ret ?_
        refine fin1 (by simp) ?_
        exact ⟨by rw [hl1]; unfold varTail; rw [if_neg (by rw [hb4]; decide)]; simp, rfl⟩
theorem decode_wide (b : ByteArray) (i : Nat) : 0 < (Utf8.decode b i).2 := by
  unfold Utf8.decode
  dsimp only
  repeat' split
  all_goals first | decide | simp
/-- The first place where something holds of a text's rune; -1 if nowhere. -/
def idxRune (p : Int → Bool) (b : ByteArray) (pos : Nat) : Int :=
  if pos < b.size then (if p (Utf8.decode b pos).1 = true then (pos : Int) else idxRune p b (pos + (Utf8.decode b pos).2)) else -1
termination_by b.size - pos
decreasing_by have := decode_wide b pos; omega
theorem idxRune_end {p : Int → Bool} {b : ByteArray} {pos : Nat} (h : ¬ pos < b.size) : idxRune p b pos = -1 := by rw [idxRune, if_neg h]
theorem idxRune_hit {p : Int → Bool} {b : ByteArray} {pos : Nat} (h : pos < b.size) (h2 : p (Utf8.decode b pos).1 = true) : idxRune p b pos = pos := by rw [idxRune, if_pos h, if_pos h2]
theorem idxRune_miss {p : Int → Bool} {b : ByteArray} {pos : Nat} (h : pos < b.size) (h2 : p (Utf8.decode b pos).1 = false) : idxRune p b (pos + (Utf8.decode b pos).2) = idxRune p b pos := by
  rw [idxRune.eq_1 p b pos, if_pos h, if_neg (by rw [h2]; decide)]
def badR (r : Int) : Bool := decide (r < 32) || decide (r > 126)
def plainTx (s : ByteArray) : Bool := !decide (idxRune badR s 0 ≥ 0)
theorem c284 (r : Int) : Pf Tryz.prog 284 [.int .i32 r] (.d (.bool (badR r))) := by
  refine pf_body (rvs := [.tmp 2]) [(0, .d (.int .i32 r))] Tryz.func284 Tryz.ntmps284 Tryz.results284 (fun S0 O0 w0 m0 hm0 => ?_)
  refine G_seq ?_
  refine g_region ?_
  refine sv rfl (y_assign) ?_
  refine GOps_nil ?_
  refine thn_normal ?_
  refine G_seq ?_
  refine g_region ?_
  refine sv rfl (y_move) ?_
  refine sv rfl (y_lss) ?_
  refine sv rfl (y_move) ?_
  refine sg rfl (fun hg => q_move) ?_
  refine sg rfl (fun hg => strip 6 (by simp only [GS.set, GS.get, List.lookup_cons, Nat.reduceBEq] <;> rfl) hg (q_gtr)) ?_
  refine sv rfl (y_or) ?_
  refine sv rfl (y_assign) ?_
  refine GOps_nil ?_
  refine thn_normal ?_
  refine G_ret ?_
  refine fin1 (by simp) ?_
  exact ⟨rfl, rfl⟩
theorem c322 (s : ByteArray) (g : FuncId) (p : Int → Bool) (hcb : ∀ r, Pf Tryz.prog g [.int .i32 r] (.d (.bool (p r)))) : Pf Tryz.prog 322 [.str s, .fn (.func g) [] [], .bool true] (.d (.int .i64 (idxRune p s 0))) := by
  refine pf_body (rvs := [.tmp 6]) [(0, .d (.str s)), (1, .d (.fn (.func g) [] [])), (2, .d (.bool true))] Tryz.func322 Tryz.ntmps322 Tryz.results322 (fun S0 O0 w0 m0 hm0 => ?_)
  refine G_seq ?_
  refine g_region ?_
  refine sv rfl (y_assign) ?_
  refine GOps_nil ?_
  refine thn_normal ?_
  refine G_seq ?_
  refine G_seq ?_
  refine g_region ?_
  refine sv rfl (y_move) ?_
  refine sv rfl (y_rangeStr Tryz.underlying9) ?_
  refine GOps_nil ?_
  refine thn_normal ?_
  refine G_block ?_
  refine g_loop (α := Nat) (fun z => ⟨[(10, .ref 0 0), (1, .d (.fn (.func g) [] [])), (2, .d (.bool true))], [[.mapc (iterK s z)]]⟩) (fun z => s.size - z) (fun z => idxRune p s z = idxRune p s 0) 0 rfl (fun z hz Q' hn0 he0 hr0 => ?_) (le_of)
  skip
  refine G_seq ?_
  rcases Nat.lt_or_ge z s.size with hlt | hge
  ·
    refine g_region ?_
    refine sv rfl (y_next (b := s) (pos := z) (hlt := hlt)) ?_
    refine sv rfl (y_extract) ?_
    refine GOps_nil ?_
    refine thn_normal ?_
    refine G_seq ?_
    refine g_cond (fun hb0 => ?_) (fun hb0 => ?_)
    ·
      refine G_skip ?_
      refine thn_normal ?_
      refine G_block ?_
      refine G_seq ?_
      refine g_region ?_
      refine sv rfl (y_extract) ?_
      refine sv rfl (y_extract) ?_
      refine sv rfl (y_assign) ?_
      refine sv rfl (y_assign) ?_
      refine GOps_nil ?_
      refine thn_normal ?_
      refine G_seq ?_
      refine g_region ?_
      refine sv rfl (y_move) ?_
      refine sv rfl (y_move) ?_
      refine g_call (xs := [.tmp 16]) rfl (hcb _) ?_
      refine sv rfl (y_move) ?_
      refine sv rfl (y_booleq Tryz.underlying4) ?_
      refine GOps_nil ?_
      refine thn_normal ?_
      refine g_cond (fun hb1 => ?_) (fun hb1 => ?_)
      ·
        refine G_seq ?_
        refine g_region ?_
        refine sv rfl (y_move) ?_
        refine sv rfl (y_assign) ?_
        refine GOps_nil ?_
        refine thn_normal ?_
        refine G_ret ?_
        refine blk_ret ?_
        refine hr0 _ ?_
        refine blk_ret ?_
        refine thn_ret ?_
        refine fin1 (by simp) ?_
        exact ⟨by rw [← hz, idxRune_hit hlt (by simpa using hb1)], rfl⟩
      ·
        refine G_skip ?_
        refine blk_normal ?_
        refine hn0 _ (z + (Utf8.decode s z).2) (by rw [idxRune_miss hlt (by simpa using hb1)]; exact hz) (by have := decode_wide s z; omega) le_of
    ·
      cases hb0
  ·
    refine g_region ?_
    refine sv rfl (y_nextEnd (b := s) (pos := z) (hlt := by omega)) ?_
    refine sv rfl (y_extract) ?_
    refine GOps_nil ?_
    refine thn_normal ?_
    refine G_seq ?_
    refine g_cond (fun hb2 => ?_) (fun hb2 => ?_)
    ·
      cases hb2
    ·
      refine G_exit ?_
      refine thn_exit ?_
      refine he0 _ _ ?_
      refine blk_exit ?_
      refine thn_normal ?_
      refine G_seq ?_
      refine g_region ?_
      refine sv rfl (y_assign) ?_
      refine GOps_nil ?_
      refine thn_normal ?_
      refine G_ret ?_
      refine fin1 (by simp) ?_
      exact ⟨by rw [← hz, idxRune_end (by omega)], rfl⟩
theorem c318 (s : ByteArray) (g : FuncId) (p : Int → Bool) (hcb : ∀ r, Pf Tryz.prog g [.int .i32 r] (.d (.bool (p r)))) : Pf Tryz.prog 318 [.str s, .fn (.func g) [] []] (.d (.int .i64 (idxRune p s 0))) := by
  refine pf_body (rvs := [.tmp 4]) [(0, .d (.str s)), (1, .d (.fn (.func g) [] []))] Tryz.func318 Tryz.ntmps318 Tryz.results318 (fun S0 O0 w0 m0 hm0 => ?_)
  refine G_seq ?_
  refine g_region ?_
  refine sv rfl (y_assign) ?_
  refine GOps_nil ?_
  refine thn_normal ?_
  refine G_seq ?_
  refine g_region ?_
  refine sv rfl (y_move) ?_
  refine sv rfl (y_move) ?_
  refine g_call (xs := [.tmp 5, .tmp 6, .const (.bool true)]) rfl (c322 s g p hcb) ?_
  refine sv rfl (y_assign) ?_
  refine GOps_nil ?_
  refine thn_normal ?_
  refine G_ret ?_
  refine fin1 (by simp) ?_
  exact ⟨rfl, rfl⟩
theorem c283 (s : ByteArray) (g : FuncId) (p : Int → Bool) (hcb : ∀ r, Pf Tryz.prog g [.int .i32 r] (.d (.bool (p r)))) : Pf Tryz.prog 283 [.str s, .fn (.func g) [] []] (.d (.bool (decide (idxRune p s 0 ≥ 0)))) := by
  refine pf_body (rvs := [.tmp 4]) [(0, .d (.str s)), (1, .d (.fn (.func g) [] []))] Tryz.func283 Tryz.ntmps283 Tryz.results283 (fun S0 O0 w0 m0 hm0 => ?_)
  refine G_seq ?_
  refine g_region ?_
  refine sv rfl (y_assign) ?_
  refine GOps_nil ?_
  refine thn_normal ?_
  refine G_seq ?_
  refine g_region ?_
  refine sv rfl (y_move) ?_
  refine sv rfl (y_move) ?_
  refine g_call (xs := [.tmp 5, .tmp 6]) rfl (c318 s g p hcb) ?_
  refine sv rfl (y_geq) ?_
  refine sv rfl (y_assign) ?_
  refine GOps_nil ?_
  refine thn_normal ?_
  refine G_ret ?_
  refine fin1 (by simp) ?_
  exact ⟨rfl, rfl⟩
end Go.Proofs.YtklkbfpjimeaoaaGreat
