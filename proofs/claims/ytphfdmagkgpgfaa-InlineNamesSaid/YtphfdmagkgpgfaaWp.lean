/- Contracts of functions. Conditions: none. -/
import Derived.Test.YtphfdmagkgpgfaaTy
namespace Go.Proofs.Ytphfdmagkgpgfaa
open Go Go.Proofs.Ytphfdmagkgpgfaa.E

/-- The renamer that puts a suffix behind names. -/
def renD (sfx : ByteArray) : D := .fn (.func 64) [] [.ptr (.str sfx)]

theorem c64 (name sfx : ByteArray) (h : name.size + sfx.size ≤ lim) : Pf Try.prog 64 [.str name, .ptr (.str sfx)] (.d (.str (name ++ sfx))) := by
  refine pf_body (rvs := [.tmp 3]) [(0, .d (.str name)), (1, .d (.ptr (.str sfx)))] Try.func64 Try.ntmps64 Try.results64 (fun S0 O0 w0 m0 hm0 => ?_)
  refine G_seq ?_
  refine g_region ?_
  refine sv rfl (y_assign) ?_
  refine GOps_nil ?_
  refine thn_normal ?_
  refine G_seq ?_
  refine g_region ?_
  refine sv rfl (y_move) ?_
  first | refine sv rfl (y_load_leaf Try.underlying9) ?_ | refine sv rfl (y_loadp_leaf Try.underlying9) ?_
  refine sv rfl (y_stradd (a := name) (b := sfx) (hl := h)) ?_
  refine sv rfl (y_assign) ?_
  refine GOps_nil ?_
  refine thn_normal ?_
  refine G_ret ?_
  refine fin1 (by simp) ?_
  exact ⟨rfl, rfl⟩

theorem c39 (sfx : ByteArray) : Pf Try.prog 39 [.str sfx] (.d (renD sfx)) := by
  refine pf_body (rvs := [.tmp 2]) [(0, .d (.str sfx))] Try.func39 Try.ntmps39 Try.results39 (fun S0 O0 w0 m0 hm0 => ?_)
  refine G_seq ?_
  refine g_region ?_
  refine sv rfl (y_box) ?_
  refine sv rfl (y_assign) ?_
  refine GOps_nil ?_
  refine thn_normal ?_
  refine G_seq ?_
  refine g_region ?_
  refine g_freeze 0 [] (.str sfx) rfl ?_
  refine sv rfl (y_makeFunc (xs := []) (ys := [.tmp 1])) ?_
  refine sv rfl (y_assign) ?_
  refine GOps_nil ?_
  refine thn_normal ?_
  refine G_ret ?_
  refine find1 (by simp) ?_
  exact ⟨rfl, rfl⟩


/-- A node. -/
def nodD (op : Int) (name : ByteArray) (num : Int) (kids : List D) : D := .agg [.int .i64 op, .str name, .int .i64 num, .sl kids]
def isLoopD (op num : Int) (n : Nat) : Bool := ((((op == 54 || op == 55) || op == 56) && decide (num ≥ 0)) && decide (num ≤ 2)) && decide ((n : Int) ≥ IntKind.i64.wrap (num + 2))

set_option maxHeartbeats 1000000 in
theorem c67 (op num : Int) (name : ByteArray) (kids : List D) : Pf Try.prog 67 [nodD op name num kids] (.d (.bool (isLoopD op num kids.length))) := by
  refine pf_body (rvs := [.tmp 2]) [(0, .d (.agg [.int .i64 op, .str name, .int .i64 num, .sl kids]))] Try.func67 Try.ntmps67 Try.results67 (fun S0 O0 w0 m0 hm0 => ?_)
  refine G_seq ?_
  refine g_region ?_
  refine sv rfl (y_box) ?_
  refine sv rfl (y_assign) ?_
  refine GOps_nil ?_
  refine thn_normal ?_
  refine G_seq ?_
  refine g_region ?_
  first | refine sv rfl (y_fieldAddr Try.underlying24 rfl sz3) ?_ | refine sv rfl (y_fieldp_leaf Try.underlying24 rfl sz3) ?_
  first | refine sv rfl (y_load_leaf Try.underlying3) ?_ | refine sv rfl (y_loadp_leaf Try.underlying3) ?_
  refine sv rfl (y_eql) ?_
  refine sv rfl (y_move) ?_
  first | refine sg rfl (fun hg => q_fieldAddr Try.underlying24 rfl sz3) ?_ | refine sg rfl (fun hg => q_fieldp_leaf Try.underlying24 rfl sz3) ?_
  first | refine sg rfl (fun hg => strip 7 (by simp only [GS.set, GS.get, List.lookup_cons, Nat.reduceBEq] <;> rfl) hg (q_load_leaf Try.underlying3)) ?_ | refine sg rfl (fun hg => strip 7 (by simp only [GS.set, GS.get, List.lookup_cons, Nat.reduceBEq] <;> rfl) hg (q_loadp_leaf Try.underlying3)) ?_
  refine sg rfl (fun hg => strip 8 (by simp only [GS.set, GS.get, List.lookup_cons, Nat.reduceBEq] <;> rfl) hg (q_eql)) ?_
  refine sv rfl (y_or) ?_
  refine sv rfl (y_move) ?_
  first | refine sg rfl (fun hg => q_fieldAddr Try.underlying24 rfl sz3) ?_ | refine sg rfl (fun hg => q_fieldp_leaf Try.underlying24 rfl sz3) ?_
  first | refine sg rfl (fun hg => strip 12 (by simp only [GS.set, GS.get, List.lookup_cons, Nat.reduceBEq] <;> rfl) hg (q_load_leaf Try.underlying3)) ?_ | refine sg rfl (fun hg => strip 12 (by simp only [GS.set, GS.get, List.lookup_cons, Nat.reduceBEq] <;> rfl) hg (q_loadp_leaf Try.underlying3)) ?_
  refine sg rfl (fun hg => strip 13 (by simp only [GS.set, GS.get, List.lookup_cons, Nat.reduceBEq] <;> rfl) hg (q_eql)) ?_
  refine sv rfl (y_or) ?_
  refine sv rfl (y_move) ?_
  first | refine sg rfl (fun hg => q_fieldAddr Try.underlying24 rfl sz3) ?_ | refine sg rfl (fun hg => q_fieldp_leaf Try.underlying24 rfl sz3) ?_
  first | refine sg rfl (fun hg => strip 17 (by simp only [GS.set, GS.get, List.lookup_cons, Nat.reduceBEq] <;> rfl) hg (q_load_leaf Try.underlying3)) ?_ | refine sg rfl (fun hg => strip 17 (by simp only [GS.set, GS.get, List.lookup_cons, Nat.reduceBEq] <;> rfl) hg (q_loadp_leaf Try.underlying3)) ?_
  refine sg rfl (fun hg => strip 18 (by simp only [GS.set, GS.get, List.lookup_cons, Nat.reduceBEq] <;> rfl) hg (q_geq)) ?_
  refine sv rfl (y_and) ?_
  refine sv rfl (y_move) ?_
  first | refine sg rfl (fun hg => q_fieldAddr Try.underlying24 rfl sz3) ?_ | refine sg rfl (fun hg => q_fieldp_leaf Try.underlying24 rfl sz3) ?_
  first | refine sg rfl (fun hg => strip 22 (by simp only [GS.set, GS.get, List.lookup_cons, Nat.reduceBEq] <;> rfl) hg (q_load_leaf Try.underlying3)) ?_ | refine sg rfl (fun hg => strip 22 (by simp only [GS.set, GS.get, List.lookup_cons, Nat.reduceBEq] <;> rfl) hg (q_loadp_leaf Try.underlying3)) ?_
  refine sg rfl (fun hg => strip 23 (by simp only [GS.set, GS.get, List.lookup_cons, Nat.reduceBEq] <;> rfl) hg (q_leq)) ?_
  refine sv rfl (y_and) ?_
  refine sv rfl (y_move) ?_
  first | refine sg rfl (fun hg => q_fieldAddr Try.underlying24 rfl sz22) ?_ | refine sg rfl (fun hg => q_fieldp_leaf Try.underlying24 rfl sz22) ?_
  first | refine sg rfl (fun hg => strip 27 (by simp only [GS.set, GS.get, List.lookup_cons, Nat.reduceBEq] <;> rfl) hg (q_load_leaf Try.underlying22)) ?_ | refine sg rfl (fun hg => strip 27 (by simp only [GS.set, GS.get, List.lookup_cons, Nat.reduceBEq] <;> rfl) hg (q_loadp_leaf Try.underlying22)) ?_
  refine sg rfl (fun hg => strip 28 (by simp only [GS.set, GS.get, List.lookup_cons, Nat.reduceBEq] <;> rfl) hg (q_len Try.underlying22)) ?_
  first | refine sg rfl (fun hg => q_fieldAddr Try.underlying24 rfl sz3) ?_ | refine sg rfl (fun hg => q_fieldp_leaf Try.underlying24 rfl sz3) ?_
  first | refine sg rfl (fun hg => strip 30 (by simp only [GS.set, GS.get, List.lookup_cons, Nat.reduceBEq] <;> rfl) hg (q_load_leaf Try.underlying3)) ?_ | refine sg rfl (fun hg => strip 30 (by simp only [GS.set, GS.get, List.lookup_cons, Nat.reduceBEq] <;> rfl) hg (q_loadp_leaf Try.underlying3)) ?_
  refine sg rfl (fun hg => strip 31 (by simp only [GS.set, GS.get, List.lookup_cons, Nat.reduceBEq] <;> rfl) hg (q_add)) ?_
  refine sg rfl (fun hg => strip 32 (by simp only [GS.set, GS.get, List.lookup_cons, Nat.reduceBEq] <;> rfl) hg (strip 29 (by simp only [GS.set, GS.get, List.lookup_cons, Nat.reduceBEq] <;> rfl) hg (q_geq))) ?_
  refine sv rfl (y_and) ?_
  refine sv rfl (y_assign) ?_
  refine GOps_nil ?_
  refine thn_normal ?_
  refine G_ret ?_
  refine fin1 (by simp) ?_
  exact ⟨rfl, rfl⟩

theorem c68 (op num : Int) (name : ByteArray) (kids kids' : List D) : Pf Try.prog 68 [nodD op name num kids, .sl kids'] (.d (nodD op name num kids')) := by
  refine pf_body (rvs := [.cell 4 24]) [(0, .d (.agg [.int .i64 op, .str name, .int .i64 num, .sl kids])), (1, .d (.sl kids'))] Try.func68 Try.ntmps68 Try.results68 (fun S0 O0 w0 m0 hm0 => ?_)
  refine G_seq ?_
  refine g_region ?_
  refine sv rfl (y_box) ?_
  refine sv rfl (y_alloc zr24) ?_
  refine GOps_nil ?_
  refine thn_normal ?_
  refine G_seq ?_
  refine g_region ?_
  refine sv rfl (y_move) ?_
  first | refine sv rfl (y_fieldAddr Try.underlying24 rfl sz22) ?_ | refine sv rfl (y_fieldp_leaf Try.underlying24 rfl sz22) ?_
  first | refine sa rfl (d_store sz22) ?_ | refine sa rfl (d_store_take sz22) ?_
  refine GOps_nil ?_
  refine thn_normal ?_
  refine G_seq ?_
  refine g_region ?_
  first | refine sv rfl (y_load_agg sz24 Try.underlying24 rfl) ?_ | refine sv rfl (y_loadp_agg sz24 Try.underlying24 rfl) ?_
  first | refine sa rfl (d_store sz24) ?_ | refine sa rfl (d_store_take sz24) ?_
  refine GOps_nil ?_
  refine thn_normal ?_
  refine G_ret ?_
  refine findc sz24 Try.underlying24 (by simp) ?_
  exact ⟨rfl, rfl⟩


/-- A scope, as data. -/
def scopeD : List (ByteArray × D) → D
  | [] => .nil
  | (n, b) :: r => .ptr (.agg [.str n, .ptr b, scopeD r])
def findD (name : ByteArray) : List (ByteArray × D) → D
  | [] => .nil
  | (n, b) :: r => if n = name then .ptr b else findD name r
theorem scope_cells (z : List (ByteArray × D)) : (scopeD z).cells = [scopeD z] := by
  cases z with
  | nil => rfl
  | cons x r => obtain ⟨n, b⟩ := x; rfl
theorem scope_nil (z : List (ByteArray × D)) : (scopeD z).isNil = some z.isEmpty := by
  cases z with
  | nil => rfl
  | cons x r => obtain ⟨n, b⟩ := x; rfl

theorem c65 (sc : List (ByteArray × D)) (name : ByteArray) : Pf Try.prog 65 [scopeD sc, .str name] (.d (findD name sc)) := by
  refine pf_body (rvs := [.tmp 4]) [(0, .d (scopeD sc)), (1, .d (.str name))] Try.func65 Try.ntmps65 Try.results65 (fun S0 O0 w0 m0 hm0 => ?_)
  refine G_seq ?_
  refine g_region ?_
  refine sv rfl (y_assign) ?_
  refine GOps_nil ?_
  refine thn_normal ?_
  refine G_seq ?_
  refine G_block ?_
  refine g_loop (α := List (ByteArray × D)) (fun z => ⟨[(0, .d (scopeD z)), (1, .d (.str name))], []⟩) (fun z => z.length) (fun z => findD name sc = findD name z) sc rfl (fun z hz Q' hn0 he0 hr0 => ?_) (le_of)
  skip
  refine G_seq ?_
  refine G_seq ?_
  refine g_region ?_
  refine sv rfl (y_move) ?_
  refine sv rfl (Yld_pure rfl (of_decide_eq_true rfl) (q_ptrneq Try.underlying105 (hd := scope_nil z))) ?_
  refine GOps_nil ?_
  refine thn_normal ?_
  refine g_cond (fun hb0 => ?_) (fun hb0 => ?_)
  ·
    obtain ⟨n, b, r, rfl⟩ : ∃ n b r, z = (n, b) :: r := by
      cases z with
      | nil => simp at hb0
      | cons x r => exact ⟨x.1, x.2, r, rfl⟩
    refine G_skip ?_
    refine thn_normal ?_
    refine G_seq ?_
    refine G_block ?_
    refine G_seq ?_
    refine g_region ?_
    refine sv rfl (y_move) ?_
    refine sv rfl (y_nilCheck) ?_
    first | refine sv rfl (y_fieldAddr Try.underlying124 rfl sz9) ?_ | refine sv rfl (y_fieldp_leaf Try.underlying124 rfl sz9) ?_
    first | refine sv rfl (y_load_leaf Try.underlying9) ?_ | refine sv rfl (y_loadp_leaf Try.underlying9) ?_
    refine sv rfl (y_move) ?_
    refine sv rfl (y_streq) ?_
    refine GOps_nil ?_
    refine thn_normal ?_
    refine g_cond (fun hb1 => ?_) (fun hb1 => ?_)
    ·
      have hnn : n = name := by simpa using hb1
      refine G_seq ?_
      refine g_region ?_
      refine sv rfl (y_move) ?_
      refine sv rfl (y_nilCheck) ?_
      first | refine sv rfl (y_fieldAddr Try.underlying124 rfl sz106) ?_ | refine sv rfl (y_fieldp_leaf Try.underlying124 rfl sz106) ?_
      first | refine sv rfl (y_load_leaf Try.underlying106) ?_ | refine sv rfl (y_loadp_leaf Try.underlying106) ?_
      refine sv rfl (y_assign) ?_
      refine GOps_nil ?_
      refine thn_normal ?_
      refine G_ret ?_
      refine blk_ret ?_
      refine thn_ret ?_
      refine hr0 _ ?_
      refine blk_ret ?_
      refine thn_ret ?_
      refine fin1 (by simp) ?_
      exact ⟨by rw [hz]; show _ = PV.d (if n = name then _ else _); rw [if_pos hnn], rfl⟩
    ·
      have hnn : ¬ n = name := by simpa using hb1
      refine G_skip ?_
      refine blk_normal ?_
      refine thn_normal ?_
      refine g_region ?_
      refine sv rfl (y_move) ?_
      refine sv rfl (y_nilCheck) ?_
      refine sv rfl (y_fieldp_leaf Try.underlying124 rfl sz105 (hc := scope_cells r)) ?_
      refine sv rfl (y_loadp_leaf Try.underlying105 (hd := scope_cells r)) ?_
      refine sv rfl (y_assign) ?_
      refine GOps_nil ?_
      refine hn0 _ r (by rw [hz]; show (if n = name then _ else _) = _; rw [if_neg hnn]) (by show r.length < r.length + 1; omega) le_of
  ·
    have hzn : z = [] := by
      cases z with
      | nil => rfl
      | cons x r => simp at hb0
    refine G_exit ?_
    refine thn_exit ?_
    refine he0 _ _ ?_
    refine blk_exit ?_
    refine thn_normal ?_
    refine G_seq ?_
    refine g_region ?_
    refine sv rfl (y_assign) ?_
    refine GOps_nil ?_
    refine thn_normal ?_
    refine G_ret ?_
    refine fin1 (by simp) ?_
    exact ⟨by rw [hz, hzn]; rfl, rfl⟩

end Go.Proofs.Ytphfdmagkgpgfaa
