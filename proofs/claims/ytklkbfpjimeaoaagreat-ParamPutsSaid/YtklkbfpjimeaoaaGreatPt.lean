/- Contracts of functions. Conditions: none. -/
import Derived.Test.YtklkbfpjimeaoaaGreatPs
import Derived.Test.YtklkbfpjimeaoaaGreatE29
namespace Go.Proofs.YtklkbfpjimeaoaaGreat
open Go Go.Proofs.YtklkbfpjimeaoaaGreat.E
theorem c113 (ts : List (ByteArray × Tr)) (g : FuncId) (fa fc : List D) (p : ByteArray × Tr → Bool) (hlim : ts.length ≤ 140737488355328)
    (hcb : ∀ x ∈ ts, Pf Tryz.prog g (fa ++ [cD x] ++ fc) (.d (.bool (p x)))) : Pf Tryz.prog 113 [.sl (ts.map cD), .fn (.func g) fa fc] (.d (.int .i64 (idxL p ts))) := by
  refine pf_body (rvs := [.tmp 4]) [(0, .d (.sl (ts.map cD))), (1, .d (.fn (.func g) fa fc))] Tryz.func113 Tryz.ntmps113 Tryz.results113 (fun S0 O0 w0 m0 hm0 => ?_)
  refine G_seq ?_
  refine g_region ?_
  refine sv rfl (y_assign) ?_
  refine GOps_nil ?_
  refine thn_normal ?_
  refine G_seq ?_
  refine G_seq ?_
  refine g_region ?_
  refine sv rfl (y_move) ?_
  refine sv rfl (y_len Tryz.underlying49) ?_
  refine sv rfl (y_move) ?_
  refine GOps_nil ?_
  refine thn_normal ?_
  refine G_block ?_
  refine g_loop (α := Nat) (fun z => ⟨[(8, .d (.int .i64 (z : Nat))), (7, .d (.int .i64 ((ts.map cD).length : Nat))), (6, .d (.sl (ts.map cD))), (1, .d (.fn (.func g) fa fc)), (0, .d (.sl (ts.map cD)))], []⟩) (fun z => ts.length - z) (fun z => z ≤ ts.length ∧ ∀ i, i < z → ∀ x, ts[i]? = some x → p x = false) 0 ⟨Nat.zero_le _, by simp⟩ (fun z hz Q' hn0 he0 hr0 => ?_) (le_of)
  obtain ⟨hz1, hz2⟩ := hz
  refine G_seq ?_
  refine g_region ?_
  refine sv rfl (y_lss) ?_
  refine GOps_nil ?_
  refine thn_normal ?_
  refine G_seq ?_
  refine g_cond (fun hb0 => ?_) (fun hb0 => ?_)
  ·
    have hlt : z < ts.length := by simpa using hb0
    obtain ⟨x, hx⟩ : ∃ x, ts[z]? = some x := ⟨_, List.getElem?_eq_getElem hlt⟩
    have hmem := List.mem_of_getElem? hx
    have hxd := cD_get hx
    have hcx := hcb x hmem
    obtain ⟨op, name, num, kids, _, hca⟩ := cD_agg x
    rw [hca] at hxd hcx
    refine G_skip ?_
    refine thn_normal ?_
    refine G_seq ?_
    refine G_block ?_
    refine G_seq ?_
    refine g_region ?_
    refine sv rfl (y_move) ?_
    refine sv rfl (y_assign) ?_
    refine GOps_nil ?_
    refine thn_normal ?_
    refine G_seq ?_
    refine g_region ?_
    refine sv rfl (y_move) ?_
    refine sv rfl (y_move) ?_
    refine sv rfl (y_move) ?_
    refine sv rfl (y_indexAddr Tryz.underlying49 sz59) ?_
    first | refine sv rfl (y_load_agg sz59 Tryz.underlying59 rfl) ?_ | refine sv rfl (y_loadp_agg (by exact sz59) Tryz.underlying59 rfl) ?_
    refine g_call (xs := [.tmp 15]) rfl (hcx) ?_
    refine GOps_nil ?_
    refine thn_normal ?_
    refine g_cond (fun hb1 => ?_) (fun hb1 => ?_)
    ·
      refine G_seq ?_
      refine g_region ?_
      refine sv rfl (y_move) ?_
      refine sv rfl (y_assign) ?_
      refine GOps_nil ?_
      refine thn_normal ?_
      refine G_ret ?_
      refine blk_ret ?_
      refine thn_ret ?_
      refine hr0 _ ?_
      refine blk_ret ?_
      refine thn_ret ?_
      exact fin1 (by simp) ⟨idxL_found hz2 hx hb1, rfl⟩
    ·
      refine G_skip ?_
      refine blk_normal ?_
      refine thn_normal ?_
      refine g_region ?_
      refine sv rfl (y_add) ?_
      refine sv rfl (y_move) ?_
      refine GOps_nil ?_
      refine hn0 _ (z + 1) ⟨by omega, idxL_step hz2 hx hb1⟩ (by omega) le_of
  ·
    have hge : z = ts.length := by
      have : ¬ (z : Int) < (ts.map cD).length := by simpa using hb0
      rw [List.length_map] at this
      omega
    refine G_exit ?_
    refine thn_exit ?_
    refine he0 _ _ ?_
    refine blk_exit ?_
    refine thn_normal ?_
    refine G_seq ?_
    refine g_region ?_
    refine sv rfl (y_assign) ?_
    refine GOps_nil ?_
    refine thn_normal ?_
    refine G_ret ?_
    exact fin1 (by simp) ⟨idxL_none (hge ▸ hz2), rfl⟩
theorem c40 (ts : List (ByteArray × Tr)) (g : FuncId) (fa fc : List D) (p : ByteArray × Tr → Bool) (hlim : ts.length ≤ 140737488355328)
    (hcb : ∀ x ∈ ts, Pf Tryz.prog g (fa ++ [cD x] ++ fc) (.d (.bool (p x)))) : Pf Tryz.prog 40 [.sl (ts.map cD), .fn (.func g) fa fc] (.d (.bool (ts.any p))) := by
  refine pf_body (rvs := [.tmp 4]) [(0, .d (.sl (ts.map cD))), (1, .d (.fn (.func g) fa fc))] Tryz.func40 Tryz.ntmps40 Tryz.results40 (fun S0 O0 w0 m0 hm0 => ?_)
  refine G_seq ?_
  refine g_region ?_
  refine sv rfl (y_assign) ?_
  refine GOps_nil ?_
  refine thn_normal ?_
  refine G_seq ?_
  refine g_region ?_
  refine sv rfl (y_move) ?_
  refine sv rfl (y_move) ?_
  refine g_call (xs := [.tmp 5, .tmp 6]) rfl (c113 ts g fa fc p hlim hcb) ?_
  refine sv rfl (y_geq) ?_
  refine sv rfl (y_assign) ?_
  refine GOps_nil ?_
  refine thn_normal ?_
  refine G_ret ?_
  refine fin1 (by simp) ?_
  exact ⟨by rw [idxL_any], rfl⟩
def badF (c : ByteArray × Tr) : Bool := decide ((c.1.size : Int) > 100) || !c.2.few 10
/-- Constants are few and small. -/
def fewL (l : List (ByteArray × Tr)) : Bool := decide ((l.length : Int) ≤ 10) && !(l.any badF)
theorem fewL_ok {l : List (ByteArray × Tr)} (h : fewL l = true) : l.length ≤ 10 ∧ ∀ c ∈ l, c.2.size ≤ 10 := by
  unfold fewL at h
  rw [Bool.and_eq_true, decide_eq_true_eq, Bool.not_eq_true', List.any_eq_false] at h
  refine ⟨by omega, fun c hc => ?_⟩
  have h1 := h.2 c hc
  unfold badF at h1
  rw [Bool.or_eq_true, not_or, Bool.not_eq_true', Bool.not_eq_false] at h1
  have := (Tr.few_size (by decide) h1.2).1
  omega
theorem badC_val {cn : ByteArray} {op : Int} {name : ByteArray} {num : Int} {ks : List Tr} : ((op == 1 || op == 2) && nodeE (.mk op name num ks) == 0) = !badC (cn, .mk op name num ks) := by
  simp only [badC]
  cases h1 : (op == 1) <;> cases h2 : (op == 2) <;> cases h3 : (nodeE (Tr.mk op name num ks) == 0) <;> simp_all [bne]
theorem c106 (cn : ByteArray) (op : Int) (name : ByteArray) (num : Int) (ks : List Tr) (hok : (Tr.mk op name num ks).Ok) : Pf Tryz.prog 106 [.agg [.str cn, .int .i64 op, .str name, .int .i64 num, .sl (ks.map Tr.d)]] (.d (.bool (badF (cn, .mk op name num ks)))) := by
  refine pf_body (rvs := [.tmp 2]) [(0, .d (.agg [.str cn, .int .i64 op, .str name, .int .i64 num, .sl (ks.map Tr.d)]))] Tryz.func106 Tryz.ntmps106 Tryz.results106 (fun S0 O0 w0 m0 hm0 => ?_)
  refine G_seq ?_
  refine g_region ?_
  refine sv rfl (y_box) ?_
  refine g_freeze 0 [] (.agg [.str cn, .int .i64 op, .str name, .int .i64 num, .sl (ks.map Tr.d)]) rfl ?_
  refine sv rfl (y_assign) ?_
  refine GOps_nil ?_
  refine thn_normal ?_
  refine G_seq ?_
  refine g_region ?_
  first | refine sv rfl (y_fieldAt 0 Tryz.underlying59 rfl sz9) ?_ | refine sv rfl (y_fieldAddr Tryz.underlying59 rfl sz9) ?_ | refine sv rfl (y_fieldp_leaf Tryz.underlying59 rfl sz9) ?_
  first | refine sv rfl (y_load_leaf Tryz.underlying9) ?_ | refine sv rfl (y_loadp_leaf Tryz.underlying9) ?_
  refine sv rfl (y_lenstr Tryz.underlying9) ?_
  refine sv rfl (y_gtr) ?_
  refine sv rfl (y_move) ?_
  first | refine sg rfl (fun hg => q_fieldAddr Tryz.underlying59 rfl sz27) ?_ | refine sg rfl (fun hg => q_fieldp_agg Tryz.underlying59 rfl sz27) ?_
  refine sg rfl (fun hg => strip 8 (by simp only [GS.set, GS.get, List.lookup_cons, Nat.reduceBEq] <;> rfl) hg (q_loadp_agg (ds := [.int .i64 op, .str name, .int .i64 num, .sl (ks.map Tr.d)]) (by exact sz27) Tryz.underlying27 rfl)) ?_
  refine g_callg (xs := [.tmp 9, .const (.int .i64 (10))]) rfl (fun hg => (Tr.d_mk op name num ks ▸ c26 (.mk op name num ks) 10 hok (by decide) (by decide))) ?_
  refine sg rfl (fun hg => strip 10 (by simp only [GS.set, GS.get, List.lookup_cons, Nat.reduceBEq] <;> rfl) hg (q_not)) ?_
  refine sv rfl (y_or) ?_
  refine sv rfl (y_assign) ?_
  refine GOps_nil ?_
  refine thn_normal ?_
  refine G_ret ?_
  refine fin1 (by simp) ?_
  exact ⟨rfl, rfl⟩
theorem c42 (cn : ByteArray) (op : Int) (name : ByteArray) (num : Int) (ks : List Tr) (hok : (Tr.mk op name num ks).Ok) (hszb : (Tr.mk op name num ks).size ≤ 1000000000) : Pf Tryz.prog 42 [.agg [.str cn, .int .i64 op, .str name, .int .i64 num, .sl (ks.map Tr.d)]] (.d (.bool (!badC (cn, .mk op name num ks)))) := by
  refine pf_body (rvs := [.tmp 2]) [(0, .d (.agg [.str cn, .int .i64 op, .str name, .int .i64 num, .sl (ks.map Tr.d)]))] Tryz.func42 Tryz.ntmps42 Tryz.results42 (fun S0 O0 w0 m0 hm0 => ?_)
  refine G_seq ?_
  refine g_region ?_
  refine sv rfl (y_box) ?_
  refine g_freeze 0 [] (.agg [.str cn, .int .i64 op, .str name, .int .i64 num, .sl (ks.map Tr.d)]) rfl ?_
  refine sv rfl (y_assign) ?_
  refine GOps_nil ?_
  refine thn_normal ?_
  refine G_seq ?_
  refine g_region ?_
  first | refine sv rfl (y_fieldAt 1 Tryz.underlying59 rfl sz27) ?_ | refine sv rfl (y_fieldAddr Tryz.underlying59 rfl sz27) ?_ | refine sv rfl (y_fieldp_agg Tryz.underlying59 rfl sz27) ?_
  first | refine sv rfl (y_fieldAt 0 Tryz.underlying27 rfl sz3) ?_ | refine sv rfl (y_fieldAddr Tryz.underlying27 rfl sz3) ?_ | refine sv rfl (y_fieldp_leaf Tryz.underlying27 rfl sz3) ?_
  first | refine sv rfl (y_load_leaf Tryz.underlying3) ?_ | refine sv rfl (y_loadp_leaf Tryz.underlying3) ?_
  refine sv rfl (y_eql) ?_
  refine sv rfl (y_move) ?_
  first | refine sg rfl (fun hg => q_fieldAddr Tryz.underlying59 rfl sz27) ?_ | refine sg rfl (fun hg => q_fieldp_agg Tryz.underlying59 rfl sz27) ?_
  first | refine sg rfl (fun hg => strip 8 (by simp only [GS.set, GS.get, List.lookup_cons, Nat.reduceBEq] <;> rfl) hg (q_fieldAddr Tryz.underlying27 rfl sz3)) ?_ | refine sg rfl (fun hg => strip 8 (by simp only [GS.set, GS.get, List.lookup_cons, Nat.reduceBEq] <;> rfl) hg (q_fieldp_leaf Tryz.underlying27 rfl sz3)) ?_
  first | refine sg rfl (fun hg => strip 9 (by simp only [GS.set, GS.get, List.lookup_cons, Nat.reduceBEq] <;> rfl) hg (q_load_leaf Tryz.underlying3)) ?_ | refine sg rfl (fun hg => strip 9 (by simp only [GS.set, GS.get, List.lookup_cons, Nat.reduceBEq] <;> rfl) hg (q_loadp_leaf Tryz.underlying3)) ?_
  refine sg rfl (fun hg => strip 10 (by simp only [GS.set, GS.get, List.lookup_cons, Nat.reduceBEq] <;> rfl) hg (q_eql)) ?_
  refine sv rfl (y_or) ?_
  refine sv rfl (y_move) ?_
  first | refine sg rfl (fun hg => q_fieldAddr Tryz.underlying59 rfl sz27) ?_ | refine sg rfl (fun hg => q_fieldp_agg Tryz.underlying59 rfl sz27) ?_
  refine sg rfl (fun hg => strip 14 (by simp only [GS.set, GS.get, List.lookup_cons, Nat.reduceBEq] <;> rfl) hg (q_loadp_agg (ds := [.int .i64 op, .str name, .int .i64 num, .sl (ks.map Tr.d)]) (by exact sz27) Tryz.underlying27 rfl)) ?_
  refine g_callg (xs := [.tmp 15]) rfl (fun hg => (Tr.d_mk op name num ks ▸ c24 (.mk op name num ks) hok hszb)) ?_
  refine sg rfl (fun hg => strip 16 (by simp only [GS.set, GS.get, List.lookup_cons, Nat.reduceBEq] <;> rfl) hg (q_eql)) ?_
  refine sv rfl (y_and) ?_
  refine sv rfl (y_assign) ?_
  refine GOps_nil ?_
  refine thn_normal ?_
  refine G_ret ?_
  refine fin1 (by simp) ?_
  exact ⟨by rw [← badC_val], rfl⟩
theorem c41 (cn : ByteArray) (op : Int) (name : ByteArray) (num : Int) (ks : List Tr) (hok : (Tr.mk op name num ks).Ok) (hszb : (Tr.mk op name num ks).size ≤ 1000000000) : Pf Tryz.prog 41 [.agg [.str cn, .int .i64 op, .str name, .int .i64 num, .sl (ks.map Tr.d)]] (.d (.bool (badC (cn, .mk op name num ks)))) := by
  refine pf_body (rvs := [.tmp 2]) [(0, .d (.agg [.str cn, .int .i64 op, .str name, .int .i64 num, .sl (ks.map Tr.d)]))] Tryz.func41 Tryz.ntmps41 Tryz.results41 (fun S0 O0 w0 m0 hm0 => ?_)
  refine G_seq ?_
  refine g_region ?_
  refine sv rfl (y_box) ?_
  refine g_freeze 0 [] (.agg [.str cn, .int .i64 op, .str name, .int .i64 num, .sl (ks.map Tr.d)]) rfl ?_
  refine sv rfl (y_assign) ?_
  refine GOps_nil ?_
  refine thn_normal ?_
  refine G_seq ?_
  refine g_region ?_
  first | refine sv rfl (y_load_agg sz59 Tryz.underlying59 rfl) ?_ | refine sv rfl (y_loadp_agg (by exact sz59) Tryz.underlying59 rfl) ?_
  refine g_call (xs := [.tmp 3]) rfl (c42 cn op name num ks hok hszb) ?_
  refine sv rfl (y_not) ?_
  refine sv rfl (y_assign) ?_
  refine GOps_nil ?_
  refine thn_normal ?_
  refine G_ret ?_
  refine fin1 (by simp) ?_
  exact ⟨by rw [Bool.not_not], rfl⟩
theorem c31 (l : List (ByteArray × Tr)) (hl : ∀ c ∈ l, c.2.Ok) (hlim : l.length ≤ 140737488355328) : Pf Tryz.prog 31 [.sl (l.map cD)] (.d (.bool (fewL l))) := by
  refine pf_body (rvs := [.tmp 2]) [(0, .d (.sl (l.map cD)))] Tryz.func31 Tryz.ntmps31 Tryz.results31 (fun S0 O0 w0 m0 hm0 => ?_)
  refine G_seq ?_
  refine g_region ?_
  refine sv rfl (y_assign) ?_
  refine GOps_nil ?_
  refine thn_normal ?_
  refine G_seq ?_
  refine g_region ?_
  refine sv rfl (y_move) ?_
  refine sv rfl (y_len Tryz.underlying49) ?_
  refine sv rfl (y_leq) ?_
  refine sv rfl (y_move) ?_
  refine sg rfl (fun hg => q_move) ?_
  refine g_callg (xs := [.tmp 7, .func 106]) rfl (fun hg => c40 l 106 [] [] badF hlim (fun x hx => by obtain ⟨op, name, num, ks, h1, h2⟩ := cD_agg x; have h3 := hl x hx; rw [h1] at h3; rw [h2, show x = (x.1, .mk op name num ks) from by rw [← h1]]; exact c106 x.1 op name num ks h3)) ?_
  refine sg rfl (fun hg => strip 8 (by simp only [GS.set, GS.get, List.lookup_cons, Nat.reduceBEq] <;> rfl) hg (q_not)) ?_
  refine sv rfl (y_and) ?_
  refine sv rfl (y_assign) ?_
  refine GOps_nil ?_
  refine thn_normal ?_
  refine G_ret ?_
  refine fin1 (by simp) ?_
  exact ⟨by rw [fewL, List.length_map], rfl⟩
set_option maxHeartbeats 1000000 in
theorem c32 (l : List (ByteArray × Tr)) (hlim : l.length ≤ 1000000) : Pf Tryz.prog 32 [.sl (l.map cD)] (.d (.sl (l.map cD))) := by
  refine pf_body (rvs := [.tmp 2]) [(0, .d (.sl (l.map cD)))] Tryz.func32 Tryz.ntmps32 Tryz.results32 (fun S0 O0 w0 m0 hm0 => ?_)
  refine G_seq ?_
  refine g_region ?_
  refine sv rfl (y_assign) ?_
  refine GOps_nil ?_
  refine thn_normal ?_
  refine G_seq ?_
  refine g_region ?_
  refine sv rfl (y_assign) ?_
  refine GOps_nil ?_
  refine thn_normal ?_
  refine G_seq ?_
  refine G_seq ?_
  refine g_region ?_
  refine sv rfl (y_move) ?_
  refine sv rfl (y_len Tryz.underlying49) ?_
  refine sv rfl (y_move) ?_
  refine GOps_nil ?_
  refine thn_normal ?_
  refine G_block ?_
  refine g_loop (α := Nat) (fun z => ⟨[(8, .d (.int .i64 (z : Nat))), (7, .d (.int .i64 ((l.map cD).length : Nat))), (6, .d (.sl (l.map cD))), (3, .osl 5 ((l.take z).map cD))], []⟩) (fun z => l.length - z) (fun z => z ≤ l.length) 0 (Nat.zero_le _) (fun z hz Q' hn0 he0 hr0 => ?_) (le_of)
  have hll : (l.take z).length = z := by rw [List.length_take]; omega
  refine G_seq ?_
  refine g_region ?_
  refine sv rfl (y_lss) ?_
  refine GOps_nil ?_
  refine thn_normal ?_
  refine G_seq ?_
  refine g_cond (fun hb0 => ?_) (fun hb0 => ?_)
  ·
    have hlt : z < l.length := by simpa using hb0
    obtain ⟨c, hc⟩ : ∃ c, l[z]? = some c := ⟨_, List.getElem?_eq_getElem hlt⟩
    have hxd := cD_get hc
    obtain ⟨op, name, num, ks, _, hca⟩ := cD_agg c
    rw [hca] at hxd
    refine G_skip ?_
    refine thn_normal ?_
    refine G_seq ?_
    refine G_block ?_
    refine G_seq ?_
    refine g_region ?_
    refine sv rfl (y_indexAddr Tryz.underlying49 sz59) ?_
    first | refine sv rfl (y_load_agg sz59 Tryz.underlying59 rfl) ?_ | refine sv rfl (y_loadp_agg (by exact sz59) Tryz.underlying59 rfl) ?_
    refine sv rfl (y_alloc zr59) ?_
    first | refine sa rfl (d_store sz59) ?_ | refine sa rfl (d_store_take sz59) ?_
    refine g_freeze 0 [] (.agg [.str c.1, .int .i64 op, .str name, .int .i64 num, .sl (ks.map Tr.d)]) rfl ?_
    refine GOps_nil ?_
    refine thn_normal ?_
    refine g_region ?_
    first | refine sv rfl (y_move_take) ?_ | refine sv rfl (y_move) ?_
    first | refine sv rfl (y_load_agg sz59 Tryz.underlying59 rfl) ?_ | refine sv rfl (y_loadp_agg (by exact sz59) Tryz.underlying59 rfl) ?_
    refine sv rfl (y_buildSlice (xs := [.tmp 13]) Tryz.underlying51 inf66) ?_
    refine sv rfl (y_append Tryz.underlying51 inf66 (hk := by first | exact cD_cells _ | (intro x hx; simp at hx; subst hx; simp [D.cells])) (hlen := by simp [lim]; omega) (hB := by simp [lim]; omega)) ?_
    rw [← hca, show (l.take z).map cD ++ [cD c] = (l.take (z + 1)).map cD from by rw [List.take_add_one, hc, List.map_append]; rfl]
    first | refine sv rfl (y_assign_take) ?_ | refine sv rfl (y_assign) ?_
    refine GOps_nil ?_
    refine blk_normal ?_
    refine thn_normal ?_
    refine g_region ?_
    refine sv rfl (y_add) ?_
    refine sv rfl (y_move) ?_
    refine GOps_nil ?_
    refine hn0 _ (z + 1) (by omega) (by omega) le_of
  ·
    have hge : z = l.length := by
      have : ¬ (z : Int) < (l.map cD).length := by simpa using hb0
      rw [List.length_map] at this
      omega
    refine G_exit ?_
    refine thn_exit ?_
    refine he0 _ _ ?_
    refine blk_exit ?_
    refine thn_normal ?_
    refine G_seq ?_
    refine g_region ?_
    rw [hge, List.take_length]
    refine sv rfl (y_move) ?_
    first | refine sv rfl (y_assign_take) ?_ | refine sv rfl (y_assign) ?_
    refine GOps_nil ?_
    refine thn_normal ?_
    refine G_ret ?_
    refine fin1 (by simp) ?_
    exact ⟨rfl, rfl⟩
theorem c39 (l : List (ByteArray × Tr)) (hlim : l.length * 72 ≤ 140737488351232) : Pf Tryz.prog 39 [.sl (l.map cD)] (.osl 5 (l.map cD)) := by
  cases l with
  | nil =>
    refine pf_body (rvs := [.tmp 2]) [(0, .d (.sl []))] Tryz.func39 Tryz.ntmps39 Tryz.results39 (fun S0 O0 w0 m0 hm0 => ?_)
    refine G_seq ?_
    refine g_region ?_
    refine sv rfl (y_assign) ?_
    refine GOps_nil ?_
    refine thn_normal ?_
    refine G_seq ?_
    refine G_seq ?_
    refine g_region ?_
    refine sv rfl (y_move) ?_
    refine g_sleqU Tryz.underlying49 rfl (fun b => ?_)
    refine GOps_nil ?_
    refine thn_normal ?_
    refine g_cond (fun hb0 => ?_) (fun hb0 => ?_)
    ·
      refine G_seq ?_
      refine g_region ?_
      refine sv rfl (y_assign) ?_
      refine GOps_le (s' := ⟨[(2, .osl 5 [])], []⟩) (le_of) ?_
      refine GOps_nil ?_
      refine thn_normal ?_
      refine G_ret ?_
      refine thn_ret ?_
      refine fino (by simp) ?_
      exact ⟨rfl, rfl⟩
    ·
      refine G_skip ?_
      refine thn_normal ?_
      refine G_seq ?_
      refine g_region ?_
      refine sv rfl (y_buildSlice (xs := []) Tryz.underlying49 inf59) ?_
      refine sv rfl (y_move) ?_
      refine sv rfl (y_append0 Tryz.underlying49 inf59) ?_
      first | refine sv rfl (y_assign_take) ?_ | refine sv rfl (y_assign) ?_
      refine GOps_nil ?_
      refine thn_normal ?_
      refine G_ret ?_
      refine fino (by simp) ?_
      exact ⟨rfl, rfl⟩
  | cons c r =>
    rw [List.map_cons]
    refine pf_body (rvs := [.tmp 2]) [(0, .d (.sl (cD c :: r.map cD)))] Tryz.func39 Tryz.ntmps39 Tryz.results39 (fun S0 O0 w0 m0 hm0 => ?_)
    refine G_seq ?_
    refine g_region ?_
    refine sv rfl (y_assign) ?_
    refine GOps_nil ?_
    refine thn_normal ?_
    refine G_seq ?_
    refine G_seq ?_
    refine g_region ?_
    refine sv rfl (y_move) ?_
    refine sv rfl (Yld_pure rfl (of_decide_eq_true rfl) (q_sleql Tryz.underlying49)) ?_
    refine GOps_nil ?_
    refine thn_normal ?_
    refine g_cond (fun hb0 => ?_) (fun hb0 => ?_)
    ·
      exact absurd hb0 (by decide)
    ·
      refine G_skip ?_
      refine thn_normal ?_
      refine G_seq ?_
      refine g_region ?_
      refine sv rfl (y_buildSlice (xs := []) Tryz.underlying49 inf59) ?_
      refine sv rfl (y_move) ?_
      refine sv rfl (y_append Tryz.underlying49 inf59 (xs := []) (hne := by simp) (hk := cD_cells (c :: r)) (hlen := by simp [lim] at hlim ⊢; omega) (hB := by simp [lim] at hlim ⊢; omega)) ?_
      first | refine sv rfl (y_assign_take) ?_ | refine sv rfl (y_assign) ?_
      refine GOps_nil ?_
      refine thn_normal ?_
      refine G_ret ?_
      refine fino (by simp) ?_
      exact ⟨rfl, rfl⟩
theorem c44 (l : List (ByteArray × Tr)) (hlim : l.length * 72 ≤ 140737488351232) : Pf Tryz.prog 44 [.sl (l.map cD)] (.osl 5 (l.map cD)) := by
  cases l with
  | nil =>
    refine pf_body (rvs := [.tmp 2]) [(0, .d (.sl []))] Tryz.func44 Tryz.ntmps44 Tryz.results44 (fun S0 O0 w0 m0 hm0 => ?_)
    refine G_seq ?_
    refine g_region ?_
    refine sv rfl (y_assign) ?_
    refine GOps_nil ?_
    refine thn_normal ?_
    refine G_seq ?_
    refine G_seq ?_
    refine g_region ?_
    refine sv rfl (y_move) ?_
    refine g_sleqU Tryz.underlying51 rfl (fun b => ?_)
    refine GOps_nil ?_
    refine thn_normal ?_
    refine g_cond (fun hb0 => ?_) (fun hb0 => ?_)
    ·
      refine G_seq ?_
      refine g_region ?_
      refine sv rfl (y_assign) ?_
      refine GOps_le (s' := ⟨[(2, .osl 5 [])], []⟩) (le_of) ?_
      refine GOps_nil ?_
      refine thn_normal ?_
      refine G_ret ?_
      refine thn_ret ?_
      refine fino (by simp) ?_
      exact ⟨rfl, rfl⟩
    ·
      refine G_skip ?_
      refine thn_normal ?_
      refine G_seq ?_
      refine g_region ?_
      refine sv rfl (y_buildSlice (xs := []) Tryz.underlying51 inf66) ?_
      refine sv rfl (y_move) ?_
      refine sv rfl (y_append0 Tryz.underlying51 inf66) ?_
      first | refine sv rfl (y_assign_take) ?_ | refine sv rfl (y_assign) ?_
      refine GOps_nil ?_
      refine thn_normal ?_
      refine G_ret ?_
      refine fino (by simp) ?_
      exact ⟨rfl, rfl⟩
  | cons c r =>
    rw [List.map_cons]
    refine pf_body (rvs := [.tmp 2]) [(0, .d (.sl (cD c :: r.map cD)))] Tryz.func44 Tryz.ntmps44 Tryz.results44 (fun S0 O0 w0 m0 hm0 => ?_)
    refine G_seq ?_
    refine g_region ?_
    refine sv rfl (y_assign) ?_
    refine GOps_nil ?_
    refine thn_normal ?_
    refine G_seq ?_
    refine G_seq ?_
    refine g_region ?_
    refine sv rfl (y_move) ?_
    refine sv rfl (Yld_pure rfl (of_decide_eq_true rfl) (q_sleql Tryz.underlying51)) ?_
    refine GOps_nil ?_
    refine thn_normal ?_
    refine g_cond (fun hb0 => ?_) (fun hb0 => ?_)
    ·
      exact absurd hb0 (by decide)
    ·
      refine G_skip ?_
      refine thn_normal ?_
      refine G_seq ?_
      refine g_region ?_
      refine sv rfl (y_buildSlice (xs := []) Tryz.underlying51 inf66) ?_
      refine sv rfl (y_move) ?_
      refine sv rfl (y_append Tryz.underlying51 inf66 (xs := []) (hne := by simp) (hk := cD_cells (c :: r)) (hlen := by simp [lim] at hlim ⊢; omega) (hB := by simp [lim] at hlim ⊢; omega)) ?_
      first | refine sv rfl (y_assign_take) ?_ | refine sv rfl (y_assign) ?_
      refine GOps_nil ?_
      refine thn_normal ?_
      refine G_ret ?_
      refine fino (by simp) ?_
      exact ⟨rfl, rfl⟩
end Go.Proofs.YtklkbfpjimeaoaaGreat
