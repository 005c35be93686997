/- Contracts of functions. Conditions: none. -/
import Derived.Test.YtklkbfpjimeaoaaGreatPn
namespace Go.Proofs.YtklkbfpjimeaoaaGreat
open Go Go.Proofs.YtklkbfpjimeaoaaGreat.E
/-- Its lists are of a length that a walk can copy. -/
inductive Tr.Lens : Tr → Prop
  | mk {op : Int} {name : ByteArray} {num : Int} {ks : List Tr} (h4 : ks.length ≤ 1000000) (h5 : ∀ k ∈ ks, Tr.Lens k) : Tr.Lens (.mk op name num ks)
theorem Tr.lens_of : ∀ n (t : Tr), t.size ≤ n → t.size ≤ 1000000 → t.Lens := by
  intro n
  induction n with
  | zero => intro t h; exact absurd t.size_pos (by omega)
  | succ n ih =>
    intro t h hb
    obtain ⟨op, nm, num, ks⟩ := t
    have hl := Tr.len_sizes ks
    rw [Tr.size] at h hb
    exact .mk (by omega) fun k hk => by have := Tr.size_mem hk; exact ih k (by omega) (by omega)
theorem ValOk.lens {v : Tr} (h : ValOk v) : v.Lens := by
  rcases h with ⟨n, _, rfl⟩ | ⟨b, rfl⟩
  · exact .mk (by simp) (by simp)
  · exact .mk (by simp) (by simp)
theorem take_map {ks : List Tr} {z : Nat} {k : Tr} (f : Tr → Tr) (h : ks[z]? = some k) : ((ks.take z).map f).map Tr.d ++ [(f k).d] = ((ks.take (z + 1)).map f).map Tr.d := by rw [List.take_add_one, h, List.map_append, List.map_append]; rfl
set_option maxHeartbeats 4000000 in
theorem c101 (ks : List Tr) (g : FuncId) (fc : List D) (f : Tr → Tr) (hlim : ks.length ≤ 1000000)
    (hcb : ∀ (i : Int), ∀ x ∈ ks, Pf Tryz.prog g ([] ++ [.int .i64 i, x.d] ++ fc) (.d (f x).d)) : Pf Tryz.prog 101 [.sl (ks.map Tr.d), .fn (.func g) [] fc] (.d (.sl ((ks.map f).map Tr.d))) := by
  refine pf_body (rvs := [.tmp 4]) [(0, .d (.sl (ks.map Tr.d))), (1, .d (.fn (.func g) [] fc))] Tryz.func101 Tryz.ntmps101 Tryz.results101 (fun S0 O0 w0 m0 hm0 => ?_)
  refine G_seq ?_
  refine g_region ?_
  refine sv rfl (y_assign) ?_
  refine GOps_nil ?_
  refine thn_normal ?_
  refine G_seq ?_
  refine g_region ?_
  refine sv rfl (y_assign) ?_
  refine GOps_nil ?_
  refine thn_normal ?_
  refine G_seq ?_
  refine G_seq ?_
  refine g_region ?_
  refine sv rfl (y_move) ?_
  refine sv rfl (y_len Tryz.underlying22) ?_
  refine sv rfl (y_move) ?_
  refine GOps_nil ?_
  refine thn_normal ?_
  refine G_block ?_
  refine g_loop (α := Nat) (fun z => ⟨[(10, .d (.int .i64 (z : Nat))), (9, .d (.int .i64 ((ks.map Tr.d).length : Nat))), (8, .d (.sl (ks.map Tr.d))), (5, .osl 4 (((ks.take z).map f).map Tr.d)), (1, .d (.fn (.func g) [] fc))], []⟩) (fun z => ks.length - z) (fun z => z ≤ ks.length) 0 (Nat.zero_le _) (fun z hz Q' hn0 he0 hr0 => ?_) (le_of)
  have hll : ((ks.take z).map f).length = z := by rw [List.length_map, List.length_take]; omega
  refine G_seq ?_
  refine g_region ?_
  refine sv rfl (y_lss) ?_
  refine GOps_nil ?_
  refine thn_normal ?_
  refine G_seq ?_
  refine g_cond (fun hb0 => ?_) (fun hb0 => ?_)
  ·
    have hlt : z < ks.length := by simpa using hb0
    obtain ⟨k, hk⟩ : ∃ k, ks[z]? = some k := ⟨_, List.getElem?_eq_getElem hlt⟩
    have hmem := List.mem_of_getElem? hk
    have hxd := Tr.ds_get hk
    have hxa := hxd
    obtain ⟨kop, knm, knu, kks, hka⟩ := k.d_agg
    rw [hka] at hxa
    obtain ⟨fop, fnm, fnu, fks, hfa⟩ := (f k).d_agg
    refine G_skip ?_
    refine thn_normal ?_
    refine G_seq ?_
    refine G_block ?_
    refine G_seq ?_
    refine g_region ?_
    refine sv rfl (y_move) ?_
    refine sv rfl (y_indexAddr Tryz.underlying22 sz27) ?_
    first | refine sv rfl (y_load_agg sz27 Tryz.underlying27 rfl) ?_ | refine sv rfl (y_loadp_agg (by exact sz27) Tryz.underlying27 rfl) ?_
    refine sv rfl (y_alloc zr27) ?_
    refine sv rfl (y_assign) ?_
    first | refine sa rfl (d_store sz27) ?_ | refine sa rfl (d_store_take sz27) ?_
    refine g_freeze 0 [] (.agg [.int .i64 kop, .str knm, .int .i64 knu, .sl (kks.map Tr.d)]) rfl ?_
    refine GOps_nil ?_
    refine thn_normal ?_
    refine g_region ?_
    first | refine sv rfl (y_move_take) ?_ | refine sv rfl (y_move) ?_
    refine sv rfl (y_move) ?_
    refine sv rfl (y_move) ?_
    first | refine sv rfl (y_load_agg sz27 Tryz.underlying27 rfl) ?_ | refine sv rfl (y_loadp_agg (by exact sz27) Tryz.underlying27 rfl) ?_
    refine g_call (xs := [.tmp 17, .tmp 18]) rfl ((hfa ▸ hka ▸ hcb (z : Nat) k hmem)) ?_
    refine sv rfl (y_buildSlice (xs := [.tmp 19]) Tryz.underlying22 inf27) ?_
    refine sv rfl (y_append Tryz.underlying22 inf27 (hk := by first | exact Tr.ds_cells _ | (intro x hx; simp at hx; subst hx; simp [D.cells])) (hlen := by simp [lim]; omega) (hB := by simp [lim]; omega)) ?_
    rw [← hfa, take_map f hk]
    first | refine sv rfl (y_assign_take) ?_ | refine sv rfl (y_assign) ?_
    refine GOps_nil ?_
    refine blk_normal ?_
    refine thn_normal ?_
    refine g_keep [0, 1, 4, 5, 6, 7, 8, 9, 10] ?_
    refine g_region ?_
    refine sv rfl (y_add) ?_
    refine sv rfl (y_move) ?_
    refine GOps_nil ?_
    refine hn0 _ (z + 1) (by omega) (by omega) le_of
  ·
    have hge : z = ks.length := by
      have : ¬ (z : Int) < (ks.map Tr.d).length := by simpa using hb0
      rw [List.length_map] at this
      omega
    refine G_exit ?_
    refine thn_exit ?_
    refine he0 _ _ ?_
    refine blk_exit ?_
    refine thn_normal ?_
    refine G_seq ?_
    refine g_region ?_
    rw [hge, List.take_length]
    refine sv rfl (y_move) ?_
    first | refine sv rfl (y_assign_take) ?_ | refine sv rfl (y_assign) ?_
    refine GOps_nil ?_
    refine thn_normal ?_
    refine G_ret ?_
    refine fin1 (by simp) ?_
    exact ⟨rfl, rfl⟩
theorem c178 (t : Tr) (i : Int) (f : Tr → Tr) (h : Pf Tryz.prog 100 [t.d] (.d (f t).d)) : Pf Tryz.prog 178 [.int .i64 i, t.d] (.d (f t).d) := by
  obtain ⟨op, name, num, ks⟩ := t
  rw [Tr.d_mk]
  try simp only [Tr.op_mk, Tr.nm_mk, Tr.nu_mk, Tr.kids_mk]
  refine pf_body (rvs := [.cell 4 27]) [(0, .d (.int .i64 i)), (1, .d (.agg [.int .i64 op, .str name, .int .i64 num, .sl (ks.map Tr.d)]))] Tryz.func178 Tryz.ntmps178 Tryz.results178 (fun S0 O0 w0 m0 hm0 => ?_)
  refine G_seq ?_
  refine g_region ?_
  obtain ⟨fop, fnm, fnu, fks, hfa⟩ := (f (.mk op name num ks)).d_agg
  refine sv rfl (y_box) ?_
  refine g_freeze 0 [] (.agg [.int .i64 op, .str name, .int .i64 num, .sl (ks.map Tr.d)]) rfl ?_
  refine sv rfl (y_alloc zr27) ?_
  refine GOps_nil ?_
  refine thn_normal ?_
  refine G_seq ?_
  refine g_region ?_
  first | refine sv rfl (y_load_agg sz27 Tryz.underlying27 rfl) ?_ | refine sv rfl (y_loadp_agg (by exact sz27) Tryz.underlying27 rfl) ?_
  refine g_call (xs := [.tmp 5]) rfl ((hfa ▸ Tr.d_mk op name num ks ▸ h)) ?_
  first | refine sa rfl (d_store sz27) ?_ | refine sa rfl (d_store_take sz27) ?_
  refine GOps_nil ?_
  refine thn_normal ?_
  refine G_ret ?_
  refine findc sz27 Tryz.underlying27 (by simp) ?_
  exact ⟨by rw [hfa], rfl⟩
set_option maxHeartbeats 4000000 in
theorem c100n : ∀ (n : Nat) (t : Tr), t.size ≤ n → t.Lens → Pf Tryz.prog 100 [t.d] (.d t.d) := by
  intro n
  induction n with
  | zero => intro t h; exact absurd t.size_pos (by omega)
  | succ n ih =>
    intro t hsz hok
    obtain ⟨op, name, num, ks⟩ := t
    have hkd : ∀ k ∈ ks, k.size ≤ n := fun k hk => by
      have := Tr.size_mem hk
      rw [Tr.size] at hsz
      omega
    rw [Tr.d_mk]
    cases hok with | mk h4 h5 =>
    refine pf_body (rvs := [.cell 2 27]) [(0, .d (.agg [.int .i64 op, .str name, .int .i64 num, .sl (ks.map Tr.d)]))] Tryz.func100 Tryz.ntmps100 Tryz.results100 (fun S0 O0 w0 m0 hm0 => ?_)
    refine G_seq ?_
    refine g_region ?_
    refine sv rfl (y_box) ?_
    refine sv rfl (y_alloc zr27) ?_
    refine GOps_nil ?_
    refine thn_normal ?_
    refine G_seq ?_
    refine g_region ?_
    first | refine sv rfl (y_fieldAt 3 Tryz.underlying27 rfl sz22) ?_ | refine sv rfl (y_fieldAddr Tryz.underlying27 rfl sz22) ?_ | refine sv rfl (y_fieldp_leaf Tryz.underlying27 rfl sz22) ?_
    first | refine sv rfl (y_load_leaf Tryz.underlying22) ?_ | refine sv rfl (y_loadp_leaf Tryz.underlying22) ?_
    refine g_call (xs := [.tmp 4, .func 178]) rfl (c101 ks 178 [] id h4 (fun i x hx => c178 x i id (ih x (hkd x hx) (h5 x hx)))) ?_
    rw [List.map_id]
    first | refine sv rfl (y_fieldAt 3 Tryz.underlying27 rfl sz22) ?_ | refine sv rfl (y_fieldAddr Tryz.underlying27 rfl sz22) ?_ | refine sv rfl (y_fieldp_leaf Tryz.underlying27 rfl sz22) ?_
    first | refine sa rfl (d_store sz22) ?_ | refine sa rfl (d_store_take sz22) ?_
    refine GOps_nil ?_
    refine thn_normal ?_
    refine G_seq ?_
    refine g_region ?_
    first | refine sv rfl (y_load_agg sz27 Tryz.underlying27 rfl) ?_ | refine sv rfl (y_loadp_agg (by exact sz27) Tryz.underlying27 rfl) ?_
    first | refine sa rfl (d_store sz27) ?_ | refine sa rfl (d_store_take sz27) ?_
    refine GOps_nil ?_
    refine thn_normal ?_
    refine G_ret ?_
    refine findc sz27 Tryz.underlying27 (by simp) ?_
    exact ⟨by rfl, rfl⟩
theorem c100 (t : Tr) (h : t.Lens) : Pf Tryz.prog 100 [t.d] (.d t.d) := c100n _ t (Nat.le_refl _) h
/-- A constant, as data. -/
def cD (c : ByteArray × Tr) : D := .agg (.str c.1 :: c.2.d.cells)
theorem cD_agg (c : ByteArray × Tr) : ∃ op name num ks, c.2 = .mk op name num ks ∧ cD c = .agg [.str c.1, .int .i64 op, .str name, .int .i64 num, .sl (ks.map Tr.d)] := by
  obtain ⟨n, op, name, num, ks⟩ := c
  exact ⟨op, name, num, ks, rfl, by unfold cD; rw [Tr.d_mk]; rfl⟩
theorem cD_cells (l : List (ByteArray × Tr)) : ∀ x ∈ l.map cD, x.cells.length = 5 := fun x hx => by
  obtain ⟨c, _, rfl⟩ := List.mem_map.1 hx
  obtain ⟨op, name, num, ks, _, h⟩ := cD_agg c
  rw [h]; rfl
theorem cD_get {l : List (ByteArray × Tr)} {z : Nat} {c : ByteArray × Tr} (h : l[z]? = some c) : (l.map cD)[z]? = some (cD c) := by rw [List.getElem?_map, h]; rfl
def badC : ByteArray × Tr → Bool
  | (_, .mk op name num ks) => (op != 1 && op != 2) || nodeE (.mk op name num ks) != 0
theorem c180 (cn : ByteArray) (op : Int) (name : ByteArray) (num : Int) (ks : List Tr) (hok : (Tr.mk op name num ks).Ok) (hszb : (Tr.mk op name num ks).size ≤ 1000000000) : Pf Tryz.prog 180 [.agg [.str cn, .int .i64 op, .str name, .int .i64 num, .sl (ks.map Tr.d)]] (.d (.bool (badC (cn, .mk op name num ks)))) := by
  refine pf_body (rvs := [.tmp 2]) [(0, .d (.agg [.str cn, .int .i64 op, .str name, .int .i64 num, .sl (ks.map Tr.d)]))] Tryz.func180 Tryz.ntmps180 Tryz.results180 (fun S0 O0 w0 m0 hm0 => ?_)
  refine G_seq ?_
  refine g_region ?_
  refine sv rfl (y_box) ?_
  refine g_freeze 0 [] (.agg [.str cn, .int .i64 op, .str name, .int .i64 num, .sl (ks.map Tr.d)]) rfl ?_
  refine sv rfl (y_assign) ?_
  refine GOps_nil ?_
  refine thn_normal ?_
  refine G_seq ?_
  refine g_region ?_
  first | refine sv rfl (y_fieldAt 1 Tryz.underlying66 rfl sz27) ?_ | refine sv rfl (y_fieldAddr Tryz.underlying66 rfl sz27) ?_ | refine sv rfl (y_fieldp_agg Tryz.underlying66 rfl sz27) ?_
  refine sv rfl (y_loadp_agg (ds := [.int .i64 op, .str name, .int .i64 num, .sl (ks.map Tr.d)]) (by exact sz27) Tryz.underlying27 rfl) ?_
  refine sv rfl (y_alloc zr27) ?_
  first | refine sa rfl (d_store sz27) ?_ | refine sa rfl (d_store_take sz27) ?_
  refine g_freeze 0 [] (.agg [.int .i64 op, .str name, .int .i64 num, .sl (ks.map Tr.d)]) rfl ?_
  refine GOps_nil ?_
  refine thn_normal ?_
  refine G_seq ?_
  refine g_region ?_
  first | refine sv rfl (y_fieldAt 0 Tryz.underlying27 rfl sz3) ?_ | refine sv rfl (y_fieldAddr Tryz.underlying27 rfl sz3) ?_ | refine sv rfl (y_fieldp_leaf Tryz.underlying27 rfl sz3) ?_
  first | refine sv rfl (y_load_leaf Tryz.underlying3) ?_ | refine sv rfl (y_loadp_leaf Tryz.underlying3) ?_
  refine sv rfl (y_neq) ?_
  refine sv rfl (y_move) ?_
  first | refine sg rfl (fun hg => q_fieldAddr Tryz.underlying27 rfl sz3) ?_ | refine sg rfl (fun hg => q_fieldp_leaf Tryz.underlying27 rfl sz3) ?_
  first | refine sg rfl (fun hg => strip 10 (by simp only [GS.set, GS.get, List.lookup_cons, Nat.reduceBEq] <;> rfl) hg (q_load_leaf Tryz.underlying3)) ?_ | refine sg rfl (fun hg => strip 10 (by simp only [GS.set, GS.get, List.lookup_cons, Nat.reduceBEq] <;> rfl) hg (q_loadp_leaf Tryz.underlying3)) ?_
  refine sg rfl (fun hg => strip 11 (by simp only [GS.set, GS.get, List.lookup_cons, Nat.reduceBEq] <;> rfl) hg (q_neq)) ?_
  refine sv rfl (y_and) ?_
  refine sv rfl (y_move) ?_
  first | refine sg rfl (fun hg => q_load_agg sz27 Tryz.underlying27 rfl) ?_ | refine sg rfl (fun hg => q_loadp_agg (by exact sz27) Tryz.underlying27 rfl) ?_
  refine g_callg (xs := [.tmp 15]) rfl (fun hg => (Tr.d_mk op name num ks ▸ c24 (.mk op name num ks) hok hszb)) ?_
  refine sg rfl (fun hg => strip 16 (by simp only [GS.set, GS.get, List.lookup_cons, Nat.reduceBEq] <;> rfl) hg (q_neq)) ?_
  refine sv rfl (y_or) ?_
  refine sv rfl (y_assign) ?_
  refine GOps_nil ?_
  refine thn_normal ?_
  refine G_ret ?_
  refine fin1 (by simp) ?_
  exact ⟨rfl, rfl⟩
theorem c241 (ts : List (ByteArray × Tr)) (g : FuncId) (fa fc : List D) (p : ByteArray × Tr → Bool) (hlim : ts.length ≤ 140737488355328)
    (hcb : ∀ x ∈ ts, Pf Tryz.prog g (fa ++ [cD x] ++ fc) (.d (.bool (p x)))) : Pf Tryz.prog 241 [.sl (ts.map cD), .fn (.func g) fa fc] (.d (.int .i64 (idxL p ts))) := by
  refine pf_body (rvs := [.tmp 4]) [(0, .d (.sl (ts.map cD))), (1, .d (.fn (.func g) fa fc))] Tryz.func241 Tryz.ntmps241 Tryz.results241 (fun S0 O0 w0 m0 hm0 => ?_)
  refine G_seq ?_
  refine g_region ?_
  refine sv rfl (y_assign) ?_
  refine GOps_nil ?_
  refine thn_normal ?_
  refine G_seq ?_
  refine G_seq ?_
  refine g_region ?_
  refine sv rfl (y_move) ?_
  refine sv rfl (y_len Tryz.underlying51) ?_
  refine sv rfl (y_move) ?_
  refine GOps_nil ?_
  refine thn_normal ?_
  refine G_block ?_
  refine g_loop (α := Nat) (fun z => ⟨[(8, .d (.int .i64 (z : Nat))), (7, .d (.int .i64 ((ts.map cD).length : Nat))), (6, .d (.sl (ts.map cD))), (1, .d (.fn (.func g) fa fc)), (0, .d (.sl (ts.map cD)))], []⟩) (fun z => ts.length - z) (fun z => z ≤ ts.length ∧ ∀ i, i < z → ∀ x, ts[i]? = some x → p x = false) 0 ⟨Nat.zero_le _, by simp⟩ (fun z hz Q' hn0 he0 hr0 => ?_) (le_of)
  obtain ⟨hz1, hz2⟩ := hz
  refine G_seq ?_
  refine g_region ?_
  refine sv rfl (y_lss) ?_
  refine GOps_nil ?_
  refine thn_normal ?_
  refine G_seq ?_
  refine g_cond (fun hb0 => ?_) (fun hb0 => ?_)
  ·
    have hlt : z < ts.length := by simpa using hb0
    obtain ⟨x, hx⟩ : ∃ x, ts[z]? = some x := ⟨_, List.getElem?_eq_getElem hlt⟩
    have hmem := List.mem_of_getElem? hx
    have hxd := cD_get hx
    have hcx := hcb x hmem
    obtain ⟨op, name, num, kids, _, hca⟩ := cD_agg x
    rw [hca] at hxd hcx
    refine G_skip ?_
    refine thn_normal ?_
    refine G_seq ?_
    refine G_block ?_
    refine G_seq ?_
    refine g_region ?_
    refine sv rfl (y_move) ?_
    refine sv rfl (y_assign) ?_
    refine GOps_nil ?_
    refine thn_normal ?_
    refine G_seq ?_
    refine g_region ?_
    refine sv rfl (y_move) ?_
    refine sv rfl (y_move) ?_
    refine sv rfl (y_move) ?_
    refine sv rfl (y_indexAddr Tryz.underlying51 sz66) ?_
    first | refine sv rfl (y_load_agg sz66 Tryz.underlying66 rfl) ?_ | refine sv rfl (y_loadp_agg (by exact sz66) Tryz.underlying66 rfl) ?_
    refine g_call (xs := [.tmp 15]) rfl (hcx) ?_
    refine GOps_nil ?_
    refine thn_normal ?_
    refine g_cond (fun hb1 => ?_) (fun hb1 => ?_)
    ·
      refine G_seq ?_
      refine g_region ?_
      refine sv rfl (y_move) ?_
      refine sv rfl (y_assign) ?_
      refine GOps_nil ?_
      refine thn_normal ?_
      refine G_ret ?_
      refine blk_ret ?_
      refine thn_ret ?_
      refine hr0 _ ?_
      refine blk_ret ?_
      refine thn_ret ?_
      exact fin1 (by simp) ⟨idxL_found hz2 hx hb1, rfl⟩
    ·
      refine G_skip ?_
      refine blk_normal ?_
      refine thn_normal ?_
      refine g_region ?_
      refine sv rfl (y_add) ?_
      refine sv rfl (y_move) ?_
      refine GOps_nil ?_
      refine hn0 _ (z + 1) ⟨by omega, idxL_step hz2 hx hb1⟩ (by omega) le_of
  ·
    have hge : z = ts.length := by
      have : ¬ (z : Int) < (ts.map cD).length := by simpa using hb0
      rw [List.length_map] at this
      omega
    refine G_exit ?_
    refine thn_exit ?_
    refine he0 _ _ ?_
    refine blk_exit ?_
    refine thn_normal ?_
    refine G_seq ?_
    refine g_region ?_
    refine sv rfl (y_assign) ?_
    refine GOps_nil ?_
    refine thn_normal ?_
    refine G_ret ?_
    exact fin1 (by simp) ⟨idxL_none (hge ▸ hz2), rfl⟩
theorem c179 (ts : List (ByteArray × Tr)) (g : FuncId) (fa fc : List D) (p : ByteArray × Tr → Bool) (hlim : ts.length ≤ 140737488355328)
    (hcb : ∀ x ∈ ts, Pf Tryz.prog g (fa ++ [cD x] ++ fc) (.d (.bool (p x)))) : Pf Tryz.prog 179 [.sl (ts.map cD), .fn (.func g) fa fc] (.d (.bool (ts.any p))) := by
  refine pf_body (rvs := [.tmp 4]) [(0, .d (.sl (ts.map cD))), (1, .d (.fn (.func g) fa fc))] Tryz.func179 Tryz.ntmps179 Tryz.results179 (fun S0 O0 w0 m0 hm0 => ?_)
  refine G_seq ?_
  refine g_region ?_
  refine sv rfl (y_assign) ?_
  refine GOps_nil ?_
  refine thn_normal ?_
  refine G_seq ?_
  refine g_region ?_
  refine sv rfl (y_move) ?_
  refine sv rfl (y_move) ?_
  refine g_call (xs := [.tmp 5, .tmp 6]) rfl (c241 ts g fa fc p hlim hcb) ?_
  refine sv rfl (y_geq) ?_
  refine sv rfl (y_assign) ?_
  refine GOps_nil ?_
  refine thn_normal ?_
  refine G_ret ?_
  refine fin1 (by simp) ?_
  exact ⟨by rw [idxL_any], rfl⟩
def constsB (l : List (ByteArray × Tr)) : Bool := !(l.any badC)
def COk (l : List (ByteArray × Tr)) : Prop := l.length ≤ 1000 ∧ ∀ c ∈ l, c.2.Ok ∧ c.2.size ≤ 1000000
theorem badC_nil : constsB [] = true := rfl
/-- Constants as the program lists them. -/
def kl (l : List (ByteArray × Tr)) : KL := (l.map fun c => (c.1, some c.2)).reverse
theorem kl_step {l : List (ByteArray × Tr)} {z : Nat} {c : ByteArray × Tr} (h : l[z]? = some c) : kl (l.take (z + 1)) = (c.1, some c.2) :: kl (l.take z) := by
  unfold kl
  rw [List.take_add_one, h, List.map_append, List.reverse_append]; rfl
theorem knD_or (l : KL) : knD l = .nil ∨ ∃ d, knD l = .ptr d := by
  cases l with
  | nil => exact .inl rfl
  | cons x r => exact .inr ⟨_, rfl⟩
theorem c103 (l : List (ByteArray × Tr)) (hl : COk l) : Pf Tryz.prog 103 [.sl (l.map cD)] (.d (.bool (constsB l))) := by
  refine pf_body (rvs := [.tmp 2]) [(0, .d (.sl (l.map cD)))] Tryz.func103 Tryz.ntmps103 Tryz.results103 (fun S0 O0 w0 m0 hm0 => ?_)
  refine G_seq ?_
  refine g_region ?_
  refine sv rfl (y_assign) ?_
  refine GOps_nil ?_
  refine thn_normal ?_
  refine G_seq ?_
  refine g_region ?_
  refine sv rfl (y_move) ?_
  refine g_call (xs := [.tmp 3, .func 180]) rfl (c179 l 180 [] [] badC (by have := hl.1; omega) (fun x hx => by obtain ⟨op, name, num, ks, h1, h2⟩ := cD_agg x; have h3 := hl.2 x hx; rw [h1] at h3; rw [h2, show x = (x.1, .mk op name num ks) from by rw [← h1]]; exact c180 x.1 op name num ks h3.1 (by have := h3.2; omega))) ?_
  refine sv rfl (y_not) ?_
  refine sv rfl (y_assign) ?_
  refine GOps_nil ?_
  refine thn_normal ?_
  refine G_ret ?_
  refine fin1 (by simp) ?_
  exact ⟨rfl, rfl⟩
set_option maxHeartbeats 4000000 in
theorem c105 (l : List (ByteArray × Tr)) (hl : COk l) : Pf Tryz.prog 105 [.sl (l.map cD)] (.d (knD (kl l))) := by
  refine pf_body (rvs := [.tmp 2]) [(0, .d (.sl (l.map cD)))] Tryz.func105 Tryz.ntmps105 Tryz.results105 (fun S0 O0 w0 m0 hm0 => ?_)
  refine G_seq ?_
  refine g_region ?_
  refine sv rfl (y_assign) ?_
  refine GOps_nil ?_
  refine thn_normal ?_
  refine G_seq ?_
  refine g_region ?_
  refine sv rfl (y_assign) ?_
  refine GOps_nil ?_
  refine thn_normal ?_
  refine G_seq ?_
  refine G_seq ?_
  refine g_region ?_
  refine sv rfl (y_move) ?_
  refine sv rfl (y_len Tryz.underlying51) ?_
  refine sv rfl (y_move) ?_
  refine GOps_nil ?_
  refine thn_normal ?_
  refine G_block ?_
  refine g_loop (α := Nat) (fun z => ⟨[(7, .d (.int .i64 (z : Nat))), (6, .d (.int .i64 ((l.map cD).length : Nat))), (3, .d (knD (kl (l.take z)))), (0, .d (.sl (l.map cD)))], []⟩) (fun z => l.length - z) (fun z => z ≤ l.length) 0 (Nat.zero_le _) (fun z hz Q' hn0 he0 hr0 => ?_) (le_of)
  have hl1 := hl.1
  refine G_seq ?_
  refine g_region ?_
  refine sv rfl (y_lss) ?_
  refine GOps_nil ?_
  refine thn_normal ?_
  refine G_seq ?_
  refine g_cond (fun hb0 => ?_) (fun hb0 => ?_)
  ·
    have hlt : z < l.length := by simpa using hb0
    obtain ⟨c, hc⟩ : ∃ c, l[z]? = some c := ⟨_, List.getElem?_eq_getElem hlt⟩
    have hxd := cD_get hc
    obtain ⟨op, name, num, ks, hct, hca⟩ := cD_agg c
    rw [hca] at hxd
    refine G_skip ?_
    refine thn_normal ?_
    refine G_seq ?_
    refine G_block ?_
    refine G_seq ?_
    refine g_region ?_
    refine sv rfl (y_move) ?_
    refine sv rfl (y_assign) ?_
    refine GOps_nil ?_
    refine thn_normal ?_
    rcases knD_or (kl (l.take z)) with hkd | ⟨kd, hkd⟩ <;> rw [hkd]
    ·
      refine G_drawB 13 rfl (by kernel_rfl) (fun S1 O1 w1 m1 hm1 hm2 => ?_)
      have hB1 : ∀ i, i < m1.length → (List.range m1.length).contains i = true := fun i hi => by simpa using hi
      refine bq 0 hB1 rfl (q_move) ?_
      refine bq 1 hB1 rfl (q_move) ?_
      refine bq 2 hB1 rfl (q_indexAddr Tryz.underlying51 sz66) ?_
      first | refine bq 3 hB1 rfl (q_fieldAddr Tryz.underlying66 rfl sz9) ?_ | refine bq 3 hB1 rfl (q_fieldp_leaf Tryz.underlying66 rfl sz9) ?_
      first | refine bq 4 hB1 rfl (q_load_leaf Tryz.underlying9) ?_ | refine bq 4 hB1 rfl (q_loadp_leaf Tryz.underlying9) ?_
      refine bq 5 hB1 rfl (q_move) ?_
      refine bq 6 hB1 rfl (q_move) ?_
      refine bq 7 hB1 rfl (q_indexAddr Tryz.underlying51 sz66) ?_
      first | refine bq 8 hB1 rfl (q_fieldAddr Tryz.underlying66 rfl sz27) ?_ | refine bq 8 hB1 rfl (q_fieldp_agg Tryz.underlying66 rfl sz27) ?_
      refine GB_go ?_
      refine ga1 9 ?_
      refine sv rfl (y_move) ?_
      refine GOps_nil ⟨rfl, ?_⟩
      refine ga1 10 ?_
      refine sv rfl (y_buildS pl168 zr168) ?_
      refine GOps_nil ⟨rfl, ?_⟩
      refine ga1 11 ?_
      refine sv rfl (y_box) ?_
      refine GOps_nil ⟨rfl, ?_⟩
      refine ga1 12 ?_
      refine sv rfl (y_assign) ?_
      refine GOps_nil ⟨rfl, ?_⟩
      refine GA_done (by kernel_rfl) ?_
      refine blk_normal ?_
      refine thn_normal ?_
      refine g_keep [0, 2, 3, 4, 6, 7] ?_
      refine g_region ?_
      refine g_freeze 0 [] (.agg [.str c.1, .ptr (.agg [.int .i64 op, .str name, .int .i64 num, .sl (ks.map Tr.d)]), .nil]) rfl ?_
      rw [show D.ptr (.agg [.str c.1, .ptr (.agg [.int .i64 op, .str name, .int .i64 num, .sl (ks.map Tr.d)]), .nil]) = knD (kl (l.take (z + 1))) from by rw [kl_step hc, knD, valD, hct, Tr.d_mk, hkd]]
      refine sv rfl (y_add) ?_
      refine sv rfl (y_move) ?_
      refine GOps_nil ?_
      refine hn0 _ (z + 1) (by omega) (by omega) le_of
    ·
      refine G_drawB 13 rfl (by kernel_rfl) (fun S1 O1 w1 m1 hm1 hm2 => ?_)
      have hB1 : ∀ i, i < m1.length → (List.range m1.length).contains i = true := fun i hi => by simpa using hi
      refine bq 0 hB1 rfl (q_move) ?_
      refine bq 1 hB1 rfl (q_move) ?_
      refine bq 2 hB1 rfl (q_indexAddr Tryz.underlying51 sz66) ?_
      first | refine bq 3 hB1 rfl (q_fieldAddr Tryz.underlying66 rfl sz9) ?_ | refine bq 3 hB1 rfl (q_fieldp_leaf Tryz.underlying66 rfl sz9) ?_
      first | refine bq 4 hB1 rfl (q_load_leaf Tryz.underlying9) ?_ | refine bq 4 hB1 rfl (q_loadp_leaf Tryz.underlying9) ?_
      refine bq 5 hB1 rfl (q_move) ?_
      refine bq 6 hB1 rfl (q_move) ?_
      refine bq 7 hB1 rfl (q_indexAddr Tryz.underlying51 sz66) ?_
      first | refine bq 8 hB1 rfl (q_fieldAddr Tryz.underlying66 rfl sz27) ?_ | refine bq 8 hB1 rfl (q_fieldp_agg Tryz.underlying66 rfl sz27) ?_
      refine GB_go ?_
      refine ga1 9 ?_
      refine sv rfl (y_move) ?_
      refine GOps_nil ⟨rfl, ?_⟩
      refine ga1 10 ?_
      refine sv rfl (y_buildS pl168 zr168) ?_
      refine GOps_nil ⟨rfl, ?_⟩
      refine ga1 11 ?_
      refine sv rfl (y_box) ?_
      refine GOps_nil ⟨rfl, ?_⟩
      refine ga1 12 ?_
      refine sv rfl (y_assign) ?_
      refine GOps_nil ⟨rfl, ?_⟩
      refine GA_done (by kernel_rfl) ?_
      refine blk_normal ?_
      refine thn_normal ?_
      refine g_keep [0, 2, 3, 4, 6, 7] ?_
      refine g_region ?_
      refine g_freeze 0 [] (.agg [.str c.1, .ptr (.agg [.int .i64 op, .str name, .int .i64 num, .sl (ks.map Tr.d)]), .ptr kd]) rfl ?_
      rw [show D.ptr (.agg [.str c.1, .ptr (.agg [.int .i64 op, .str name, .int .i64 num, .sl (ks.map Tr.d)]), .ptr kd]) = knD (kl (l.take (z + 1))) from by rw [kl_step hc, knD, valD, hct, Tr.d_mk, hkd]]
      refine sv rfl (y_add) ?_
      refine sv rfl (y_move) ?_
      refine GOps_nil ?_
      refine hn0 _ (z + 1) (by omega) (by omega) le_of
  ·
    have hge : z = l.length := by
      have : ¬ (z : Int) < (l.map cD).length := by simpa using hb0
      rw [List.length_map] at this
      omega
    refine G_exit ?_
    refine thn_exit ?_
    refine he0 _ _ ?_
    refine blk_exit ?_
    refine thn_normal ?_
    refine G_seq ?_
    refine g_region ?_
    refine sv rfl (y_move) ?_
    refine sv rfl (y_assign) ?_
    refine GOps_nil ?_
    refine thn_normal ?_
    refine G_ret ?_
    refine fin1 (by simp) ?_
    exact ⟨by rw [hge, List.take_length], rfl⟩
end Go.Proofs.YtklkbfpjimeaoaaGreat
