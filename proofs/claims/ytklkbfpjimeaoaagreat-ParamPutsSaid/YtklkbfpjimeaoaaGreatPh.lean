/- Contracts of functions. Conditions: none. -/
import Derived.Test.YtklkbfpjimeaoaaGreatPg
namespace Go.Proofs.YtklkbfpjimeaoaaGreat
open Go Go.Proofs.YtklkbfpjimeaoaaGreat.E
mutual
/-- All nodes of a tree are right. -/
def Tr.shaped : Tr → Bool
  | .mk op name num ks => rightB (.mk op name num ks) && Tr.shapeds ks
def Tr.shapeds : List Tr → Bool
  | [] => true
  | k :: ks => k.shaped && Tr.shapeds ks
end
theorem Tr.shapeds_all : ∀ ks : List Tr, Tr.shapeds ks = !(ks.any fun k => !k.shaped)
  | [] => rfl
  | k :: ks => by rw [Tr.shapeds, Tr.shapeds_all ks, List.any_cons]; cases k.shaped <;> simp
mutual
def Tr.depth : Tr → Int
  | .mk _ _ _ ks => Tr.deeps ks 0 + 1
def Tr.deeps : List Tr → Int → Int
  | [], d => d
  | k :: ks, d => Tr.deeps ks (if k.depth > d then k.depth else d)
end
mutual
theorem Tr.depth_bd : ∀ t : Tr, 1 ≤ t.depth ∧ t.depth ≤ t.size
  | .mk _ _ _ ks => by
    rw [Tr.depth, Tr.size]
    have := Tr.deeps_bd ks 0
    omega
theorem Tr.deeps_bd : ∀ (ks : List Tr) (d : Int), d ≤ Tr.deeps ks d ∧ (Tr.deeps ks d ≤ d ∨ Tr.deeps ks d ≤ Tr.sizes ks)
  | [], d => by rw [Tr.deeps]; omega
  | k :: ks, d => by
    rw [Tr.deeps, Tr.sizes]
    have h1 := Tr.depth_bd k
    have h2 := Tr.deeps_bd ks (if k.depth > d then k.depth else d)
    split at h2 <;> rename_i h <;> first | rw [if_pos h] | rw [if_neg h]
    all_goals omega
end
theorem Tr.deeps_drop {ks : List Tr} {z : Nat} {k : Tr} (h : ks[z]? = some k) (d : Int) : Tr.deeps (ks.drop z) d = Tr.deeps (ks.drop (z + 1)) (if k.depth > d then k.depth else d) := by
  obtain ⟨hlt, rfl⟩ := List.getElem?_eq_some_iff.1 h
  rw [List.drop_eq_getElem_cons hlt, Tr.deeps]
theorem Tr.sizes_drop {ks : List Tr} {z : Nat} {k : Tr} (h : ks[z]? = some k) : Tr.sizes (ks.drop z) = k.size + Tr.sizes (ks.drop (z + 1)) := by
  obtain ⟨hlt, rfl⟩ := List.getElem?_eq_some_iff.1 h
  rw [List.drop_eq_getElem_cons hlt, Tr.sizes]
theorem Tr.ds_one (op : Int) (name : ByteArray) (num : Int) (ks : List Tr) : [Tr.mk op name num ks].map Tr.d = [.agg [.int .i64 op, .str name, .int .i64 num, .sl (ks.map Tr.d)]] := by rw [List.map_cons, Tr.d_mk]; rfl
theorem c166 (t : Tr) (h : Pf Tryz.prog 88 [t.d, .map shapesM] (.d (.bool t.shaped))) : Pf Tryz.prog 166 [t.d, .ptr (.map shapesM)] (.d (.bool (!t.shaped))) := by
  obtain ⟨op, name, num, ks⟩ := t
  rw [Tr.d_mk]
  try simp only [Tr.op_mk, Tr.nm_mk, Tr.nu_mk, Tr.kids_mk]
  refine pf_body (rvs := [.tmp 3]) [(0, .d (.agg [.int .i64 op, .str name, .int .i64 num, .sl (ks.map Tr.d)])), (1, .d (.ptr (.map shapesM)))] Tryz.func166 Tryz.ntmps166 Tryz.results166 (fun S0 O0 w0 m0 hm0 => ?_)
  refine G_seq ?_
  refine g_region ?_
  refine sv rfl (y_box) ?_
  refine g_freeze 0 [] (.agg [.int .i64 op, .str name, .int .i64 num, .sl (ks.map Tr.d)]) rfl ?_
  refine sv rfl (y_assign) ?_
  refine GOps_nil ?_
  refine thn_normal ?_
  refine G_seq ?_
  refine g_region ?_
  first | refine sv rfl (y_load_agg sz27 Tryz.underlying27 rfl) ?_ | refine sv rfl (y_loadp_agg (by exact sz27) Tryz.underlying27 rfl) ?_
  first | refine sv rfl (y_load_leaf Tryz.underlying127) ?_ | refine sv rfl (y_loadp_leaf Tryz.underlying127) ?_
  refine g_call (xs := [.tmp 4, .tmp 5]) rfl ((Tr.d_mk op name num ks ▸ h)) ?_
  refine sv rfl (y_not) ?_
  refine sv rfl (y_assign) ?_
  refine GOps_nil ?_
  refine thn_normal ?_
  refine G_ret ?_
  refine fin1 (by simp) ?_
  exact ⟨rfl, rfl⟩
theorem c88n : ∀ (n : Nat) (t : Tr), t.size ≤ n → t.Ok → Pf Tryz.prog 88 [t.d, .map shapesM] (.d (.bool t.shaped)) := by
  intro n
  induction n with
  | zero => intro t h; exact absurd t.size_pos (by omega)
  | succ n ih =>
    intro t hsz hok
    obtain ⟨op, name, num, ks⟩ := t
    have hkd : ∀ k ∈ ks, k.size ≤ n := fun k hk => by
      have := Tr.size_mem hk
      rw [Tr.size] at hsz
      omega
    rw [Tr.d_mk]
    have hok' := hok
    cases hok' with | mk h1 h2 h3 h4 h5 =>
    refine pf_body (rvs := [.tmp 4]) [(0, .d (.agg [.int .i64 op, .str name, .int .i64 num, .sl (ks.map Tr.d)])), (1, .d (.map shapesM))] Tryz.func88 Tryz.ntmps88 Tryz.results88 (fun S0 O0 w0 m0 hm0 => ?_)
    refine G_seq ?_
    refine g_region ?_
    refine sv rfl (y_box) ?_
    refine g_freeze 0 [] (.agg [.int .i64 op, .str name, .int .i64 num, .sl (ks.map Tr.d)]) rfl ?_
    refine sv rfl (y_box) ?_
    refine g_freeze 0 [] (.map shapesM) rfl ?_
    refine sv rfl (y_assign) ?_
    refine GOps_nil ?_
    refine thn_normal ?_
    refine G_seq ?_
    refine g_region ?_
    first | refine sv rfl (y_load_agg sz27 Tryz.underlying27 rfl) ?_ | refine sv rfl (y_loadp_agg (by exact sz27) Tryz.underlying27 rfl) ?_
    first | refine sv rfl (y_load_leaf Tryz.underlying127) ?_ | refine sv rfl (y_loadp_leaf Tryz.underlying127) ?_
    refine g_call (xs := [.tmp 5, .tmp 6]) rfl ((Tr.d_mk op name num ks ▸ c165 (.mk op name num ks) hok)) ?_
    refine sv rfl (y_move) ?_
    first | refine sg rfl (fun hg => q_fieldAddr Tryz.underlying27 rfl sz22) ?_ | refine sg rfl (fun hg => q_fieldp_leaf Tryz.underlying27 rfl sz22) ?_
    first | refine sg rfl (fun hg => strip 9 (by simp only [GS.set, GS.get, List.lookup_cons, Nat.reduceBEq] <;> rfl) hg (q_load_leaf Tryz.underlying22)) ?_ | refine sg rfl (fun hg => strip 9 (by simp only [GS.set, GS.get, List.lookup_cons, Nat.reduceBEq] <;> rfl) hg (q_loadp_leaf Tryz.underlying22)) ?_
    refine sg rfl (fun hg => q_makeFunc (xs := []) (ys := [.tmp 3])) ?_
    refine g_callg (xs := [.tmp 10, .tmp 11]) rfl (fun hg => c52 ks 166 [] [.ptr (.map shapesM)] (fun k => !k.shaped) h4 (fun x hx => c166 x (ih x (hkd x hx) (h5 x hx)))) ?_
    refine sg rfl (fun hg => strip 12 (by simp only [GS.set, GS.get, List.lookup_cons, Nat.reduceBEq] <;> rfl) hg (q_not)) ?_
    refine sv rfl (y_and) ?_
    refine sv rfl (y_assign) ?_
    refine GOps_nil ?_
    refine thn_normal ?_
    refine G_ret ?_
    refine fin1 (by simp) ?_
    exact ⟨by rw [Tr.shaped, Tr.shapeds_all], rfl⟩
set_option maxHeartbeats 4000000 in
theorem c151n : ∀ (n : Nat) (t : Tr), t.size ≤ n → t.Ok → t.size ≤ 1000000000 → Pf Tryz.prog 151 [t.d] (.tup [.d (.int .i64 t.size), .d (.int .i64 t.depth)]) := by
  intro n
  induction n with
  | zero => intro t h; exact absurd t.size_pos (by omega)
  | succ n ih =>
    intro t hsz hok hszb
    obtain ⟨op, name, num, ks⟩ := t
    have hkd : ∀ k ∈ ks, k.size ≤ n := fun k hk => by
      have := Tr.size_mem hk
      rw [Tr.size] at hsz
      omega
    rw [Tr.d_mk]
    cases hok with | mk h1 h2 h3 h4 h5 =>
    have hln := Tr.len_sizes ks
    rw [Tr.size] at hszb
    refine pf_body (rvs := [.tmp 2, .tmp 3]) [(0, .d (.agg [.int .i64 op, .str name, .int .i64 num, .sl (ks.map Tr.d)]))] Tryz.func151 Tryz.ntmps151 Tryz.results151 (fun S0 O0 w0 m0 hm0 => ?_)
    refine G_seq ?_
    refine g_region ?_
    refine sv rfl (y_box) ?_
    refine g_freeze 0 [] (.agg [.int .i64 op, .str name, .int .i64 num, .sl (ks.map Tr.d)]) rfl ?_
    refine sv rfl (y_assign) ?_
    refine sv rfl (y_assign) ?_
    refine GOps_nil ?_
    refine thn_normal ?_
    refine G_seq ?_
    refine G_seq ?_
    refine g_region ?_
    first | refine sv rfl (y_fieldAt 3 Tryz.underlying27 rfl sz22) ?_ | refine sv rfl (y_fieldAddr Tryz.underlying27 rfl sz22) ?_ | refine sv rfl (y_fieldp_leaf Tryz.underlying27 rfl sz22) ?_
    first | refine sv rfl (y_load_leaf Tryz.underlying22) ?_ | refine sv rfl (y_loadp_leaf Tryz.underlying22) ?_
    refine sv rfl (y_len Tryz.underlying22) ?_
    refine sv rfl (y_move) ?_
    refine GOps_nil ?_
    refine thn_normal ?_
    refine G_block ?_
    refine g_loop (α := Nat × Int × Int) (fun z => ⟨[(11, .d (.int .i64 (z.1 : Nat))), (10, .d (.int .i64 ((ks.map Tr.d).length : Nat))), (9, .d (.sl (ks.map Tr.d))), (2, .d (.int .i64 z.2.1)), (3, .d (.int .i64 z.2.2))], []⟩) (fun z => ks.length - z.1) (fun z => z.1 ≤ ks.length ∧ 0 ≤ z.2.1 ∧ z.2.1 + Tr.sizes (ks.drop z.1) = Tr.sizes ks ∧ 0 ≤ z.2.2 ∧ z.2.2 ≤ Tr.sizes ks ∧ Tr.deeps (ks.drop z.1) z.2.2 = Tr.deeps ks 0) (0, 0, 0) ⟨Nat.zero_le _, by show (0 : Int) ≤ 0; omega, by show (0 : Int) + _ = _; simp, by show (0 : Int) ≤ 0; omega, by show (0 : Int) ≤ _; omega, rfl⟩ (fun z hz Q' hn0 he0 hr0 => ?_) (le_of)
    obtain ⟨z, c, e⟩ := z
    obtain ⟨hz1, hc1, hc2, hc3, hc4, hc5⟩ := hz
    replace hz1 : z ≤ ks.length := hz1
    replace hc1 : 0 ≤ c := hc1
    replace hc2 : c + Tr.sizes (ks.drop z) = Tr.sizes ks := hc2
    replace hc3 : 0 ≤ e := hc3
    replace hc4 : e ≤ Tr.sizes ks := hc4
    replace hc5 : Tr.deeps (ks.drop z) e = Tr.deeps ks 0 := hc5
    refine G_seq ?_
    refine g_region ?_
    refine sv rfl (y_lss) ?_
    refine GOps_nil ?_
    refine thn_normal ?_
    refine G_seq ?_
    refine g_cond (fun hb0 => ?_) (fun hb0 => ?_)
    ·
      have hlt : z < ks.length := by simpa using hb0
      obtain ⟨k, hk⟩ : ∃ k, ks[z]? = some k := ⟨_, List.getElem?_eq_getElem hlt⟩
      have hmem := List.mem_of_getElem? hk
      have hxd := Tr.ds_get hk
      have hxa := hxd
      obtain ⟨kop, knm, knu, kks, hka⟩ := k.d_agg
      rw [hka] at hxa
      have hsd := Tr.sizes_drop hk
      have hdb := Tr.depth_bd k
      have hsm := Tr.size_mem hmem
      refine G_skip ?_
      refine thn_normal ?_
      refine G_seq ?_
      refine G_block ?_
      refine G_seq ?_
      refine g_region ?_
      refine sv rfl (y_indexAddr Tryz.underlying22 sz27) ?_
      first | refine sv rfl (y_load_agg sz27 Tryz.underlying27 rfl) ?_ | refine sv rfl (y_loadp_agg (by exact sz27) Tryz.underlying27 rfl) ?_
      refine sv rfl (y_alloc zr27) ?_
      first | refine sa rfl (d_store sz27) ?_ | refine sa rfl (d_store_take sz27) ?_
      refine g_freeze 0 [] (.agg [.int .i64 kop, .str knm, .int .i64 knu, .sl (kks.map Tr.d)]) rfl ?_
      refine GOps_nil ?_
      refine thn_normal ?_
      refine G_seq ?_
      refine g_region ?_
      first | refine sv rfl (y_load_agg sz27 Tryz.underlying27 rfl) ?_ | refine sv rfl (y_loadp_agg (by exact sz27) Tryz.underlying27 rfl) ?_
      refine g_call (xs := [.tmp 16]) rfl ((hka ▸ ih k (hkd k hmem) (h5 k hmem) (by omega))) ?_
      refine sv rfl (y_move) ?_
      refine sv rfl (y_extract) ?_
      refine sv rfl (y_extract) ?_
      refine sv rfl (y_assign) ?_
      refine sv rfl (y_assign) ?_
      refine GOps_nil ?_
      refine thn_normal ?_
      refine G_seq ?_
      refine g_keep [0, 1, 2, 3, 5, 6, 7, 9, 10, 11] ?_
      refine g_region ?_
      refine sv rfl (y_move) ?_
      refine sv rfl (y_move) ?_
      refine sv rfl (y_add) ?_
      refine sv rfl (y_assign) ?_
      refine GOps_nil ?_
      refine thn_normal ?_
      refine g_region ?_
      refine sv rfl (y_move) ?_
      refine sv rfl (y_move) ?_
      refine sv rfl (Yld_pure rfl (of_decide_eq_true rfl) (q_max)) ?_
      refine sv rfl (y_assign) ?_
      refine GOps_nil ?_
      refine blk_normal ?_
      refine thn_normal ?_
      refine g_region ?_
      refine sv rfl (y_add) ?_
      refine sv rfl (y_move) ?_
      refine GOps_nil ?_
      refine hn0 _ (z + 1, c + k.size, if k.depth > e then k.depth else e) ⟨by show z + 1 ≤ ks.length; omega, by show 0 ≤ c + (k.size : Int); omega, by show c + (k.size : Int) + (Tr.sizes (ks.drop (z + 1)) : Nat) = (Tr.sizes ks : Nat); omega, by show 0 ≤ (if k.depth > e then k.depth else e); split <;> omega, by show (if k.depth > e then k.depth else e) ≤ _; split <;> omega, by show Tr.deeps (ks.drop (z + 1)) _ = _; rw [← Tr.deeps_drop hk e]; exact hc5⟩ (by show ks.length - (z + 1) < ks.length - z; omega) le_of
    ·
      have hge : z = ks.length := by
        have : ¬ (z : Int) < (ks.map Tr.d).length := by simpa using hb0
        rw [List.length_map] at this
        omega
      have hdd := Tr.deeps_bd ks 0
      refine G_exit ?_
      refine thn_exit ?_
      refine he0 _ _ ?_
      refine blk_exit ?_
      refine thn_normal ?_
      refine G_seq ?_
      refine g_region ?_
      subst hge
      rw [List.drop_length] at hc2 hc5
      rw [Tr.deeps] at hc5
      rw [Tr.sizes] at hc2
      refine sv rfl (y_move) ?_
      refine sv rfl (y_add) ?_
      refine sv rfl (y_move) ?_
      refine sv rfl (y_add) ?_
      refine sv rfl (y_assign) ?_
      refine sv rfl (y_assign) ?_
      refine GOps_nil ?_
      refine thn_normal ?_
      refine G_ret ?_
      refine find2 (by simp) ?_
      exact ⟨by rw [Tr.size, Tr.depth, ← hc5]; congr 5; omega, rfl⟩
def limitsE (ts : List Tr) : Int := if (Tr.sizes ts : Int) > 4000 then 5 else if Tr.deeps ts 0 > 60 then 6 else 0
set_option maxHeartbeats 4000000 in
theorem c85 (ks : List Tr) (h5 : ∀ k ∈ ks, k.Ok) (hszb : Tr.sizes ks ≤ 1000000000) : Pf Tryz.prog 85 [.sl (ks.map Tr.d)] (.d (.int .i64 (limitsE ks))) := by
  refine pf_body (rvs := [.tmp 2]) [(0, .d (.sl (ks.map Tr.d)))] Tryz.func85 Tryz.ntmps85 Tryz.results85 (fun S0 O0 w0 m0 hm0 => ?_)
  refine G_seq ?_
  refine g_region ?_
  have hln := Tr.len_sizes ks
  refine sv rfl (y_assign) ?_
  refine GOps_nil ?_
  refine thn_normal ?_
  refine G_seq ?_
  refine g_region ?_
  refine sv rfl (y_assign) ?_
  refine sv rfl (y_assign) ?_
  refine GOps_nil ?_
  refine thn_normal ?_
  refine G_seq ?_
  refine G_seq ?_
  refine g_region ?_
  refine sv rfl (y_move) ?_
  refine sv rfl (y_len Tryz.underlying22) ?_
  refine sv rfl (y_move) ?_
  refine GOps_nil ?_
  refine thn_normal ?_
  refine G_block ?_
  refine g_loop (α := Nat × Int × Int) (fun z => ⟨[(11, .d (.int .i64 (z.1 : Nat))), (10, .d (.int .i64 ((ks.map Tr.d).length : Nat))), (9, .d (.sl (ks.map Tr.d))), (3, .d (.int .i64 z.2.1)), (4, .d (.int .i64 z.2.2))], []⟩) (fun z => ks.length - z.1) (fun z => z.1 ≤ ks.length ∧ 0 ≤ z.2.1 ∧ z.2.1 + Tr.sizes (ks.drop z.1) = Tr.sizes ks ∧ 0 ≤ z.2.2 ∧ z.2.2 ≤ Tr.sizes ks ∧ Tr.deeps (ks.drop z.1) z.2.2 = Tr.deeps ks 0) (0, 0, 0) ⟨Nat.zero_le _, by show (0 : Int) ≤ 0; omega, by show (0 : Int) + _ = _; simp, by show (0 : Int) ≤ 0; omega, by show (0 : Int) ≤ _; omega, rfl⟩ (fun z hz Q' hn0 he0 hr0 => ?_) (le_of)
  obtain ⟨z, c, e⟩ := z
  obtain ⟨hz1, hc1, hc2, hc3, hc4, hc5⟩ := hz
  replace hz1 : z ≤ ks.length := hz1
  replace hc1 : 0 ≤ c := hc1
  replace hc2 : c + Tr.sizes (ks.drop z) = Tr.sizes ks := hc2
  replace hc3 : 0 ≤ e := hc3
  replace hc4 : e ≤ Tr.sizes ks := hc4
  replace hc5 : Tr.deeps (ks.drop z) e = Tr.deeps ks 0 := hc5
  refine G_seq ?_
  refine g_region ?_
  refine sv rfl (y_lss) ?_
  refine GOps_nil ?_
  refine thn_normal ?_
  refine G_seq ?_
  refine g_cond (fun hb0 => ?_) (fun hb0 => ?_)
  ·
    have hlt : z < ks.length := by simpa using hb0
    obtain ⟨k, hk⟩ : ∃ k, ks[z]? = some k := ⟨_, List.getElem?_eq_getElem hlt⟩
    have hmem := List.mem_of_getElem? hk
    have hxd := Tr.ds_get hk
    have hxa := hxd
    obtain ⟨kop, knm, knu, kks, hka⟩ := k.d_agg
    rw [hka] at hxa
    have hsd := Tr.sizes_drop hk
    have hdb := Tr.depth_bd k
    have hsm := Tr.size_mem hmem
    refine G_skip ?_
    refine thn_normal ?_
    refine G_seq ?_
    refine G_block ?_
    refine G_seq ?_
    refine g_region ?_
    refine sv rfl (y_indexAddr Tryz.underlying22 sz27) ?_
    first | refine sv rfl (y_load_agg sz27 Tryz.underlying27 rfl) ?_ | refine sv rfl (y_loadp_agg (by exact sz27) Tryz.underlying27 rfl) ?_
    refine sv rfl (y_alloc zr27) ?_
    first | refine sa rfl (d_store sz27) ?_ | refine sa rfl (d_store_take sz27) ?_
    refine g_freeze 0 [] (.agg [.int .i64 kop, .str knm, .int .i64 knu, .sl (kks.map Tr.d)]) rfl ?_
    refine GOps_nil ?_
    refine thn_normal ?_
    refine G_seq ?_
    refine g_region ?_
    first | refine sv rfl (y_load_agg sz27 Tryz.underlying27 rfl) ?_ | refine sv rfl (y_loadp_agg (by exact sz27) Tryz.underlying27 rfl) ?_
    refine g_call (xs := [.tmp 16]) rfl ((hka ▸ c151n k.size k (Nat.le_refl _) (h5 k hmem) (by omega))) ?_
    refine sv rfl (y_move) ?_
    refine sv rfl (y_extract) ?_
    refine sv rfl (y_extract) ?_
    refine sv rfl (y_assign) ?_
    refine sv rfl (y_assign) ?_
    refine GOps_nil ?_
    refine thn_normal ?_
    refine G_seq ?_
    refine g_keep [0, 2, 3, 4, 6, 7, 8, 9, 10, 11] ?_
    refine g_region ?_
    refine sv rfl (y_move) ?_
    refine sv rfl (y_move) ?_
    refine sv rfl (y_add) ?_
    refine sv rfl (y_assign) ?_
    refine GOps_nil ?_
    refine thn_normal ?_
    refine g_region ?_
    refine sv rfl (y_move) ?_
    refine sv rfl (y_move) ?_
    refine sv rfl (Yld_pure rfl (of_decide_eq_true rfl) (q_max)) ?_
    refine sv rfl (y_assign) ?_
    refine GOps_nil ?_
    refine blk_normal ?_
    refine thn_normal ?_
    refine g_region ?_
    refine sv rfl (y_add) ?_
    refine sv rfl (y_move) ?_
    refine GOps_nil ?_
    refine hn0 _ (z + 1, c + k.size, if k.depth > e then k.depth else e) ⟨by show z + 1 ≤ ks.length; omega, by show 0 ≤ c + (k.size : Int); omega, by show c + (k.size : Int) + (Tr.sizes (ks.drop (z + 1)) : Nat) = (Tr.sizes ks : Nat); omega, by show 0 ≤ (if k.depth > e then k.depth else e); split <;> omega, by show (if k.depth > e then k.depth else e) ≤ _; split <;> omega, by show Tr.deeps (ks.drop (z + 1)) _ = _; rw [← Tr.deeps_drop hk e]; exact hc5⟩ (by show ks.length - (z + 1) < ks.length - z; omega) le_of
  ·
    have hge : z = ks.length := by
      have : ¬ (z : Int) < (ks.map Tr.d).length := by simpa using hb0
      rw [List.length_map] at this
      omega
    have hdd := Tr.deeps_bd ks 0
    refine G_exit ?_
    refine thn_exit ?_
    refine he0 _ _ ?_
    refine blk_exit ?_
    refine thn_normal ?_
    refine G_seq ?_
    refine G_block ?_
    refine G_seq ?_
    refine g_region ?_
    subst hge
    rw [List.drop_length] at hc2 hc5
    rw [Tr.deeps] at hc5
    rw [Tr.sizes] at hc2
    have hcs : c = Tr.sizes ks := by omega
    subst hcs
    subst hc5
    refine sv rfl (y_move) ?_
    refine sv rfl (y_gtr) ?_
    refine sv rfl (y_assign) ?_
    refine GOps_nil ?_
    refine thn_normal ?_
    refine g_cond (fun hb1 => ?_) (fun hb1 => ?_)
    ·
      refine G_seq ?_
      refine g_region ?_
      refine sv rfl (y_assign) ?_
      refine GOps_nil ?_
      refine thn_normal ?_
      refine G_ret ?_
      refine blk_ret ?_
      refine thn_ret ?_
      refine fin1 (by simp) ?_
      exact ⟨by rw [limitsE, if_pos (of_decide_eq_true hb1)], rfl⟩
    ·
      refine G_seq ?_
      refine g_region ?_
      refine sv rfl (y_move) ?_
      refine sv rfl (y_gtr) ?_
      refine sv rfl (y_assign) ?_
      refine GOps_nil ?_
      refine thn_normal ?_
      refine g_cond (fun hb2 => ?_) (fun hb2 => ?_)
      ·
        refine G_seq ?_
        refine g_region ?_
        refine sv rfl (y_assign) ?_
        refine GOps_nil ?_
        refine thn_normal ?_
        refine G_ret ?_
        refine blk_ret ?_
        refine thn_ret ?_
        refine fin1 (by simp) ?_
        exact ⟨by rw [limitsE, if_neg (of_decide_eq_false hb1), if_pos (of_decide_eq_true hb2)], rfl⟩
      ·
        refine G_skip ?_
        refine blk_normal ?_
        refine thn_normal ?_
        refine G_seq ?_
        refine g_region ?_
        refine sv rfl (y_assign) ?_
        refine GOps_nil ?_
        refine thn_normal ?_
        refine G_ret ?_
        refine fin1 (by simp) ?_
        exact ⟨by rw [limitsE, if_neg (of_decide_eq_false hb1), if_neg (of_decide_eq_false hb2)], rfl⟩
/-- The error of the shape of a tree. -/
def nodeE : Tr → Int
  | .mk op name num ks =>
    if (limitsE [.mk op name num ks] != 0) = true then limitsE [.mk op name num ks]
    else if ((!isExprB op && !isStmtB op && op != 30 && op != 31) || !(Tr.mk op name num ks).shaped) = true then 2 else 0
set_option maxHeartbeats 4000000 in
theorem c24 (t : Tr) (hok : t.Ok) (hszb : t.size ≤ 1000000000) : Pf Tryz.prog 24 [t.d] (.d (.int .i64 (nodeE t))) := by
  obtain ⟨op, name, num, ks⟩ := t
  rw [Tr.d_mk]
  try simp only [Tr.op_mk, Tr.nm_mk, Tr.nu_mk, Tr.kids_mk]
  refine pf_body (rvs := [.tmp 2]) [(0, .d (.agg [.int .i64 op, .str name, .int .i64 num, .sl (ks.map Tr.d)]))] Tryz.func24 Tryz.ntmps24 Tryz.results24 (fun S0 O0 w0 m0 hm0 => ?_)
  refine G_seq ?_
  refine g_region ?_
  refine sv rfl (y_box) ?_
  refine g_freeze 0 [] (.agg [.int .i64 op, .str name, .int .i64 num, .sl (ks.map Tr.d)]) rfl ?_
  refine sv rfl (y_assign) ?_
  refine GOps_nil ?_
  refine thn_normal ?_
  refine G_seq ?_
  refine G_seq ?_
  refine g_region ?_
  first | refine sv rfl (y_load_agg sz27 Tryz.underlying27 rfl) ?_ | refine sv rfl (y_loadp_agg (by exact sz27) Tryz.underlying27 rfl) ?_
  refine sv rfl (y_buildSlice (xs := [.tmp 4]) Tryz.underlying22 inf27) ?_
  refine g_call (xs := [.tmp 5]) rfl ((Tr.ds_one op name num ks ▸ c85 [.mk op name num ks] (by simpa using hok) (by simpa [Tr.sizes] using hszb))) ?_
  refine sv rfl (y_assign) ?_
  refine GOps_nil ?_
  refine thn_normal ?_
  refine G_seq ?_
  refine g_region ?_
  refine sv rfl (y_move) ?_
  refine sv rfl (y_neq) ?_
  refine GOps_nil ?_
  refine thn_normal ?_
  refine g_cond (fun hb0 => ?_) (fun hb0 => ?_)
  ·
    refine G_seq ?_
    refine g_region ?_
    refine sv rfl (y_move) ?_
    refine sv rfl (y_assign) ?_
    refine GOps_nil ?_
    refine thn_normal ?_
    refine G_ret ?_
    refine thn_ret ?_
    refine fin1 (by simp) ?_
    exact ⟨by rw [nodeE, if_pos hb0], rfl⟩
  ·
    refine G_skip ?_
    refine thn_normal ?_
    refine G_seq ?_
    refine G_seq ?_
    refine g_cg0 [10, 11, 12, 13, 14, 15, 16, 17, 18, 19, 20, 21, 22, 23, 24, 25, 26, 27, 28, 29, 30, 31, 32, 33, 34, 35] ?_
    refine cg_pre [] ?_
    first | refine cg_st 1 (fun bq rest hc1 hc2 hc3 => sv rfl (y_fieldAt 0 Tryz.underlying27 rfl sz3) (GOps_nil ⟨rfl, rfl⟩)) ?_ | refine cg_st 1 (fun bq rest hc1 hc2 hc3 => sv rfl (y_fieldAddr Tryz.underlying27 rfl sz3) (GOps_nil ⟨rfl, rfl⟩)) ?_ | refine cg_st 1 (fun bq rest hc1 hc2 hc3 => sv rfl (y_fieldp_leaf Tryz.underlying27 rfl sz3) (GOps_nil ⟨rfl, rfl⟩)) ?_
    refine cg_pre [0] ?_
    first | refine cg_st 2 (fun bq rest hc1 hc2 hc3 => sv rfl (y_load_leaf Tryz.underlying3) (GOps_nil ⟨rfl, rfl⟩)) ?_ | refine cg_st 2 (fun bq rest hc1 hc2 hc3 => sv rfl (y_loadp_leaf Tryz.underlying3) (GOps_nil ⟨rfl, rfl⟩)) ?_
    refine cg_pre [1] ?_
    refine cg_st 3 (fun bq rest hc1 hc2 hc3 => g_call (xs := [.tmp 11]) rfl (c74 op) (GOps_nil ⟨rfl, rfl⟩)) ?_
    refine cg_pre [2] ?_
    refine cg_st 4 (fun bq rest hc1 hc2 hc3 => sv rfl (y_not) (GOps_nil ⟨rfl, rfl⟩)) ?_
    refine cg_pre [3, 2] ?_
    refine cg_st 5 (fun bq rest hc1 hc2 hc3 => sv rfl (y_move) (GOps_nil ⟨rfl, rfl⟩)) ?_
    refine cg_pre [4] ?_
    first | refine cg_st 6 (fun bq rest hc1 hc2 hc3 => sg rfl (fun hg => q_fieldAddr Tryz.underlying27 rfl sz3) (GOps_nil ⟨rfl, rfl⟩)) ?_ | refine cg_st 6 (fun bq rest hc1 hc2 hc3 => sg rfl (fun hg => q_fieldp_leaf Tryz.underlying27 rfl sz3) (GOps_nil ⟨rfl, rfl⟩)) ?_
    refine cg_pre [5, 4] ?_
    first | refine cg_st 7 (fun bq rest hc1 hc2 hc3 => sg rfl (fun hg => strip 15 (by simp only [GS.set, GS.get, List.lookup_cons, Nat.reduceBEq] <;> rfl) hg (q_load_leaf Tryz.underlying3)) (GOps_nil ⟨rfl, rfl⟩)) ?_ | refine cg_st 7 (fun bq rest hc1 hc2 hc3 => sg rfl (fun hg => strip 15 (by simp only [GS.set, GS.get, List.lookup_cons, Nat.reduceBEq] <;> rfl) hg (q_loadp_leaf Tryz.underlying3)) (GOps_nil ⟨rfl, rfl⟩)) ?_
    refine cg_pre [6, 4, 4] ?_
    refine cg_st 8 (fun bq rest hc1 hc2 hc3 => g_callg (xs := [.tmp 16]) rfl (fun hg => c95 op) (GOps_nil ⟨rfl, rfl⟩)) ?_
    refine cg_pre [7, 4] ?_
    refine cg_st 9 (fun bq rest hc1 hc2 hc3 => sg rfl (fun hg => strip 17 (by simp only [GS.set, GS.get, List.lookup_cons, Nat.reduceBEq] <;> rfl) hg (q_not)) (GOps_nil ⟨rfl, rfl⟩)) ?_
    refine cg_pre [4, 8] ?_
    refine cg_st 10 (fun bq rest hc1 hc2 hc3 => sv rfl (y_and) (GOps_nil ⟨rfl, rfl⟩)) ?_
    refine cg_pre [9, 7] ?_
    refine cg_st 11 (fun bq rest hc1 hc2 hc3 => sv rfl (y_move) (GOps_nil ⟨rfl, rfl⟩)) ?_
    refine cg_pre [10] ?_
    first | refine cg_st 12 (fun bq rest hc1 hc2 hc3 => sg rfl (fun hg => q_fieldAddr Tryz.underlying27 rfl sz3) (GOps_nil ⟨rfl, rfl⟩)) ?_ | refine cg_st 12 (fun bq rest hc1 hc2 hc3 => sg rfl (fun hg => q_fieldp_leaf Tryz.underlying27 rfl sz3) (GOps_nil ⟨rfl, rfl⟩)) ?_
    refine cg_pre [11, 10] ?_
    first | refine cg_st 13 (fun bq rest hc1 hc2 hc3 => sg rfl (fun hg => strip 21 (by simp only [GS.set, GS.get, List.lookup_cons, Nat.reduceBEq] <;> rfl) hg (q_load_leaf Tryz.underlying3)) (GOps_nil ⟨rfl, rfl⟩)) ?_ | refine cg_st 13 (fun bq rest hc1 hc2 hc3 => sg rfl (fun hg => strip 21 (by simp only [GS.set, GS.get, List.lookup_cons, Nat.reduceBEq] <;> rfl) hg (q_loadp_leaf Tryz.underlying3)) (GOps_nil ⟨rfl, rfl⟩)) ?_
    refine cg_pre [12, 10] ?_
    refine cg_st 14 (fun bq rest hc1 hc2 hc3 => sg rfl (fun hg => strip 22 (by simp only [GS.set, GS.get, List.lookup_cons, Nat.reduceBEq] <;> rfl) hg (q_neq)) (GOps_nil ⟨rfl, rfl⟩)) ?_
    refine cg_pre [10, 13] ?_
    refine cg_st 15 (fun bq rest hc1 hc2 hc3 => sv rfl (y_and) (GOps_nil ⟨rfl, rfl⟩)) ?_
    refine cg_pre [14, 10] ?_
    refine cg_st 16 (fun bq rest hc1 hc2 hc3 => sv rfl (y_move) (GOps_nil ⟨rfl, rfl⟩)) ?_
    refine cg_pre [15] ?_
    first | refine cg_st 17 (fun bq rest hc1 hc2 hc3 => sg rfl (fun hg => q_fieldAddr Tryz.underlying27 rfl sz3) (GOps_nil ⟨rfl, rfl⟩)) ?_ | refine cg_st 17 (fun bq rest hc1 hc2 hc3 => sg rfl (fun hg => q_fieldp_leaf Tryz.underlying27 rfl sz3) (GOps_nil ⟨rfl, rfl⟩)) ?_
    refine cg_pre [16, 15] ?_
    first | refine cg_st 18 (fun bq rest hc1 hc2 hc3 => sg rfl (fun hg => strip 26 (by simp only [GS.set, GS.get, List.lookup_cons, Nat.reduceBEq] <;> rfl) hg (q_load_leaf Tryz.underlying3)) (GOps_nil ⟨rfl, rfl⟩)) ?_ | refine cg_st 18 (fun bq rest hc1 hc2 hc3 => sg rfl (fun hg => strip 26 (by simp only [GS.set, GS.get, List.lookup_cons, Nat.reduceBEq] <;> rfl) hg (q_loadp_leaf Tryz.underlying3)) (GOps_nil ⟨rfl, rfl⟩)) ?_
    refine cg_pre [17, 15] ?_
    refine cg_st 19 (fun bq rest hc1 hc2 hc3 => sg rfl (fun hg => strip 27 (by simp only [GS.set, GS.get, List.lookup_cons, Nat.reduceBEq] <;> rfl) hg (q_neq)) (GOps_nil ⟨rfl, rfl⟩)) ?_
    refine cg_pre [15, 18] ?_
    refine cg_st 20 (fun bq rest hc1 hc2 hc3 => sv rfl (y_and) (GOps_nil ⟨rfl, rfl⟩)) ?_
    refine cg_pre [19, 15] ?_
    refine cg_st 21 (fun bq rest hc1 hc2 hc3 => sv rfl (y_move) (GOps_nil ⟨rfl, rfl⟩)) ?_
    refine cg_pre [20] ?_
    first | refine cg_st 22 (fun bq rest hc1 hc2 hc3 => sg rfl (fun hg => q_load_agg sz27 Tryz.underlying27 rfl) (GOps_nil ⟨rfl, rfl⟩)) ?_ | refine cg_st 22 (fun bq rest hc1 hc2 hc3 => sg rfl (fun hg => q_loadp_agg (by exact sz27) Tryz.underlying27 rfl) (GOps_nil ⟨rfl, rfl⟩)) ?_
    refine cg_pre [20, 20] ?_
    refine cg_st 23 (fun bq rest hc1 hc2 hc3 => g_callg (xs := []) rfl (fun hg => c86) (GOps_nil ⟨rfl, rfl⟩)) ?_
    refine cg_pre [21, 22, 22, 20] ?_
    refine cg_st 24 (fun bq rest hc1 hc2 hc3 => g_callg (xs := [.tmp 31, .tmp 32]) rfl (fun hg => (Tr.d_mk op name num ks ▸ c88n _ (.mk op name num ks) (Nat.le_refl _) hok)) (GOps_nil ⟨rfl, rfl⟩)) ?_
    refine cg_pre [23, 20] ?_
    refine cg_st 25 (fun bq rest hc1 hc2 hc3 => sg rfl (fun hg => strip 33 (by simp only [GS.set, GS.get, List.lookup_cons, Nat.reduceBEq] <;> rfl) hg (q_not)) (GOps_nil ⟨rfl, rfl⟩)) ?_
    refine cg_pre [20, 24] ?_
    refine cg_st 26 (fun bq rest hc1 hc2 hc3 => sv rfl (y_or) (GOps_nil ⟨rfl, rfl⟩)) ?_
    refine cg_done ?_
    refine thn_normal ?_
    refine g_cond (fun hb1 => ?_) (fun hb1 => ?_)
    ·
      refine G_seq ?_
      refine g_keep [0, 1, 2, 3] ?_
      refine g_region ?_
      refine sv rfl (y_assign) ?_
      refine GOps_nil ?_
      refine thn_normal ?_
      refine G_ret ?_
      refine thn_ret ?_
      refine fin1 (by simp) ?_
      exact ⟨by rw [nodeE, if_neg (by rw [hb0]; decide), if_pos hb1], rfl⟩
    ·
      refine G_skip ?_
      refine thn_normal ?_
      refine G_seq ?_
      refine g_keep [0, 1, 2, 3] ?_
      refine g_region ?_
      refine sv rfl (y_assign) ?_
      refine GOps_nil ?_
      refine thn_normal ?_
      refine G_ret ?_
      refine fin1 (by simp) ?_
      exact ⟨by rw [nodeE, if_neg (by rw [hb0]; decide), if_neg (by rw [hb1]; decide)], rfl⟩
end Go.Proofs.YtklkbfpjimeaoaaGreat
