/- Contracts of functions. Conditions: none. -/
import Derived.Test.YtphfdmagkgpgfaaWu
namespace Go.Proofs.Ytphfdmagkgpgfaa
open Go Go.Proofs.Ytphfdmagkgpgfaa.E

theorem take_step {ks : List Tr} {z : Nat} {k : Tr} (h : ks[z]? = some k) : (ks.take z).map Tr.d ++ [k.d] = (ks.take (z + 1)).map Tr.d := by rw [List.take_add_one, h, List.map_append]; rfl

set_option maxHeartbeats 4000000 in
theorem c70n : ∀ (n : Nat) (t : Tr), t.size ≤ n → t.Ok → t.size ≤ 100000 → Pf Try.prog 70 [t.d] (.d t.d) := by
  intro n
  induction n with
  | zero => intro t h; exact absurd t.size_pos (by omega)
  | succ n ih =>
    intro t hsz hok hszb
    obtain ⟨op, name, num, ks⟩ := t
    have hkd : ∀ k ∈ ks, k.size ≤ n := fun k hk => by
      have := Tr.size_mem hk
      rw [Tr.size] at hsz
      omega
    rw [Tr.d_mk]
    cases hok with | mk h1 h2 h3 h4 h5 =>
    have hln := Tr.len_sizes ks
    rw [Tr.size] at hszb
    refine pf_body (rvs := [.cell 2 24]) [(0, .d (.agg [.int .i64 op, .str name, .int .i64 num, .sl (ks.map Tr.d)]))] Try.func70 Try.ntmps70 Try.results70 (fun S0 O0 w0 m0 hm0 => ?_)
    refine G_seq ?_
    refine g_region ?_
    refine sv rfl (y_box) ?_
    refine g_freeze 0 [] (.agg [.int .i64 op, .str name, .int .i64 num, .sl (ks.map Tr.d)]) rfl ?_
    refine sv rfl (y_alloc zr24) ?_
    refine GOps_nil ?_
    refine thn_normal ?_
    refine G_seq ?_
    refine g_region ?_
    first | refine sv rfl (y_fieldAddr Try.underlying24 rfl sz3) ?_ | refine sv rfl (y_fieldp_leaf Try.underlying24 rfl sz3) ?_
    first | refine sv rfl (y_load_leaf Try.underlying3) ?_ | refine sv rfl (y_loadp_leaf Try.underlying3) ?_
    first | refine sv rfl (y_fieldAddr Try.underlying24 rfl sz9) ?_ | refine sv rfl (y_fieldp_leaf Try.underlying24 rfl sz9) ?_
    first | refine sv rfl (y_load_leaf Try.underlying9) ?_ | refine sv rfl (y_loadp_leaf Try.underlying9) ?_
    first | refine sv rfl (y_fieldAddr Try.underlying24 rfl sz3) ?_ | refine sv rfl (y_fieldp_leaf Try.underlying24 rfl sz3) ?_
    first | refine sv rfl (y_load_leaf Try.underlying3) ?_ | refine sv rfl (y_loadp_leaf Try.underlying3) ?_
    refine sv rfl (Yld_pure rfl (of_decide_eq_true rfl) (q_buildP pl24 zr24)) ?_
    refine sv rfl (y_alloc zr24) ?_
    first | refine sa rfl (d_store sz24) ?_ | refine sa rfl (d_store_take sz24) ?_
    refine GOps_nil ?_
    refine thn_normal ?_
    refine G_seq ?_
    refine G_seq ?_
    refine g_region ?_
    refine sv rfl (y_assign) ?_
    refine GOps_nil ?_
    refine thn_normal ?_
    refine G_block ?_
    refine g_loop (α := Nat) (fun z => ⟨[(4, .d (.int .i64 (z : Nat))), (1, .d (.ptr (.agg [.int .i64 op, .str name, .int .i64 num, .sl (ks.map Tr.d)]))), (2, .ref 0 0), (3, .ref 1 0)], [[.d (.int .i64 0), .d (.str ⟨#[]⟩), .d (.int .i64 0), .nils], [.d (.int .i64 op), .d (.str name), .d (.int .i64 num), .osl 4 ((ks.take z).map Tr.d)]]⟩) (fun z => ks.length - z) (fun z => z ≤ ks.length) 0 (Nat.zero_le _) (fun z hz Q' hn0 he0 hr0 => ?_) (le_of)
    skip
    refine G_seq ?_
    refine G_seq ?_
    refine g_region ?_
    refine sv rfl (y_move) ?_
    first | refine sv rfl (y_fieldAddr Try.underlying24 rfl sz22) ?_ | refine sv rfl (y_fieldp_leaf Try.underlying24 rfl sz22) ?_
    first | refine sv rfl (y_load_leaf Try.underlying22) ?_ | refine sv rfl (y_loadp_leaf Try.underlying22) ?_
    refine sv rfl (y_len Try.underlying22) ?_
    refine sv rfl (y_lss) ?_
    refine GOps_nil ?_
    refine thn_normal ?_
    refine g_cond (fun hb0 => ?_) (fun hb0 => ?_)
    ·
      have hlt : z < ks.length := by simpa using hb0
      obtain ⟨k, hk⟩ : ∃ k, ks[z]? = some k := ⟨_, List.getElem?_eq_getElem hlt⟩
      have hmem := List.mem_of_getElem? hk
      have hxd := Tr.ds_get hk
      have hxa := hxd
      obtain ⟨kop, knm, knu, kks, hka⟩ := k.d_agg
      rw [hka] at hxa
      have hll : (ks.take z).length = z := by rw [List.length_take]; omega
      refine G_skip ?_
      refine thn_normal ?_
      refine G_seq ?_
      refine G_block ?_
      refine G_drawB 12 rfl (by kernel_rfl) (fun S1 O1 w1 m1 hm1 hm2 => ?_)
      have hB1 : ∀ i, i < m1.length → (List.range m1.length).contains i = true := fun i hi => by simpa using hi
      first | refine bq 0 hB1 rfl (q_fieldAddr Try.underlying24 rfl sz22) ?_ | refine bq 0 hB1 rfl (q_fieldp_leaf Try.underlying24 rfl sz22) ?_
      first | refine bq 2 hB1 rfl (q_fieldAddr Try.underlying24 rfl sz22) ?_ | refine bq 2 hB1 rfl (q_fieldp_leaf Try.underlying24 rfl sz22) ?_
      first | refine bq 3 hB1 rfl (q_load_leaf Try.underlying22) ?_ | refine bq 3 hB1 rfl (q_loadp_leaf Try.underlying22) ?_
      refine bq 4 hB1 rfl (q_move) ?_
      refine bq 5 hB1 rfl (q_indexAddr Try.underlying22 sz24) ?_
      first | refine bq 6 hB1 rfl (q_load_agg sz24 Try.underlying24 rfl) ?_ | refine bq 6 hB1 rfl (q_loadp_agg (by exact sz24) Try.underlying24 rfl) ?_
      refine GB_go ?_
      refine ga2 1 7 ?_ ?_
      ·
        first | refine sv rfl (y_load_take Try.underlying22) ?_ | refine sv rfl (y_load_leaf Try.underlying22) ?_ | refine sv rfl (y_loadp_leaf Try.underlying22) ?_
        refine GOps_nil ⟨rfl, ?_⟩
        refine ga1 7 ?_
        refine g_call (xs := [.tmp 25]) rfl ((hka ▸ ih k (hkd k hmem) (h5 k hmem) (by have := hkd k hmem; have := Tr.size_mem hmem; omega))) ?_
        refine GOps_nil ⟨rfl, ?_⟩
        refine ga1 8 ?_
        refine sv rfl (y_buildSlice (xs := [.tmp 26]) Try.underlying22 inf24) ?_
        refine GOps_nil ⟨rfl, ?_⟩
        refine ga1 9 ?_
        refine sv rfl (y_append Try.underlying22 inf24 (hk := by first | exact Tr.ds_cells _ | (intro x hx; simp at hx; subst hx; simp [D.cells])) (hlen := by simp [lim]; omega) (hB := by simp [lim]; omega)) ?_
        rw [← hka, take_step hk]
        refine GOps_nil ⟨rfl, ?_⟩
        refine ga1 10 ?_
        first | refine sv rfl (y_fieldAddr Try.underlying24 rfl sz22) ?_ | refine sv rfl (y_fieldp_leaf Try.underlying24 rfl sz22) ?_
        refine GOps_nil ⟨rfl, ?_⟩
        refine ga1 11 ?_
        first | refine sa rfl (d_store sz22) ?_ | refine sa rfl (d_store_take sz22) ?_
        refine GOps_nil ⟨rfl, ?_⟩
        refine GA_done (by kernel_rfl) ?_
        refine blk_normal ?_
        refine thn_normal ?_
        refine g_keep [0, 1, 2, 3, 4] ?_
        refine g_region ?_
        refine sv rfl (y_move) ?_
        refine sv rfl (y_add) ?_
        refine sv rfl (y_assign) ?_
        refine GOps_nil ?_
        refine hn0 _ (z + 1) (by omega) (by omega) le_of
      ·
        refine g_call (xs := [.tmp 25]) rfl ((hka ▸ ih k (hkd k hmem) (h5 k hmem) (by have := hkd k hmem; have := Tr.size_mem hmem; omega))) ?_
        refine GOps_nil ⟨rfl, ?_⟩
        refine ga2 1 8 ?_ ?_
        ·
          first | refine sv rfl (y_load_take Try.underlying22) ?_ | refine sv rfl (y_load_leaf Try.underlying22) ?_ | refine sv rfl (y_loadp_leaf Try.underlying22) ?_
          refine GOps_nil ⟨rfl, ?_⟩
          refine ga1 8 ?_
          refine sv rfl (y_buildSlice (xs := [.tmp 26]) Try.underlying22 inf24) ?_
          refine GOps_nil ⟨rfl, ?_⟩
          refine ga1 9 ?_
          refine sv rfl (y_append Try.underlying22 inf24 (hk := by first | exact Tr.ds_cells _ | (intro x hx; simp at hx; subst hx; simp [D.cells])) (hlen := by simp [lim]; omega) (hB := by simp [lim]; omega)) ?_
          rw [← hka, take_step hk]
          refine GOps_nil ⟨rfl, ?_⟩
          refine ga1 10 ?_
          first | refine sv rfl (y_fieldAddr Try.underlying24 rfl sz22) ?_ | refine sv rfl (y_fieldp_leaf Try.underlying24 rfl sz22) ?_
          refine GOps_nil ⟨rfl, ?_⟩
          refine ga1 11 ?_
          first | refine sa rfl (d_store sz22) ?_ | refine sa rfl (d_store_take sz22) ?_
          refine GOps_nil ⟨rfl, ?_⟩
          refine GA_done (by kernel_rfl) ?_
          refine blk_normal ?_
          refine thn_normal ?_
          refine g_keep [0, 1, 2, 3, 4] ?_
          refine g_region ?_
          refine sv rfl (y_move) ?_
          refine sv rfl (y_add) ?_
          refine sv rfl (y_assign) ?_
          refine GOps_nil ?_
          refine hn0 _ (z + 1) (by omega) (by omega) le_of
        ·
          refine sv rfl (y_buildSlice (xs := [.tmp 26]) Try.underlying22 inf24) ?_
          refine GOps_nil ⟨rfl, ?_⟩
          refine ga1 1 ?_
          first | refine sv rfl (y_load_take Try.underlying22) ?_ | refine sv rfl (y_load_leaf Try.underlying22) ?_ | refine sv rfl (y_loadp_leaf Try.underlying22) ?_
          refine GOps_nil ⟨rfl, ?_⟩
          refine ga1 9 ?_
          refine sv rfl (y_append Try.underlying22 inf24 (hk := by first | exact Tr.ds_cells _ | (intro x hx; simp at hx; subst hx; simp [D.cells])) (hlen := by simp [lim]; omega) (hB := by simp [lim]; omega)) ?_
          rw [← hka, take_step hk]
          refine GOps_nil ⟨rfl, ?_⟩
          refine ga1 10 ?_
          first | refine sv rfl (y_fieldAddr Try.underlying24 rfl sz22) ?_ | refine sv rfl (y_fieldp_leaf Try.underlying24 rfl sz22) ?_
          refine GOps_nil ⟨rfl, ?_⟩
          refine ga1 11 ?_
          first | refine sa rfl (d_store sz22) ?_ | refine sa rfl (d_store_take sz22) ?_
          refine GOps_nil ⟨rfl, ?_⟩
          refine GA_done (by kernel_rfl) ?_
          refine blk_normal ?_
          refine thn_normal ?_
          refine g_keep [0, 1, 2, 3, 4] ?_
          refine g_region ?_
          refine sv rfl (y_move) ?_
          refine sv rfl (y_add) ?_
          refine sv rfl (y_assign) ?_
          refine GOps_nil ?_
          refine hn0 _ (z + 1) (by omega) (by omega) le_of
    ·
      have hge : z = ks.length := by
        have : ¬ (z : Int) < (ks.map Tr.d).length := by simpa using hb0
        rw [List.length_map] at this
        omega
      refine G_exit ?_
      refine thn_exit ?_
      refine he0 _ _ ?_
      refine blk_exit ?_
      refine thn_normal ?_
      refine G_seq ?_
      refine g_region ?_
      rw [hge, List.take_length]
      first | refine sv rfl (y_load_agg sz24 Try.underlying24 rfl) ?_ | refine sv rfl (y_loadp_agg (by exact sz24) Try.underlying24 rfl) ?_
      first | refine sa rfl (d_store sz24) ?_ | refine sa rfl (d_store_take sz24) ?_
      refine GOps_nil ?_
      refine thn_normal ?_
      refine G_ret ?_
      refine findc sz24 Try.underlying24 (by simp) ?_
      exact ⟨rfl, rfl⟩


/-- What stands for a name that is renamed. -/
def ent (sfx n : ByteArray) : ByteArray × D := (n, nodD 4 (n ++ sfx) 0 [])
theorem find_ent (sfx name : ByteArray) : ∀ ns : List ByteArray, findD name (ns.map (ent sfx)) = if hasB1 name ns = true then .ptr (nodD 4 (name ++ sfx) 0 []) else .nil
  | [] => rfl
  | n :: ns => by
    show (if n = name then _ else _) = _
    by_cases h : n = name
    · subst h; simp [hasB1]
    · have he : hasB1 name (n :: ns) = hasB1 name ns := by simp [hasB1, h]
      rw [if_neg h, find_ent sfx name ns, he]
theorem find_nil (sfx name : ByteArray) (ns : List ByteArray) : (findD name (ns.map (ent sfx))).isNil = some (!hasB1 name ns) := by
  rw [find_ent]; cases hasB1 name ns <;> rfl
theorem find_cells (sfx name : ByteArray) (ns : List ByteArray) : (findD name (ns.map (ent sfx))).cells = [findD name (ns.map (ent sfx))] := by
  rw [find_ent]; cases hasB1 name ns <;> rfl

theorem c69 (sfx name : ByteArray) (ns : List ByteArray) (h : name.size + sfx.size ≤ lim) : Pf Try.prog 69 [renD sfx, scopeD (ns.map (ent sfx)), .str name] (.d (scopeD ((name :: ns).map (ent sfx)))) := by
  refine pf_body (rvs := [.tmp 6]) [(0, .d (renD sfx)), (1, .d (scopeD (ns.map (ent sfx)))), (2, .d (.str name))] Try.func69 Try.ntmps69 Try.results69 (fun S0 O0 w0 m0 hm0 => ?_)
  refine G_seq ?_
  refine g_region ?_
  refine sv rfl (y_assign) ?_
  refine GOps_nil ?_
  refine thn_normal ?_
  refine G_seq ?_
  refine g_region ?_
  refine sv rfl (y_move) ?_
  refine sv rfl (y_move) ?_
  refine sv rfl (y_move) ?_
  refine g_call (xs := [.tmp 9]) rfl (c64 name sfx h) ?_
  refine sv rfl (y_buildS pl24 zr24) ?_
  refine sv rfl (y_box) ?_
  refine g_freeze 0 [] (nodD 4 (name ++ sfx) 0 []) rfl ?_
  refine sv rfl (y_move) ?_
  refine sv rfl (y_buildS (cs' := [.d (.str name), .d (.ptr (nodD 4 (name ++ sfx) 0 [])), .d (scopeD (ns.map (ent sfx)))]) pl124 zr124 (hb := by cases ns <;> rfl)) ?_
  refine sv rfl (y_box) ?_
  refine g_freeze 0 [] (.agg [.str name, .ptr (nodD 4 (name ++ sfx) 0 []), scopeD (ns.map (ent sfx))]) rfl ?_
  refine sv rfl (y_assign) ?_
  refine GOps_nil ?_
  refine thn_normal ?_
  refine G_ret ?_
  refine fin1 (by simp) ?_
  exact ⟨rfl, rfl⟩

end Go.Proofs.Ytphfdmagkgpgfaa
