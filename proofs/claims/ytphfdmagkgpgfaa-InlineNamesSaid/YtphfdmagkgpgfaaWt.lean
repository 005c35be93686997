/- Contracts of functions. Conditions: none. -/
import Derived.Test.YtphfdmagkgpgfaaWs
namespace Go.Proofs.Ytphfdmagkgpgfaa
open Go Go.Proofs.Ytphfdmagkgpgfaa.E
set_option maxHeartbeats 1000000 in
theorem c58 (t : Tr) (most : Int) (hok : t.Ok) (hm0' : 0 ≤ most) (hm1' : most ≤ 1000000) : Pf Try.prog 58 [.agg [.sl [t.d], .sl []], .int .i64 most] (.d (.int .i64 (Tr.cnts [t] 0 most))) := by
  refine pf_body (rvs := [.tmp 4]) [(0, .d (.agg [.sl [t.d], .sl []])), (1, .d (.int .i64 most))] Try.func58 Try.ntmps58 Try.results58 (fun S0 O0 w0 m0 hm0 => ?_)
  refine G_seq ?_
  refine g_region ?_
  refine sv rfl (y_box) ?_
  refine g_freeze 0 [] (.agg [.sl [t.d], .sl []]) rfl ?_
  refine sv rfl (y_box) ?_
  refine g_freeze 0 [] (.int .i64 most) rfl ?_
  refine sv rfl (y_assign) ?_
  refine GOps_nil ?_
  refine thn_normal ?_
  refine G_seq ?_
  refine g_region ?_
  refine sv rfl (y_alloc zr3) ?_
  refine sa rfl (d_store sz3) ?_
  refine GOps_nil ?_
  refine thn_normal ?_
  refine G_seq ?_
  refine g_region ?_
  refine sv rfl (y_makeFunc (xs := []) (ys := [.tmp 5, .tmp 3])) ?_
  refine sv rfl (y_assign) ?_
  refine GOps_nil ?_
  refine thn_normal ?_
  refine G_seq ?_
  refine g_region ?_
  refine sv rfl (y_move) ?_
  first | refine sv rfl (y_fieldAddr Try.underlying71 rfl sz22) ?_ | refine sv rfl (y_fieldp_leaf Try.underlying71 rfl sz22) ?_
  first | refine sv rfl (y_load_leaf Try.underlying22) ?_ | refine sv rfl (y_loadp_leaf Try.underlying22) ?_
  refine g_callm [0] (xs := [.tmp 14]) rfl (c76 [t] 0 most (by simp) (by simpa using hok) hm0' hm1' (by omega) (by omega)) ?_
  refine GOps_nil ?_
  refine thn_normal ?_
  refine G_seq ?_
  refine G_seq ?_
  refine g_region ?_
  first | refine sv rfl (y_fieldAddr Try.underlying71 rfl sz69) ?_ | refine sv rfl (y_fieldp_leaf Try.underlying71 rfl sz69) ?_
  first | refine sv rfl (y_load_leaf Try.underlying69) ?_ | refine sv rfl (y_loadp_leaf Try.underlying69) ?_
  refine sv rfl (y_len Try.underlying69) ?_
  refine sv rfl (y_move) ?_
  refine GOps_nil ?_
  refine thn_normal ?_
  refine G_block ?_
  refine g_loop (α := Unit) (fun z => ⟨[(19, .d (.int .i64 0)), (18, .d (.int .i64 0)), (17, .d (.sl [])), (5, .ref 0 0)], [[.d (.int .i64 (Tr.cnts [t] 0 most))]]⟩) (fun z => 0) (fun z => True) () trivial (fun z hz Q' hn0 he0 hr0 => ?_) (le_of)
  skip
  refine G_seq ?_
  refine g_region ?_
  refine sv rfl (y_lss) ?_
  refine GOps_nil ?_
  refine thn_normal ?_
  refine G_seq ?_
  refine g_cond (fun hb0 => ?_) (fun hb0 => ?_)
  ·
    exact absurd hb0 (by decide)
  ·
    refine G_exit ?_
    refine thn_exit ?_
    refine he0 _ _ ?_
    refine blk_exit ?_
    refine thn_normal ?_
    refine G_seq ?_
    refine g_region ?_
    first | refine sv rfl (y_load_leaf Try.underlying3) ?_ | refine sv rfl (y_loadp_leaf Try.underlying3) ?_
    refine sv rfl (y_assign) ?_
    refine GOps_nil ?_
    refine thn_normal ?_
    refine G_ret ?_
    refine fin1 (by simp) ?_
    exact ⟨rfl, rfl⟩

theorem c78 (g : FuncId) (fa fc : List D) : Pf Try.prog 78 [.sl [], .fn (.func g) fa fc] (.d (.int .i64 (-1))) := by
  refine pf_body (rvs := [.tmp 4]) [(0, .d (.sl [])), (1, .d (.fn (.func g) fa fc))] Try.func78 Try.ntmps78 Try.results78 (fun S0 O0 w0 m0 hm0 => ?_)
  refine G_seq ?_
  refine g_region ?_
  refine sv rfl (y_assign) ?_
  refine GOps_nil ?_
  refine thn_normal ?_
  refine G_seq ?_
  refine G_seq ?_
  refine g_region ?_
  refine sv rfl (y_move) ?_
  refine sv rfl (y_len Try.underlying69) ?_
  refine sv rfl (y_move) ?_
  refine GOps_nil ?_
  refine thn_normal ?_
  refine G_block ?_
  refine g_loop (α := Unit) (fun z => ⟨[(8, .d (.int .i64 0)), (7, .d (.int .i64 0))], []⟩) (fun z => 0) (fun z => True) () trivial (fun z hz Q' hn0 he0 hr0 => ?_) (le_of)
  skip
  refine G_seq ?_
  refine g_region ?_
  refine sv rfl (y_lss) ?_
  refine GOps_nil ?_
  refine thn_normal ?_
  refine G_seq ?_
  refine g_cond (fun hb0 => ?_) (fun hb0 => ?_)
  ·
    exact absurd hb0 (by decide)
  ·
    refine G_exit ?_
    refine thn_exit ?_
    refine he0 _ _ ?_
    refine blk_exit ?_
    refine thn_normal ?_
    refine G_seq ?_
    refine g_region ?_
    refine sv rfl (y_assign) ?_
    refine GOps_nil ?_
    refine thn_normal ?_
    refine G_ret ?_
    refine fin1 (by simp) ?_
    exact ⟨rfl, rfl⟩

theorem c60 (g : FuncId) (fa fc : List D) : Pf Try.prog 60 [.sl [], .fn (.func g) fa fc] (.d (.bool false)) := by
  refine pf_body (rvs := [.tmp 4]) [(0, .d (.sl [])), (1, .d (.fn (.func g) fa fc))] Try.func60 Try.ntmps60 Try.results60 (fun S0 O0 w0 m0 hm0 => ?_)
  refine G_seq ?_
  refine g_region ?_
  refine sv rfl (y_assign) ?_
  refine GOps_nil ?_
  refine thn_normal ?_
  refine G_seq ?_
  refine g_region ?_
  refine sv rfl (y_move) ?_
  refine sv rfl (y_move) ?_
  refine g_call (xs := [.tmp 5, .tmp 6]) rfl (c78 g fa fc) ?_
  refine sv rfl (y_geq) ?_
  refine sv rfl (y_assign) ?_
  refine GOps_nil ?_
  refine thn_normal ?_
  refine G_ret ?_
  refine fin1 (by simp) ?_
  exact ⟨rfl, rfl⟩

/-- A tree of few nodes, with short names. -/
def Tr.few (t : Tr) (most : Int) : Bool := !(decide (Tr.cnts [t] 0 most > most) || t.long)

set_option maxHeartbeats 1000000 in
theorem c37 (t : Tr) (most : Int) (hok : t.Ok) (hm0' : 0 ≤ most) (hm1' : most ≤ 1000000) : Pf Try.prog 37 [.agg [.sl [t.d], .sl []], .int .i64 most] (.d (.bool (t.few most))) := by
  refine pf_body (rvs := [.tmp 4]) [(0, .d (.agg [.sl [t.d], .sl []])), (1, .d (.int .i64 most))] Try.func37 Try.ntmps37 Try.results37 (fun S0 O0 w0 m0 hm0 => ?_)
  refine G_seq ?_
  refine g_region ?_
  refine sv rfl (y_box) ?_
  refine g_freeze 0 [] (.agg [.sl [t.d], .sl []]) rfl ?_
  refine sv rfl (y_assign) ?_
  refine GOps_nil ?_
  refine thn_normal ?_
  refine G_seq ?_
  refine G_seq ?_
  refine g_region ?_
  first | refine sv rfl (y_load_agg sz71 Try.underlying71 rfl) ?_ | refine sv rfl (y_loadp_agg (by exact sz71) Try.underlying71 rfl) ?_
  refine sv rfl (y_move) ?_
  refine g_call (xs := [.tmp 5, .tmp 6]) rfl (c58 t most hok hm0' hm1') ?_
  refine sv rfl (y_move) ?_
  refine sv rfl (y_gtr) ?_
  refine sv rfl (y_move) ?_
  first | refine sg rfl (fun hg => q_fieldAddr Try.underlying71 rfl sz22) ?_ | refine sg rfl (fun hg => q_fieldp_leaf Try.underlying71 rfl sz22) ?_
  first | refine sg rfl (fun hg => strip 11 (by simp only [GS.set, GS.get, List.lookup_cons, Nat.reduceBEq] <;> rfl) hg (q_load_leaf Try.underlying22)) ?_ | refine sg rfl (fun hg => strip 11 (by simp only [GS.set, GS.get, List.lookup_cons, Nat.reduceBEq] <;> rfl) hg (q_loadp_leaf Try.underlying22)) ?_
  refine g_callg (xs := [.tmp 12, .func 59]) rfl (fun hg => c42 [t] 59 [] [] Tr.long (by simp) (fun x hx => by rw [List.mem_singleton.1 hx]; exact c59n _ t (Nat.le_refl _) hok)) ?_
  refine sv rfl (y_or) ?_
  refine GOps_nil ?_
  refine thn_normal ?_
  refine g_cond (fun hb0 => ?_) (fun hb0 => ?_)
  ·
    have hfe : t.few most = false := by unfold Tr.few; simp only [List.any_cons, List.any_nil, Bool.or_false] at hb0; rw [hb0]; rfl
    refine G_seq ?_
    refine g_keep [0, 1, 2, 4] ?_
    refine g_region ?_
    refine sv rfl (y_assign) ?_
    refine GOps_nil ?_
    refine thn_normal ?_
    refine G_ret ?_
    refine thn_ret ?_
    refine fin1 (by simp) ?_
    exact ⟨by rw [hfe], rfl⟩
  ·
    have hfe : t.few most = true := by unfold Tr.few; simp only [List.any_cons, List.any_nil, Bool.or_false] at hb0; rw [hb0]; rfl
    refine G_skip ?_
    refine thn_normal ?_
    refine G_seq ?_
    refine g_keep [0, 1, 2, 4] ?_
    refine g_region ?_
    first | refine sv rfl (y_fieldAddr Try.underlying71 rfl sz69) ?_ | refine sv rfl (y_fieldp_leaf Try.underlying71 rfl sz69) ?_
    first | refine sv rfl (y_load_leaf Try.underlying69) ?_ | refine sv rfl (y_loadp_leaf Try.underlying69) ?_
    refine g_call (xs := [.tmp 16, .func 61]) rfl (c60 61 [] []) ?_
    refine sv rfl (y_not) ?_
    refine sv rfl (y_assign) ?_
    refine GOps_nil ?_
    refine thn_normal ?_
    refine G_ret ?_
    refine fin1 (by simp) ?_
    exact ⟨by rw [hfe]; rfl, rfl⟩

theorem c9 (t : Tr) (most : Int) (hok : t.Ok) (hm0' : 0 ≤ most) (hm1' : most ≤ 1000000) : Pf Try.prog 9 [t.d, .int .i64 most] (.d (.bool (t.few most))) := by
  refine pf_body (rvs := [.tmp 4]) [(0, .d t.d), (1, .d (.int .i64 most))] Try.func9 Try.ntmps9 Try.results9 (fun S0 O0 w0 m0 hm0 => ?_)
  refine G_seq ?_
  refine g_region ?_
  obtain ⟨kop, knm, knu, kks, hka⟩ := t.d_agg
  have h37 := c37 t most hok hm0' hm1'
  rw [hka] at h37 ⊢
  refine sv rfl (y_box) ?_
  refine g_freeze 0 [] (.agg [.int .i64 kop, .str knm, .int .i64 knu, .sl (kks.map Tr.d)]) rfl ?_
  refine sv rfl (y_assign) ?_
  refine GOps_nil ?_
  refine thn_normal ?_
  refine G_seq ?_
  refine g_region ?_
  first | refine sv rfl (y_load_agg sz24 Try.underlying24 rfl) ?_ | refine sv rfl (y_loadp_agg (by exact sz24) Try.underlying24 rfl) ?_
  refine sv rfl (y_buildSlice (xs := [.tmp 5]) Try.underlying22 inf24) ?_
  refine sv rfl (y_buildS pl71 zr71) ?_
  refine sv rfl (y_move) ?_
  refine g_call (xs := [.tmp 7, .tmp 8]) rfl (h37) ?_
  refine sv rfl (y_assign) ?_
  refine GOps_nil ?_
  refine thn_normal ?_
  refine G_ret ?_
  refine fin1 (by simp) ?_
  exact ⟨rfl, rfl⟩


theorem Tr.few_size {t : Tr} {most : Int} (h0 : 0 ≤ most) (h : t.few most = true) : (t.size : Int) ≤ most ∧ t.long = false := by
  unfold Tr.few at h
  simp only [Bool.not_eq_true', Bool.or_eq_false_iff, decide_eq_false_iff_not] at h
  obtain ⟨h1, h2⟩ := h
  have h3 := Tr.cnts_eq [t] 0 most h0 (by omega) (by omega)
  simp only [Tr.sizes] at h3
  exact ⟨by omega, h2⟩

theorem c38 (xs ys : List Tr) (g : FuncId) (hlen : xs.length = ys.length) (hlim : xs.length ≤ 140737488355328)
    (hcb : ∀ (i : Nat) x y, xs[i]? = some x → ys[i]? = some y → Pf Try.prog g [x.d, y.d] (.d (.bool true))) : Pf Try.prog 38 [.sl (xs.map Tr.d), .sl (ys.map Tr.d), .fn (.func g) [] []] (.d (.bool true)) := by
  refine pf_body (rvs := [.tmp 6]) [(0, .d (.sl (xs.map Tr.d))), (1, .d (.sl (ys.map Tr.d))), (2, .d (.fn (.func g) [] []))] Try.func38 Try.ntmps38 Try.results38 (fun S0 O0 w0 m0 hm0 => ?_)
  refine G_seq ?_
  refine g_region ?_
  refine sv rfl (y_assign) ?_
  refine GOps_nil ?_
  refine thn_normal ?_
  refine G_seq ?_
  refine G_seq ?_
  refine g_region ?_
  refine sv rfl (y_move) ?_
  refine sv rfl (y_len Try.underlying22) ?_
  refine sv rfl (y_move) ?_
  refine sv rfl (y_len Try.underlying22) ?_
  refine sv rfl (y_neq) ?_
  refine GOps_nil ?_
  refine thn_normal ?_
  refine g_cond (fun hb0 => ?_) (fun hb0 => ?_)
  ·
    exfalso
    simp [hlen] at hb0
    skip
  ·
    refine G_skip ?_
    refine thn_normal ?_
    refine G_seq ?_
    refine G_seq ?_
    refine g_region ?_
    refine sv rfl (y_move) ?_
    refine sv rfl (y_len Try.underlying22) ?_
    refine sv rfl (y_move) ?_
    refine GOps_nil ?_
    refine thn_normal ?_
    refine G_block ?_
    refine g_loop (α := Nat) (fun z => ⟨[(17, .d (.int .i64 (z : Nat))), (16, .d (.int .i64 ((xs.map Tr.d).length : Nat))), (15, .d (.sl (xs.map Tr.d))), (1, .d (.sl (ys.map Tr.d))), (2, .d (.fn (.func g) [] []))], []⟩) (fun z => xs.length - z) (fun z => z ≤ xs.length) 0 (Nat.zero_le _) (fun z hz Q' hn0 he0 hr0 => ?_) (le_of)
    skip
    refine G_seq ?_
    refine g_region ?_
    refine sv rfl (y_lss) ?_
    refine GOps_nil ?_
    refine thn_normal ?_
    refine G_seq ?_
    refine g_cond (fun hb1 => ?_) (fun hb1 => ?_)
    ·
      have hlt : z < xs.length := by simpa using hb1
      obtain ⟨x, hx⟩ : ∃ x, xs[z]? = some x := ⟨_, List.getElem?_eq_getElem hlt⟩
      obtain ⟨y, hy⟩ : ∃ y, ys[z]? = some y := ⟨_, List.getElem?_eq_getElem (hlen ▸ hlt)⟩
      have hcx := hcb z x y hx hy
      have hxd := Tr.ds_get hx
      have hyd := Tr.ds_get hy
      obtain ⟨xop, xnm, xnu, xks, hxa⟩ := x.d_agg
      obtain ⟨yop, ynm, ynu, yks, hya⟩ := y.d_agg
      rw [hxa] at hxd hcx
      rw [hya] at hyd hcx
      refine G_skip ?_
      refine thn_normal ?_
      refine G_seq ?_
      refine G_block ?_
      refine G_seq ?_
      refine g_region ?_
      refine sv rfl (y_move) ?_
      refine sv rfl (y_indexAddr Try.underlying22 sz24) ?_
      first | refine sv rfl (y_load_agg sz24 Try.underlying24 rfl) ?_ | refine sv rfl (y_loadp_agg (by exact sz24) Try.underlying24 rfl) ?_
      refine sv rfl (y_alloc zr24) ?_
      refine sv rfl (y_assign) ?_
      first | refine sa rfl (d_store sz24) ?_ | refine sa rfl (d_store_take sz24) ?_
      refine GOps_nil ?_
      refine thn_normal ?_
      refine G_seq ?_
      refine g_region ?_
      refine sv rfl (y_move) ?_
      refine sv rfl (y_move) ?_
      refine sv rfl (y_indexAddr Try.underlying22 sz24) ?_
      first | refine sv rfl (y_load_agg sz24 Try.underlying24 rfl) ?_ | refine sv rfl (y_loadp_agg (by exact sz24) Try.underlying24 rfl) ?_
      refine sv rfl (y_alloc zr24) ?_
      first | refine sa rfl (d_store sz24) ?_ | refine sa rfl (d_store_take sz24) ?_
      refine GOps_nil ?_
      refine thn_normal ?_
      refine G_seq ?_
      refine g_keep [0, 1, 2, 6, 7, 8, 9, 15, 16, 17] ?_
      refine g_region ?_
      refine sv rfl (y_move) ?_
      first | refine sv rfl (y_load_agg sz24 Try.underlying24 rfl) ?_ | refine sv rfl (y_loadp_agg (by exact sz24) Try.underlying24 rfl) ?_
      first | refine sv rfl (y_load_agg sz24 Try.underlying24 rfl) ?_ | refine sv rfl (y_loadp_agg (by exact sz24) Try.underlying24 rfl) ?_
      refine g_call (xs := [.tmp 27, .tmp 28]) rfl (hcx) ?_
      refine sv rfl (y_not) ?_
      refine GOps_nil ?_
      refine thn_normal ?_
      refine g_cond (fun hb2 => ?_) (fun hb2 => ?_)
      ·
        exact absurd hb2 (by decide)
      ·
        refine G_skip ?_
        refine blk_normal ?_
        refine thn_normal ?_
        refine g_region ?_
        refine sv rfl (y_add) ?_
        refine sv rfl (y_move) ?_
        refine GOps_nil ?_
        refine hn0 _ (z + 1) (by omega) (by omega) le_of
    ·
      refine G_exit ?_
      refine thn_exit ?_
      refine he0 _ _ ?_
      refine blk_exit ?_
      refine thn_normal ?_
      refine G_seq ?_
      refine g_region ?_
      refine sv rfl (y_assign) ?_
      refine GOps_nil ?_
      refine thn_normal ?_
      refine G_ret ?_
      refine fin1 (by simp) ?_
      exact ⟨rfl, rfl⟩

theorem c11n : ∀ (n : Nat) (t : Tr), t.size ≤ n → t.Ok → Pf Try.prog 11 [t.d, t.d] (.d (.bool true)) := by
  intro n
  induction n with
  | zero => intro t h; exact absurd t.size_pos (by omega)
  | succ n ih =>
    intro t hsz hok
    obtain ⟨op, name, num, ks⟩ := t
    have hkd : ∀ k ∈ ks, k.size ≤ n := fun k hk => by
      have := Tr.size_mem hk
      rw [Tr.size] at hsz
      omega
    rw [Tr.d_mk]
    cases hok with | mk h1 h2 h3 h4 h5 =>
    refine pf_body (rvs := [.tmp 4]) [(0, .d (.agg [.int .i64 op, .str name, .int .i64 num, .sl (ks.map Tr.d)])), (1, .d (.agg [.int .i64 op, .str name, .int .i64 num, .sl (ks.map Tr.d)]))] Try.func11 Try.ntmps11 Try.results11 (fun S0 O0 w0 m0 hm0 => ?_)
    refine G_seq ?_
    refine g_region ?_
    refine sv rfl (y_box) ?_
    refine g_freeze 0 [] (.agg [.int .i64 op, .str name, .int .i64 num, .sl (ks.map Tr.d)]) rfl ?_
    refine sv rfl (y_box) ?_
    refine g_freeze 0 [] (.agg [.int .i64 op, .str name, .int .i64 num, .sl (ks.map Tr.d)]) rfl ?_
    refine sv rfl (y_assign) ?_
    refine GOps_nil ?_
    refine thn_normal ?_
    refine G_seq ?_
    refine g_region ?_
    first | refine sv rfl (y_fieldAddr Try.underlying24 rfl sz3) ?_ | refine sv rfl (y_fieldp_leaf Try.underlying24 rfl sz3) ?_
    first | refine sv rfl (y_load_leaf Try.underlying3) ?_ | refine sv rfl (y_loadp_leaf Try.underlying3) ?_
    first | refine sv rfl (y_fieldAddr Try.underlying24 rfl sz3) ?_ | refine sv rfl (y_fieldp_leaf Try.underlying24 rfl sz3) ?_
    first | refine sv rfl (y_load_leaf Try.underlying3) ?_ | refine sv rfl (y_loadp_leaf Try.underlying3) ?_
    refine sv rfl (y_eql) ?_
    refine sv rfl (y_move) ?_
    first | refine sg rfl (fun hg => q_fieldAddr Try.underlying24 rfl sz9) ?_ | refine sg rfl (fun hg => q_fieldp_leaf Try.underlying24 rfl sz9) ?_
    first | refine sg rfl (fun hg => strip 11 (by simp only [GS.set, GS.get, List.lookup_cons, Nat.reduceBEq] <;> rfl) hg (q_load_leaf Try.underlying9)) ?_ | refine sg rfl (fun hg => strip 11 (by simp only [GS.set, GS.get, List.lookup_cons, Nat.reduceBEq] <;> rfl) hg (q_loadp_leaf Try.underlying9)) ?_
    first | refine sg rfl (fun hg => q_fieldAddr Try.underlying24 rfl sz9) ?_ | refine sg rfl (fun hg => q_fieldp_leaf Try.underlying24 rfl sz9) ?_
    first | refine sg rfl (fun hg => strip 13 (by simp only [GS.set, GS.get, List.lookup_cons, Nat.reduceBEq] <;> rfl) hg (q_load_leaf Try.underlying9)) ?_ | refine sg rfl (fun hg => strip 13 (by simp only [GS.set, GS.get, List.lookup_cons, Nat.reduceBEq] <;> rfl) hg (q_loadp_leaf Try.underlying9)) ?_
    refine sg rfl (fun hg => strip 14 (by simp only [GS.set, GS.get, List.lookup_cons, Nat.reduceBEq] <;> rfl) hg (strip 12 (by simp only [GS.set, GS.get, List.lookup_cons, Nat.reduceBEq] <;> rfl) hg (q_streq))) ?_
    refine sv rfl (y_and) ?_
    refine sv rfl (y_move) ?_
    first | refine sg rfl (fun hg => q_fieldAddr Try.underlying24 rfl sz3) ?_ | refine sg rfl (fun hg => q_fieldp_leaf Try.underlying24 rfl sz3) ?_
    first | refine sg rfl (fun hg => strip 18 (by simp only [GS.set, GS.get, List.lookup_cons, Nat.reduceBEq] <;> rfl) hg (q_load_leaf Try.underlying3)) ?_ | refine sg rfl (fun hg => strip 18 (by simp only [GS.set, GS.get, List.lookup_cons, Nat.reduceBEq] <;> rfl) hg (q_loadp_leaf Try.underlying3)) ?_
    first | refine sg rfl (fun hg => q_fieldAddr Try.underlying24 rfl sz3) ?_ | refine sg rfl (fun hg => q_fieldp_leaf Try.underlying24 rfl sz3) ?_
    first | refine sg rfl (fun hg => strip 20 (by simp only [GS.set, GS.get, List.lookup_cons, Nat.reduceBEq] <;> rfl) hg (q_load_leaf Try.underlying3)) ?_ | refine sg rfl (fun hg => strip 20 (by simp only [GS.set, GS.get, List.lookup_cons, Nat.reduceBEq] <;> rfl) hg (q_loadp_leaf Try.underlying3)) ?_
    refine sg rfl (fun hg => strip 21 (by simp only [GS.set, GS.get, List.lookup_cons, Nat.reduceBEq] <;> rfl) hg (strip 19 (by simp only [GS.set, GS.get, List.lookup_cons, Nat.reduceBEq] <;> rfl) hg (q_eql))) ?_
    refine sv rfl (y_and) ?_
    refine sv rfl (y_move) ?_
    first | refine sg rfl (fun hg => q_fieldAddr Try.underlying24 rfl sz22) ?_ | refine sg rfl (fun hg => q_fieldp_leaf Try.underlying24 rfl sz22) ?_
    first | refine sg rfl (fun hg => strip 25 (by simp only [GS.set, GS.get, List.lookup_cons, Nat.reduceBEq] <;> rfl) hg (q_load_leaf Try.underlying22)) ?_ | refine sg rfl (fun hg => strip 25 (by simp only [GS.set, GS.get, List.lookup_cons, Nat.reduceBEq] <;> rfl) hg (q_loadp_leaf Try.underlying22)) ?_
    first | refine sg rfl (fun hg => q_fieldAddr Try.underlying24 rfl sz22) ?_ | refine sg rfl (fun hg => q_fieldp_leaf Try.underlying24 rfl sz22) ?_
    first | refine sg rfl (fun hg => strip 27 (by simp only [GS.set, GS.get, List.lookup_cons, Nat.reduceBEq] <;> rfl) hg (q_load_leaf Try.underlying22)) ?_ | refine sg rfl (fun hg => strip 27 (by simp only [GS.set, GS.get, List.lookup_cons, Nat.reduceBEq] <;> rfl) hg (q_loadp_leaf Try.underlying22)) ?_
    refine g_callg (xs := [.tmp 26, .tmp 28, .func 11]) rfl (fun hg => c38 ks ks 11 rfl h4 (fun i x y hx hy => by rw [hx] at hy; injection hy with hy; subst hy; exact ih x (hkd x (List.mem_of_getElem? hx)) (h5 x (List.mem_of_getElem? hx)))) ?_
    refine sv rfl (y_and) ?_
    refine sv rfl (y_assign) ?_
    refine GOps_nil ?_
    refine thn_normal ?_
    refine G_ret ?_
    refine fin1 (by simp) ?_
    exact ⟨by simp, rfl⟩


mutual
def Tr.decl : Tr → Bool
  | .mk op _ num ks => ((op == 50) || (isLoopD op num ks.length && decide (num > 0))) || Tr.decls ks
def Tr.decls : List Tr → Bool
  | [] => false
  | k :: ks => k.decl || Tr.decls ks
end
theorem Tr.decls_any : ∀ ks : List Tr, Tr.decls ks = ks.any Tr.decl
  | [] => rfl
  | k :: ks => by rw [Tr.decls, Tr.decls_any ks]; rfl
theorem Tr.decl_mk (op : Int) (name : ByteArray) (num : Int) (ks : List Tr) : (Tr.mk op name num ks).decl = (((op == 50) || (isLoopD op num ks.length && decide (num > 0))) || ks.any Tr.decl) := by rw [Tr.decl, Tr.decls_any]

set_option maxHeartbeats 4000000 in
theorem c15n : ∀ (n : Nat) (t : Tr), t.size ≤ n → t.Ok → Pf Try.prog 15 [t.d] (.d (.bool t.decl)) := by
  intro n
  induction n with
  | zero => intro t h; exact absurd t.size_pos (by omega)
  | succ n ih =>
    intro t hsz hok
    obtain ⟨op, name, num, ks⟩ := t
    have hkd : ∀ k ∈ ks, k.size ≤ n := fun k hk => by
      have := Tr.size_mem hk
      rw [Tr.size] at hsz
      omega
    rw [Tr.d_mk]
    cases hok with | mk h1 h2 h3 h4 h5 =>
    refine pf_body (rvs := [.tmp 2]) [(0, .d (.agg [.int .i64 op, .str name, .int .i64 num, .sl (ks.map Tr.d)]))] Try.func15 Try.ntmps15 Try.results15 (fun S0 O0 w0 m0 hm0 => ?_)
    refine G_seq ?_
    refine g_region ?_
    refine sv rfl (y_box) ?_
    refine g_freeze 0 [] (.agg [.int .i64 op, .str name, .int .i64 num, .sl (ks.map Tr.d)]) rfl ?_
    refine sv rfl (y_assign) ?_
    refine GOps_nil ?_
    refine thn_normal ?_
    refine G_seq ?_
    refine g_region ?_
    first | refine sv rfl (y_fieldAddr Try.underlying24 rfl sz3) ?_ | refine sv rfl (y_fieldp_leaf Try.underlying24 rfl sz3) ?_
    first | refine sv rfl (y_load_leaf Try.underlying3) ?_ | refine sv rfl (y_loadp_leaf Try.underlying3) ?_
    refine sv rfl (y_eql) ?_
    refine sv rfl (y_move) ?_
    first | refine sg rfl (fun hg => q_fieldAddr Try.underlying24 rfl sz3) ?_ | refine sg rfl (fun hg => q_fieldp_leaf Try.underlying24 rfl sz3) ?_
    first | refine sg rfl (fun hg => strip 8 (by simp only [GS.set, GS.get, List.lookup_cons, Nat.reduceBEq] <;> rfl) hg (q_load_leaf Try.underlying3)) ?_ | refine sg rfl (fun hg => strip 8 (by simp only [GS.set, GS.get, List.lookup_cons, Nat.reduceBEq] <;> rfl) hg (q_loadp_leaf Try.underlying3)) ?_
    refine sg rfl (fun hg => strip 9 (by simp only [GS.set, GS.get, List.lookup_cons, Nat.reduceBEq] <;> rfl) hg (q_eql)) ?_
    refine sv rfl (y_or) ?_
    refine sv rfl (y_move) ?_
    first | refine sg rfl (fun hg => q_fieldAddr Try.underlying24 rfl sz3) ?_ | refine sg rfl (fun hg => q_fieldp_leaf Try.underlying24 rfl sz3) ?_
    first | refine sg rfl (fun hg => strip 13 (by simp only [GS.set, GS.get, List.lookup_cons, Nat.reduceBEq] <;> rfl) hg (q_load_leaf Try.underlying3)) ?_ | refine sg rfl (fun hg => strip 13 (by simp only [GS.set, GS.get, List.lookup_cons, Nat.reduceBEq] <;> rfl) hg (q_loadp_leaf Try.underlying3)) ?_
    refine sg rfl (fun hg => strip 14 (by simp only [GS.set, GS.get, List.lookup_cons, Nat.reduceBEq] <;> rfl) hg (q_eql)) ?_
    refine sv rfl (y_or) ?_
    refine sv rfl (y_move) ?_
    first | refine sg rfl (fun hg => q_fieldAddr Try.underlying24 rfl sz3) ?_ | refine sg rfl (fun hg => q_fieldp_leaf Try.underlying24 rfl sz3) ?_
    first | refine sg rfl (fun hg => strip 18 (by simp only [GS.set, GS.get, List.lookup_cons, Nat.reduceBEq] <;> rfl) hg (q_load_leaf Try.underlying3)) ?_ | refine sg rfl (fun hg => strip 18 (by simp only [GS.set, GS.get, List.lookup_cons, Nat.reduceBEq] <;> rfl) hg (q_loadp_leaf Try.underlying3)) ?_
    refine sg rfl (fun hg => strip 19 (by simp only [GS.set, GS.get, List.lookup_cons, Nat.reduceBEq] <;> rfl) hg (q_geq)) ?_
    refine sv rfl (y_and) ?_
    refine sv rfl (y_move) ?_
    first | refine sg rfl (fun hg => q_fieldAddr Try.underlying24 rfl sz3) ?_ | refine sg rfl (fun hg => q_fieldp_leaf Try.underlying24 rfl sz3) ?_
    first | refine sg rfl (fun hg => strip 23 (by simp only [GS.set, GS.get, List.lookup_cons, Nat.reduceBEq] <;> rfl) hg (q_load_leaf Try.underlying3)) ?_ | refine sg rfl (fun hg => strip 23 (by simp only [GS.set, GS.get, List.lookup_cons, Nat.reduceBEq] <;> rfl) hg (q_loadp_leaf Try.underlying3)) ?_
    refine sg rfl (fun hg => strip 24 (by simp only [GS.set, GS.get, List.lookup_cons, Nat.reduceBEq] <;> rfl) hg (q_leq)) ?_
    refine sv rfl (y_and) ?_
    refine sv rfl (y_move) ?_
    first | refine sg rfl (fun hg => q_fieldAddr Try.underlying24 rfl sz22) ?_ | refine sg rfl (fun hg => q_fieldp_leaf Try.underlying24 rfl sz22) ?_
    first | refine sg rfl (fun hg => strip 28 (by simp only [GS.set, GS.get, List.lookup_cons, Nat.reduceBEq] <;> rfl) hg (q_load_leaf Try.underlying22)) ?_ | refine sg rfl (fun hg => strip 28 (by simp only [GS.set, GS.get, List.lookup_cons, Nat.reduceBEq] <;> rfl) hg (q_loadp_leaf Try.underlying22)) ?_
    refine sg rfl (fun hg => strip 29 (by simp only [GS.set, GS.get, List.lookup_cons, Nat.reduceBEq] <;> rfl) hg (q_len Try.underlying22)) ?_
    first | refine sg rfl (fun hg => q_fieldAddr Try.underlying24 rfl sz3) ?_ | refine sg rfl (fun hg => q_fieldp_leaf Try.underlying24 rfl sz3) ?_
    first | refine sg rfl (fun hg => strip 31 (by simp only [GS.set, GS.get, List.lookup_cons, Nat.reduceBEq] <;> rfl) hg (q_load_leaf Try.underlying3)) ?_ | refine sg rfl (fun hg => strip 31 (by simp only [GS.set, GS.get, List.lookup_cons, Nat.reduceBEq] <;> rfl) hg (q_loadp_leaf Try.underlying3)) ?_
    refine sg rfl (fun hg => strip 32 (by simp only [GS.set, GS.get, List.lookup_cons, Nat.reduceBEq] <;> rfl) hg (q_add)) ?_
    refine sg rfl (fun hg => strip 33 (by simp only [GS.set, GS.get, List.lookup_cons, Nat.reduceBEq] <;> rfl) hg (strip 30 (by simp only [GS.set, GS.get, List.lookup_cons, Nat.reduceBEq] <;> rfl) hg (q_geq))) ?_
    refine sv rfl (y_and) ?_
    refine sv rfl (y_assign) ?_
    refine GOps_nil ?_
    refine thn_normal ?_
    refine G_seq ?_
    refine g_keep [0, 1, 2, 3] ?_
    refine g_region ?_
    first | refine sv rfl (y_fieldAddr Try.underlying24 rfl sz3) ?_ | refine sv rfl (y_fieldp_leaf Try.underlying24 rfl sz3) ?_
    first | refine sv rfl (y_load_leaf Try.underlying3) ?_ | refine sv rfl (y_loadp_leaf Try.underlying3) ?_
    refine sv rfl (y_eql) ?_
    refine sv rfl (y_move) ?_
    refine sg rfl (fun hg => q_move) ?_
    refine sg rfl (fun hg => strip 40 (by simp only [GS.set, GS.get, List.lookup_cons, Nat.reduceBEq] <;> rfl) hg (q_move)) ?_
    first | refine sg rfl (fun hg => q_fieldAddr Try.underlying24 rfl sz3) ?_ | refine sg rfl (fun hg => q_fieldp_leaf Try.underlying24 rfl sz3) ?_
    first | refine sg rfl (fun hg => strip 42 (by simp only [GS.set, GS.get, List.lookup_cons, Nat.reduceBEq] <;> rfl) hg (q_load_leaf Try.underlying3)) ?_ | refine sg rfl (fun hg => strip 42 (by simp only [GS.set, GS.get, List.lookup_cons, Nat.reduceBEq] <;> rfl) hg (q_loadp_leaf Try.underlying3)) ?_
    refine sg rfl (fun hg => strip 43 (by simp only [GS.set, GS.get, List.lookup_cons, Nat.reduceBEq] <;> rfl) hg (q_gtr)) ?_
    refine sg rfl (fun hg => strip 41 (by simp only [GS.set, GS.get, List.lookup_cons, Nat.reduceBEq] <;> rfl) hg (q_and)) ?_
    refine sv rfl (y_or) ?_
    refine sv rfl (y_move) ?_
    first | refine sg rfl (fun hg => q_fieldAddr Try.underlying24 rfl sz22) ?_ | refine sg rfl (fun hg => q_fieldp_leaf Try.underlying24 rfl sz22) ?_
    first | refine sg rfl (fun hg => strip 48 (by simp only [GS.set, GS.get, List.lookup_cons, Nat.reduceBEq] <;> rfl) hg (q_load_leaf Try.underlying22)) ?_ | refine sg rfl (fun hg => strip 48 (by simp only [GS.set, GS.get, List.lookup_cons, Nat.reduceBEq] <;> rfl) hg (q_loadp_leaf Try.underlying22)) ?_
    refine g_callg (xs := [.tmp 49, .func 15]) rfl (fun hg => c42 ks 15 [] [] Tr.decl h4 (fun x hx => ih x (hkd x hx) (h5 x hx))) ?_
    refine sv rfl (y_or) ?_
    refine sv rfl (y_assign) ?_
    refine GOps_nil ?_
    refine thn_normal ?_
    refine G_ret ?_
    refine fin1 (by simp) ?_
    exact ⟨by rw [Tr.decl_mk]; unfold isLoopD; simp [Bool.and_assoc, Bool.or_assoc], rfl⟩

end Go.Proofs.Ytphfdmagkgpgfaa
