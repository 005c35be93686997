/- Contracts of functions. Conditions: none. -/
import Derived.Test.YtphfdmagkgpgfaaWy
namespace Go.Proofs.Ytphfdmagkgpgfaa
open Go Go.Proofs.Ytphfdmagkgpgfaa.E

/-- The tree that 'awake' looks at, and what becomes of it. -/
def awT : Tr := .mk 66 ⟨#[]⟩ 0 [.mk 50 ⟨#[120]⟩ 2 [.mk 1 ⟨#[]⟩ 1 []], .mk 64 ⟨#[]⟩ 0 [.mk 4 ⟨#[120]⟩ 0 [], .mk 4 ⟨#[121]⟩ 0 []]]
def awU : Tr := .mk 66 ⟨#[]⟩ 0 [.mk 50 ⟨#[120, 49]⟩ 2 [.mk 1 ⟨#[]⟩ 1 []], .mk 64 ⟨#[]⟩ 0 [.mk 4 ⟨#[120, 49]⟩ 0 [], .mk 4 ⟨#[121]⟩ 0 []]]
theorem aw_ren : awT.renamed ⟨#[49]⟩ = awU := by rfl

theorem c12aw : Pf Try.prog 12 [(.agg [.int .i64 66, .str ⟨#[]⟩, .int .i64 0, .sl [(.agg [.int .i64 50, .str ⟨#[120]⟩, .int .i64 2, .sl [(.agg [.int .i64 1, .str ⟨#[]⟩, .int .i64 1, .sl []])]]), (.agg [.int .i64 64, .str ⟨#[]⟩, .int .i64 0, .sl [(.agg [.int .i64 4, .str ⟨#[120]⟩, .int .i64 0, .sl []]), (.agg [.int .i64 4, .str ⟨#[121]⟩, .int .i64 0, .sl []])]])]]), .str ⟨#[49]⟩] (.d (.agg [.int .i64 66, .str ⟨#[]⟩, .int .i64 0, .sl [(.agg [.int .i64 50, .str ⟨#[120, 49]⟩, .int .i64 2, .sl [(.agg [.int .i64 1, .str ⟨#[]⟩, .int .i64 1, .sl []])]]), (.agg [.int .i64 64, .str ⟨#[]⟩, .int .i64 0, .sl [(.agg [.int .i64 4, .str ⟨#[120, 49]⟩, .int .i64 0, .sl []]), (.agg [.int .i64 4, .str ⟨#[121]⟩, .int .i64 0, .sl []])]])]])) := by
  have h := c12 awT ⟨#[49]⟩ (.mk rfl (by decide) rfl (by decide) (by
    intro k hk
    simp at hk
    rcases hk with rfl | rfl
    · exact .mk rfl (by decide) rfl (by decide) (by intro k hk; simp at hk; subst hk; exact .mk rfl (by decide) rfl (by decide) (by simp))
    · exact .mk rfl (by decide) rfl (by decide) (by intro k hk; simp at hk; rcases hk with rfl | rfl <;> exact .mk rfl (by decide) rfl (by decide) (by simp)))) (by decide) (by rfl) (by decide)
  rw [aw_ren] at h
  exact h

set_option maxHeartbeats 1000000 in
theorem c10  : Pf Try.prog 10 [] (.d (.bool true)) := by
  refine pf_body (rvs := [.tmp 0]) [] Try.func10 Try.ntmps10 Try.results10 (fun S0 O0 w0 m0 hm0 => ?_)
  refine G_seq ?_
  refine g_region ?_
  refine sv rfl (y_assign) ?_
  refine GOps_nil ?_
  refine thn_normal ?_
  refine G_seq ?_
  refine g_region ?_
  refine sv rfl (y_buildS pl24 zr24) ?_
  refine sv rfl (y_buildSlice (xs := [.tmp 4]) Try.underlying22 inf24) ?_
  refine sv rfl (y_buildS pl24 zr24) ?_
  refine sv rfl (y_alloc zr24) ?_
  first | refine sa rfl (d_store sz24) ?_ | refine sa rfl (d_store_take sz24) ?_
  refine g_freeze 0 [] (.agg [.int .i64 50, .str ⟨#[120]⟩, .int .i64 2, .sl [(.agg [.int .i64 1, .str ⟨#[]⟩, .int .i64 1, .sl []])]]) rfl ?_
  refine GOps_nil ?_
  refine thn_normal ?_
  refine G_seq ?_
  refine g_region ?_
  first | refine sv rfl (y_load_agg sz24 Try.underlying24 rfl) ?_ | refine sv rfl (y_loadp_agg (by exact sz24) Try.underlying24 rfl) ?_
  refine sv rfl (y_buildS pl24 zr24) ?_
  refine sv rfl (y_buildS pl24 zr24) ?_
  refine sv rfl (y_buildSlice (xs := [.tmp 8, .tmp 9]) Try.underlying22 inf24) ?_
  refine sv rfl (y_buildS pl24 zr24) ?_
  refine sv rfl (y_buildSlice (xs := [.tmp 7, .tmp 11]) Try.underlying22 inf24) ?_
  refine sv rfl (y_buildS pl24 zr24) ?_
  refine sv rfl (y_alloc zr24) ?_
  first | refine sa rfl (d_store sz24) ?_ | refine sa rfl (d_store_take sz24) ?_
  refine g_freeze 0 [] (.agg [.int .i64 66, .str ⟨#[]⟩, .int .i64 0, .sl [(.agg [.int .i64 50, .str ⟨#[120]⟩, .int .i64 2, .sl [(.agg [.int .i64 1, .str ⟨#[]⟩, .int .i64 1, .sl []])]]), (.agg [.int .i64 64, .str ⟨#[]⟩, .int .i64 0, .sl [(.agg [.int .i64 4, .str ⟨#[120]⟩, .int .i64 0, .sl []]), (.agg [.int .i64 4, .str ⟨#[121]⟩, .int .i64 0, .sl []])]])]]) rfl ?_
  refine GOps_nil ?_
  refine thn_normal ?_
  refine G_seq ?_
  refine g_keep [0, 1, 2, 3] ?_
  refine g_region ?_
  first | refine sv rfl (y_load_agg sz24 Try.underlying24 rfl) ?_ | refine sv rfl (y_loadp_agg (by exact sz24) Try.underlying24 rfl) ?_
  refine g_call (xs := [.tmp 14, .const (.string ⟨#[49]⟩)]) rfl (c12aw) ?_
  refine sv rfl (y_alloc zr24) ?_
  first | refine sa rfl (d_store sz24) ?_ | refine sa rfl (d_store_take sz24) ?_
  refine g_freeze 0 [] (.agg [.int .i64 66, .str ⟨#[]⟩, .int .i64 0, .sl [(.agg [.int .i64 50, .str ⟨#[120, 49]⟩, .int .i64 2, .sl [(.agg [.int .i64 1, .str ⟨#[]⟩, .int .i64 1, .sl []])]]), (.agg [.int .i64 64, .str ⟨#[]⟩, .int .i64 0, .sl [(.agg [.int .i64 4, .str ⟨#[120, 49]⟩, .int .i64 0, .sl []]), (.agg [.int .i64 4, .str ⟨#[121]⟩, .int .i64 0, .sl []])]])]]) rfl ?_
  refine GOps_nil ?_
  refine thn_normal ?_
  refine G_seq ?_
  refine g_region ?_
  first | refine sv rfl (y_fieldAddr Try.underlying24 rfl sz22) ?_ | refine sv rfl (y_fieldp_leaf Try.underlying24 rfl sz22) ?_
  first | refine sv rfl (y_load_leaf Try.underlying22) ?_ | refine sv rfl (y_loadp_leaf Try.underlying22) ?_
  refine sv rfl (y_len Try.underlying22) ?_
  refine sv rfl (y_eql) ?_
  refine sv rfl (y_move) ?_
  first | refine sgo rfl (by rfl) (y_fieldAddr Try.underlying24 rfl sz22) ?_ | refine sgo rfl (by rfl) (y_fieldp_leaf Try.underlying24 rfl sz22) ?_
  first | refine sgo rfl (by rfl) (y_load_leaf Try.underlying22) ?_ | refine sgo rfl (by rfl) (y_loadp_leaf Try.underlying22) ?_
  refine sgo rfl (by rfl) (y_indexAddr Try.underlying22 sz24) ?_
  first | refine sgo rfl (by rfl) (y_fieldAddr Try.underlying24 rfl sz9) ?_ | refine sgo rfl (by rfl) (y_fieldp_leaf Try.underlying24 rfl sz9) ?_
  first | refine sgo rfl (by rfl) (y_load_leaf Try.underlying9) ?_ | refine sgo rfl (by rfl) (y_loadp_leaf Try.underlying9) ?_
  refine sgo rfl (by rfl) (y_streq) ?_
  refine sv rfl (y_and) ?_
  refine sv rfl (y_move) ?_
  first | refine sgo rfl (by rfl) (y_fieldAddr Try.underlying24 rfl sz22) ?_ | refine sgo rfl (by rfl) (y_fieldp_leaf Try.underlying24 rfl sz22) ?_
  first | refine sgo rfl (by rfl) (y_load_leaf Try.underlying22) ?_ | refine sgo rfl (by rfl) (y_loadp_leaf Try.underlying22) ?_
  refine sgo rfl (by rfl) (y_indexAddr Try.underlying22 sz24) ?_
  first | refine sgo rfl (by rfl) (y_fieldAddr Try.underlying24 rfl sz22) ?_ | refine sgo rfl (by rfl) (y_fieldp_leaf Try.underlying24 rfl sz22) ?_
  first | refine sgo rfl (by rfl) (y_load_leaf Try.underlying22) ?_ | refine sgo rfl (by rfl) (y_loadp_leaf Try.underlying22) ?_
  refine sgo rfl (by rfl) (y_len Try.underlying22) ?_
  refine sgo rfl (by rfl) (y_eql) ?_
  refine sv rfl (y_and) ?_
  refine sv rfl (y_move) ?_
  first | refine sgo rfl (by rfl) (y_fieldAddr Try.underlying24 rfl sz22) ?_ | refine sgo rfl (by rfl) (y_fieldp_leaf Try.underlying24 rfl sz22) ?_
  first | refine sgo rfl (by rfl) (y_load_leaf Try.underlying22) ?_ | refine sgo rfl (by rfl) (y_loadp_leaf Try.underlying22) ?_
  refine sgo rfl (by rfl) (y_indexAddr Try.underlying22 sz24) ?_
  first | refine sgo rfl (by rfl) (y_fieldAddr Try.underlying24 rfl sz22) ?_ | refine sgo rfl (by rfl) (y_fieldp_leaf Try.underlying24 rfl sz22) ?_
  first | refine sgo rfl (by rfl) (y_load_leaf Try.underlying22) ?_ | refine sgo rfl (by rfl) (y_loadp_leaf Try.underlying22) ?_
  refine sgo rfl (by rfl) (y_indexAddr Try.underlying22 sz24) ?_
  first | refine sgo rfl (by rfl) (y_fieldAddr Try.underlying24 rfl sz9) ?_ | refine sgo rfl (by rfl) (y_fieldp_leaf Try.underlying24 rfl sz9) ?_
  first | refine sgo rfl (by rfl) (y_load_leaf Try.underlying9) ?_ | refine sgo rfl (by rfl) (y_loadp_leaf Try.underlying9) ?_
  refine sgo rfl (by rfl) (y_streq) ?_
  refine sv rfl (y_and) ?_
  refine sv rfl (y_move) ?_
  first | refine sgo rfl (by rfl) (y_fieldAddr Try.underlying24 rfl sz22) ?_ | refine sgo rfl (by rfl) (y_fieldp_leaf Try.underlying24 rfl sz22) ?_
  first | refine sgo rfl (by rfl) (y_load_leaf Try.underlying22) ?_ | refine sgo rfl (by rfl) (y_loadp_leaf Try.underlying22) ?_
  refine sgo rfl (by rfl) (y_indexAddr Try.underlying22 sz24) ?_
  first | refine sgo rfl (by rfl) (y_fieldAddr Try.underlying24 rfl sz22) ?_ | refine sgo rfl (by rfl) (y_fieldp_leaf Try.underlying24 rfl sz22) ?_
  first | refine sgo rfl (by rfl) (y_load_leaf Try.underlying22) ?_ | refine sgo rfl (by rfl) (y_loadp_leaf Try.underlying22) ?_
  refine sgo rfl (by rfl) (y_indexAddr Try.underlying22 sz24) ?_
  first | refine sgo rfl (by rfl) (y_fieldAddr Try.underlying24 rfl sz9) ?_ | refine sgo rfl (by rfl) (y_fieldp_leaf Try.underlying24 rfl sz9) ?_
  first | refine sgo rfl (by rfl) (y_load_leaf Try.underlying9) ?_ | refine sgo rfl (by rfl) (y_loadp_leaf Try.underlying9) ?_
  refine sgo rfl (by rfl) (y_streq) ?_
  refine sv rfl (y_and) ?_
  refine sv rfl (y_assign) ?_
  refine GOps_nil ?_
  refine thn_normal ?_
  refine G_ret ?_
  refine fin1 (by simp) ?_
  exact ⟨by rfl, rfl⟩

set_option maxHeartbeats 1000000 in
theorem c3 (t : Tr) (sfx : ByteArray) (hok : t.Ok) : Pf Try.prog 3 [t.d, .str sfx] (.d (.bool true)) := by
  refine pf_body (rvs := [.tmp 4]) [(0, .d t.d), (1, .d (.str sfx))] Try.func3 Try.ntmps3 Try.results3 (fun S0 O0 w0 m0 hm0 => ?_)
  refine G_seq ?_
  refine g_region ?_
  have hka0 := t.d_agg
  obtain ⟨kop, knm, knu, kks, hka⟩ := hka0
  have h9 := c9 t 300 hok (by decide) (by decide)
  have h12 := fun h1 h2 h3 => c12 t sfx hok h1 h2 h3
  have h13 := fun h1 h2 h3 => c13 t sfx hok h1 h2 h3
  rw [hka] at h9 h12 h13
  rw [hka]
  refine sv rfl (y_box) ?_
  refine g_freeze 0 [] (.agg [.int .i64 kop, .str knm, .int .i64 knu, .sl (kks.map Tr.d)]) rfl ?_
  refine sv rfl (y_assign) ?_
  refine GOps_nil ?_
  refine thn_normal ?_
  refine G_seq ?_
  refine G_seq ?_
  refine g_region ?_
  first | refine sv rfl (y_load_agg sz24 Try.underlying24 rfl) ?_ | refine sv rfl (y_loadp_agg (by exact sz24) Try.underlying24 rfl) ?_
  refine g_call (xs := [.tmp 5, .const (.int .i64 (300))]) rfl (h9) ?_
  refine sv rfl (y_not) ?_
  refine sv rfl (y_move) ?_
  refine sg rfl (fun hg => q_move) ?_
  refine sg rfl (fun hg => strip 9 (by simp only [GS.set, GS.get, List.lookup_cons, Nat.reduceBEq] <;> rfl) hg (q_lenstr Try.underlying9)) ?_
  refine sg rfl (fun hg => strip 10 (by simp only [GS.set, GS.get, List.lookup_cons, Nat.reduceBEq] <;> rfl) hg (q_gtr)) ?_
  refine sv rfl (y_or) ?_
  refine GOps_nil ?_
  refine thn_normal ?_
  refine g_cond (fun hb0 => ?_) (fun hb0 => ?_)
  ·
    refine G_seq ?_
    refine g_region ?_
    refine g_call (xs := []) rfl (c10) ?_
    refine sv rfl (y_assign) ?_
    refine GOps_nil ?_
    refine thn_normal ?_
    refine G_ret ?_
    refine thn_ret ?_
    refine fin1 (by simp) ?_
    exact ⟨by simp, rfl⟩
  ·
    obtain ⟨hfw, hsl⟩ : t.few 300 = true ∧ ¬ ((sfx.size : Int) > 30) := by simpa using hb0
    obtain ⟨hsz, hlg⟩ := Tr.few_size (by decide) hfw
    have hok2 := Tr.ren_ok (sfx := sfx) (by omega) t (fun x => hasB1 x []) hok hlg
    refine G_skip ?_
    refine thn_normal ?_
    refine G_seq ?_
    refine G_drawB 11 rfl (by kernel_rfl) (fun S1 O1 w1 m1 hm1 hm2 => ?_)
    have hB1 : ∀ i, i < m1.length → (List.range m1.length).contains i = true := fun i hi => by simpa using hi
    first | refine bq 0 hB1 rfl (q_load_agg sz24 Try.underlying24 rfl) ?_ | refine bq 0 hB1 rfl (q_loadp_agg (by exact sz24) Try.underlying24 rfl) ?_
    refine bq 1 hB1 rfl (q_move) ?_
    first | refine bq 3 hB1 rfl (q_load_agg sz24 Try.underlying24 rfl) ?_ | refine bq 3 hB1 rfl (q_loadp_agg (by exact sz24) Try.underlying24 rfl) ?_
    refine bq 4 hB1 rfl (q_move) ?_
    refine GB_go ?_
    refine ga1 2 ?_
    refine g_call (xs := [.tmp 14, .tmp 15]) rfl (h12 (by omega) hlg (by omega)) ?_
    refine GOps_nil ⟨rfl, ?_⟩
    refine ga1 5 ?_
    refine g_call (xs := [.tmp 17, .tmp 18]) rfl (h13 (by omega) hlg (by omega)) ?_
    refine GOps_nil ⟨rfl, ?_⟩
    refine ga1 6 ?_
    refine g_call (xs := [.tmp 16, .tmp 19]) rfl (c11n _ (t.renamed sfx) (Nat.le_refl _) hok2) ?_
    refine GOps_nil ⟨rfl, ?_⟩
    refine ga1 7 ?_
    refine sv rfl (y_move) ?_
    refine GOps_nil ⟨rfl, ?_⟩
    refine ga1 8 ?_
    refine g_callg (xs := []) rfl (fun hg => c10) ?_
    refine GOps_nil ⟨rfl, ?_⟩
    refine ga1 9 ?_
    refine sv rfl (y_and) ?_
    refine GOps_nil ⟨rfl, ?_⟩
    refine ga1 10 ?_
    refine sv rfl (y_assign) ?_
    refine GOps_nil ⟨rfl, ?_⟩
    refine GA_done (by kernel_rfl) ?_
    refine thn_normal ?_
    refine G_ret ?_
    refine fin1 (by simp) ?_
    exact ⟨by simp, rfl⟩

set_option maxHeartbeats 1000000 in
theorem c4 (t : Tr) (sfx : ByteArray) (hok : t.Ok) : Pf Try.prog 4 [t.d, .str sfx] (.d (.bool true)) := by
  refine pf_body (rvs := [.tmp 4]) [(0, .d t.d), (1, .d (.str sfx))] Try.func4 Try.ntmps4 Try.results4 (fun S0 O0 w0 m0 hm0 => ?_)
  refine G_seq ?_
  refine g_region ?_
  have hka0 := t.d_agg
  obtain ⟨kop, knm, knu, kks, hka⟩ := hka0
  obtain ⟨rop, rnm, rnu, rks, hra⟩ := (t.renamed sfx).d_agg
  have h9 := c9 t 300 hok (by decide) (by decide)
  have h12 := fun h1 h2 h3 => c12 t sfx hok h1 h2 h3
  have h14 := c14n _ t (t.renamed sfx) (Nat.le_refl _) hok (Tr.ren_shp sfx t _)
  have h15 := c15n _ t (Nat.le_refl _) hok
  have h11 : t.decl = false → Pf Try.prog 11 [t.d, (t.renamed sfx).d] (.d (.bool true)) := fun h => by
    have hs : t.renamed sfx = t := Tr.ren_same sfx t _ h (fun x => rfl)
    rw [hs]; exact c11n _ t (Nat.le_refl _) hok
  rw [hka] at h9 h12 h14 h15 h11
  rw [hra] at h12 h14 h11
  rw [hka]
  refine sv rfl (y_box) ?_
  refine g_freeze 0 [] (.agg [.int .i64 kop, .str knm, .int .i64 knu, .sl (kks.map Tr.d)]) rfl ?_
  refine sv rfl (y_assign) ?_
  refine GOps_nil ?_
  refine thn_normal ?_
  refine G_seq ?_
  refine G_seq ?_
  refine g_region ?_
  first | refine sv rfl (y_load_agg sz24 Try.underlying24 rfl) ?_ | refine sv rfl (y_loadp_agg (by exact sz24) Try.underlying24 rfl) ?_
  refine g_call (xs := [.tmp 6, .const (.int .i64 (300))]) rfl (h9) ?_
  refine sv rfl (y_not) ?_
  refine sv rfl (y_move) ?_
  refine sg rfl (fun hg => q_move) ?_
  refine sg rfl (fun hg => strip 10 (by simp only [GS.set, GS.get, List.lookup_cons, Nat.reduceBEq] <;> rfl) hg (q_lenstr Try.underlying9)) ?_
  refine sg rfl (fun hg => strip 11 (by simp only [GS.set, GS.get, List.lookup_cons, Nat.reduceBEq] <;> rfl) hg (q_gtr)) ?_
  refine sv rfl (y_or) ?_
  refine GOps_nil ?_
  refine thn_normal ?_
  refine g_cond (fun hb0 => ?_) (fun hb0 => ?_)
  ·
    refine G_seq ?_
    refine g_region ?_
    refine g_call (xs := []) rfl (c10) ?_
    refine sv rfl (y_assign) ?_
    refine GOps_nil ?_
    refine thn_normal ?_
    refine G_ret ?_
    refine thn_ret ?_
    refine fin1 (by simp) ?_
    exact ⟨by simp, rfl⟩
  ·
    obtain ⟨hfw, hsl⟩ : t.few 300 = true ∧ ¬ ((sfx.size : Int) > 30) := by simpa using hb0
    obtain ⟨hsz, hlg⟩ := Tr.few_size (by decide) hfw
    refine G_skip ?_
    refine thn_normal ?_
    refine G_seq ?_
    refine g_region ?_
    first | refine sv rfl (y_load_agg sz24 Try.underlying24 rfl) ?_ | refine sv rfl (y_loadp_agg (by exact sz24) Try.underlying24 rfl) ?_
    refine sv rfl (y_move) ?_
    refine g_call (xs := [.tmp 15, .tmp 16]) rfl (h12 (by omega) hlg (by omega)) ?_
    refine sv rfl (y_alloc zr24) ?_
    first | refine sa rfl (d_store sz24) ?_ | refine sa rfl (d_store_take sz24) ?_
    refine g_freeze 0 [] (.agg [.int .i64 rop, .str rnm, .int .i64 rnu, .sl (rks.map Tr.d)]) rfl ?_
    refine GOps_nil ?_
    refine thn_normal ?_
    refine G_seq ?_
    refine g_keep [0, 1, 2, 4, 5] ?_
    refine g_region ?_
    first | refine sv rfl (y_load_agg sz24 Try.underlying24 rfl) ?_ | refine sv rfl (y_loadp_agg (by exact sz24) Try.underlying24 rfl) ?_
    first | refine sv rfl (y_load_agg sz24 Try.underlying24 rfl) ?_ | refine sv rfl (y_loadp_agg (by exact sz24) Try.underlying24 rfl) ?_
    refine g_call (xs := [.tmp 18, .tmp 19]) rfl (h14) ?_
    refine sv rfl (y_move) ?_
    first | refine sg rfl (fun hg => q_load_agg sz24 Try.underlying24 rfl) ?_ | refine sg rfl (fun hg => q_loadp_agg (by exact sz24) Try.underlying24 rfl) ?_
    refine g_callg (xs := [.tmp 22]) rfl (fun hg => h15) ?_
    refine sg rfl (fun hg => strip 23 (by simp only [GS.set, GS.get, List.lookup_cons, Nat.reduceBEq] <;> rfl) hg (q_move)) ?_
    first | refine sg rfl (fun hg => q_load_agg sz24 Try.underlying24 rfl) ?_ | refine sg rfl (fun hg => q_loadp_agg (by exact sz24) Try.underlying24 rfl) ?_
    first | refine sg rfl (fun hg => q_load_agg sz24 Try.underlying24 rfl) ?_ | refine sg rfl (fun hg => q_loadp_agg (by exact sz24) Try.underlying24 rfl) ?_
    refine g_callg (b := ((true == true) && (t.decl == false))) (xs := [.tmp 25, .tmp 26]) rfl (fun hg => h11 (by simpa using hg)) ?_
    refine sg rfl (fun hg => strip 24 (by simp only [GS.set, GS.get, List.lookup_cons, Nat.reduceBEq] <;> rfl) hg (q_or)) ?_
    refine sv rfl (y_and) ?_
    refine sv rfl (y_move) ?_
    refine g_callg (xs := []) rfl (fun hg => c10) ?_
    refine sv rfl (y_and) ?_
    refine sv rfl (y_assign) ?_
    refine GOps_nil ?_
    refine thn_normal ?_
    refine G_ret ?_
    refine fin1 (by simp) ?_
    exact ⟨by simp, rfl⟩

end Go.Proofs.Ytphfdmagkgpgfaa
