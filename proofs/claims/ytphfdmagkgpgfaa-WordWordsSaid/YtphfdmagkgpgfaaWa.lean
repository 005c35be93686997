/- Contracts of functions. Conditions: none. -/
import Derived.Test.YtphfdmagkgpgfaaTy
import Derived.Test.YtphfdmagkgpgfaaE14
namespace Go.Proofs.Ytphfdmagkgpgfaa
open Go Go.Proofs.Ytphfdmagkgpgfaa.E
theorem c44 (xs : List D) (g : FuncId) (fa fc : List D) (p : D → Bool) (hlim : xs.length ≤ 140737488355328) (hel : ∀ x ∈ xs, ∃ dx, x = .agg dx ∧ dx.length = 3) 
    (hcb : ∀ x ∈ xs, Pf Try.prog g (fa ++ [x] ++ fc) (.d (.bool (p x)))) : Pf Try.prog 44 [.sl xs, .fn (.func g) fa fc] (.d (.int .i64 (idxI p xs))) := by
  refine pf_body (rvs := [.tmp 4]) [(0, .d (.sl xs)), (1, .d (.fn (.func g) fa fc))] Try.func44 Try.ntmps44 Try.results44 (fun S0 O0 w0 m0 hm0 => ?_)
  refine G_seq ?_
  refine g_region ?_
  refine sv rfl (y_assign) ?_
  refine GOps_nil ?_
  refine thn_normal ?_
  refine G_seq ?_
  refine G_seq ?_
  refine g_region ?_
  refine sv rfl (y_move) ?_
  refine sv rfl (y_len Try.underlying31) ?_
  refine sv rfl (y_move) ?_
  refine GOps_nil ?_
  refine thn_normal ?_
  refine G_block ?_
  refine g_loop (α := Nat) (fun z => ⟨[(8, .d (.int .i64 (z : Nat))), (7, .d (.int .i64 (xs.length : Nat))), (6, .d (.sl xs)), (1, .d (.fn (.func g) fa fc)), (0, .d (.sl xs))], []⟩) (fun z => xs.length - z) (fun z => z ≤ xs.length ∧ ∀ i, i < z → ∀ x, xs[i]? = some x → p x = false) 0 ⟨Nat.zero_le _, by simp⟩ (fun z hz Q' hn0 he0 hr0 => ?_) (le_of)
  obtain ⟨hz1, hz2⟩ := hz
  refine G_seq ?_
  refine g_region ?_
  refine sv rfl (y_lss) ?_
  refine GOps_nil ?_
  refine thn_normal ?_
  refine G_seq ?_
  refine g_cond (fun hb0 => ?_) (fun hb0 => ?_)
  ·
    have hlt : z < xs.length := by simpa using hb0
    obtain ⟨x, hx⟩ : ∃ x, xs[z]? = some x := ⟨_, List.getElem?_eq_getElem hlt⟩
    have hmem := List.mem_of_getElem? hx
    refine G_skip ?_
    refine thn_normal ?_
    refine G_seq ?_
    refine G_block ?_
    refine G_seq ?_
    refine g_region ?_
    refine sv rfl (y_move) ?_
    refine sv rfl (y_assign) ?_
    refine GOps_nil ?_
    refine thn_normal ?_
    refine G_seq ?_
    refine g_region ?_
    refine sv rfl (y_move) ?_
    refine sv rfl (y_move) ?_
    refine sv rfl (y_move) ?_
    obtain ⟨dx, rfl, hdx⟩ := hel x hmem
    refine sv rfl (y_indexAddr Try.underlying31 sz34) ?_
    refine sv rfl (y_loadp_agg (by rw [hdx]; exact sz34) Try.underlying34 rfl) ?_
    refine g_call (xs := [.tmp 15]) rfl (hcb (.agg dx) hmem) ?_
    refine GOps_nil ?_
    refine thn_normal ?_
    refine g_cond (fun hb1 => ?_) (fun hb1 => ?_)
    ·
      refine G_seq ?_
      refine g_region ?_
      refine sv rfl (y_move) ?_
      refine sv rfl (y_assign) ?_
      refine GOps_nil ?_
      refine thn_normal ?_
      refine G_ret ?_
      refine blk_ret ?_
      refine thn_ret ?_
      refine hr0 _ ?_
      refine blk_ret ?_
      refine thn_ret ?_
      exact fin1 (by simp) ⟨idx_found hz2 hx hb1, rfl⟩
    ·
      refine G_skip ?_
      refine blk_normal ?_
      refine thn_normal ?_
      refine g_region ?_
      refine sv rfl (y_add) ?_
      refine sv rfl (y_move) ?_
      refine GOps_nil ?_
      refine hn0 _ (z + 1) ⟨by omega, idx_step hz2 hx hb1⟩ (by omega) le_of
  ·
    have hge : z = xs.length := by
      have : ¬ (z : Int) < xs.length := by simpa using hb0
      omega
    refine G_exit ?_
    refine thn_exit ?_
    refine he0 _ _ ?_
    refine blk_exit ?_
    refine thn_normal ?_
    refine G_seq ?_
    refine g_region ?_
    refine sv rfl (y_assign) ?_
    refine GOps_nil ?_
    refine thn_normal ?_
    refine G_ret ?_
    exact fin1 (by simp) ⟨idx_none (hge ▸ hz2), rfl⟩
theorem c18 (xs : List D) (g : FuncId) (fa fc : List D) (p : D → Bool) (hlim : xs.length ≤ 140737488355328) (hel : ∀ x ∈ xs, ∃ dx, x = .agg dx ∧ dx.length = 3) 
    (hcb : ∀ x ∈ xs, Pf Try.prog g (fa ++ [x] ++ fc) (.d (.bool (p x)))) : Pf Try.prog 18 [.sl xs, .fn (.func g) fa fc] (.d (.bool (xs.any p))) := by
  refine pf_body (rvs := [.tmp 4]) [(0, .d (.sl xs)), (1, .d (.fn (.func g) fa fc))] Try.func18 Try.ntmps18 Try.results18 (fun S0 O0 w0 m0 hm0 => ?_)
  refine G_seq ?_
  refine g_region ?_
  refine sv rfl (y_assign) ?_
  refine GOps_nil ?_
  refine thn_normal ?_
  refine G_seq ?_
  refine g_region ?_
  refine sv rfl (y_move) ?_
  refine sv rfl (y_move) ?_
  refine g_call (xs := [.tmp 5, .tmp 6]) rfl (c44 xs g fa fc p hlim hel hcb) ?_
  refine sv rfl (y_geq) ?_
  refine sv rfl (y_assign) ?_
  refine GOps_nil ?_
  refine thn_normal ?_
  refine G_ret ?_
  refine fin1 (by simp) ?_
  exact ⟨by rw [idx_any], rfl⟩
end Go.Proofs.Ytphfdmagkgpgfaa
