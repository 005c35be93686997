/- Contracts of functions. Conditions: none. -/
import Derived.Test.YtphfdmagkgpgfaaWf
namespace Go.Proofs.Ytphfdmagkgpgfaa
open Go Go.Proofs.Ytphfdmagkgpgfaa.E

/-- The instruction that the law tries first. -/
def awk : WIns := ⟨5, 2, 0, 1, 0, ⟨#[43]⟩⟩
theorem encS_awk : encS [awk] = some [4311745029] := by decide +kernel
theorem encR_awk : encR [awk] = .tup [.d (.sl (u64s [4311745029])), .d (.int .i64 0)] := by
  unfold encR
  rw [if_neg (by decide), encS_awk]
theorem number_get : number ⟨#[103, 101, 116]⟩ = 0 := by decide +kernel
theorem c27a : Pf Try.prog 27 [insD [awk]] (.tup [.d (.sl (u64s [4311745029])), .d (.int .i64 0)]) := encR_awk ▸ c27 [awk] (by decide)

theorem c20  : Pf Try.prog 20 [] (.d (.bool true)) := by
  refine pf_body (rvs := [.tmp 0]) [] Try.func20 Try.ntmps20 Try.results20 (fun S0 O0 w0 m0 hm0 => ?_)
  refine G_seq ?_
  refine g_region ?_
  refine sv rfl (y_assign) ?_
  refine GOps_nil ?_
  refine thn_normal ?_
  refine G_seq ?_
  refine g_region ?_
  refine sv rfl (y_buildS pl63 zr63) ?_
  refine sv rfl (y_buildSlice (xs := [.tmp 4]) Try.underlying53 inf63) ?_
  refine g_call (xs := [.tmp 5]) rfl (c27a) ?_
  refine sv rfl (y_move) ?_
  refine sv rfl (y_extract) ?_
  refine sv rfl (y_extract) ?_
  first | refine sv rfl (y_assign_take) ?_ | refine sv rfl (y_assign) ?_
  refine sv rfl (y_assign) ?_
  refine GOps_nil ?_
  refine thn_normal ?_
  refine G_seq ?_
  refine g_region ?_
  refine sv rfl (y_move) ?_
  refine sv rfl (y_eql) ?_
  refine sv rfl (y_move) ?_
  refine sg rfl (fun hg => q_move) ?_
  refine sgo rfl rfl (y_buildSlice (xs := [.const (.int .u64 4311745029)]) Try.underlying45 inf61) ?_
  refine g_callg (xs := [.tmp 12, .tmp 13]) rfl (fun hg => c32 [4311745029] [4311745029] (by decide)) ?_
  refine sv rfl (y_and) ?_
  refine sv rfl (y_move) ?_
  refine g_callg (xs := [.const (.string ⟨#[103, 101, 116]⟩)]) rfl (fun hg => c17 ⟨#[103, 101, 116]⟩) ?_
  refine sg rfl (fun hg => strip 17 (by simp only [GS.set, GS.get, List.lookup_cons, Nat.reduceBEq] <;> rfl) hg (q_eql)) ?_
  refine sv rfl (y_and) ?_
  refine sv rfl (y_assign) ?_
  refine GOps_nil ?_
  refine thn_normal ?_
  refine G_ret ?_
  refine fin1 (by simp) ?_
  exact ⟨by rw [number_get]; rfl, rfl⟩

end Go.Proofs.Ytphfdmagkgpgfaa
