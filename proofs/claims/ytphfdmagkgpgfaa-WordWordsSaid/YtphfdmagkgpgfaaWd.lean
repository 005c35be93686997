/- Contracts of functions. Conditions: none. -/
import Derived.Test.YtphfdmagkgpgfaaWc
namespace Go.Proofs.Ytphfdmagkgpgfaa
open Go Go.Proofs.Ytphfdmagkgpgfaa.E
/-- The forms of instructions, two texts each. -/
def formsD : List D := [.str ⟨#[]⟩, .str ⟨#[]⟩, .str ⟨#[115, 101, 116]⟩, .str ⟨#[65, 78]⟩, .str ⟨#[109, 111, 118, 101]⟩, .str ⟨#[65, 66]⟩, .str ⟨#[108, 111, 97, 100]⟩, .str ⟨#[65, 78]⟩, .str ⟨#[115, 116, 111, 114, 101]⟩, .str ⟨#[65, 78]⟩, .str ⟨#[97, 114, 105, 116, 104]⟩, .str ⟨#[65, 66, 67, 84]⟩, .str ⟨#[106, 117, 109, 112]⟩, .str ⟨#[78]⟩, .str ⟨#[122, 101, 114, 111]⟩, .str ⟨#[65, 78]⟩, .str ⟨#[112, 117, 115, 104]⟩, .str ⟨#[65]⟩, .str ⟨#[116, 114, 97, 112]⟩, .str ⟨#[65, 78]⟩, .str ⟨#[101, 110, 116, 101, 114]⟩, .str ⟨#[65, 78]⟩, .str ⟨#[108, 101, 97, 118, 101]⟩, .str ⟨#[65]⟩]
def textsB : List ByteArray := [⟨#[43]⟩, ⟨#[45]⟩, ⟨#[42]⟩, ⟨#[47]⟩, ⟨#[37]⟩, ⟨#[61, 61]⟩, ⟨#[33, 61]⟩, ⟨#[60]⟩, ⟨#[60, 61]⟩, ⟨#[62]⟩, ⟨#[62, 61]⟩, ⟨#[109, 105, 110]⟩, ⟨#[109, 97, 120]⟩, ⟨#[38, 38]⟩, ⟨#[124, 124]⟩, ⟨#[110, 101, 103]⟩, ⟨#[110, 111, 116]⟩]
def textsD : List D := textsB.map .str

theorem c47  : Pf Try.prog 47 [] (.d (.agg formsD)) := by
  refine pf_body (rvs := [.cell 0 85]) [] Try.func47 Try.ntmps47 Try.results47 (fun S0 O0 w0 m0 hm0 => ?_)
  refine G_seq ?_
  refine g_region ?_
  refine sv rfl (y_alloc zr85) ?_
  refine GOps_nil ?_
  refine thn_normal ?_
  refine G_seq ?_
  refine g_region ?_
  refine sv rfl (y_buildS pl84 zr84) ?_
  refine sv rfl (y_buildS pl84 zr84) ?_
  refine sv rfl (y_buildS pl84 zr84) ?_
  refine sv rfl (y_buildS pl84 zr84) ?_
  refine sv rfl (y_buildS pl84 zr84) ?_
  refine sv rfl (y_buildS pl84 zr84) ?_
  refine sv rfl (y_buildS pl84 zr84) ?_
  refine sv rfl (y_buildS pl84 zr84) ?_
  refine sv rfl (y_buildS pl84 zr84) ?_
  refine sv rfl (y_buildS pl84 zr84) ?_
  refine sv rfl (y_buildS pl84 zr84) ?_
  refine sv rfl (y_buildA Try.underlying85 zr85 sz84) ?_
  first | refine sa rfl (d_store sz85) ?_ | refine sa rfl (d_store_take sz85) ?_
  refine GOps_nil ?_
  refine thn_normal ?_
  refine G_ret ?_
  refine findc sz85 Try.underlying85 (by simp) ?_
  exact ⟨rfl, rfl⟩

theorem c48  : Pf Try.prog 48 [] (.osl 1 textsD) := by
  refine pf_body (rvs := [.tmp 0]) [] Try.func48 Try.ntmps48 Try.results48 (fun S0 O0 w0 m0 hm0 => ?_)
  refine G_seq ?_
  refine g_region ?_
  refine sv rfl (y_assign) ?_
  refine GOps_nil ?_
  refine thn_normal ?_
  refine G_seq ?_
  refine g_region ?_
  refine sv rfl (y_buildSlice (xs := [.const (.string ⟨#[43]⟩), .const (.string ⟨#[45]⟩), .const (.string ⟨#[42]⟩), .const (.string ⟨#[47]⟩), .const (.string ⟨#[37]⟩), .const (.string ⟨#[61, 61]⟩), .const (.string ⟨#[33, 61]⟩), .const (.string ⟨#[60]⟩), .const (.string ⟨#[60, 61]⟩), .const (.string ⟨#[62]⟩), .const (.string ⟨#[62, 61]⟩), .const (.string ⟨#[109, 105, 110]⟩), .const (.string ⟨#[109, 97, 120]⟩), .const (.string ⟨#[38, 38]⟩), .const (.string ⟨#[124, 124]⟩), .const (.string ⟨#[110, 101, 103]⟩), .const (.string ⟨#[110, 111, 116]⟩)]) Try.underlying79 inf9) ?_
  first | refine sv rfl (y_assign_take) ?_ | refine sv rfl (y_assign) ?_
  refine GOps_nil ?_
  refine thn_normal ?_
  refine G_ret ?_
  refine fino (by simp) ?_
  exact ⟨rfl, rfl⟩

theorem c49 (x : Int) : Pf Try.prog 49 [.int .i64 x] (.d (.bool (decide (x ≥ 1) && decide (x ≤ 11)))) := by
  refine pf_body (rvs := [.tmp 2]) [(0, .d (.int .i64 x))] Try.func49 Try.ntmps49 Try.results49 (fun S0 O0 w0 m0 hm0 => ?_)
  refine G_seq ?_
  refine g_region ?_
  refine sv rfl (y_assign) ?_
  refine GOps_nil ?_
  refine thn_normal ?_
  refine G_seq ?_
  refine g_region ?_
  refine sv rfl (y_move) ?_
  refine sv rfl (y_geq) ?_
  refine sv rfl (y_move) ?_
  refine sg rfl (fun hg => q_move) ?_
  refine sg rfl (fun hg => strip 6 (by simp only [GS.set, GS.get, List.lookup_cons, Nat.reduceBEq] <;> rfl) hg (q_leq)) ?_
  refine sv rfl (y_and) ?_
  refine sv rfl (y_assign) ?_
  refine GOps_nil ?_
  refine thn_normal ?_
  refine G_ret ?_
  refine fin1 (by simp) ?_
  exact ⟨rfl, rfl⟩

theorem c50 (x : Int) : Pf Try.prog 50 [.int .i64 x] (.d (.bool (decide (x ≥ 0) && decide (x ≤ 255)))) := by
  refine pf_body (rvs := [.tmp 2]) [(0, .d (.int .i64 x))] Try.func50 Try.ntmps50 Try.results50 (fun S0 O0 w0 m0 hm0 => ?_)
  refine G_seq ?_
  refine g_region ?_
  refine sv rfl (y_assign) ?_
  refine GOps_nil ?_
  refine thn_normal ?_
  refine G_seq ?_
  refine g_region ?_
  refine sv rfl (y_move) ?_
  refine sv rfl (y_geq) ?_
  refine sv rfl (y_move) ?_
  refine sg rfl (fun hg => q_move) ?_
  refine sg rfl (fun hg => strip 6 (by simp only [GS.set, GS.get, List.lookup_cons, Nat.reduceBEq] <;> rfl) hg (q_leq)) ?_
  refine sv rfl (y_and) ?_
  refine sv rfl (y_assign) ?_
  refine GOps_nil ?_
  refine thn_normal ?_
  refine G_ret ?_
  refine fin1 (by simp) ?_
  exact ⟨rfl, rfl⟩

theorem c81 (s : ByteArray) (c : Int) : Pf Try.prog 81 [.str s, .int .u8 c] (.d (.int .i64 (idxB s c.toNat.toUInt8))) := by
  refine pf_body (rvs := [.tmp 4]) [(0, .d (.str s)), (1, .d (.int .u8 c))] Try.func81 Try.ntmps81 Try.results81 (fun S0 O0 w0 m0 hm0 => ?_)
  refine G_seq ?_
  refine g_region ?_
  refine sv rfl (y_assign) ?_
  refine GOps_nil ?_
  refine thn_normal ?_
  refine G_seq ?_
  refine g_region ?_
  refine sv rfl (y_move) ?_
  refine sv rfl (y_move) ?_
  refine sv rfl (Yld_pure rfl (of_decide_eq_true rfl) (Q_indexByte (b := s) (c := c) Try.func82 rfl rfl (by kernel_rfl) (by kernel_rfl) rfl rfl)) ?_
  refine sv rfl (y_assign) ?_
  refine GOps_nil ?_
  refine thn_normal ?_
  refine G_ret ?_
  refine fin1 (by simp) ?_
  exact ⟨rfl, rfl⟩

theorem c75 (s : ByteArray) (c : Int) : Pf Try.prog 75 [.str s, .int .u8 c] (.d (.int .i64 (idxB s c.toNat.toUInt8))) := by
  refine pf_body (rvs := [.tmp 4]) [(0, .d (.str s)), (1, .d (.int .u8 c))] Try.func75 Try.ntmps75 Try.results75 (fun S0 O0 w0 m0 hm0 => ?_)
  refine G_seq ?_
  refine g_region ?_
  refine sv rfl (y_assign) ?_
  refine GOps_nil ?_
  refine thn_normal ?_
  refine G_seq ?_
  refine g_region ?_
  refine sv rfl (y_move) ?_
  refine sv rfl (y_move) ?_
  refine g_call (xs := [.tmp 5, .tmp 6]) rfl (c81 s c) ?_
  refine sv rfl (y_assign) ?_
  refine GOps_nil ?_
  refine thn_normal ?_
  refine G_ret ?_
  refine fin1 (by simp) ?_
  exact ⟨rfl, rfl⟩

theorem c52 (v s : ByteArray) (c : Int) : Pf Try.prog 52 [.agg [.str v, .str s], .int .u8 c] (.d (.bool (decide (idxB s c.toNat.toUInt8 ≥ 0)))) := by
  refine pf_body (rvs := [.tmp 4]) [(0, .d (.agg [.str v, .str s])), (1, .d (.int .u8 c))] Try.func52 Try.ntmps52 Try.results52 (fun S0 O0 w0 m0 hm0 => ?_)
  refine G_seq ?_
  refine g_region ?_
  refine sv rfl (y_box) ?_
  refine sv rfl (y_assign) ?_
  refine GOps_nil ?_
  refine thn_normal ?_
  refine G_seq ?_
  refine g_region ?_
  first | refine sv rfl (y_fieldAddr Try.underlying84 rfl sz9) ?_ | refine sv rfl (y_fieldp_leaf Try.underlying84 rfl sz9) ?_
  first | refine sv rfl (y_load_leaf Try.underlying9) ?_ | refine sv rfl (y_loadp_leaf Try.underlying9) ?_
  refine sv rfl (y_move) ?_
  refine g_call (xs := [.tmp 6, .tmp 7]) rfl (c75 s c) ?_
  refine sv rfl (y_geq) ?_
  refine sv rfl (y_assign) ?_
  refine GOps_nil ?_
  refine thn_normal ?_
  refine G_ret ?_
  refine fin1 (by simp) ?_
  exact ⟨rfl, rfl⟩

end Go.Proofs.Ytphfdmagkgpgfaa
