/- Contracts of functions. Conditions: none. -/
import Derived.Test.YtphfdmagkgpgfaaWq
namespace Go.Proofs.Ytphfdmagkgpgfaa
open Go Go.Proofs.Ytphfdmagkgpgfaa.E

def without (name : ByteArray) (xs : List ByteArray) : List ByteArray := xs.filter fun s => !decide (s = name)
theorem without_step {xs : List ByteArray} {name s : ByteArray} {z : Nat} (hs : xs[z]? = some s) : without name (xs.take (z + 1)) = without name (xs.take z) ++ (if s = name then [] else [s]) := by
  unfold without
  rw [List.take_add_one, hs, List.filter_append]
  congr 1
  by_cases h : s = name <;> simp [h]
theorem without_len (name : ByteArray) (xs : List ByteArray) : (without name xs).length ≤ xs.length := List.length_filter_le _ _

theorem c72 (xs : List ByteArray) (name : ByteArray) (hlim : xs.length ≤ 1000000) : Pf Try.prog 72 [.sl (xs.map .str), .str name] (.osl 1 ((without name xs ++ [name]).map .str)) := by
  refine pf_body (rvs := [.tmp 4]) [(0, .d (.sl (xs.map .str))), (1, .d (.str name))] Try.func72 Try.ntmps72 Try.results72 (fun S0 O0 w0 m0 hm0 => ?_)
  refine G_seq ?_
  refine g_region ?_
  refine sv rfl (y_assign) ?_
  refine GOps_nil ?_
  refine thn_normal ?_
  refine G_seq ?_
  refine g_region ?_
  refine sv rfl (y_buildSlice (xs := []) Try.underlying79 inf9) ?_
  first | refine sv rfl (y_assign_take) ?_ | refine sv rfl (y_assign) ?_
  refine GOps_nil ?_
  refine thn_normal ?_
  refine G_seq ?_
  refine G_seq ?_
  refine g_region ?_
  refine sv rfl (y_assign) ?_
  refine GOps_nil ?_
  refine thn_normal ?_
  refine G_block ?_
  refine g_loop (α := Nat × List D) (fun z => ⟨[(6, .d (.int .i64 (z.1 : Nat))), (5, .osl 1 z.2), (1, .d (.str name)), (0, .d (.sl (xs.map .str)))], []⟩) (fun z => xs.length - z.1) (fun z => z.1 ≤ xs.length ∧ z.2 = (without name (xs.take z.1)).map D.str) (0, []) ⟨Nat.zero_le _, by simp [without]⟩ (fun z hz Q' hn0 he0 hr0 => ?_) (le_of)
  obtain ⟨z, l⟩ := z
  obtain ⟨hz1, hl⟩ := hz
  replace hz1 : z ≤ xs.length := hz1
  replace hl : l = (without name (xs.take z)).map D.str := hl
  have hll : l.length ≤ z := by
    rw [hl, List.length_map]
    have := without_len name (xs.take z)
    rw [List.length_take] at this
    omega
  refine G_seq ?_
  refine G_seq ?_
  refine g_region ?_
  refine sv rfl (y_move) ?_
  refine sv rfl (y_move) ?_
  refine sv rfl (y_len Try.underlying79) ?_
  refine sv rfl (y_lss) ?_
  refine GOps_nil ?_
  refine thn_normal ?_
  refine g_cond (fun hb0 => ?_) (fun hb0 => ?_)
  ·
    have hlt : z < xs.length := by simpa using hb0
    obtain ⟨s, hse⟩ : ∃ s, xs[z]? = some s := ⟨_, List.getElem?_eq_getElem hlt⟩
    have hx : (xs.map D.str)[z]? = some (.str s) := by rw [List.getElem?_map, hse]; rfl
    refine G_skip ?_
    refine thn_normal ?_
    refine G_seq ?_
    refine G_block ?_
    refine G_seq ?_
    refine g_region ?_
    refine sv rfl (y_move) ?_
    refine sv rfl (y_move) ?_
    refine sv rfl (y_indexAddr Try.underlying79 sz9) ?_
    first | refine sv rfl (y_load_leaf Try.underlying9) ?_ | refine sv rfl (y_loadp_leaf Try.underlying9) ?_
    refine sv rfl (y_move) ?_
    refine sv rfl (y_strne) ?_
    refine GOps_nil ?_
    refine thn_normal ?_
    refine g_cond (fun hb1 => ?_) (fun hb1 => ?_)
    ·
      have hnn : ¬ s = name := by simpa using hb1
      refine g_region ?_
      first | refine sv rfl (y_move_take) ?_ | refine sv rfl (y_move) ?_
      refine sv rfl (y_move) ?_
      refine sv rfl (y_move) ?_
      refine sv rfl (y_indexAddr Try.underlying79 sz9) ?_
      first | refine sv rfl (y_load_leaf Try.underlying9) ?_ | refine sv rfl (y_loadp_leaf Try.underlying9) ?_
      refine sv rfl (y_buildSlice (xs := [.tmp 24]) Try.underlying79 inf9) ?_
      refine sv rfl (y_append Try.underlying79 inf9) ?_
      first | refine sv rfl (y_assign_take) ?_ | refine sv rfl (y_assign) ?_
      refine GOps_nil ?_
      refine blk_normal ?_
      refine thn_normal ?_
      refine g_keep [0, 1, 4, 5, 6] ?_
      refine g_region ?_
      refine sv rfl (y_move) ?_
      refine sv rfl (y_add) ?_
      refine sv rfl (y_assign) ?_
      refine GOps_nil ?_
      refine hn0 _ (z + 1, l ++ [.str s]) ⟨by show z + 1 ≤ xs.length; omega, by show _ = _; rw [without_step hse, if_neg hnn, hl, List.map_append]; rfl⟩ (by show xs.length - (z + 1) < xs.length - z; omega) le_of
    ·
      have hnn : s = name := by simpa using hb1
      refine G_skip ?_
      refine blk_normal ?_
      refine thn_normal ?_
      refine g_region ?_
      refine sv rfl (y_move) ?_
      refine sv rfl (y_add) ?_
      refine sv rfl (y_assign) ?_
      refine GOps_nil ?_
      refine hn0 _ (z + 1, l) ⟨by show z + 1 ≤ xs.length; omega, by show _ = _; rw [without_step hse, if_pos hnn, List.append_nil]; exact hl⟩ (by show xs.length - (z + 1) < xs.length - z; omega) le_of
  ·
    have hge : z = xs.length := by
      have : ¬ (z : Int) < (xs.map D.str).length := by simpa using hb0
      simp at this
      omega
    refine G_exit ?_
    refine thn_exit ?_
    refine he0 _ _ ?_
    refine blk_exit ?_
    refine thn_normal ?_
    refine G_seq ?_
    refine g_region ?_
    first | refine sv rfl (y_move_take) ?_ | refine sv rfl (y_move) ?_
    refine sv rfl (y_move) ?_
    refine sv rfl (y_buildSlice (xs := [.tmp 28]) Try.underlying79 inf9) ?_
    refine sv rfl (y_append Try.underlying79 inf9) ?_
    first | refine sv rfl (y_assign_take) ?_ | refine sv rfl (y_assign) ?_
    refine GOps_nil ?_
    refine thn_normal ?_
    refine G_ret ?_
    refine fino (by simp) ?_
    exact ⟨by rw [hl, hge, List.take_length, List.map_append]; rfl, rfl⟩

end Go.Proofs.Ytphfdmagkgpgfaa
