/- Contracts of functions. Conditions: none. -/
import Derived.Test.YtphfdmagkgpgfaaWd
namespace Go.Proofs.Ytphfdmagkgpgfaa
open Go Go.Proofs.Ytphfdmagkgpgfaa.E

def isStr (name : ByteArray) : D → Bool
  | .str s => decide (name = s)
  | _ => false

theorem c51 (xs : List ByteArray) (name : ByteArray) (hlim : xs.length ≤ 1000000) : Pf Try.prog 51 [.sl (xs.map .str), .str name] (.d (.int .i64 (idxI (isStr name) (xs.map .str)))) := by
  refine pf_body (rvs := [.tmp 4]) [(0, .d (.sl (xs.map .str))), (1, .d (.str name))] Try.func51 Try.ntmps51 Try.results51 (fun S0 O0 w0 m0 hm0 => ?_)
  refine G_seq ?_
  refine g_region ?_
  refine sv rfl (y_assign) ?_
  refine GOps_nil ?_
  refine thn_normal ?_
  refine G_seq ?_
  refine G_seq ?_
  refine g_region ?_
  refine sv rfl (y_move) ?_
  refine sv rfl (y_len Try.underlying79) ?_
  refine sv rfl (y_move) ?_
  refine GOps_nil ?_
  refine thn_normal ?_
  refine G_block ?_
  refine g_loop (α := Nat) (fun z => ⟨[(8, .d (.int .i64 (z : Nat))), (7, .d (.int .i64 ((xs.map D.str).length : Nat))), (6, .d (.sl (xs.map .str))), (1, .d (.str name)), (0, .d (.sl (xs.map .str)))], []⟩) (fun z => xs.length - z) (fun z => z ≤ xs.length ∧ ∀ i, i < z → ∀ x, (xs.map D.str)[i]? = some x → isStr name x = false) 0 ⟨Nat.zero_le _, by simp⟩ (fun z hz Q' hn0 he0 hr0 => ?_) (le_of)
  obtain ⟨hz1, hz2⟩ := hz
  refine G_seq ?_
  refine g_region ?_
  refine sv rfl (y_lss) ?_
  refine GOps_nil ?_
  refine thn_normal ?_
  refine G_seq ?_
  refine g_cond (fun hb0 => ?_) (fun hb0 => ?_)
  ·
    have hlt : z < xs.length := by simpa using hb0
    obtain ⟨s, hse⟩ : ∃ s, xs[z] = s := ⟨_, rfl⟩
    have hx : (xs.map D.str)[z]? = some (.str s) := by rw [List.getElem?_map, List.getElem?_eq_getElem hlt, hse]; rfl
    refine G_skip ?_
    refine thn_normal ?_
    refine G_seq ?_
    refine G_block ?_
    refine G_seq ?_
    refine g_region ?_
    refine sv rfl (y_move) ?_
    refine sv rfl (y_assign) ?_
    refine GOps_nil ?_
    refine thn_normal ?_
    refine G_seq ?_
    refine g_region ?_
    refine sv rfl (y_move) ?_
    refine sv rfl (y_move) ?_
    refine sv rfl (y_move) ?_
    refine sv rfl (y_indexAddr Try.underlying79 sz9) ?_
    first | refine sv rfl (y_load_leaf Try.underlying9) ?_ | refine sv rfl (y_loadp_leaf Try.underlying9) ?_
    refine sv rfl (y_streq) ?_
    refine GOps_nil ?_
    refine thn_normal ?_
    refine g_cond (fun hb1 => ?_) (fun hb1 => ?_)
    ·
      refine G_seq ?_
      refine g_region ?_
      refine sv rfl (y_move) ?_
      refine sv rfl (y_assign) ?_
      refine GOps_nil ?_
      refine thn_normal ?_
      refine G_ret ?_
      refine blk_ret ?_
      refine thn_ret ?_
      refine hr0 _ ?_
      refine blk_ret ?_
      refine thn_ret ?_
      exact fin1 (by simp) ⟨idx_found hz2 hx hb1, rfl⟩
    ·
      refine G_skip ?_
      refine blk_normal ?_
      refine thn_normal ?_
      refine g_region ?_
      refine sv rfl (y_add) ?_
      refine sv rfl (y_move) ?_
      refine GOps_nil ?_
      refine hn0 _ (z + 1) ⟨by omega, idx_step hz2 hx hb1⟩ (by omega) le_of
  ·
    have hge : z = xs.length := by
      have : ¬ (z : Int) < (xs.map D.str).length := by simpa using hb0
      simp at this
      omega
    refine G_exit ?_
    refine thn_exit ?_
    refine he0 _ _ ?_
    refine blk_exit ?_
    refine thn_normal ?_
    refine G_seq ?_
    refine g_region ?_
    refine sv rfl (y_assign) ?_
    refine GOps_nil ?_
    refine thn_normal ?_
    refine G_ret ?_
    exact fin1 (by simp) ⟨idx_none (by rw [List.length_map]; exact hge ▸ hz2), rfl⟩


/-- Whole numbers, as data. -/
def u64s (xs : List Int) : List D := xs.map (.int .u64)
theorem take_eq_succ {xs ys : List Int} {z : Nat} {x y : Int} (h : xs.take z = ys.take z) (hx : xs[z]? = some x) (hy : ys[z]? = some y) (he : x = y) : xs.take (z + 1) = ys.take (z + 1) := by
  rw [List.take_add_one, List.take_add_one, h, hx, hy, he]

theorem c32 (xs ys : List Int) (hlim : xs.length ≤ 1000000) : Pf Try.prog 32 [.sl (u64s xs), .sl (u64s ys)] (.d (.bool (decide (xs = ys)))) := by
  refine pf_body (rvs := [.tmp 4]) [(0, .d (.sl (u64s xs))), (1, .d (.sl (u64s ys)))] Try.func32 Try.ntmps32 Try.results32 (fun S0 O0 w0 m0 hm0 => ?_)
  refine G_seq ?_
  refine g_region ?_
  refine sv rfl (y_assign) ?_
  refine GOps_nil ?_
  refine thn_normal ?_
  refine G_seq ?_
  refine G_seq ?_
  refine g_region ?_
  refine sv rfl (y_move) ?_
  refine sv rfl (y_len Try.underlying45) ?_
  refine sv rfl (y_move) ?_
  refine sv rfl (y_len Try.underlying45) ?_
  refine sv rfl (y_neq) ?_
  refine GOps_nil ?_
  refine thn_normal ?_
  refine g_cond (fun hb0 => ?_) (fun hb0 => ?_)
  ·
    have hne : xs ≠ ys := fun h => by subst h; simp at hb0
    refine G_seq ?_
    refine g_region ?_
    refine sv rfl (y_assign) ?_
    refine GOps_nil ?_
    refine thn_normal ?_
    refine G_ret ?_
    refine thn_ret ?_
    refine fin1 (by simp) ?_
    exact ⟨by rw [decide_eq_false hne], rfl⟩
  ·
    have hleq : xs.length = ys.length := by simp [u64s] at hb0; omega
    refine G_skip ?_
    refine thn_normal ?_
    refine G_seq ?_
    refine G_seq ?_
    refine g_region ?_
    refine sv rfl (y_move) ?_
    refine sv rfl (y_len Try.underlying45) ?_
    refine sv rfl (y_move) ?_
    refine GOps_nil ?_
    refine thn_normal ?_
    refine G_block ?_
    refine g_loop (α := Nat) (fun z => ⟨[(13, .d (.int .i64 (z : Nat))), (12, .d (.int .i64 ((u64s xs).length : Nat))), (11, .d (.sl (u64s xs))), (1, .d (.sl (u64s ys))), (0, .d (.sl (u64s xs)))], []⟩) (fun z => xs.length - z) (fun z => z ≤ xs.length ∧ xs.take z = ys.take z) 0 ⟨Nat.zero_le _, by simp⟩ (fun z hz Q' hn0 he0 hr0 => ?_) (le_of)
    obtain ⟨hz1, hz2⟩ := hz
    refine G_seq ?_
    refine g_region ?_
    refine sv rfl (y_lss) ?_
    refine GOps_nil ?_
    refine thn_normal ?_
    refine G_seq ?_
    refine g_cond (fun hb1 => ?_) (fun hb1 => ?_)
    ·
      have hlt : z < xs.length := by simpa [u64s] using hb1
      have hlt2 : z < ys.length := by omega
      have hx : (u64s xs)[z]? = some (.int .u64 xs[z]) := by rw [u64s, List.getElem?_map, List.getElem?_eq_getElem hlt]; rfl
      have hy : (u64s ys)[z]? = some (.int .u64 ys[z]) := by rw [u64s, List.getElem?_map, List.getElem?_eq_getElem hlt2]; rfl
      refine G_skip ?_
      refine thn_normal ?_
      refine G_seq ?_
      refine G_block ?_
      refine G_seq ?_
      refine g_region ?_
      refine sv rfl (y_move) ?_
      refine sv rfl (y_assign) ?_
      refine GOps_nil ?_
      refine thn_normal ?_
      refine G_seq ?_
      refine G_draw 9 [0, 1, 2, 3, 4, 5, 6, 7, 8] rfl rfl (by kernel_rfl) ?_
      refine sq rfl (q_move) ?_
      refine sq rfl (q_move) ?_
      refine sq rfl (q_indexAddr Try.underlying45 sz61) ?_
      first | refine sq rfl (q_load_leaf Try.underlying61) ?_ | refine sq rfl (q_loadp_leaf Try.underlying61) ?_
      refine sq rfl (q_move) ?_
      refine sq rfl (q_move) ?_
      refine sq rfl (q_indexAddr Try.underlying45 sz61) ?_
      first | refine sq rfl (q_load_leaf Try.underlying61) ?_ | refine sq rfl (q_loadp_leaf Try.underlying61) ?_
      refine sq rfl (q_neq) ?_
      refine GQ_nil (by kernel_rfl) ?_
      refine thn_normal ?_
      refine g_cond (fun hb2 => ?_) (fun hb2 => ?_)
      ·
        have hne : xs ≠ ys := fun h => by subst h; simp at hb2
        refine G_seq ?_
        refine g_region ?_
        refine sv rfl (y_assign) ?_
        refine GOps_nil ?_
        refine thn_normal ?_
        refine G_ret ?_
        refine blk_ret ?_
        refine thn_ret ?_
        refine hr0 _ ?_
        refine blk_ret ?_
        refine thn_ret ?_
        refine fin1 (by simp) ?_
        exact ⟨by rw [decide_eq_false hne], rfl⟩
      ·
        refine G_skip ?_
        refine blk_normal ?_
        refine thn_normal ?_
        refine g_region ?_
        refine sv rfl (y_add) ?_
        refine sv rfl (y_move) ?_
        refine GOps_nil ?_
        refine hn0 _ (z + 1) ⟨by omega, take_eq_succ hz2 (List.getElem?_eq_getElem hlt) (List.getElem?_eq_getElem hlt2) (by simpa using hb2)⟩ (by omega) le_of
    ·
      have hge : z = xs.length := by
        have : ¬ (z : Int) < (u64s xs).length := by simpa using hb1
        simp [u64s] at this
        omega
      refine G_exit ?_
      refine thn_exit ?_
      refine he0 _ _ ?_
      refine blk_exit ?_
      refine thn_normal ?_
      refine G_seq ?_
      refine g_region ?_
      refine sv rfl (y_assign) ?_
      refine GOps_nil ?_
      refine thn_normal ?_
      refine G_ret ?_
      refine fin1 (by simp) ?_
      exact ⟨by rw [decide_eq_true]; rw [hge, List.take_length, hleq, List.take_length] at hz2; exact hz2, rfl⟩

end Go.Proofs.Ytphfdmagkgpgfaa
