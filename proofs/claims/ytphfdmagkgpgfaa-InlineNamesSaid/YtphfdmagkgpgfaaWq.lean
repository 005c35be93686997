/- Contracts of functions. Conditions: none. -/
import Derived.Test.YtphfdmagkgpgfaaWp
namespace Go.Proofs.Ytphfdmagkgpgfaa
open Go Go.Proofs.Ytphfdmagkgpgfaa.E

def hasB1 (name : ByteArray) (xs : List ByteArray) : Bool := xs.any fun s => decide (s = name)
theorem mem_step {xs : List ByteArray} {name s : ByteArray} {z : Nat} (h : ∀ i, i < z → xs[i]? ≠ some name) (hs : xs[z]? = some s) (hn : ¬ s = name) : ∀ i, i < z + 1 → xs[i]? ≠ some name := fun i hi => by
  by_cases e : i = z
  · subst e; rw [hs]; intro h; injection h with h; exact hn h
  · exact h i (by omega)
theorem has_true {xs : List ByteArray} {name : ByteArray} {z : Nat} (h : xs[z]? = some name) : hasB1 name xs = true := List.any_eq_true.2 ⟨name, List.mem_of_getElem? h, by simp⟩
theorem has_false {xs : List ByteArray} {name : ByteArray} (h : ∀ i, i < xs.length → xs[i]? ≠ some name) : hasB1 name xs = false := List.any_eq_false.2 fun s hs => by
  obtain ⟨i, hi⟩ := List.mem_iff_getElem?.1 hs
  intro he
  have hsn : s = name := by simpa using he
  exact h i (List.getElem?_eq_some_iff.1 hi).1 (by rw [hi, hsn])

theorem c71 (xs : List ByteArray) (name : ByteArray) (hlim : xs.length ≤ 1000000) : Pf Try.prog 71 [.sl (xs.map .str), .str name] (.d (.bool (hasB1 name xs))) := by
  refine pf_body (rvs := [.tmp 4]) [(0, .d (.sl (xs.map .str))), (1, .d (.str name))] Try.func71 Try.ntmps71 Try.results71 (fun S0 O0 w0 m0 hm0 => ?_)
  refine G_seq ?_
  refine g_region ?_
  refine sv rfl (y_assign) ?_
  refine GOps_nil ?_
  refine thn_normal ?_
  refine G_seq ?_
  refine G_seq ?_
  refine g_region ?_
  refine sv rfl (y_assign) ?_
  refine GOps_nil ?_
  refine thn_normal ?_
  refine G_block ?_
  refine g_loop (α := Nat) (fun z => ⟨[(5, .d (.int .i64 (z : Nat))), (1, .d (.str name)), (0, .d (.sl (xs.map .str)))], []⟩) (fun z => xs.length - z) (fun z => z ≤ xs.length ∧ ∀ i, i < z → xs[i]? ≠ some name) 0 ⟨Nat.zero_le _, by simp⟩ (fun z hz Q' hn0 he0 hr0 => ?_) (le_of)
  obtain ⟨hz1, hz2⟩ := hz
  refine G_seq ?_
  refine G_seq ?_
  refine g_region ?_
  refine sv rfl (y_move) ?_
  refine sv rfl (y_move) ?_
  refine sv rfl (y_len Try.underlying79) ?_
  refine sv rfl (y_lss) ?_
  refine GOps_nil ?_
  refine thn_normal ?_
  refine g_cond (fun hb0 => ?_) (fun hb0 => ?_)
  ·
    have hlt : z < xs.length := by simpa using hb0
    obtain ⟨s, hse⟩ : ∃ s, xs[z]? = some s := ⟨_, List.getElem?_eq_getElem hlt⟩
    have hx : (xs.map D.str)[z]? = some (.str s) := by rw [List.getElem?_map, hse]; rfl
    refine G_skip ?_
    refine thn_normal ?_
    refine G_seq ?_
    refine G_block ?_
    refine G_seq ?_
    refine g_region ?_
    refine sv rfl (y_move) ?_
    refine sv rfl (y_move) ?_
    refine sv rfl (y_indexAddr Try.underlying79 sz9) ?_
    first | refine sv rfl (y_load_leaf Try.underlying9) ?_ | refine sv rfl (y_loadp_leaf Try.underlying9) ?_
    refine sv rfl (y_move) ?_
    refine sv rfl (y_streq) ?_
    refine GOps_nil ?_
    refine thn_normal ?_
    refine g_cond (fun hb1 => ?_) (fun hb1 => ?_)
    ·
      have hnn : s = name := by simpa using hb1
      refine G_seq ?_
      refine g_region ?_
      refine sv rfl (y_assign) ?_
      refine GOps_nil ?_
      refine thn_normal ?_
      refine G_ret ?_
      refine blk_ret ?_
      refine thn_ret ?_
      refine hr0 _ ?_
      refine blk_ret ?_
      refine thn_ret ?_
      refine fin1 (by simp) ?_
      exact ⟨by rw [has_true (hnn ▸ hse)], rfl⟩
    ·
      have hnn : ¬ s = name := by simpa using hb1
      refine G_skip ?_
      refine blk_normal ?_
      refine thn_normal ?_
      refine g_region ?_
      refine sv rfl (y_move) ?_
      refine sv rfl (y_add) ?_
      refine sv rfl (y_assign) ?_
      refine GOps_nil ?_
      refine hn0 _ (z + 1) ⟨by omega, mem_step hz2 hse hnn⟩ (by omega) le_of
  ·
    have hge : z = xs.length := by
      have : ¬ (z : Int) < (xs.map D.str).length := by simpa using hb0
      simp at this
      omega
    refine G_exit ?_
    refine thn_exit ?_
    refine he0 _ _ ?_
    refine blk_exit ?_
    refine thn_normal ?_
    refine G_seq ?_
    refine g_region ?_
    refine sv rfl (y_assign) ?_
    refine GOps_nil ?_
    refine thn_normal ?_
    refine G_ret ?_
    refine fin1 (by simp) ?_
    exact ⟨by rw [has_false (hge ▸ hz2)], rfl⟩

end Go.Proofs.Ytphfdmagkgpgfaa
