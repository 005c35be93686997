/- Contracts of functions. Conditions: none. -/
import Derived.Test.YtphfdmagkgpgfaaWl
import Derived.ChangeKeysEq
namespace Go.Proofs.Ytphfdmagkgpgfaa
open Go Go.Proofs.Ytphfdmagkgpgfaa.E
theorem c46 (xs : List D) (g : FuncId) (fa fc : List D) (p : D → Bool) (hlim : xs.length ≤ 140737488355328) (hel : ∀ x ∈ xs, ∃ dx, x = .agg dx ∧ dx.length = 6) 
    (hcb : ∀ x ∈ xs, Pf Try.prog g (fa ++ [x] ++ fc) (.d (.bool (p x)))) : Pf Try.prog 46 [.sl xs, .fn (.func g) fa fc] (.d (.int .i64 (idxI p xs))) := by
  refine pf_body (rvs := [.tmp 4]) [(0, .d (.sl xs)), (1, .d (.fn (.func g) fa fc))] Try.func46 Try.ntmps46 Try.results46 (fun S0 O0 w0 m0 hm0 => ?_)
  refine G_seq ?_
  refine g_region ?_
  refine sv rfl (y_assign) ?_
  refine GOps_nil ?_
  refine thn_normal ?_
  refine G_seq ?_
  refine G_seq ?_
  refine g_region ?_
  refine sv rfl (y_move) ?_
  refine sv rfl (y_len Try.underlying44) ?_
  refine sv rfl (y_move) ?_
  refine GOps_nil ?_
  refine thn_normal ?_
  refine G_block ?_
  refine g_loop (α := Nat) (fun z => ⟨[(8, .d (.int .i64 (z : Nat))), (7, .d (.int .i64 (xs.length : Nat))), (6, .d (.sl xs)), (1, .d (.fn (.func g) fa fc)), (0, .d (.sl xs))], []⟩) (fun z => xs.length - z) (fun z => z ≤ xs.length ∧ ∀ i, i < z → ∀ x, xs[i]? = some x → p x = false) 0 ⟨Nat.zero_le _, by simp⟩ (fun z hz Q' hn0 he0 hr0 => ?_) (le_of)
  obtain ⟨hz1, hz2⟩ := hz
  refine G_seq ?_
  refine g_region ?_
  refine sv rfl (y_lss) ?_
  refine GOps_nil ?_
  refine thn_normal ?_
  refine G_seq ?_
  refine g_cond (fun hb0 => ?_) (fun hb0 => ?_)
  ·
    have hlt : z < xs.length := by simpa using hb0
    obtain ⟨x, hx⟩ : ∃ x, xs[z]? = some x := ⟨_, List.getElem?_eq_getElem hlt⟩
    have hmem := List.mem_of_getElem? hx
    refine G_skip ?_
    refine thn_normal ?_
    refine G_seq ?_
    refine G_block ?_
    refine G_seq ?_
    refine g_region ?_
    refine sv rfl (y_move) ?_
    refine sv rfl (y_assign) ?_
    refine GOps_nil ?_
    refine thn_normal ?_
    refine G_seq ?_
    refine g_region ?_
    refine sv rfl (y_move) ?_
    refine sv rfl (y_move) ?_
    refine sv rfl (y_move) ?_
    obtain ⟨dx, rfl, hdx⟩ := hel x hmem
    refine sv rfl (y_indexAddr Try.underlying44 sz48) ?_
    refine sv rfl (y_loadp_agg (by rw [hdx]; exact sz48) Try.underlying48 rfl) ?_
    refine g_call (xs := [.tmp 15]) rfl (hcb (.agg dx) hmem) ?_
    refine GOps_nil ?_
    refine thn_normal ?_
    refine g_cond (fun hb1 => ?_) (fun hb1 => ?_)
    ·
      refine G_seq ?_
      refine g_region ?_
      refine sv rfl (y_move) ?_
      refine sv rfl (y_assign) ?_
      refine GOps_nil ?_
      refine thn_normal ?_
      refine G_ret ?_
      refine blk_ret ?_
      refine thn_ret ?_
      refine hr0 _ ?_
      refine blk_ret ?_
      refine thn_ret ?_
      exact fin1 (by simp) ⟨idx_found hz2 hx hb1, rfl⟩
    ·
      refine G_skip ?_
      refine blk_normal ?_
      refine thn_normal ?_
      refine g_region ?_
      refine sv rfl (y_add) ?_
      refine sv rfl (y_move) ?_
      refine GOps_nil ?_
      refine hn0 _ (z + 1) ⟨by omega, idx_step hz2 hx hb1⟩ (by omega) le_of
  ·
    have hge : z = xs.length := by
      have : ¬ (z : Int) < xs.length := by simpa using hb0
      omega
    refine G_exit ?_
    refine thn_exit ?_
    refine he0 _ _ ?_
    refine blk_exit ?_
    refine thn_normal ?_
    refine G_seq ?_
    refine g_region ?_
    refine sv rfl (y_assign) ?_
    refine GOps_nil ?_
    refine thn_normal ?_
    refine G_ret ?_
    exact fin1 (by simp) ⟨idx_none (hge ▸ hz2), rfl⟩
theorem c25 (xs : List D) (g : FuncId) (fa fc : List D) (p : D → Bool) (hlim : xs.length ≤ 140737488355328) (hel : ∀ x ∈ xs, ∃ dx, x = .agg dx ∧ dx.length = 6) 
    (hcb : ∀ x ∈ xs, Pf Try.prog g (fa ++ [x] ++ fc) (.d (.bool (p x)))) : Pf Try.prog 25 [.sl xs, .fn (.func g) fa fc] (.d (.bool (xs.any p))) := by
  refine pf_body (rvs := [.tmp 4]) [(0, .d (.sl xs)), (1, .d (.fn (.func g) fa fc))] Try.func25 Try.ntmps25 Try.results25 (fun S0 O0 w0 m0 hm0 => ?_)
  refine G_seq ?_
  refine g_region ?_
  refine sv rfl (y_assign) ?_
  refine GOps_nil ?_
  refine thn_normal ?_
  refine G_seq ?_
  refine g_region ?_
  refine sv rfl (y_move) ?_
  refine sv rfl (y_move) ?_
  refine g_call (xs := [.tmp 5, .tmp 6]) rfl (c46 xs g fa fc p hlim hel hcb) ?_
  refine sv rfl (y_geq) ?_
  refine sv rfl (y_assign) ?_
  refine GOps_nil ?_
  refine thn_normal ?_
  refine G_ret ?_
  refine fin1 (by simp) ?_
  exact ⟨by rw [idx_any], rfl⟩

def longT : D → Bool
  | .agg [_, _, _, _, _, .str s] => decide ((s.size : Int) > 100)
  | _ => false
theorem ins_el (xs : List WIns) : ∀ x ∈ xs.map WIns.d, ∃ dx, x = .agg dx ∧ dx.length = 6 := fun x hx => by
  obtain ⟨i, _, rfl⟩ := List.mem_map.1 hx
  exact ⟨_, rfl, rfl⟩
theorem ins_cells (xs : List WIns) : ∀ x ∈ xs.map WIns.d, x.cells.length = 6 := fun x hx => by
  obtain ⟨i, _, rfl⟩ := List.mem_map.1 hx
  rfl

theorem c26 (x : WIns) : Pf Try.prog 26 [x.d] (.d (.bool (longT x.d))) := by
  refine pf_body (rvs := [.tmp 2]) [(0, .d (.agg [.int .i64 x.op, .int .i64 x.a, .int .i64 x.b, .int .i64 x.c, .int .i64 x.n, .str x.text]))] Try.func26 Try.ntmps26 Try.results26 (fun S0 O0 w0 m0 hm0 => ?_)
  refine G_seq ?_
  refine g_region ?_
  refine sv rfl (y_box) ?_
  refine sv rfl (y_assign) ?_
  refine GOps_nil ?_
  refine thn_normal ?_
  refine G_seq ?_
  refine g_region ?_
  first | refine sv rfl (y_fieldAddr Try.underlying48 rfl sz9) ?_ | refine sv rfl (y_fieldp_leaf Try.underlying48 rfl sz9) ?_
  first | refine sv rfl (y_load_leaf Try.underlying9) ?_ | refine sv rfl (y_loadp_leaf Try.underlying9) ?_
  refine sv rfl (y_lenstr Try.underlying9) ?_
  refine sv rfl (y_gtr) ?_
  refine sv rfl (y_assign) ?_
  refine GOps_nil ?_
  refine thn_normal ?_
  refine G_ret ?_
  refine fin1 (by simp) ?_
  exact ⟨rfl, rfl⟩

theorem c35 (x : WIns) : Pf Try.prog 35 [x.d] (.d (.bool (longT x.d))) := by
  refine pf_body (rvs := [.tmp 2]) [(0, .d (.agg [.int .i64 x.op, .int .i64 x.a, .int .i64 x.b, .int .i64 x.c, .int .i64 x.n, .str x.text]))] Try.func35 Try.ntmps35 Try.results35 (fun S0 O0 w0 m0 hm0 => ?_)
  refine G_seq ?_
  refine g_region ?_
  refine sv rfl (y_box) ?_
  refine sv rfl (y_assign) ?_
  refine GOps_nil ?_
  refine thn_normal ?_
  refine G_seq ?_
  refine g_region ?_
  first | refine sv rfl (y_fieldAddr Try.underlying48 rfl sz9) ?_ | refine sv rfl (y_fieldp_leaf Try.underlying48 rfl sz9) ?_
  first | refine sv rfl (y_load_leaf Try.underlying9) ?_ | refine sv rfl (y_loadp_leaf Try.underlying9) ?_
  refine sv rfl (y_lenstr Try.underlying9) ?_
  refine sv rfl (y_gtr) ?_
  refine sv rfl (y_assign) ?_
  refine GOps_nil ?_
  refine thn_normal ?_
  refine G_ret ?_
  refine fin1 (by simp) ?_
  exact ⟨rfl, rfl⟩

theorem c28 (xs : List WIns) (hlim : xs.length ≤ 1000000) : Pf Try.prog 28 [insD xs] (.osl 6 (xs.map WIns.d)) := by
  refine pf_body (rvs := [.tmp 2]) [(0, .d (.sl (xs.map WIns.d)))] Try.func28 Try.ntmps28 Try.results28 (fun S0 O0 w0 m0 hm0 => ?_)
  refine G_seq ?_
  refine g_region ?_
  refine sv rfl (y_assign) ?_
  refine GOps_nil ?_
  refine thn_normal ?_
  refine G_seq ?_
  refine g_region ?_
  refine sv rfl (y_assign) ?_
  refine GOps_nil ?_
  refine thn_normal ?_
  refine G_seq ?_
  refine G_seq ?_
  refine g_region ?_
  refine sv rfl (y_move) ?_
  refine sv rfl (y_len Try.underlying44) ?_
  refine sv rfl (y_move) ?_
  refine GOps_nil ?_
  refine thn_normal ?_
  refine G_block ?_
  refine g_loop (α := Nat × List D) (fun z => ⟨[(8, .d (.int .i64 (z.1 : Nat))), (7, .d (.int .i64 ((xs.map WIns.d).length : Nat))), (6, .d (.sl (xs.map WIns.d))), (3, .osl 6 z.2)], []⟩) (fun z => xs.length - z.1) (fun z => z.1 ≤ xs.length ∧ z.2 = (xs.take z.1).map WIns.d) (0, []) ⟨Nat.zero_le _, by simp⟩ (fun z hz Q' hn0 he0 hr0 => ?_) (le_of)
  obtain ⟨z, l⟩ := z
  obtain ⟨hz1, hl⟩ := hz
  replace hz1 : z ≤ xs.length := hz1
  replace hl : l = (xs.take z).map WIns.d := hl
  have hll : l.length = z := by rw [hl, List.length_map, List.length_take]; omega
  refine G_seq ?_
  refine g_region ?_
  refine sv rfl (y_lss) ?_
  refine GOps_nil ?_
  refine thn_normal ?_
  refine G_seq ?_
  refine g_cond (fun hb0 => ?_) (fun hb0 => ?_)
  ·
    have hlt : z < xs.length := by simpa using hb0
    obtain ⟨x, hxe⟩ : ∃ x, xs[z] = x := ⟨_, rfl⟩
    have hxs : xs[z]? = some x := by rw [List.getElem?_eq_getElem hlt, hxe]
    have hx : (xs.map WIns.d)[z]? = some (.agg [.int .i64 x.op, .int .i64 x.a, .int .i64 x.b, .int .i64 x.c, .int .i64 x.n, .str x.text]) := by rw [List.getElem?_map, hxs]; rfl
    refine G_skip ?_
    refine thn_normal ?_
    refine G_seq ?_
    refine G_block ?_
    refine G_seq ?_
    refine g_region ?_
    refine sv rfl (y_indexAddr Try.underlying44 sz48) ?_
    refine sv rfl (y_loadp_agg (ds := [.int .i64 x.op, .int .i64 x.a, .int .i64 x.b, .int .i64 x.c, .int .i64 x.n, .str x.text]) sz48 Try.underlying48 rfl) ?_
    refine sv rfl (y_alloc zr48) ?_
    first | refine sa rfl (d_store sz48) ?_ | refine sa rfl (d_store_take sz48) ?_
    refine GOps_nil ?_
    refine thn_normal ?_
    refine g_region ?_
    first | refine sv rfl (y_move_take) ?_ | refine sv rfl (y_move) ?_
    first | refine sv rfl (y_load_agg sz48 Try.underlying48 rfl) ?_ | refine sv rfl (y_loadp_agg sz48 Try.underlying48 rfl) ?_
    refine sv rfl (y_buildSlice (xs := [.tmp 13]) Try.underlying53 inf63) ?_
    refine sv rfl (y_append Try.underlying53 inf63) ?_
    first | refine sv rfl (y_assign_take) ?_ | refine sv rfl (y_assign) ?_
    refine GOps_nil ?_
    refine blk_normal ?_
    refine thn_normal ?_
    refine g_region ?_
    refine sv rfl (y_add) ?_
    refine sv rfl (y_move) ?_
    refine GOps_nil ?_
    refine hn0 _ (z + 1, l ++ [x.d]) ⟨by show z + 1 ≤ xs.length; omega, by show _ = _; rw [hl, List.take_add_one, hxs]; simp⟩ (by show xs.length - (z + 1) < xs.length - z; omega) le_of
  ·
    have hge : z = xs.length := by
      have : ¬ (z : Int) < (xs.map WIns.d).length := by simpa using hb0
      simp at this
      omega
    refine G_exit ?_
    refine thn_exit ?_
    refine he0 _ _ ?_
    refine blk_exit ?_
    refine thn_normal ?_
    refine G_seq ?_
    refine g_region ?_
    refine sv rfl (y_move_take) ?_
    refine sv rfl (y_assign_take) ?_
    refine GOps_nil ?_
    refine thn_normal ?_
    refine G_ret ?_
    refine fino (by simp) ?_
    exact ⟨by rw [hl, hge, List.take_length], rfl⟩


theorem eq_ins (x : WIns) (W : World) : (Op.eqFields 9999 #[.int .i64 x.op, .int .i64 x.a, .int .i64 x.b, .int .i64 x.c, .int .i64 x.n, .string x.text] #[.int .i64 x.op, .int .i64 x.a, .int .i64 x.b, .int .i64 x.c, .int .i64 x.n, .string x.text] (Try.prog.fieldsOf 63).toList).run Try.prog W = .ok true W := by
  have p9 : Try.prog.plainKey 9 = true := by kernel_rfl
  have p3 : Try.prog.plainKey 3 = true := by kernel_rfl
  simp only [Program.fieldsOf, Try.underlying63, Op.eqFields]
  have q0 : ∀ W, (part 3 #[.int .i64 x.op, .int .i64 x.a, .int .i64 x.b, .int .i64 x.c, .int .i64 x.n, .string x.text] 0).run Try.prog W = .ok (.int .i64 x.op) W := fun W => run_part_plain W p3 rfl
  have q1 : ∀ W, (part 3 #[.int .i64 x.op, .int .i64 x.a, .int .i64 x.b, .int .i64 x.c, .int .i64 x.n, .string x.text] 1).run Try.prog W = .ok (.int .i64 x.a) W := fun W => run_part_plain W p3 rfl
  have q2 : ∀ W, (part 3 #[.int .i64 x.op, .int .i64 x.a, .int .i64 x.b, .int .i64 x.c, .int .i64 x.n, .string x.text] 2).run Try.prog W = .ok (.int .i64 x.b) W := fun W => run_part_plain W p3 rfl
  have q3 : ∀ W, (part 3 #[.int .i64 x.op, .int .i64 x.a, .int .i64 x.b, .int .i64 x.c, .int .i64 x.n, .string x.text] 3).run Try.prog W = .ok (.int .i64 x.c) W := fun W => run_part_plain W p3 rfl
  have q4 : ∀ W, (part 3 #[.int .i64 x.op, .int .i64 x.a, .int .i64 x.b, .int .i64 x.c, .int .i64 x.n, .string x.text] 4).run Try.prog W = .ok (.int .i64 x.n) W := fun W => run_part_plain W p3 rfl
  have q5 : ∀ W, (part 9 #[.int .i64 x.op, .int .i64 x.a, .int .i64 x.b, .int .i64 x.c, .int .i64 x.n, .string x.text] 5).run Try.prog W = .ok (.string x.text) W := fun W => run_part_plain W p9 rfl
  have e9 : ∀ W d s, (Op.equalIn (d + 1) 9 (.string s) (.string s)).run Try.prog W = .ok true W := fun W d s => by rw [run_equalIn_string W d 9 s s Try.underlying9]; simp
  have e3 : ∀ W d n, (Op.equalIn (d + 1) 3 (.int .i64 n) (.int .i64 n)).run Try.prog W = .ok true W := fun W d n => by rw [run_equalIn_int W d 3 .i64 .i64 n n Try.underlying3]; simp
  simp [Sem.run_bind, q0, q1, q2, q3, q4, q5, e9 _ 9998, e3 _ 9998, Result.andThen_ok]

theorem c33 (xs : List WIns) (hlim : xs.length ≤ 1000000) : Pf Try.prog 33 [insD xs, insD xs] (.d (.bool true)) := by
  refine pf_body (rvs := [.tmp 4]) [(0, .d (.sl (xs.map WIns.d))), (1, .d (.sl (xs.map WIns.d)))] Try.func33 Try.ntmps33 Try.results33 (fun S0 O0 w0 m0 hm0 => ?_)
  refine G_seq ?_
  refine g_region ?_
  refine sv rfl (y_assign) ?_
  refine GOps_nil ?_
  refine thn_normal ?_
  refine G_seq ?_
  refine G_seq ?_
  refine g_region ?_
  refine sv rfl (y_move) ?_
  refine sv rfl (y_len Try.underlying53) ?_
  refine sv rfl (y_move) ?_
  refine sv rfl (y_len Try.underlying53) ?_
  refine sv rfl (y_neq) ?_
  refine GOps_nil ?_
  refine thn_normal ?_
  refine g_cond (fun hb0 => ?_) (fun hb0 => ?_)
  ·
    simp at hb0
  ·
    refine G_skip ?_
    refine thn_normal ?_
    refine G_seq ?_
    refine G_seq ?_
    refine g_region ?_
    refine sv rfl (y_move) ?_
    refine sv rfl (y_len Try.underlying53) ?_
    refine sv rfl (y_move) ?_
    refine GOps_nil ?_
    refine thn_normal ?_
    refine G_block ?_
    refine g_loop (α := Nat) (fun z => ⟨[(13, .d (.int .i64 (z : Nat))), (12, .d (.int .i64 ((xs.map WIns.d).length : Nat))), (1, .d (.sl (xs.map WIns.d))), (0, .d (.sl (xs.map WIns.d)))], []⟩) (fun z => xs.length - z) (fun z => z ≤ xs.length) 0 (Nat.zero_le _) (fun z hz Q' hn0 he0 hr0 => ?_) (le_of)
    skip
    refine G_seq ?_
    refine g_region ?_
    refine sv rfl (y_lss) ?_
    refine GOps_nil ?_
    refine thn_normal ?_
    refine G_seq ?_
    refine g_cond (fun hb1 => ?_) (fun hb1 => ?_)
    ·
      have hlt : z < xs.length := by simpa using hb1
      obtain ⟨x, hxe⟩ : ∃ x, xs[z] = x := ⟨_, rfl⟩
      have hxs : xs[z]? = some x := by rw [List.getElem?_eq_getElem hlt, hxe]
      have hx : (xs.map WIns.d)[z]? = some (.agg [.int .i64 x.op, .int .i64 x.a, .int .i64 x.b, .int .i64 x.c, .int .i64 x.n, .str x.text]) := by rw [List.getElem?_map, hxs]; rfl
      refine G_skip ?_
      refine thn_normal ?_
      refine G_seq ?_
      refine G_block ?_
      refine G_seq ?_
      refine g_region ?_
      refine sv rfl (y_move) ?_
      refine sv rfl (y_assign) ?_
      refine GOps_nil ?_
      refine thn_normal ?_
      refine G_seq ?_
      refine G_draw 9 [0, 1, 2, 3, 4, 5, 6, 7, 8] rfl rfl (by kernel_rfl) ?_
      refine sq rfl (q_move) ?_
      refine sq rfl (q_move) ?_
      refine sq rfl (q_indexAddr Try.underlying53 sz63) ?_
      refine sq rfl (q_loadp_agg (ds := [.int .i64 x.op, .int .i64 x.a, .int .i64 x.b, .int .i64 x.c, .int .i64 x.n, .str x.text]) sz63 Try.underlying63 rfl) ?_
      refine sq rfl (q_move) ?_
      refine sq rfl (q_move) ?_
      refine sq rfl (q_indexAddr Try.underlying53 sz63) ?_
      refine sq rfl (q_loadp_agg (ds := [.int .i64 x.op, .int .i64 x.a, .int .i64 x.b, .int .i64 x.c, .int .i64 x.n, .str x.text]) sz63 Try.underlying63 rfl) ?_
      refine sq rfl (q_structne (eq_ins x)) ?_
      refine GQ_nil (by kernel_rfl) ?_
      refine thn_normal ?_
      refine g_cond (fun hb2 => ?_) (fun hb2 => ?_)
      ·
        simp at hb2
      ·
        refine G_skip ?_
        refine blk_normal ?_
        refine thn_normal ?_
        refine g_keep [0, 1, 4, 5, 12, 13] ?_
        refine g_region ?_
        refine sv rfl (y_add) ?_
        refine sv rfl (y_move) ?_
        refine GOps_nil ?_
        refine hn0 _ (z + 1) (by omega) (by omega) le_of
    ·
      refine G_exit ?_
      refine thn_exit ?_
      refine he0 _ _ ?_
      refine blk_exit ?_
      refine thn_normal ?_
      refine G_seq ?_
      refine g_region ?_
      refine sv rfl (y_assign) ?_
      refine GOps_nil ?_
      refine thn_normal ?_
      refine G_ret ?_
      refine fin1 (by simp) ?_
      exact ⟨rfl, rfl⟩


theorem encS_len : ∀ {xs : List WIns} {ws : List Int}, encS xs = some ws → ws.length ≤ 2 * xs.length
  | [], ws, h => by simp only [encS] at h; injection h with h; subst h; simp
  | x :: r, ws, h => by
    simp only [encS, Option.bind_eq_some_iff, Option.map_eq_some_iff] at h
    obtain ⟨y, hy, q, hq, rfl⟩ := h
    have h1 := encS_len hq
    have h2 : y.length ≤ 2 := by
      unfold encI at hy
      split at hy
      · cases hy
      · split at hy
        · cases hy
        · injection hy with hy; subst hy; split <;> simp
    simp; omega
theorem decS_len : ∀ (n : Nat) {ws : List Int} {xs : List WIns}, ws.length ≤ n → decS ws = some xs → xs.length ≤ ws.length
  | 0, ws, xs, hn, h => by
    have : ws = [] := List.eq_nil_of_length_eq_zero (by omega)
    subst this; simp only [decS] at h; injection h with h; subst h; simp
  | n + 1, ws, xs, hn, h => by
    match ws, hn, h with
    | [], _, h => simp only [decS] at h; injection h with h; subst h; simp
    | [x], _, h =>
      rw [decS] at h
      split at h
      · cases h
      · split at h
        · cases h
        · injection h with h; subst h; simp
    | x :: m :: r, hn, h =>
      rw [decS] at h
      simp at hn
      split at h
      · cases h
      · split at h
        · obtain ⟨q, hq, rfl⟩ := Option.map_eq_some_iff.1 h
          have := decS_len n (by omega) hq
          simp; omega
        · obtain ⟨q, hq, rfl⟩ := Option.map_eq_some_iff.1 h
          have := decS_len n (by simp; omega) hq
          simp at this ⊢; omega
def encL (xs : List WIns) : List Int := if (xs.length : Int) > 160000 then [] else (encS xs).getD []
def encE (xs : List WIns) : Int := if (xs.length : Int) > 160000 then 5 else if (encS xs).isSome then 0 else 290
theorem encR_tup (xs : List WIns) : encR xs = .tup [.d (.sl (u64s (encL xs))), .d (.int .i64 (encE xs))] := by
  unfold encR encL encE
  split
  · rfl
  · cases encS xs <;> rfl
theorem encL_len (xs : List WIns) : (encL xs).length ≤ 2 * xs.length := by
  unfold encL
  split
  · simp
  · cases h : encS xs with
    | none => simp
    | some ws => simpa using encS_len h
def decL (ws : List Int) : List WIns := if (ws.length : Int) > 320000 then [] else (decS ws).getD []
def decE (ws : List Int) : Int := if (ws.length : Int) > 320000 then 5 else if (decS ws).isSome then 0 else 290
theorem decR_tup (ws : List Int) : decR ws = .tup [.d (insD (decL ws)), .d (.int .i64 (decE ws))] := by
  unfold decR decL decE
  split
  · rfl
  · cases decS ws <;> rfl
theorem decL_len (ws : List Int) : (decL ws).length ≤ ws.length := by
  unfold decL
  split
  · simp
  · cases h : decS ws with
    | none => simp
    | some xs => simpa using decS_len _ (Nat.le_refl _) h
theorem c27t (xs : List WIns) (hlim : xs.length ≤ 1000000) : Pf Try.prog 27 [insD xs] (.tup [.d (.sl (u64s (encL xs))), .d (.int .i64 (encE xs))]) := encR_tup xs ▸ c27 xs (by omega)
theorem c29t (xs : List WIns) (hlim : xs.length ≤ 1000000) : Pf Try.prog 29 [insD xs] (.tup [.d (.sl (u64s (encL xs))), .d (.int .i64 (encE xs))]) := encR_tup xs ▸ c29 xs (by omega)
theorem c30t (ws : List Int) (hlim : ws.length ≤ 1000000) (h : Words ws) : Pf Try.prog 30 [.sl (u64s ws)] (.tup [.d (.sl ((decL ws).map WIns.d)), .d (.int .i64 (decE ws))]) := decR_tup ws ▸ c30 ws (by omega) h
theorem c31t (ws : List Int) (hlim : ws.length ≤ 1000000) (h : Words ws) : Pf Try.prog 31 [.sl (u64s ws)] (.tup [.d (.sl ((decL ws).map WIns.d)), .d (.int .i64 (decE ws))]) := decR_tup ws ▸ c31 ws (by omega) h

set_option maxHeartbeats 2000000 in
theorem c7 (xs : List WIns) (ys : List Int) (hlx : xs.length ≤ 140737488355328) (hly : ys.length ≤ 140737488355328) (hwords : Words ys) : Pf Try.prog 7 [insD xs, .sl (u64s ys)] (.d (.bool true)) := by
  refine pf_body (rvs := [.tmp 4]) [(0, .d (.sl (xs.map WIns.d))), (1, .d (.sl (u64s ys)))] Try.func7 Try.ntmps7 Try.results7 (fun S0 O0 w0 m0 hm0 => ?_)
  refine G_seq ?_
  refine g_region ?_
  refine sv rfl (y_assign) ?_
  refine GOps_nil ?_
  refine thn_normal ?_
  refine G_seq ?_
  refine G_seq ?_
  refine g_region ?_
  refine sv rfl (y_move) ?_
  refine sv rfl (y_len Try.underlying44) ?_
  refine sv rfl (y_gtr) ?_
  refine sv rfl (y_move) ?_
  refine sg rfl (fun hg => q_move) ?_
  refine sg rfl (fun hg => strip 17 (by simp only [GS.set, GS.get, List.lookup_cons, Nat.reduceBEq] <;> rfl) hg (q_len Try.underlying45)) ?_
  refine sg rfl (fun hg => strip 18 (by simp only [GS.set, GS.get, List.lookup_cons, Nat.reduceBEq] <;> rfl) hg (q_gtr)) ?_
  refine sv rfl (y_or) ?_
  refine sv rfl (y_move) ?_
  refine sg rfl (fun hg => q_move) ?_
  refine g_callg (xs := [.tmp 22, .func 26]) rfl (fun hg => c25 (xs.map WIns.d) 26 [] [] longT (by simp; omega) (ins_el xs) (fun x hx => by obtain ⟨i, _, rfl⟩ := List.mem_map.1 hx; exact c26 i)) ?_
  refine sv rfl (y_or) ?_
  refine GOps_nil ?_
  refine thn_normal ?_
  refine g_cond (fun hb0 => ?_) (fun hb0 => ?_)
  ·
    refine G_seq ?_
    refine g_keep [0, 1, 4, 5, 6, 7, 8, 9, 10, 11, 12] ?_
    refine g_region ?_
    refine g_call (xs := []) rfl (c20) ?_
    refine sv rfl (y_assign) ?_
    refine GOps_nil ?_
    refine thn_normal ?_
    refine G_ret ?_
    refine thn_ret ?_
    refine fin1 (by simp) ?_
    exact ⟨rfl, rfl⟩
  ·
    have hlx : xs.length ≤ 300 ∧ ys.length ≤ 300 := by
      simp [u64s] at hb0
      omega
    obtain ⟨hl1, hl2⟩ := hlx
    have hel := encL_len xs
    have hdl := decL_len ys
    refine G_skip ?_
    refine thn_normal ?_
    refine G_seq ?_
    refine g_keep [0, 1, 4, 5, 6, 7, 8, 9, 10, 11, 12] ?_
    refine g_region ?_
    refine sv rfl (y_move) ?_
    refine g_call (xs := [.tmp 27]) rfl (c28 xs (by omega)) ?_
    refine g_call (xs := [.tmp 28]) rfl (c27t xs (by omega)) ?_
    refine sv rfl (y_move) ?_
    refine sv rfl (y_extract) ?_
    refine sv rfl (y_extract) ?_
    first | refine sv rfl (y_assign_take) ?_ | refine sv rfl (y_assign) ?_
    refine sv rfl (y_assign) ?_
    refine GOps_nil ?_
    refine thn_normal ?_
    refine G_seq ?_
    refine g_region ?_
    refine sv rfl (y_move) ?_
    refine g_call (xs := [.tmp 33]) rfl (c29t xs (by omega)) ?_
    refine sv rfl (y_move) ?_
    refine sv rfl (y_extract) ?_
    refine sv rfl (y_extract) ?_
    first | refine sv rfl (y_assign_take) ?_ | refine sv rfl (y_assign) ?_
    refine sv rfl (y_assign) ?_
    refine GOps_nil ?_
    refine thn_normal ?_
    refine G_seq ?_
    refine g_keep [0, 1, 4, 5, 6, 7, 8, 9, 10, 11, 12] ?_
    refine g_region ?_
    refine sv rfl (y_move) ?_
    refine g_call (xs := [.tmp 38]) rfl (c30t ys (by omega) hwords) ?_
    refine sv rfl (y_move) ?_
    refine sv rfl (y_extract) ?_
    refine sv rfl (y_extract) ?_
    first | refine sv rfl (y_assign_take) ?_ | refine sv rfl (y_assign) ?_
    refine sv rfl (y_assign) ?_
    refine GOps_nil ?_
    refine thn_normal ?_
    refine G_seq ?_
    refine g_region ?_
    refine sv rfl (y_move) ?_
    refine g_call (xs := [.tmp 43]) rfl (c31t ys (by omega) hwords) ?_
    refine sv rfl (y_move) ?_
    refine sv rfl (y_extract) ?_
    refine sv rfl (y_extract) ?_
    first | refine sv rfl (y_assign_take) ?_ | refine sv rfl (y_assign) ?_
    refine sv rfl (y_assign) ?_
    refine GOps_nil ?_
    refine thn_normal ?_
    refine G_seq ?_
    refine g_keep [0, 1, 4, 5, 6, 7, 8, 9, 10, 11, 12] ?_
    refine g_region ?_
    refine sv rfl (y_move) ?_
    refine sv rfl (y_move) ?_
    refine g_call (xs := [.tmp 47, .tmp 48]) rfl (c32 (encL xs) (encL xs) (by omega)) ?_
    refine sv rfl (y_move) ?_
    refine sg rfl (fun hg => q_move) ?_
    refine sg rfl (fun hg => q_move) ?_
    refine sg rfl (fun hg => strip 52 (by simp only [GS.set, GS.get, List.lookup_cons, Nat.reduceBEq] <;> rfl) hg (strip 51 (by simp only [GS.set, GS.get, List.lookup_cons, Nat.reduceBEq] <;> rfl) hg (q_eql))) ?_
    refine sv rfl (y_and) ?_
    refine sv rfl (y_move) ?_
    refine sg rfl (fun hg => q_move) ?_
    refine sg rfl (fun hg => q_move) ?_
    refine g_callg (xs := [.tmp 57]) rfl (fun hg => Pf.data (c28 (decL ys) (by omega))) ?_
    refine g_callg (xs := [.tmp 56, .tmp 58]) rfl (fun hg => c33 (decL ys) (by omega)) ?_
    refine sv rfl (y_and) ?_
    refine sv rfl (y_move) ?_
    refine sg rfl (fun hg => q_move) ?_
    refine sg rfl (fun hg => q_move) ?_
    refine sg rfl (fun hg => strip 63 (by simp only [GS.set, GS.get, List.lookup_cons, Nat.reduceBEq] <;> rfl) hg (strip 62 (by simp only [GS.set, GS.get, List.lookup_cons, Nat.reduceBEq] <;> rfl) hg (q_eql))) ?_
    refine sv rfl (y_and) ?_
    refine sv rfl (y_move) ?_
    refine g_callg (xs := []) rfl (fun hg => c20) ?_
    refine sv rfl (y_and) ?_
    refine sv rfl (y_assign) ?_
    refine GOps_nil ?_
    refine thn_normal ?_
    refine G_ret ?_
    refine fin1 (by simp) ?_
    exact ⟨by simp, rfl⟩

end Go.Proofs.Ytphfdmagkgpgfaa
