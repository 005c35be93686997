/- Contracts of functions. Conditions: none. -/
import Derived.Test.YtphfdmagkgpgfaaWh
import Derived.ChangeKeysEq
namespace Go.Proofs.Ytphfdmagkgpgfaa
open Go Go.Proofs.Ytphfdmagkgpgfaa.E
set_option maxHeartbeats 2000000 in
theorem c22  : Pf Try.prog 22 [] (.osl 3 servicesD) := by
  refine pf_body (rvs := [.tmp 0]) [] Try.func22 Try.ntmps22 Try.results22 (fun S0 O0 w0 m0 hm0 => ?_)
  refine G_seq ?_
  refine g_region ?_
  refine sv rfl (y_assign) ?_
  refine GOps_nil ?_
  refine thn_normal ?_
  refine G_seq ?_
  refine g_region ?_
  refine sv rfl (y_buildS pl41 zr41) ?_
  refine sv rfl (y_buildS pl41 zr41) ?_
  refine sv rfl (y_buildS pl41 zr41) ?_
  refine sv rfl (y_buildS pl41 zr41) ?_
  refine sv rfl (y_buildS pl41 zr41) ?_
  refine sv rfl (y_buildS pl41 zr41) ?_
  refine sv rfl (y_buildS pl41 zr41) ?_
  refine sv rfl (y_buildS pl41 zr41) ?_
  refine sv rfl (y_buildS pl41 zr41) ?_
  refine sv rfl (y_buildS pl41 zr41) ?_
  refine sv rfl (y_buildS pl41 zr41) ?_
  refine sv rfl (y_buildS pl41 zr41) ?_
  refine sv rfl (y_buildS pl41 zr41) ?_
  refine sv rfl (y_buildS pl41 zr41) ?_
  refine sv rfl (y_buildS pl41 zr41) ?_
  refine sv rfl (y_buildS pl41 zr41) ?_
  refine sv rfl (y_buildS pl41 zr41) ?_
  refine sv rfl (y_buildS pl41 zr41) ?_
  refine sv rfl (y_buildS pl41 zr41) ?_
  refine sv rfl (y_buildS pl41 zr41) ?_
  refine sv rfl (y_buildS pl41 zr41) ?_
  refine sv rfl (y_buildS pl41 zr41) ?_
  refine sv rfl (y_buildS pl41 zr41) ?_
  refine sv rfl (y_buildS pl41 zr41) ?_
  refine sv rfl (y_buildS pl41 zr41) ?_
  refine sv rfl (y_buildS pl41 zr41) ?_
  refine sv rfl (y_buildS pl41 zr41) ?_
  refine sv rfl (y_buildS pl41 zr41) ?_
  refine sv rfl (y_buildS pl41 zr41) ?_
  refine sv rfl (y_buildS pl41 zr41) ?_
  refine sv rfl (y_buildS pl41 zr41) ?_
  refine sv rfl (y_buildS pl41 zr41) ?_
  refine sv rfl (y_buildS pl41 zr41) ?_
  refine sv rfl (y_buildS pl41 zr41) ?_
  refine sv rfl (y_buildS pl41 zr41) ?_
  refine sv rfl (y_buildS pl41 zr41) ?_
  refine sv rfl (y_buildS pl41 zr41) ?_
  refine sv rfl (y_buildS pl41 zr41) ?_
  refine sv rfl (y_buildS pl41 zr41) ?_
  refine sv rfl (y_buildS pl41 zr41) ?_
  refine sv rfl (y_buildS pl41 zr41) ?_
  refine sv rfl (y_buildS pl41 zr41) ?_
  refine sv rfl (y_buildS pl41 zr41) ?_
  refine sv rfl (y_buildS pl41 zr41) ?_
  refine sv rfl (y_buildS pl41 zr41) ?_
  refine sv rfl (y_buildS pl41 zr41) ?_
  refine sv rfl (y_buildS pl41 zr41) ?_
  refine sv rfl (y_buildS pl41 zr41) ?_
  refine sv rfl (y_buildSlice (xs := [.tmp 1, .tmp 2, .tmp 3, .tmp 4, .tmp 5, .tmp 6, .tmp 7, .tmp 8, .tmp 9, .tmp 10, .tmp 11, .tmp 12, .tmp 13, .tmp 14, .tmp 15, .tmp 16, .tmp 17, .tmp 18, .tmp 19, .tmp 20, .tmp 21, .tmp 22, .tmp 23, .tmp 24, .tmp 25, .tmp 26, .tmp 27, .tmp 28, .tmp 29, .tmp 30, .tmp 31, .tmp 32, .tmp 33, .tmp 34, .tmp 35, .tmp 36, .tmp 37, .tmp 38, .tmp 39, .tmp 40, .tmp 41, .tmp 42, .tmp 43, .tmp 44, .tmp 45, .tmp 46, .tmp 47, .tmp 48]) Try.underlying40 inf41) ?_
  first | refine sv rfl (y_assign_take) ?_ | refine sv rfl (y_assign) ?_
  refine GOps_nil ?_
  refine thn_normal ?_
  refine G_ret ?_
  refine fino (by simp) ?_
  exact ⟨rfl, rfl⟩

theorem c24 (name : ByteArray) : Pf Try.prog 24 [.str name] (.d (.int .i64 (number name))) := by
  refine pf_body (rvs := [.tmp 2]) [(0, .d (.str name))] Try.func24 Try.ntmps24 Try.results24 (fun S0 O0 w0 m0 hm0 => ?_)
  refine G_seq ?_
  refine g_region ?_
  refine sv rfl (y_assign) ?_
  refine GOps_nil ?_
  refine thn_normal ?_
  refine G_seq ?_
  refine g_region ?_
  refine g_call (xs := []) rfl (c22) ?_
  first | refine sv rfl (y_assign_take) ?_ | refine sv rfl (y_assign) ?_
  refine GOps_nil ?_
  refine thn_normal ?_
  refine G_seq ?_
  refine G_seq ?_
  refine g_region ?_
  refine sv rfl (y_assign) ?_
  refine GOps_nil ?_
  refine thn_normal ?_
  refine G_block ?_
  refine g_loop (α := Nat) (fun z => ⟨[(4, .d (.int .i64 (z : Nat))), (3, .d (.sl servicesD)), (0, .d (.str name))], []⟩) (fun z => servicesD.length - z) (fun z => z ≤ servicesD.length ∧ ∀ i, i < z → ∀ x, servicesD[i]? = some x → isName name x = false) 0 ⟨Nat.zero_le _, by simp⟩ (fun z hz Q' hn0 he0 hr0 => ?_) (le_of)
  obtain ⟨hz1, hz2⟩ := hz
  have hz48 : servicesD.length = 48 := rfl
  refine G_seq ?_
  refine G_seq ?_
  refine g_region ?_
  refine sv rfl (y_move) ?_
  refine sv rfl (y_move) ?_
  refine sv rfl (y_len Try.underlying40) ?_
  refine sv rfl (y_lss) ?_
  refine GOps_nil ?_
  refine thn_normal ?_
  refine g_cond (fun hb0 => ?_) (fun hb0 => ?_)
  ·
    have hlt : z < servicesD.length := by simpa using hb0
    obtain ⟨n, b, s, hx, hnum⟩ := service_at hlt
    have hx2 : servicesD[z]? = some (.agg [.str s, .int .i64 n, .bool b]) := hx
    refine G_skip ?_
    refine thn_normal ?_
    refine G_seq ?_
    refine G_block ?_
    refine G_seq ?_
    refine g_region ?_
    refine sv rfl (y_move) ?_
    refine sv rfl (y_move) ?_
    refine sv rfl (y_indexAddr Try.underlying40 sz41) ?_
    first | refine sv rfl (y_fieldAddr Try.underlying41 rfl sz9) ?_ | refine sv rfl (y_fieldp_leaf Try.underlying41 rfl sz9) ?_
    first | refine sv rfl (y_load_leaf Try.underlying9) ?_ | refine sv rfl (y_loadp_leaf Try.underlying9) ?_
    refine sv rfl (y_move) ?_
    refine sv rfl (y_streq) ?_
    refine GOps_nil ?_
    refine thn_normal ?_
    refine g_cond (fun hb1 => ?_) (fun hb1 => ?_)
    ·
      refine G_seq ?_
      refine g_region ?_
      refine sv rfl (y_move) ?_
      refine sv rfl (y_assign) ?_
      refine GOps_nil ?_
      refine thn_normal ?_
      refine G_ret ?_
      refine blk_ret ?_
      refine thn_ret ?_
      refine hr0 _ ?_
      refine blk_ret ?_
      refine thn_ret ?_
      exact fin1 (by simp) ⟨idx_found hz2 hx hb1, rfl⟩
    ·
      refine G_skip ?_
      refine blk_normal ?_
      refine thn_normal ?_
      refine g_region ?_
      refine sv rfl (y_move) ?_
      refine sv rfl (y_add) ?_
      refine sv rfl (y_assign) ?_
      refine GOps_nil ?_
      refine hn0 _ (z + 1) ⟨by omega, idx_step hz2 hx hb1⟩ (by omega) le_of
  ·
    have hge : z = servicesD.length := by
      have : ¬ (z : Int) < (servicesD.length : Nat) := by simpa using hb0
      omega
    refine G_exit ?_
    refine thn_exit ?_
    refine he0 _ _ ?_
    refine blk_exit ?_
    refine thn_normal ?_
    refine G_seq ?_
    refine g_region ?_
    refine sv rfl (y_assign) ?_
    refine GOps_nil ?_
    refine thn_normal ?_
    refine G_ret ?_
    exact fin1 (by simp) ⟨idx_none (hge ▸ hz2), rfl⟩


theorem eq_svc (n : Int) (b : Bool) (s : ByteArray) (W : World) : (Op.eqFields 9999 #[.string s, .int .i64 n, .bool b] #[.string s, .int .i64 n, .bool b] (Try.prog.fieldsOf 34).toList).run Try.prog W = .ok true W := by
  have p9 : Try.prog.plainKey 9 = true := by kernel_rfl
  have p3 : Try.prog.plainKey 3 = true := by kernel_rfl
  have p4 : Try.prog.plainKey 4 = true := by kernel_rfl
  simp only [Program.fieldsOf, Try.underlying34, Op.eqFields]
  have q9 : ∀ W, (part 9 #[.string s, .int .i64 n, .bool b] 0).run Try.prog W = .ok (.string s) W := fun W => run_part_plain W p9 rfl
  have q3 : ∀ W, (part 3 #[.string s, .int .i64 n, .bool b] 1).run Try.prog W = .ok (.int .i64 n) W := fun W => run_part_plain W p3 rfl
  have q4 : ∀ W, (part 4 #[.string s, .int .i64 n, .bool b] 2).run Try.prog W = .ok (.bool b) W := fun W => run_part_plain W p4 rfl
  have e9 : ∀ W d, (Op.equalIn (d + 1) 9 (.string s) (.string s)).run Try.prog W = .ok true W := fun W d => by rw [run_equalIn_string W d 9 s s Try.underlying9]; simp
  have e3 : ∀ W d, (Op.equalIn (d + 1) 3 (.int .i64 n) (.int .i64 n)).run Try.prog W = .ok true W := fun W d => by rw [run_equalIn_int W d 3 .i64 .i64 n n Try.underlying3]; simp
  have e4 : ∀ W d, (Op.equalIn (d + 1) 4 (.bool b) (.bool b)).run Try.prog W = .ok true W := fun W d => by rw [run_equalIn_bool' W d 4 b b Try.underlying4]; simp
  simp [Sem.run_bind, q9, q3, q4, e9 _ 9998, e3 _ 9998, e4 _ 9998, Result.andThen_ok]

theorem c23 (n : Int) (b : Bool) (s : ByteArray) : Pf Try.prog 23 [svc n b s, svc n b s] (.d (.bool true)) := by
  refine pf_body (rvs := [.tmp 4]) [(0, .d (.agg [.str s, .int .i64 n, .bool b])), (1, .d (.agg [.str s, .int .i64 n, .bool b]))] Try.func23 Try.ntmps23 Try.results23 (fun S0 O0 w0 m0 hm0 => ?_)
  refine G_seq ?_
  refine g_region ?_
  refine sv rfl (y_box) ?_
  refine sv rfl (y_box) ?_
  refine sv rfl (y_assign) ?_
  refine GOps_nil ?_
  refine thn_normal ?_
  refine G_seq ?_
  refine g_region ?_
  first | refine sv rfl (y_load_agg sz34 Try.underlying34 rfl) ?_ | refine sv rfl (y_loadp_agg sz34 Try.underlying34 rfl) ?_
  first | refine sv rfl (y_load_agg sz41 Try.underlying41 rfl) ?_ | refine sv rfl (y_loadp_agg sz41 Try.underlying41 rfl) ?_
  refine sv rfl (Yld_pure rfl (of_decide_eq_true rfl) (q_structeq (eq_svc n b s))) ?_
  refine sv rfl (y_assign) ?_
  refine GOps_nil ?_
  refine thn_normal ?_
  refine G_ret ?_
  refine fin1 (by simp) ?_
  exact ⟨rfl, rfl⟩

theorem c21 (xs : List D) (g : FuncId) (fa fc : List D) (hlim : xs.length ≤ 1000000) (hel : ∀ x ∈ xs, ∃ dx, x = .agg dx ∧ dx.length = 3) (hcb : ∀ x ∈ xs, Pf Try.prog g (fa ++ [x, x] ++ fc) (.d (.bool true))) : Pf Try.prog 21 [.sl xs, .sl xs, .fn (.func g) fa fc] (.d (.bool true)) := by
  refine pf_body (rvs := [.tmp 6]) [(0, .d (.sl xs)), (1, .d (.sl xs)), (2, .d (.fn (.func g) fa fc))] Try.func21 Try.ntmps21 Try.results21 (fun S0 O0 w0 m0 hm0 => ?_)
  refine G_seq ?_
  refine g_region ?_
  refine sv rfl (y_assign) ?_
  refine GOps_nil ?_
  refine thn_normal ?_
  refine G_seq ?_
  refine G_seq ?_
  refine g_region ?_
  refine sv rfl (y_move) ?_
  refine sv rfl (y_len Try.underlying31) ?_
  refine sv rfl (y_move) ?_
  refine sv rfl (y_len Try.underlying40) ?_
  refine sv rfl (y_neq) ?_
  refine GOps_nil ?_
  refine thn_normal ?_
  refine g_cond (fun hb0 => ?_) (fun hb0 => ?_)
  ·
    simp at hb0
  ·
    refine G_skip ?_
    refine thn_normal ?_
    refine G_seq ?_
    refine G_seq ?_
    refine g_region ?_
    refine sv rfl (y_move) ?_
    refine sv rfl (y_len Try.underlying31) ?_
    refine sv rfl (y_move) ?_
    refine GOps_nil ?_
    refine thn_normal ?_
    refine G_block ?_
    refine g_loop (α := Nat) (fun z => ⟨[(17, .d (.int .i64 (z : Nat))), (16, .d (.int .i64 (xs.length : Nat))), (15, .d (.sl xs)), (2, .d (.fn (.func g) fa fc)), (1, .d (.sl xs))], []⟩) (fun z => xs.length - z) (fun z => z ≤ xs.length) 0 (Nat.zero_le _) (fun z hz Q' hn0 he0 hr0 => ?_) (le_of)
    skip
    refine G_seq ?_
    refine g_region ?_
    refine sv rfl (y_lss) ?_
    refine GOps_nil ?_
    refine thn_normal ?_
    refine G_seq ?_
    refine g_cond (fun hb1 => ?_) (fun hb1 => ?_)
    ·
      have hlt : z < xs.length := by simpa using hb1
      obtain ⟨x, hxe⟩ : ∃ x, xs[z] = x := ⟨_, rfl⟩
      obtain ⟨dx, hdx, hdl⟩ := hel x (by rw [← hxe]; exact List.getElem_mem hlt)
      have hx : xs[z]? = some (.agg dx) := by rw [List.getElem?_eq_getElem hlt, hxe, hdx]
      have hxm : D.agg dx ∈ xs := by rw [← hdx, ← hxe]; exact List.getElem_mem hlt
      obtain ⟨d0, d1, d2, rfl⟩ : ∃ d0 d1 d2, dx = [d0, d1, d2] := by
        match dx, hdl with
        | [d0, d1, d2], _ => exact ⟨d0, d1, d2, rfl⟩
      refine G_skip ?_
      refine thn_normal ?_
      refine G_seq ?_
      refine G_block ?_
      refine G_seq ?_
      refine g_region ?_
      refine sv rfl (y_move) ?_
      refine sv rfl (y_indexAddr Try.underlying31 sz34) ?_
      refine sv rfl (y_loadp_agg (ds := [d0, d1, d2]) sz34 Try.underlying34 rfl) ?_
      refine sv rfl (y_alloc zr34) ?_
      refine sv rfl (y_assign) ?_
      first | refine sa rfl (d_store sz34) ?_ | refine sa rfl (d_store_take sz34) ?_
      refine GOps_nil ?_
      refine thn_normal ?_
      refine G_seq ?_
      refine g_region ?_
      refine sv rfl (y_move) ?_
      refine sv rfl (y_move) ?_
      refine sv rfl (y_indexAddr Try.underlying40 sz41) ?_
      refine sv rfl (y_loadp_agg (ds := [d0, d1, d2]) sz41 Try.underlying41 rfl) ?_
      refine sv rfl (y_alloc zr41) ?_
      first | refine sa rfl (d_store sz41) ?_ | refine sa rfl (d_store_take sz41) ?_
      refine GOps_nil ?_
      refine thn_normal ?_
      refine G_seq ?_
      refine g_keep [0, 1, 2, 6, 7, 8, 9, 15, 16, 17] ?_
      refine g_region ?_
      refine sv rfl (y_move) ?_
      first | refine sv rfl (y_load_agg sz34 Try.underlying34 rfl) ?_ | refine sv rfl (y_loadp_agg sz34 Try.underlying34 rfl) ?_
      first | refine sv rfl (y_load_agg sz41 Try.underlying41 rfl) ?_ | refine sv rfl (y_loadp_agg sz41 Try.underlying41 rfl) ?_
      refine g_call (xs := [.tmp 27, .tmp 28]) rfl (hcb _ hxm) ?_
      refine sv rfl (y_not) ?_
      refine GOps_nil ?_
      refine thn_normal ?_
      refine g_cond (fun hb2 => ?_) (fun hb2 => ?_)
      ·
        simp at hb2
      ·
        refine G_skip ?_
        refine blk_normal ?_
        refine thn_normal ?_
        refine g_region ?_
        refine sv rfl (y_add) ?_
        refine sv rfl (y_move) ?_
        refine GOps_nil ?_
        refine hn0 _ (z + 1) (by omega) (by omega) le_of
    ·
      refine G_exit ?_
      refine thn_exit ?_
      refine he0 _ _ ?_
      refine blk_exit ?_
      refine thn_normal ?_
      refine G_seq ?_
      refine g_region ?_
      refine sv rfl (y_assign) ?_
      refine GOps_nil ?_
      refine thn_normal ?_
      refine G_ret ?_
      refine fin1 (by simp) ?_
      exact ⟨rfl, rfl⟩

theorem c6 (name : ByteArray) (hs : name.size ≤ 140737488351232) : Pf Try.prog 6 [.str name] (.d (.bool true)) := by
  refine pf_body (rvs := [.tmp 2]) [(0, .d (.str name))] Try.func6 Try.ntmps6 Try.results6 (fun S0 O0 w0 m0 hm0 => ?_)
  refine G_seq ?_
  refine g_region ?_
  refine sv rfl (y_assign) ?_
  refine GOps_nil ?_
  refine thn_normal ?_
  refine G_seq ?_
  refine G_seq ?_
  refine g_region ?_
  refine sv rfl (y_move) ?_
  refine sv rfl (y_lenstr Try.underlying9) ?_
  refine sv rfl (y_gtr) ?_
  refine GOps_nil ?_
  refine thn_normal ?_
  refine g_cond (fun hb0 => ?_) (fun hb0 => ?_)
  ·
    refine G_seq ?_
    refine g_region ?_
    refine g_call (xs := []) rfl (c20) ?_
    refine sv rfl (y_assign) ?_
    refine GOps_nil ?_
    refine thn_normal ?_
    refine G_ret ?_
    refine thn_ret ?_
    refine fin1 (by simp) ?_
    exact ⟨rfl, rfl⟩
  ·
    refine G_skip ?_
    refine thn_normal ?_
    refine G_seq ?_
    refine g_region ?_
    refine g_call (xs := []) rfl (c16) ?_
    refine g_call (xs := []) rfl (c22) ?_
    refine g_call (xs := [.tmp 8, .tmp 9, .func 23]) rfl (c21 servicesD 23 [] [] (by decide) services_el (fun x hx => by obtain ⟨n, b, s, rfl⟩ := mem_services hx; exact c23 n b s)) ?_
    refine sv rfl (y_assign) ?_
    refine GOps_nil ?_
    refine thn_normal ?_
    refine G_seq ?_
    refine g_region ?_
    refine sv rfl (y_move) ?_
    refine sv rfl (y_move) ?_
    refine sg rfl (fun hg => q_move) ?_
    refine g_callg (xs := [.tmp 13]) rfl (fun hg => c17 name) ?_
    refine sg rfl (fun hg => q_move) ?_
    refine g_callg (xs := [.tmp 15]) rfl (fun hg => c24 name) ?_
    refine sg rfl (fun hg => strip 16 (by simp only [GS.set, GS.get, List.lookup_cons, Nat.reduceBEq] <;> rfl) hg (strip 14 (by simp only [GS.set, GS.get, List.lookup_cons, Nat.reduceBEq] <;> rfl) hg (q_eql))) ?_
    refine sv rfl (y_and) ?_
    refine sv rfl (y_move) ?_
    refine g_callg (xs := []) rfl (fun hg => c20) ?_
    refine sv rfl (y_and) ?_
    refine sv rfl (y_assign) ?_
    refine GOps_nil ?_
    refine thn_normal ?_
    refine G_ret ?_
    refine fin1 (by simp) ?_
    exact ⟨by simp, rfl⟩

end Go.Proofs.Ytphfdmagkgpgfaa
