/- Contracts of functions. Conditions: none. -/
import Derived.Test.YtphfdmagkgpgfaaWg
namespace Go.Proofs.Ytphfdmagkgpgfaa
open Go Go.Proofs.Ytphfdmagkgpgfaa.E

theorem number_all : (List.range 48).all (fun z => match servicesD[z]? with | some (.agg (.str s :: _)) => number s == (z : Int) | _ => false) = true := by decide +kernel
theorem service_at {z : Nat} (h : z < servicesD.length) : ∃ n b s, servicesD[z]? = some (svc n b s) ∧ number s = (z : Int) := by
  have hz : z ∈ List.range 48 := List.mem_range.2 h
  have hall := List.all_eq_true.1 number_all z hz
  obtain ⟨n, b, s, hx⟩ := mem_services (List.getElem_mem h)
  have hg : servicesD[z]? = some (svc n b s) := by rw [List.getElem?_eq_getElem h, hx]
  refine ⟨n, b, s, hg, ?_⟩
  rw [hg] at hall
  simpa [svc] using hall
theorem number_none {name : ByteArray} (h : servicesD.any (isName name) = false) : number name = -1 := by
  unfold number idxI
  split
  · rename_i i hi
    have := List.findIdx?_eq_some_iff_getElem.1 hi
    obtain ⟨hlt, hp, _⟩ := this
    rw [List.any_eq_false] at h
    exact absurd hp (h _ (List.getElem_mem hlt))
  · rfl

theorem c5 (name : ByteArray) (hs : name.size ≤ 140737488351232) : Pf Try.prog 5 [.str name] (.d (.bool true)) := by
  refine pf_body (rvs := [.tmp 2]) [(0, .d (.str name))] Try.func5 Try.ntmps5 Try.results5 (fun S0 O0 w0 m0 hm0 => ?_)
  refine G_seq ?_
  refine g_region ?_
  refine sv rfl (y_box) ?_
  refine sv rfl (y_assign) ?_
  refine GOps_nil ?_
  refine thn_normal ?_
  refine G_seq ?_
  refine g_region ?_
  refine g_call (xs := []) rfl (c16) ?_
  first | refine sv rfl (y_assign_take) ?_ | refine sv rfl (y_assign) ?_
  refine GOps_nil ?_
  refine thn_normal ?_
  refine G_seq ?_
  refine G_seq ?_
  refine g_region ?_
  refine g_freeze 0 [] (.str name) rfl ?_
  refine sv rfl (y_move) ?_
  refine sv rfl (y_len Try.underlying31) ?_
  refine sv rfl (y_move) ?_
  refine GOps_nil ?_
  refine thn_normal ?_
  refine G_block ?_
  refine g_loop (α := Nat) (fun z => ⟨[(9, .d (.int .i64 (z : Nat))), (8, .d (.int .i64 (servicesD.length : Nat))), (7, .d (.sl servicesD)), (3, .d (.sl servicesD)), (1, .d (.ptr (.str name)))], []⟩) (fun z => servicesD.length - z) (fun z => z ≤ servicesD.length) 0 (Nat.zero_le _) (fun z hz Q' hn0 he0 hr0 => ?_) (le_of)
  have hz50 : servicesD.length = 48 := rfl
  refine G_seq ?_
  refine g_region ?_
  refine sv rfl (y_lss) ?_
  refine GOps_nil ?_
  refine thn_normal ?_
  refine G_seq ?_
  refine g_cond (fun hb0 => ?_) (fun hb0 => ?_)
  ·
    have hlt : z < servicesD.length := by simpa using hb0
    obtain ⟨n, b, s, hx, hnum⟩ := service_at hlt
    refine G_skip ?_
    refine thn_normal ?_
    refine G_seq ?_
    refine G_block ?_
    refine G_seq ?_
    refine g_region ?_
    refine sv rfl (y_move) ?_
    refine sv rfl (y_indexAddr Try.underlying31 sz34) ?_
    refine sv rfl (y_loadp_agg (ds := [.str s, .int .i64 n, .bool b]) sz34 Try.underlying34 rfl) ?_
    refine sv rfl (y_alloc zr34) ?_
    refine sv rfl (y_assign) ?_
    first | refine sa rfl (d_store sz34) ?_ | refine sa rfl (d_store_take sz34) ?_
    refine GOps_nil ?_
    refine thn_normal ?_
    refine G_seq ?_
    refine g_region ?_
    first | refine sv rfl (y_fieldAddr Try.underlying34 rfl sz9) ?_ | refine sv rfl (y_fieldp_leaf Try.underlying34 rfl sz9) ?_
    first | refine sv rfl (y_load_leaf Try.underlying9) ?_ | refine sv rfl (y_loadp_leaf Try.underlying9) ?_
    refine g_call (xs := [.tmp 15]) rfl (c17 s) ?_
    refine sv rfl (y_move) ?_
    refine sv rfl (y_neq) ?_
    refine GOps_nil ?_
    refine thn_normal ?_
    refine g_cond (fun hb1 => ?_) (fun hb1 => ?_)
    ·
      simp [hnum] at hb1
    ·
      refine G_skip ?_
      refine blk_normal ?_
      refine thn_normal ?_
      refine g_keep [0, 1, 2, 3, 4, 5, 7, 8, 9] ?_
      refine g_region ?_
      refine sv rfl (y_add) ?_
      refine sv rfl (y_move) ?_
      refine GOps_nil ?_
      refine hn0 _ (z + 1) (by omega) (by omega) le_of
  ·
    refine G_exit ?_
    refine thn_exit ?_
    refine he0 _ _ ?_
    refine blk_exit ?_
    refine thn_normal ?_
    refine G_seq ?_
    refine G_seq ?_
    refine g_region ?_
    first | refine sv rfl (y_load_leaf Try.underlying9) ?_ | refine sv rfl (y_loadp_leaf Try.underlying9) ?_
    refine sv rfl (y_lenstr Try.underlying9) ?_
    refine sv rfl (y_leq) ?_
    refine sv rfl (y_move) ?_
    refine sg rfl (fun hg => q_move) ?_
    refine sg rfl (fun hg => q_makeFunc (xs := []) (ys := [.tmp 1])) ?_
    refine g_callg (xs := [.tmp 24, .tmp 25]) rfl (fun hg => c18 servicesD 19 [] [.ptr (.str name)] (isName name) (by decide) services_el (fun x hx => by obtain ⟨n, b, s, rfl⟩ := mem_services hx; exact c19 name s n b)) ?_
    refine sg rfl (fun hg => strip 26 (by simp only [GS.set, GS.get, List.lookup_cons, Nat.reduceBEq] <;> rfl) hg (q_not)) ?_
    refine sv rfl (y_and) ?_
    refine sv rfl (y_move) ?_
    first | refine sg rfl (fun hg => q_load_leaf Try.underlying9) ?_ | refine sg rfl (fun hg => q_loadp_leaf Try.underlying9) ?_
    refine g_callg (xs := [.tmp 30]) rfl (fun hg => c17 name) ?_
    refine sg rfl (fun hg => strip 31 (by simp only [GS.set, GS.get, List.lookup_cons, Nat.reduceBEq] <;> rfl) hg (q_neq)) ?_
    refine sv rfl (y_and) ?_
    refine GOps_nil ?_
    refine thn_normal ?_
    refine g_cond (fun hb2 => ?_) (fun hb2 => ?_)
    ·
      exfalso
      cases hany : servicesD.any (isName name) with
      | true => simp [hany] at hb2
      | false => simp [hany, number_none hany] at hb2
    ·
      refine G_skip ?_
      refine thn_normal ?_
      refine G_seq ?_
      refine g_keep [0, 1, 2, 3, 4, 5, 7, 8, 9] ?_
      refine g_region ?_
      refine sv rfl (y_move) ?_
      refine sv rfl (y_len Try.underlying31) ?_
      refine sv rfl (y_gtr) ?_
      refine sv rfl (y_move) ?_
      refine g_callg (xs := []) rfl (fun hg => c20) ?_
      refine sv rfl (y_and) ?_
      refine sv rfl (y_assign) ?_
      refine GOps_nil ?_
      refine thn_normal ?_
      refine G_ret ?_
      refine fin1 (by simp) ?_
      exact ⟨rfl, rfl⟩

end Go.Proofs.Ytphfdmagkgpgfaa
