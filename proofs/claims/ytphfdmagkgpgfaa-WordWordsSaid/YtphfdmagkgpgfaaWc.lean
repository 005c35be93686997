/- Contracts of functions. Conditions: none. -/
import Derived.Test.YtphfdmagkgpgfaaWb
namespace Go.Proofs.Ytphfdmagkgpgfaa
open Go Go.Proofs.Ytphfdmagkgpgfaa.E

def isName (name : ByteArray) : D → Bool
  | .agg (.str s :: _) => decide (s = name)
  | _ => false
theorem isName_svc (name s : ByteArray) (n : Int) (b : Bool) : isName name (svc n b s) = decide (s = name) := rfl
theorem servicesD_map : servicesD = services.map (fun t => svc t.1 t.2.1 t.2.2) := rfl
theorem mem_services {x : D} (h : x ∈ servicesD) : ∃ n b s, x = svc n b s := by
  rw [servicesD_map, List.mem_map] at h
  obtain ⟨⟨n, b, s⟩, _, rfl⟩ := h
  exact ⟨n, b, s, rfl⟩
theorem services_el : ∀ x ∈ servicesD, ∃ dx, x = .agg dx ∧ dx.length = 3 := fun x hx => by
  obtain ⟨n, b, s, rfl⟩ := mem_services hx
  exact ⟨_, rfl, rfl⟩
def number (name : ByteArray) : Int := idxI (isName name) servicesD

theorem c45 (name s : ByteArray) (n : Int) (b : Bool) : Pf Try.prog 45 [svc n b s, .ptr (.str name)] (.d (.bool (isName name (svc n b s)))) := by
  refine pf_body (rvs := [.tmp 3]) [(0, .d (.agg [.str s, .int .i64 n, .bool b])), (1, .d (.ptr (.str name)))] Try.func45 Try.ntmps45 Try.results45 (fun S0 O0 w0 m0 hm0 => ?_)
  refine G_seq ?_
  refine g_region ?_
  refine sv rfl (y_box) ?_
  refine sv rfl (y_assign) ?_
  refine GOps_nil ?_
  refine thn_normal ?_
  refine G_seq ?_
  refine g_region ?_
  first | refine sv rfl (y_fieldAddr Try.underlying34 rfl sz9) ?_ | refine sv rfl (y_fieldp_leaf Try.underlying34 rfl sz9) ?_
  first | refine sv rfl (y_load_leaf Try.underlying9) ?_ | refine sv rfl (y_loadp_leaf Try.underlying9) ?_
  first | refine sv rfl (y_load_leaf Try.underlying9) ?_ | refine sv rfl (y_loadp_leaf Try.underlying9) ?_
  refine sv rfl (y_streq) ?_
  refine sv rfl (y_assign) ?_
  refine GOps_nil ?_
  refine thn_normal ?_
  refine G_ret ?_
  refine fin1 (by simp) ?_
  exact ⟨rfl, rfl⟩

theorem c19 (name s : ByteArray) (n : Int) (b : Bool) : Pf Try.prog 19 [svc n b s, .ptr (.str name)] (.d (.bool (isName name (svc n b s)))) := by
  refine pf_body (rvs := [.tmp 3]) [(0, .d (.agg [.str s, .int .i64 n, .bool b])), (1, .d (.ptr (.str name)))] Try.func19 Try.ntmps19 Try.results19 (fun S0 O0 w0 m0 hm0 => ?_)
  refine G_seq ?_
  refine g_region ?_
  refine sv rfl (y_box) ?_
  refine sv rfl (y_assign) ?_
  refine GOps_nil ?_
  refine thn_normal ?_
  refine G_seq ?_
  refine g_region ?_
  first | refine sv rfl (y_fieldAddr Try.underlying34 rfl sz9) ?_ | refine sv rfl (y_fieldp_leaf Try.underlying34 rfl sz9) ?_
  first | refine sv rfl (y_load_leaf Try.underlying9) ?_ | refine sv rfl (y_loadp_leaf Try.underlying9) ?_
  first | refine sv rfl (y_load_leaf Try.underlying9) ?_ | refine sv rfl (y_loadp_leaf Try.underlying9) ?_
  refine sv rfl (y_streq) ?_
  refine sv rfl (y_assign) ?_
  refine GOps_nil ?_
  refine thn_normal ?_
  refine G_ret ?_
  refine fin1 (by simp) ?_
  exact ⟨rfl, rfl⟩

theorem c17 (name : ByteArray) : Pf Try.prog 17 [.str name] (.d (.int .i64 (number name))) := by
  refine pf_body (rvs := [.tmp 2]) [(0, .d (.str name))] Try.func17 Try.ntmps17 Try.results17 (fun S0 O0 w0 m0 hm0 => ?_)
  refine G_seq ?_
  refine g_region ?_
  refine sv rfl (y_box) ?_
  refine sv rfl (y_assign) ?_
  refine GOps_nil ?_
  refine thn_normal ?_
  refine G_seq ?_
  refine g_region ?_
  refine g_call (xs := []) rfl (c16) ?_
  refine sv rfl (y_makeFunc (xs := []) (ys := [.tmp 1])) ?_
  refine g_freeze 0 [] (.str name) rfl ?_
  refine g_call (xs := [.tmp 3, .tmp 4]) rfl (c44 servicesD 45 [] [.ptr (.str name)] (isName name) (by decide) services_el (fun x hx => by obtain ⟨n, b, s, rfl⟩ := mem_services hx; exact c45 name s n b)) ?_
  refine sv rfl (y_assign) ?_
  refine GOps_nil ?_
  refine thn_normal ?_
  refine G_ret ?_
  refine fin1 (by simp) ?_
  exact ⟨rfl, rfl⟩

end Go.Proofs.Ytphfdmagkgpgfaa
