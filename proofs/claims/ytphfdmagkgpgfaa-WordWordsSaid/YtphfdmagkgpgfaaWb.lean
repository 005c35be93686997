/- Contracts of functions. Conditions: none. -/
import Derived.Test.YtphfdmagkgpgfaaWa
namespace Go.Proofs.Ytphfdmagkgpgfaa
open Go Go.Proofs.Ytphfdmagkgpgfaa.E
/-- A service, as data. -/
def svc (n : Int) (b : Bool) (s : ByteArray) : D := .agg [.str s, .int .i64 n, .bool b]
theorem c43 (n : Int) (b : Bool) (names : List ByteArray) (acc : List D) (hl : acc.length + names.length ≤ 1000000) : Gm Try.prog 43 [.d (.int .i64 n), .d (.bool b), .d (.sl (names.map .str)), .ref 0 0] [[.osl 3 acc]] (.tup []) [[.osl 3 (acc ++ names.map (svc n b))]] := by
  refine gm_body (rvs := []) 1 [(0, .d (.int .i64 n)), (1, .d (.bool b)), (2, .d (.sl (names.map .str))), (3, .ref 0 0)] Try.func43 Try.ntmps43 Try.results43 (fun S0 O0 w0 m0 hm0 => ?_)
  refine G_seq ?_
  refine g_region ?_
  refine sv rfl (y_move) ?_
  refine sv rfl (y_len Try.underlying79) ?_
  refine sv rfl (y_move) ?_
  refine GOps_nil ?_
  refine thn_normal ?_
  refine G_block ?_
  refine g_loop (α := Nat × List D) (fun z => ⟨[(11, .d (.int .i64 (z.1 : Nat))), (10, .d (.int .i64 (((names.map D.str).length : Nat)))), (9, .d (.sl (names.map .str))), (0, .d (.int .i64 n)), (1, .d (.bool b)), (3, .ref 0 0)], [[.osl 3 z.2]]⟩) (fun z => names.length - z.1) (fun z => z.1 ≤ names.length ∧ z.2 = acc ++ (names.take z.1).map (svc n b)) (0, acc) ⟨Nat.zero_le _, by simp⟩ (fun z hz Q' hn0 he0 hr0 => ?_) (le_of)
  obtain ⟨z, l⟩ := z
  have hz1 : z ≤ names.length := hz.1
  have hz2 : l = acc ++ (names.take z).map (svc n b) := hz.2
  clear hz
  have hll : l.length = acc.length + z := by rw [hz2]; simp only [List.length_append, List.length_map, List.length_take]; omega
  refine G_seq ?_
  refine g_region ?_
  refine sv rfl (y_lss) ?_
  refine GOps_nil ?_
  refine thn_normal ?_
  refine G_seq ?_
  refine g_cond (fun hb0 => ?_) (fun hb0 => ?_)
  ·
    have hlt : z < names.length := by simpa using hb0
    obtain ⟨s, hse⟩ : ∃ s, names[z] = s := ⟨_, rfl⟩
    have hx : (names.map D.str)[z]? = some (.str s) := by rw [List.getElem?_map, List.getElem?_eq_getElem hlt, hse]; rfl
    refine G_skip ?_
    refine thn_normal ?_
    refine G_seq ?_
    refine G_block ?_
    refine G_seq ?_
    refine g_region ?_
    refine sv rfl (y_indexAddr Try.underlying79 sz9) ?_
    first | refine sv rfl (y_load_leaf Try.underlying9) ?_ | refine sv rfl (y_loadp_leaf Try.underlying9) ?_
    refine sv rfl (y_assign) ?_
    refine GOps_nil ?_
    refine thn_normal ?_
    refine g_region ?_
    first | refine sv rfl (y_load_take Try.underlying31) ?_ | refine sv rfl (y_load_leaf Try.underlying31) ?_ | refine sv rfl (y_loadp_leaf Try.underlying31) ?_
    refine sv rfl (y_move) ?_
    refine sv rfl (y_move) ?_
    refine sv rfl (y_move) ?_
    refine sv rfl (y_buildS pl34 zr34) ?_
    refine sv rfl (y_buildSlice (xs := [.tmp 19]) Try.underlying31 inf34) ?_
    refine sv rfl (y_append Try.underlying31 inf34) ?_
    first | refine sa rfl (d_store sz31) ?_ | refine sa rfl (d_store_take sz31) ?_
    refine GOps_nil ?_
    refine blk_normal ?_
    refine thn_normal ?_
    refine g_region ?_
    refine sv rfl (y_add) ?_
    refine sv rfl (y_move) ?_
    refine GOps_nil ?_
    refine hn0 _ (z + 1, l ++ [svc n b s]) ⟨hlt, by rw [hz2, List.take_succ_eq_append_getElem hlt, List.map_append, List.append_assoc]; simp only [List.map_cons, List.map_nil]; rw [hse]⟩ (by show names.length - (z + 1) < names.length - z; omega) le_of
  ·
    have hge : z = names.length := by
      have : ¬ (z : Int) < (names.map D.str).length := by simpa using hb0
      simp at this
      omega
    subst hge
    refine G_exit ?_
    refine thn_exit ?_
    refine he0 _ _ ?_
    refine blk_exit ?_
    exact ⟨by simp, .inl ⟨[], [[.osl 3 l]], .nil, rfl, MSub.cons (CSub.cons (.inl rfl) rfl .nil) .nil, rfl, rfl, by rw [hz2, List.take_length]⟩⟩

/-- All services. -/
def services : List (Int × Bool × ByteArray) := [(1, true, ⟨#[103, 101, 116]⟩), (2, false, ⟨#[112, 117, 116]⟩), (2, true, ⟨#[114, 97, 110, 103, 101]⟩), (2, true, ⟨#[98, 121]⟩), (2, true, ⟨#[99, 111, 117, 110, 116]⟩), (1, true, ⟨#[100, 111, 109, 97, 105, 110, 49]⟩), (2, true, ⟨#[100, 111, 109, 97, 105, 110, 50]⟩), (3, true, ⟨#[109, 97, 112]⟩), (1, true, ⟨#[97, 114, 114, 97, 121]⟩), (0, true, ⟨#[99, 101, 108, 108]⟩), (0, true, ⟨#[97, 116, 111, 109, 105, 99]⟩), (1, true, ⟨#[115, 105, 122, 101]⟩), (1, true, ⟨#[108, 111, 119]⟩), (1, true, ⟨#[104, 105, 103, 104]⟩), (1, true, ⟨#[115, 116, 114, 105, 100, 101]⟩), (1, true, ⟨#[100, 111, 109, 97, 105, 110]⟩), (3, true, ⟨#[110, 116, 104]⟩), (2, true, ⟨#[108, 111, 97, 100, 49]⟩), (3, true, ⟨#[108, 111, 97, 100, 50]⟩), (3, false, ⟨#[115, 116, 111, 114, 101, 49]⟩), (4, false, ⟨#[115, 116, 111, 114, 101, 50]⟩), (0, true, ⟨#[104, 101, 114, 101]⟩), (0, true, ⟨#[108, 111, 99, 97, 108, 101, 115]⟩), (1, false, ⟨#[103, 111]⟩), (0, true, ⟨#[99, 111, 117, 110, 116, 101, 114]⟩), (-1, false, ⟨#[115, 112, 97, 119, 110]⟩), (1, false, ⟨#[119, 97, 105, 116]⟩), (0, true, ⟨#[115, 99, 111, 112, 101]⟩), (0, false, ⟨#[117, 110, 115, 99, 111, 112, 101]⟩), (1, true, ⟨#[112, 105, 101, 99, 101, 115]⟩), (3, true, ⟨#[112, 105, 101, 99, 101]⟩), (4, true, ⟨#[105, 110, 112, 105, 101, 99, 101]⟩), (1, true, ⟨#[105, 115, 70, 117, 108, 108]⟩), (1, true, ⟨#[114, 101, 97, 100, 70, 69]⟩), (1, true, ⟨#[114, 101, 97, 100, 70, 70]⟩), (1, true, ⟨#[114, 101, 97, 100, 88, 88]⟩), (1, true, ⟨#[114, 101, 115, 101, 116]⟩), (2, true, ⟨#[119, 114, 105, 116, 101, 69, 70]⟩), (2, true, ⟨#[119, 114, 105, 116, 101, 70, 70]⟩), (2, true, ⟨#[119, 114, 105, 116, 101, 88, 70]⟩), (1, true, ⟨#[114, 101, 97, 100]⟩), (2, true, ⟨#[119, 114, 105, 116, 101]⟩), (2, true, ⟨#[97, 100, 100]⟩), (2, true, ⟨#[102, 101, 116, 99, 104, 65, 100, 100]⟩), (2, true, ⟨#[101, 120, 99, 104, 97, 110, 103, 101]⟩), (3, true, ⟨#[99, 111, 109, 112, 97, 114, 101, 65, 110, 100, 83, 119, 97, 112]⟩), (-1, false, ⟨#[108, 105, 110, 101]⟩), (1, false, ⟨#[97, 115, 115, 101, 114, 116]⟩)]
def servicesD : List D := [svc (1) true ⟨#[103, 101, 116]⟩, svc (2) false ⟨#[112, 117, 116]⟩, svc (2) true ⟨#[114, 97, 110, 103, 101]⟩, svc (2) true ⟨#[98, 121]⟩, svc (2) true ⟨#[99, 111, 117, 110, 116]⟩, svc (1) true ⟨#[100, 111, 109, 97, 105, 110, 49]⟩, svc (2) true ⟨#[100, 111, 109, 97, 105, 110, 50]⟩, svc (3) true ⟨#[109, 97, 112]⟩, svc (1) true ⟨#[97, 114, 114, 97, 121]⟩, svc (0) true ⟨#[99, 101, 108, 108]⟩, svc (0) true ⟨#[97, 116, 111, 109, 105, 99]⟩, svc (1) true ⟨#[115, 105, 122, 101]⟩, svc (1) true ⟨#[108, 111, 119]⟩, svc (1) true ⟨#[104, 105, 103, 104]⟩, svc (1) true ⟨#[115, 116, 114, 105, 100, 101]⟩, svc (1) true ⟨#[100, 111, 109, 97, 105, 110]⟩, svc (3) true ⟨#[110, 116, 104]⟩, svc (2) true ⟨#[108, 111, 97, 100, 49]⟩, svc (3) true ⟨#[108, 111, 97, 100, 50]⟩, svc (3) false ⟨#[115, 116, 111, 114, 101, 49]⟩, svc (4) false ⟨#[115, 116, 111, 114, 101, 50]⟩, svc (0) true ⟨#[104, 101, 114, 101]⟩, svc (0) true ⟨#[108, 111, 99, 97, 108, 101, 115]⟩, svc (1) false ⟨#[103, 111]⟩, svc (0) true ⟨#[99, 111, 117, 110, 116, 101, 114]⟩, svc (-1) false ⟨#[115, 112, 97, 119, 110]⟩, svc (1) false ⟨#[119, 97, 105, 116]⟩, svc (0) true ⟨#[115, 99, 111, 112, 101]⟩, svc (0) false ⟨#[117, 110, 115, 99, 111, 112, 101]⟩, svc (1) true ⟨#[112, 105, 101, 99, 101, 115]⟩, svc (3) true ⟨#[112, 105, 101, 99, 101]⟩, svc (4) true ⟨#[105, 110, 112, 105, 101, 99, 101]⟩, svc (1) true ⟨#[105, 115, 70, 117, 108, 108]⟩, svc (1) true ⟨#[114, 101, 97, 100, 70, 69]⟩, svc (1) true ⟨#[114, 101, 97, 100, 70, 70]⟩, svc (1) true ⟨#[114, 101, 97, 100, 88, 88]⟩, svc (1) true ⟨#[114, 101, 115, 101, 116]⟩, svc (2) true ⟨#[119, 114, 105, 116, 101, 69, 70]⟩, svc (2) true ⟨#[119, 114, 105, 116, 101, 70, 70]⟩, svc (2) true ⟨#[119, 114, 105, 116, 101, 88, 70]⟩, svc (1) true ⟨#[114, 101, 97, 100]⟩, svc (2) true ⟨#[119, 114, 105, 116, 101]⟩, svc (2) true ⟨#[97, 100, 100]⟩, svc (2) true ⟨#[102, 101, 116, 99, 104, 65, 100, 100]⟩, svc (2) true ⟨#[101, 120, 99, 104, 97, 110, 103, 101]⟩, svc (3) true ⟨#[99, 111, 109, 112, 97, 114, 101, 65, 110, 100, 83, 119, 97, 112]⟩, svc (-1) false ⟨#[108, 105, 110, 101]⟩, svc (1) false ⟨#[97, 115, 115, 101, 114, 116]⟩]

theorem c16  : Pf Try.prog 16 [] (.osl 3 servicesD) := by
  refine pf_body (rvs := [.tmp 0]) [] Try.func16 Try.ntmps16 Try.results16 (fun S0 O0 w0 m0 hm0 => ?_)
  refine G_seq ?_
  refine g_region ?_
  refine sv rfl (y_assign) ?_
  refine GOps_nil ?_
  refine thn_normal ?_
  refine G_seq ?_
  refine g_region ?_
  refine sv rfl (y_buildSlice (xs := []) Try.underlying31 inf34) ?_
  refine sv rfl (y_alloc zr31) ?_
  first | refine sa rfl (d_store sz31) ?_ | refine sa rfl (d_store_take sz31) ?_
  refine GOps_nil ?_
  refine thn_normal ?_
  refine G_seq ?_
  refine g_region ?_
  refine sv rfl (y_makeFunc (xs := []) (ys := [.tmp 1])) ?_
  refine sv rfl (y_assign) ?_
  refine GOps_nil ?_
  refine thn_normal ?_
  refine G_seq ?_
  refine g_region ?_
  refine sv rfl (y_move) ?_
  refine sv rfl (y_buildSlice (xs := [.const (.string ⟨#[103, 101, 116]⟩)]) Try.underlying79 inf9) ?_
  refine g_callm [0] (xs := [.const (.int .i64 (1)), .const (.bool true), .tmp 6]) rfl (c43 (1) true [⟨#[103, 101, 116]⟩] [] (by simp)) ?_
  refine GOps_nil ?_
  refine thn_normal ?_
  refine G_seq ?_
  refine g_region ?_
  refine sv rfl (y_move) ?_
  refine sv rfl (y_buildSlice (xs := [.const (.string ⟨#[112, 117, 116]⟩)]) Try.underlying79 inf9) ?_
  refine g_callm [0] (xs := [.const (.int .i64 (2)), .const (.bool false), .tmp 9]) rfl (c43 (2) false [⟨#[112, 117, 116]⟩] [svc (1) true ⟨#[103, 101, 116]⟩] (by simp)) ?_
  refine GOps_nil ?_
  refine thn_normal ?_
  refine G_seq ?_
  refine g_region ?_
  refine sv rfl (y_move) ?_
  refine sv rfl (y_buildSlice (xs := [.const (.string ⟨#[114, 97, 110, 103, 101]⟩), .const (.string ⟨#[98, 121]⟩), .const (.string ⟨#[99, 111, 117, 110, 116]⟩)]) Try.underlying79 inf9) ?_
  refine g_callm [0] (xs := [.const (.int .i64 (2)), .const (.bool true), .tmp 12]) rfl (c43 (2) true [⟨#[114, 97, 110, 103, 101]⟩, ⟨#[98, 121]⟩, ⟨#[99, 111, 117, 110, 116]⟩] [svc (1) true ⟨#[103, 101, 116]⟩, svc (2) false ⟨#[112, 117, 116]⟩] (by simp)) ?_
  refine GOps_nil ?_
  refine thn_normal ?_
  refine G_seq ?_
  refine g_region ?_
  refine sv rfl (y_move) ?_
  refine sv rfl (y_buildSlice (xs := [.const (.string ⟨#[100, 111, 109, 97, 105, 110, 49]⟩)]) Try.underlying79 inf9) ?_
  refine g_callm [0] (xs := [.const (.int .i64 (1)), .const (.bool true), .tmp 15]) rfl (c43 (1) true [⟨#[100, 111, 109, 97, 105, 110, 49]⟩] [svc (1) true ⟨#[103, 101, 116]⟩, svc (2) false ⟨#[112, 117, 116]⟩, svc (2) true ⟨#[114, 97, 110, 103, 101]⟩, svc (2) true ⟨#[98, 121]⟩, svc (2) true ⟨#[99, 111, 117, 110, 116]⟩] (by simp)) ?_
  refine GOps_nil ?_
  refine thn_normal ?_
  refine G_seq ?_
  refine g_region ?_
  refine sv rfl (y_move) ?_
  refine sv rfl (y_buildSlice (xs := [.const (.string ⟨#[100, 111, 109, 97, 105, 110, 50]⟩)]) Try.underlying79 inf9) ?_
  refine g_callm [0] (xs := [.const (.int .i64 (2)), .const (.bool true), .tmp 18]) rfl (c43 (2) true [⟨#[100, 111, 109, 97, 105, 110, 50]⟩] [svc (1) true ⟨#[103, 101, 116]⟩, svc (2) false ⟨#[112, 117, 116]⟩, svc (2) true ⟨#[114, 97, 110, 103, 101]⟩, svc (2) true ⟨#[98, 121]⟩, svc (2) true ⟨#[99, 111, 117, 110, 116]⟩, svc (1) true ⟨#[100, 111, 109, 97, 105, 110, 49]⟩] (by simp)) ?_
  refine GOps_nil ?_
  refine thn_normal ?_
  refine G_seq ?_
  refine g_region ?_
  refine sv rfl (y_move) ?_
  refine sv rfl (y_buildSlice (xs := [.const (.string ⟨#[109, 97, 112]⟩)]) Try.underlying79 inf9) ?_
  refine g_callm [0] (xs := [.const (.int .i64 (3)), .const (.bool true), .tmp 21]) rfl (c43 (3) true [⟨#[109, 97, 112]⟩] [svc (1) true ⟨#[103, 101, 116]⟩, svc (2) false ⟨#[112, 117, 116]⟩, svc (2) true ⟨#[114, 97, 110, 103, 101]⟩, svc (2) true ⟨#[98, 121]⟩, svc (2) true ⟨#[99, 111, 117, 110, 116]⟩, svc (1) true ⟨#[100, 111, 109, 97, 105, 110, 49]⟩, svc (2) true ⟨#[100, 111, 109, 97, 105, 110, 50]⟩] (by simp)) ?_
  refine GOps_nil ?_
  refine thn_normal ?_
  refine G_seq ?_
  refine g_region ?_
  refine sv rfl (y_move) ?_
  refine sv rfl (y_buildSlice (xs := [.const (.string ⟨#[97, 114, 114, 97, 121]⟩)]) Try.underlying79 inf9) ?_
  refine g_callm [0] (xs := [.const (.int .i64 (1)), .const (.bool true), .tmp 24]) rfl (c43 (1) true [⟨#[97, 114, 114, 97, 121]⟩] [svc (1) true ⟨#[103, 101, 116]⟩, svc (2) false ⟨#[112, 117, 116]⟩, svc (2) true ⟨#[114, 97, 110, 103, 101]⟩, svc (2) true ⟨#[98, 121]⟩, svc (2) true ⟨#[99, 111, 117, 110, 116]⟩, svc (1) true ⟨#[100, 111, 109, 97, 105, 110, 49]⟩, svc (2) true ⟨#[100, 111, 109, 97, 105, 110, 50]⟩, svc (3) true ⟨#[109, 97, 112]⟩] (by simp)) ?_
  refine GOps_nil ?_
  refine thn_normal ?_
  refine G_seq ?_
  refine g_region ?_
  refine sv rfl (y_move) ?_
  refine sv rfl (y_buildSlice (xs := [.const (.string ⟨#[99, 101, 108, 108]⟩), .const (.string ⟨#[97, 116, 111, 109, 105, 99]⟩)]) Try.underlying79 inf9) ?_
  refine g_callm [0] (xs := [.const (.int .i64 (0)), .const (.bool true), .tmp 27]) rfl (c43 (0) true [⟨#[99, 101, 108, 108]⟩, ⟨#[97, 116, 111, 109, 105, 99]⟩] [svc (1) true ⟨#[103, 101, 116]⟩, svc (2) false ⟨#[112, 117, 116]⟩, svc (2) true ⟨#[114, 97, 110, 103, 101]⟩, svc (2) true ⟨#[98, 121]⟩, svc (2) true ⟨#[99, 111, 117, 110, 116]⟩, svc (1) true ⟨#[100, 111, 109, 97, 105, 110, 49]⟩, svc (2) true ⟨#[100, 111, 109, 97, 105, 110, 50]⟩, svc (3) true ⟨#[109, 97, 112]⟩, svc (1) true ⟨#[97, 114, 114, 97, 121]⟩] (by simp)) ?_
  refine GOps_nil ?_
  refine thn_normal ?_
  refine G_seq ?_
  refine g_region ?_
  refine sv rfl (y_move) ?_
  refine sv rfl (y_buildSlice (xs := [.const (.string ⟨#[115, 105, 122, 101]⟩), .const (.string ⟨#[108, 111, 119]⟩), .const (.string ⟨#[104, 105, 103, 104]⟩), .const (.string ⟨#[115, 116, 114, 105, 100, 101]⟩), .const (.string ⟨#[100, 111, 109, 97, 105, 110]⟩)]) Try.underlying79 inf9) ?_
  refine g_callm [0] (xs := [.const (.int .i64 (1)), .const (.bool true), .tmp 30]) rfl (c43 (1) true [⟨#[115, 105, 122, 101]⟩, ⟨#[108, 111, 119]⟩, ⟨#[104, 105, 103, 104]⟩, ⟨#[115, 116, 114, 105, 100, 101]⟩, ⟨#[100, 111, 109, 97, 105, 110]⟩] [svc (1) true ⟨#[103, 101, 116]⟩, svc (2) false ⟨#[112, 117, 116]⟩, svc (2) true ⟨#[114, 97, 110, 103, 101]⟩, svc (2) true ⟨#[98, 121]⟩, svc (2) true ⟨#[99, 111, 117, 110, 116]⟩, svc (1) true ⟨#[100, 111, 109, 97, 105, 110, 49]⟩, svc (2) true ⟨#[100, 111, 109, 97, 105, 110, 50]⟩, svc (3) true ⟨#[109, 97, 112]⟩, svc (1) true ⟨#[97, 114, 114, 97, 121]⟩, svc (0) true ⟨#[99, 101, 108, 108]⟩, svc (0) true ⟨#[97, 116, 111, 109, 105, 99]⟩] (by simp)) ?_
  refine GOps_nil ?_
  refine thn_normal ?_
  refine G_seq ?_
  refine g_region ?_
  refine sv rfl (y_move) ?_
  refine sv rfl (y_buildSlice (xs := [.const (.string ⟨#[110, 116, 104]⟩)]) Try.underlying79 inf9) ?_
  refine g_callm [0] (xs := [.const (.int .i64 (3)), .const (.bool true), .tmp 33]) rfl (c43 (3) true [⟨#[110, 116, 104]⟩] [svc (1) true ⟨#[103, 101, 116]⟩, svc (2) false ⟨#[112, 117, 116]⟩, svc (2) true ⟨#[114, 97, 110, 103, 101]⟩, svc (2) true ⟨#[98, 121]⟩, svc (2) true ⟨#[99, 111, 117, 110, 116]⟩, svc (1) true ⟨#[100, 111, 109, 97, 105, 110, 49]⟩, svc (2) true ⟨#[100, 111, 109, 97, 105, 110, 50]⟩, svc (3) true ⟨#[109, 97, 112]⟩, svc (1) true ⟨#[97, 114, 114, 97, 121]⟩, svc (0) true ⟨#[99, 101, 108, 108]⟩, svc (0) true ⟨#[97, 116, 111, 109, 105, 99]⟩, svc (1) true ⟨#[115, 105, 122, 101]⟩, svc (1) true ⟨#[108, 111, 119]⟩, svc (1) true ⟨#[104, 105, 103, 104]⟩, svc (1) true ⟨#[115, 116, 114, 105, 100, 101]⟩, svc (1) true ⟨#[100, 111, 109, 97, 105, 110]⟩] (by simp)) ?_
  refine GOps_nil ?_
  refine thn_normal ?_
  refine G_seq ?_
  refine g_region ?_
  refine sv rfl (y_move) ?_
  refine sv rfl (y_buildSlice (xs := [.const (.string ⟨#[108, 111, 97, 100, 49]⟩)]) Try.underlying79 inf9) ?_
  refine g_callm [0] (xs := [.const (.int .i64 (2)), .const (.bool true), .tmp 36]) rfl (c43 (2) true [⟨#[108, 111, 97, 100, 49]⟩] [svc (1) true ⟨#[103, 101, 116]⟩, svc (2) false ⟨#[112, 117, 116]⟩, svc (2) true ⟨#[114, 97, 110, 103, 101]⟩, svc (2) true ⟨#[98, 121]⟩, svc (2) true ⟨#[99, 111, 117, 110, 116]⟩, svc (1) true ⟨#[100, 111, 109, 97, 105, 110, 49]⟩, svc (2) true ⟨#[100, 111, 109, 97, 105, 110, 50]⟩, svc (3) true ⟨#[109, 97, 112]⟩, svc (1) true ⟨#[97, 114, 114, 97, 121]⟩, svc (0) true ⟨#[99, 101, 108, 108]⟩, svc (0) true ⟨#[97, 116, 111, 109, 105, 99]⟩, svc (1) true ⟨#[115, 105, 122, 101]⟩, svc (1) true ⟨#[108, 111, 119]⟩, svc (1) true ⟨#[104, 105, 103, 104]⟩, svc (1) true ⟨#[115, 116, 114, 105, 100, 101]⟩, svc (1) true ⟨#[100, 111, 109, 97, 105, 110]⟩, svc (3) true ⟨#[110, 116, 104]⟩] (by simp)) ?_
  refine GOps_nil ?_
  refine thn_normal ?_
  refine G_seq ?_
  refine g_region ?_
  refine sv rfl (y_move) ?_
  refine sv rfl (y_buildSlice (xs := [.const (.string ⟨#[108, 111, 97, 100, 50]⟩)]) Try.underlying79 inf9) ?_
  refine g_callm [0] (xs := [.const (.int .i64 (3)), .const (.bool true), .tmp 39]) rfl (c43 (3) true [⟨#[108, 111, 97, 100, 50]⟩] [svc (1) true ⟨#[103, 101, 116]⟩, svc (2) false ⟨#[112, 117, 116]⟩, svc (2) true ⟨#[114, 97, 110, 103, 101]⟩, svc (2) true ⟨#[98, 121]⟩, svc (2) true ⟨#[99, 111, 117, 110, 116]⟩, svc (1) true ⟨#[100, 111, 109, 97, 105, 110, 49]⟩, svc (2) true ⟨#[100, 111, 109, 97, 105, 110, 50]⟩, svc (3) true ⟨#[109, 97, 112]⟩, svc (1) true ⟨#[97, 114, 114, 97, 121]⟩, svc (0) true ⟨#[99, 101, 108, 108]⟩, svc (0) true ⟨#[97, 116, 111, 109, 105, 99]⟩, svc (1) true ⟨#[115, 105, 122, 101]⟩, svc (1) true ⟨#[108, 111, 119]⟩, svc (1) true ⟨#[104, 105, 103, 104]⟩, svc (1) true ⟨#[115, 116, 114, 105, 100, 101]⟩, svc (1) true ⟨#[100, 111, 109, 97, 105, 110]⟩, svc (3) true ⟨#[110, 116, 104]⟩, svc (2) true ⟨#[108, 111, 97, 100, 49]⟩] (by simp)) ?_
  refine GOps_nil ?_
  refine thn_normal ?_
  refine G_seq ?_
  refine g_region ?_
  refine sv rfl (y_move) ?_
  refine sv rfl (y_buildSlice (xs := [.const (.string ⟨#[115, 116, 111, 114, 101, 49]⟩)]) Try.underlying79 inf9) ?_
  refine g_callm [0] (xs := [.const (.int .i64 (3)), .const (.bool false), .tmp 42]) rfl (c43 (3) false [⟨#[115, 116, 111, 114, 101, 49]⟩] [svc (1) true ⟨#[103, 101, 116]⟩, svc (2) false ⟨#[112, 117, 116]⟩, svc (2) true ⟨#[114, 97, 110, 103, 101]⟩, svc (2) true ⟨#[98, 121]⟩, svc (2) true ⟨#[99, 111, 117, 110, 116]⟩, svc (1) true ⟨#[100, 111, 109, 97, 105, 110, 49]⟩, svc (2) true ⟨#[100, 111, 109, 97, 105, 110, 50]⟩, svc (3) true ⟨#[109, 97, 112]⟩, svc (1) true ⟨#[97, 114, 114, 97, 121]⟩, svc (0) true ⟨#[99, 101, 108, 108]⟩, svc (0) true ⟨#[97, 116, 111, 109, 105, 99]⟩, svc (1) true ⟨#[115, 105, 122, 101]⟩, svc (1) true ⟨#[108, 111, 119]⟩, svc (1) true ⟨#[104, 105, 103, 104]⟩, svc (1) true ⟨#[115, 116, 114, 105, 100, 101]⟩, svc (1) true ⟨#[100, 111, 109, 97, 105, 110]⟩, svc (3) true ⟨#[110, 116, 104]⟩, svc (2) true ⟨#[108, 111, 97, 100, 49]⟩, svc (3) true ⟨#[108, 111, 97, 100, 50]⟩] (by simp)) ?_
  refine GOps_nil ?_
  refine thn_normal ?_
  refine G_seq ?_
  refine g_region ?_
  refine sv rfl (y_move) ?_
  refine sv rfl (y_buildSlice (xs := [.const (.string ⟨#[115, 116, 111, 114, 101, 50]⟩)]) Try.underlying79 inf9) ?_
  refine g_callm [0] (xs := [.const (.int .i64 (4)), .const (.bool false), .tmp 45]) rfl (c43 (4) false [⟨#[115, 116, 111, 114, 101, 50]⟩] [svc (1) true ⟨#[103, 101, 116]⟩, svc (2) false ⟨#[112, 117, 116]⟩, svc (2) true ⟨#[114, 97, 110, 103, 101]⟩, svc (2) true ⟨#[98, 121]⟩, svc (2) true ⟨#[99, 111, 117, 110, 116]⟩, svc (1) true ⟨#[100, 111, 109, 97, 105, 110, 49]⟩, svc (2) true ⟨#[100, 111, 109, 97, 105, 110, 50]⟩, svc (3) true ⟨#[109, 97, 112]⟩, svc (1) true ⟨#[97, 114, 114, 97, 121]⟩, svc (0) true ⟨#[99, 101, 108, 108]⟩, svc (0) true ⟨#[97, 116, 111, 109, 105, 99]⟩, svc (1) true ⟨#[115, 105, 122, 101]⟩, svc (1) true ⟨#[108, 111, 119]⟩, svc (1) true ⟨#[104, 105, 103, 104]⟩, svc (1) true ⟨#[115, 116, 114, 105, 100, 101]⟩, svc (1) true ⟨#[100, 111, 109, 97, 105, 110]⟩, svc (3) true ⟨#[110, 116, 104]⟩, svc (2) true ⟨#[108, 111, 97, 100, 49]⟩, svc (3) true ⟨#[108, 111, 97, 100, 50]⟩, svc (3) false ⟨#[115, 116, 111, 114, 101, 49]⟩] (by simp)) ?_
  refine GOps_nil ?_
  refine thn_normal ?_
  refine G_seq ?_
  refine g_region ?_
  refine sv rfl (y_move) ?_
  refine sv rfl (y_buildSlice (xs := [.const (.string ⟨#[104, 101, 114, 101]⟩), .const (.string ⟨#[108, 111, 99, 97, 108, 101, 115]⟩)]) Try.underlying79 inf9) ?_
  refine g_callm [0] (xs := [.const (.int .i64 (0)), .const (.bool true), .tmp 48]) rfl (c43 (0) true [⟨#[104, 101, 114, 101]⟩, ⟨#[108, 111, 99, 97, 108, 101, 115]⟩] [svc (1) true ⟨#[103, 101, 116]⟩, svc (2) false ⟨#[112, 117, 116]⟩, svc (2) true ⟨#[114, 97, 110, 103, 101]⟩, svc (2) true ⟨#[98, 121]⟩, svc (2) true ⟨#[99, 111, 117, 110, 116]⟩, svc (1) true ⟨#[100, 111, 109, 97, 105, 110, 49]⟩, svc (2) true ⟨#[100, 111, 109, 97, 105, 110, 50]⟩, svc (3) true ⟨#[109, 97, 112]⟩, svc (1) true ⟨#[97, 114, 114, 97, 121]⟩, svc (0) true ⟨#[99, 101, 108, 108]⟩, svc (0) true ⟨#[97, 116, 111, 109, 105, 99]⟩, svc (1) true ⟨#[115, 105, 122, 101]⟩, svc (1) true ⟨#[108, 111, 119]⟩, svc (1) true ⟨#[104, 105, 103, 104]⟩, svc (1) true ⟨#[115, 116, 114, 105, 100, 101]⟩, svc (1) true ⟨#[100, 111, 109, 97, 105, 110]⟩, svc (3) true ⟨#[110, 116, 104]⟩, svc (2) true ⟨#[108, 111, 97, 100, 49]⟩, svc (3) true ⟨#[108, 111, 97, 100, 50]⟩, svc (3) false ⟨#[115, 116, 111, 114, 101, 49]⟩, svc (4) false ⟨#[115, 116, 111, 114, 101, 50]⟩] (by simp)) ?_
  refine GOps_nil ?_
  refine thn_normal ?_
  refine G_seq ?_
  refine g_region ?_
  refine sv rfl (y_move) ?_
  refine sv rfl (y_buildSlice (xs := [.const (.string ⟨#[103, 111]⟩)]) Try.underlying79 inf9) ?_
  refine g_callm [0] (xs := [.const (.int .i64 (1)), .const (.bool false), .tmp 51]) rfl (c43 (1) false [⟨#[103, 111]⟩] [svc (1) true ⟨#[103, 101, 116]⟩, svc (2) false ⟨#[112, 117, 116]⟩, svc (2) true ⟨#[114, 97, 110, 103, 101]⟩, svc (2) true ⟨#[98, 121]⟩, svc (2) true ⟨#[99, 111, 117, 110, 116]⟩, svc (1) true ⟨#[100, 111, 109, 97, 105, 110, 49]⟩, svc (2) true ⟨#[100, 111, 109, 97, 105, 110, 50]⟩, svc (3) true ⟨#[109, 97, 112]⟩, svc (1) true ⟨#[97, 114, 114, 97, 121]⟩, svc (0) true ⟨#[99, 101, 108, 108]⟩, svc (0) true ⟨#[97, 116, 111, 109, 105, 99]⟩, svc (1) true ⟨#[115, 105, 122, 101]⟩, svc (1) true ⟨#[108, 111, 119]⟩, svc (1) true ⟨#[104, 105, 103, 104]⟩, svc (1) true ⟨#[115, 116, 114, 105, 100, 101]⟩, svc (1) true ⟨#[100, 111, 109, 97, 105, 110]⟩, svc (3) true ⟨#[110, 116, 104]⟩, svc (2) true ⟨#[108, 111, 97, 100, 49]⟩, svc (3) true ⟨#[108, 111, 97, 100, 50]⟩, svc (3) false ⟨#[115, 116, 111, 114, 101, 49]⟩, svc (4) false ⟨#[115, 116, 111, 114, 101, 50]⟩, svc (0) true ⟨#[104, 101, 114, 101]⟩, svc (0) true ⟨#[108, 111, 99, 97, 108, 101, 115]⟩] (by simp)) ?_
  refine GOps_nil ?_
  refine thn_normal ?_
  refine G_seq ?_
  refine g_region ?_
  refine sv rfl (y_move) ?_
  refine sv rfl (y_buildSlice (xs := [.const (.string ⟨#[99, 111, 117, 110, 116, 101, 114]⟩)]) Try.underlying79 inf9) ?_
  refine g_callm [0] (xs := [.const (.int .i64 (0)), .const (.bool true), .tmp 54]) rfl (c43 (0) true [⟨#[99, 111, 117, 110, 116, 101, 114]⟩] [svc (1) true ⟨#[103, 101, 116]⟩, svc (2) false ⟨#[112, 117, 116]⟩, svc (2) true ⟨#[114, 97, 110, 103, 101]⟩, svc (2) true ⟨#[98, 121]⟩, svc (2) true ⟨#[99, 111, 117, 110, 116]⟩, svc (1) true ⟨#[100, 111, 109, 97, 105, 110, 49]⟩, svc (2) true ⟨#[100, 111, 109, 97, 105, 110, 50]⟩, svc (3) true ⟨#[109, 97, 112]⟩, svc (1) true ⟨#[97, 114, 114, 97, 121]⟩, svc (0) true ⟨#[99, 101, 108, 108]⟩, svc (0) true ⟨#[97, 116, 111, 109, 105, 99]⟩, svc (1) true ⟨#[115, 105, 122, 101]⟩, svc (1) true ⟨#[108, 111, 119]⟩, svc (1) true ⟨#[104, 105, 103, 104]⟩, svc (1) true ⟨#[115, 116, 114, 105, 100, 101]⟩, svc (1) true ⟨#[100, 111, 109, 97, 105, 110]⟩, svc (3) true ⟨#[110, 116, 104]⟩, svc (2) true ⟨#[108, 111, 97, 100, 49]⟩, svc (3) true ⟨#[108, 111, 97, 100, 50]⟩, svc (3) false ⟨#[115, 116, 111, 114, 101, 49]⟩, svc (4) false ⟨#[115, 116, 111, 114, 101, 50]⟩, svc (0) true ⟨#[104, 101, 114, 101]⟩, svc (0) true ⟨#[108, 111, 99, 97, 108, 101, 115]⟩, svc (1) false ⟨#[103, 111]⟩] (by simp)) ?_
  refine GOps_nil ?_
  refine thn_normal ?_
  refine G_seq ?_
  refine g_region ?_
  refine sv rfl (y_move) ?_
  refine sv rfl (y_buildSlice (xs := [.const (.string ⟨#[115, 112, 97, 119, 110]⟩)]) Try.underlying79 inf9) ?_
  refine g_callm [0] (xs := [.const (.int .i64 (-1)), .const (.bool false), .tmp 57]) rfl (c43 (-1) false [⟨#[115, 112, 97, 119, 110]⟩] [svc (1) true ⟨#[103, 101, 116]⟩, svc (2) false ⟨#[112, 117, 116]⟩, svc (2) true ⟨#[114, 97, 110, 103, 101]⟩, svc (2) true ⟨#[98, 121]⟩, svc (2) true ⟨#[99, 111, 117, 110, 116]⟩, svc (1) true ⟨#[100, 111, 109, 97, 105, 110, 49]⟩, svc (2) true ⟨#[100, 111, 109, 97, 105, 110, 50]⟩, svc (3) true ⟨#[109, 97, 112]⟩, svc (1) true ⟨#[97, 114, 114, 97, 121]⟩, svc (0) true ⟨#[99, 101, 108, 108]⟩, svc (0) true ⟨#[97, 116, 111, 109, 105, 99]⟩, svc (1) true ⟨#[115, 105, 122, 101]⟩, svc (1) true ⟨#[108, 111, 119]⟩, svc (1) true ⟨#[104, 105, 103, 104]⟩, svc (1) true ⟨#[115, 116, 114, 105, 100, 101]⟩, svc (1) true ⟨#[100, 111, 109, 97, 105, 110]⟩, svc (3) true ⟨#[110, 116, 104]⟩, svc (2) true ⟨#[108, 111, 97, 100, 49]⟩, svc (3) true ⟨#[108, 111, 97, 100, 50]⟩, svc (3) false ⟨#[115, 116, 111, 114, 101, 49]⟩, svc (4) false ⟨#[115, 116, 111, 114, 101, 50]⟩, svc (0) true ⟨#[104, 101, 114, 101]⟩, svc (0) true ⟨#[108, 111, 99, 97, 108, 101, 115]⟩, svc (1) false ⟨#[103, 111]⟩, svc (0) true ⟨#[99, 111, 117, 110, 116, 101, 114]⟩] (by simp)) ?_
  refine GOps_nil ?_
  refine thn_normal ?_
  refine G_seq ?_
  refine g_region ?_
  refine sv rfl (y_move) ?_
  refine sv rfl (y_buildSlice (xs := [.const (.string ⟨#[119, 97, 105, 116]⟩)]) Try.underlying79 inf9) ?_
  refine g_callm [0] (xs := [.const (.int .i64 (1)), .const (.bool false), .tmp 60]) rfl (c43 (1) false [⟨#[119, 97, 105, 116]⟩] [svc (1) true ⟨#[103, 101, 116]⟩, svc (2) false ⟨#[112, 117, 116]⟩, svc (2) true ⟨#[114, 97, 110, 103, 101]⟩, svc (2) true ⟨#[98, 121]⟩, svc (2) true ⟨#[99, 111, 117, 110, 116]⟩, svc (1) true ⟨#[100, 111, 109, 97, 105, 110, 49]⟩, svc (2) true ⟨#[100, 111, 109, 97, 105, 110, 50]⟩, svc (3) true ⟨#[109, 97, 112]⟩, svc (1) true ⟨#[97, 114, 114, 97, 121]⟩, svc (0) true ⟨#[99, 101, 108, 108]⟩, svc (0) true ⟨#[97, 116, 111, 109, 105, 99]⟩, svc (1) true ⟨#[115, 105, 122, 101]⟩, svc (1) true ⟨#[108, 111, 119]⟩, svc (1) true ⟨#[104, 105, 103, 104]⟩, svc (1) true ⟨#[115, 116, 114, 105, 100, 101]⟩, svc (1) true ⟨#[100, 111, 109, 97, 105, 110]⟩, svc (3) true ⟨#[110, 116, 104]⟩, svc (2) true ⟨#[108, 111, 97, 100, 49]⟩, svc (3) true ⟨#[108, 111, 97, 100, 50]⟩, svc (3) false ⟨#[115, 116, 111, 114, 101, 49]⟩, svc (4) false ⟨#[115, 116, 111, 114, 101, 50]⟩, svc (0) true ⟨#[104, 101, 114, 101]⟩, svc (0) true ⟨#[108, 111, 99, 97, 108, 101, 115]⟩, svc (1) false ⟨#[103, 111]⟩, svc (0) true ⟨#[99, 111, 117, 110, 116, 101, 114]⟩, svc (-1) false ⟨#[115, 112, 97, 119, 110]⟩] (by simp)) ?_
  refine GOps_nil ?_
  refine thn_normal ?_
  refine G_seq ?_
  refine g_region ?_
  refine sv rfl (y_move) ?_
  refine sv rfl (y_buildSlice (xs := [.const (.string ⟨#[115, 99, 111, 112, 101]⟩)]) Try.underlying79 inf9) ?_
  refine g_callm [0] (xs := [.const (.int .i64 (0)), .const (.bool true), .tmp 63]) rfl (c43 (0) true [⟨#[115, 99, 111, 112, 101]⟩] [svc (1) true ⟨#[103, 101, 116]⟩, svc (2) false ⟨#[112, 117, 116]⟩, svc (2) true ⟨#[114, 97, 110, 103, 101]⟩, svc (2) true ⟨#[98, 121]⟩, svc (2) true ⟨#[99, 111, 117, 110, 116]⟩, svc (1) true ⟨#[100, 111, 109, 97, 105, 110, 49]⟩, svc (2) true ⟨#[100, 111, 109, 97, 105, 110, 50]⟩, svc (3) true ⟨#[109, 97, 112]⟩, svc (1) true ⟨#[97, 114, 114, 97, 121]⟩, svc (0) true ⟨#[99, 101, 108, 108]⟩, svc (0) true ⟨#[97, 116, 111, 109, 105, 99]⟩, svc (1) true ⟨#[115, 105, 122, 101]⟩, svc (1) true ⟨#[108, 111, 119]⟩, svc (1) true ⟨#[104, 105, 103, 104]⟩, svc (1) true ⟨#[115, 116, 114, 105, 100, 101]⟩, svc (1) true ⟨#[100, 111, 109, 97, 105, 110]⟩, svc (3) true ⟨#[110, 116, 104]⟩, svc (2) true ⟨#[108, 111, 97, 100, 49]⟩, svc (3) true ⟨#[108, 111, 97, 100, 50]⟩, svc (3) false ⟨#[115, 116, 111, 114, 101, 49]⟩, svc (4) false ⟨#[115, 116, 111, 114, 101, 50]⟩, svc (0) true ⟨#[104, 101, 114, 101]⟩, svc (0) true ⟨#[108, 111, 99, 97, 108, 101, 115]⟩, svc (1) false ⟨#[103, 111]⟩, svc (0) true ⟨#[99, 111, 117, 110, 116, 101, 114]⟩, svc (-1) false ⟨#[115, 112, 97, 119, 110]⟩, svc (1) false ⟨#[119, 97, 105, 116]⟩] (by simp)) ?_
  refine GOps_nil ?_
  refine thn_normal ?_
  refine G_seq ?_
  refine g_region ?_
  refine sv rfl (y_move) ?_
  refine sv rfl (y_buildSlice (xs := [.const (.string ⟨#[117, 110, 115, 99, 111, 112, 101]⟩)]) Try.underlying79 inf9) ?_
  refine g_callm [0] (xs := [.const (.int .i64 (0)), .const (.bool false), .tmp 66]) rfl (c43 (0) false [⟨#[117, 110, 115, 99, 111, 112, 101]⟩] [svc (1) true ⟨#[103, 101, 116]⟩, svc (2) false ⟨#[112, 117, 116]⟩, svc (2) true ⟨#[114, 97, 110, 103, 101]⟩, svc (2) true ⟨#[98, 121]⟩, svc (2) true ⟨#[99, 111, 117, 110, 116]⟩, svc (1) true ⟨#[100, 111, 109, 97, 105, 110, 49]⟩, svc (2) true ⟨#[100, 111, 109, 97, 105, 110, 50]⟩, svc (3) true ⟨#[109, 97, 112]⟩, svc (1) true ⟨#[97, 114, 114, 97, 121]⟩, svc (0) true ⟨#[99, 101, 108, 108]⟩, svc (0) true ⟨#[97, 116, 111, 109, 105, 99]⟩, svc (1) true ⟨#[115, 105, 122, 101]⟩, svc (1) true ⟨#[108, 111, 119]⟩, svc (1) true ⟨#[104, 105, 103, 104]⟩, svc (1) true ⟨#[115, 116, 114, 105, 100, 101]⟩, svc (1) true ⟨#[100, 111, 109, 97, 105, 110]⟩, svc (3) true ⟨#[110, 116, 104]⟩, svc (2) true ⟨#[108, 111, 97, 100, 49]⟩, svc (3) true ⟨#[108, 111, 97, 100, 50]⟩, svc (3) false ⟨#[115, 116, 111, 114, 101, 49]⟩, svc (4) false ⟨#[115, 116, 111, 114, 101, 50]⟩, svc (0) true ⟨#[104, 101, 114, 101]⟩, svc (0) true ⟨#[108, 111, 99, 97, 108, 101, 115]⟩, svc (1) false ⟨#[103, 111]⟩, svc (0) true ⟨#[99, 111, 117, 110, 116, 101, 114]⟩, svc (-1) false ⟨#[115, 112, 97, 119, 110]⟩, svc (1) false ⟨#[119, 97, 105, 116]⟩, svc (0) true ⟨#[115, 99, 111, 112, 101]⟩] (by simp)) ?_
  refine GOps_nil ?_
  refine thn_normal ?_
  refine G_seq ?_
  refine g_region ?_
  refine sv rfl (y_move) ?_
  refine sv rfl (y_buildSlice (xs := [.const (.string ⟨#[112, 105, 101, 99, 101, 115]⟩)]) Try.underlying79 inf9) ?_
  refine g_callm [0] (xs := [.const (.int .i64 (1)), .const (.bool true), .tmp 69]) rfl (c43 (1) true [⟨#[112, 105, 101, 99, 101, 115]⟩] [svc (1) true ⟨#[103, 101, 116]⟩, svc (2) false ⟨#[112, 117, 116]⟩, svc (2) true ⟨#[114, 97, 110, 103, 101]⟩, svc (2) true ⟨#[98, 121]⟩, svc (2) true ⟨#[99, 111, 117, 110, 116]⟩, svc (1) true ⟨#[100, 111, 109, 97, 105, 110, 49]⟩, svc (2) true ⟨#[100, 111, 109, 97, 105, 110, 50]⟩, svc (3) true ⟨#[109, 97, 112]⟩, svc (1) true ⟨#[97, 114, 114, 97, 121]⟩, svc (0) true ⟨#[99, 101, 108, 108]⟩, svc (0) true ⟨#[97, 116, 111, 109, 105, 99]⟩, svc (1) true ⟨#[115, 105, 122, 101]⟩, svc (1) true ⟨#[108, 111, 119]⟩, svc (1) true ⟨#[104, 105, 103, 104]⟩, svc (1) true ⟨#[115, 116, 114, 105, 100, 101]⟩, svc (1) true ⟨#[100, 111, 109, 97, 105, 110]⟩, svc (3) true ⟨#[110, 116, 104]⟩, svc (2) true ⟨#[108, 111, 97, 100, 49]⟩, svc (3) true ⟨#[108, 111, 97, 100, 50]⟩, svc (3) false ⟨#[115, 116, 111, 114, 101, 49]⟩, svc (4) false ⟨#[115, 116, 111, 114, 101, 50]⟩, svc (0) true ⟨#[104, 101, 114, 101]⟩, svc (0) true ⟨#[108, 111, 99, 97, 108, 101, 115]⟩, svc (1) false ⟨#[103, 111]⟩, svc (0) true ⟨#[99, 111, 117, 110, 116, 101, 114]⟩, svc (-1) false ⟨#[115, 112, 97, 119, 110]⟩, svc (1) false ⟨#[119, 97, 105, 116]⟩, svc (0) true ⟨#[115, 99, 111, 112, 101]⟩, svc (0) false ⟨#[117, 110, 115, 99, 111, 112, 101]⟩] (by simp)) ?_
  refine GOps_nil ?_
  refine thn_normal ?_
  refine G_seq ?_
  refine g_region ?_
  refine sv rfl (y_move) ?_
  refine sv rfl (y_buildSlice (xs := [.const (.string ⟨#[112, 105, 101, 99, 101]⟩)]) Try.underlying79 inf9) ?_
  refine g_callm [0] (xs := [.const (.int .i64 (3)), .const (.bool true), .tmp 72]) rfl (c43 (3) true [⟨#[112, 105, 101, 99, 101]⟩] [svc (1) true ⟨#[103, 101, 116]⟩, svc (2) false ⟨#[112, 117, 116]⟩, svc (2) true ⟨#[114, 97, 110, 103, 101]⟩, svc (2) true ⟨#[98, 121]⟩, svc (2) true ⟨#[99, 111, 117, 110, 116]⟩, svc (1) true ⟨#[100, 111, 109, 97, 105, 110, 49]⟩, svc (2) true ⟨#[100, 111, 109, 97, 105, 110, 50]⟩, svc (3) true ⟨#[109, 97, 112]⟩, svc (1) true ⟨#[97, 114, 114, 97, 121]⟩, svc (0) true ⟨#[99, 101, 108, 108]⟩, svc (0) true ⟨#[97, 116, 111, 109, 105, 99]⟩, svc (1) true ⟨#[115, 105, 122, 101]⟩, svc (1) true ⟨#[108, 111, 119]⟩, svc (1) true ⟨#[104, 105, 103, 104]⟩, svc (1) true ⟨#[115, 116, 114, 105, 100, 101]⟩, svc (1) true ⟨#[100, 111, 109, 97, 105, 110]⟩, svc (3) true ⟨#[110, 116, 104]⟩, svc (2) true ⟨#[108, 111, 97, 100, 49]⟩, svc (3) true ⟨#[108, 111, 97, 100, 50]⟩, svc (3) false ⟨#[115, 116, 111, 114, 101, 49]⟩, svc (4) false ⟨#[115, 116, 111, 114, 101, 50]⟩, svc (0) true ⟨#[104, 101, 114, 101]⟩, svc (0) true ⟨#[108, 111, 99, 97, 108, 101, 115]⟩, svc (1) false ⟨#[103, 111]⟩, svc (0) true ⟨#[99, 111, 117, 110, 116, 101, 114]⟩, svc (-1) false ⟨#[115, 112, 97, 119, 110]⟩, svc (1) false ⟨#[119, 97, 105, 116]⟩, svc (0) true ⟨#[115, 99, 111, 112, 101]⟩, svc (0) false ⟨#[117, 110, 115, 99, 111, 112, 101]⟩, svc (1) true ⟨#[112, 105, 101, 99, 101, 115]⟩] (by simp)) ?_
  refine GOps_nil ?_
  refine thn_normal ?_
  refine G_seq ?_
  refine g_region ?_
  refine sv rfl (y_move) ?_
  refine sv rfl (y_buildSlice (xs := [.const (.string ⟨#[105, 110, 112, 105, 101, 99, 101]⟩)]) Try.underlying79 inf9) ?_
  refine g_callm [0] (xs := [.const (.int .i64 (4)), .const (.bool true), .tmp 75]) rfl (c43 (4) true [⟨#[105, 110, 112, 105, 101, 99, 101]⟩] [svc (1) true ⟨#[103, 101, 116]⟩, svc (2) false ⟨#[112, 117, 116]⟩, svc (2) true ⟨#[114, 97, 110, 103, 101]⟩, svc (2) true ⟨#[98, 121]⟩, svc (2) true ⟨#[99, 111, 117, 110, 116]⟩, svc (1) true ⟨#[100, 111, 109, 97, 105, 110, 49]⟩, svc (2) true ⟨#[100, 111, 109, 97, 105, 110, 50]⟩, svc (3) true ⟨#[109, 97, 112]⟩, svc (1) true ⟨#[97, 114, 114, 97, 121]⟩, svc (0) true ⟨#[99, 101, 108, 108]⟩, svc (0) true ⟨#[97, 116, 111, 109, 105, 99]⟩, svc (1) true ⟨#[115, 105, 122, 101]⟩, svc (1) true ⟨#[108, 111, 119]⟩, svc (1) true ⟨#[104, 105, 103, 104]⟩, svc (1) true ⟨#[115, 116, 114, 105, 100, 101]⟩, svc (1) true ⟨#[100, 111, 109, 97, 105, 110]⟩, svc (3) true ⟨#[110, 116, 104]⟩, svc (2) true ⟨#[108, 111, 97, 100, 49]⟩, svc (3) true ⟨#[108, 111, 97, 100, 50]⟩, svc (3) false ⟨#[115, 116, 111, 114, 101, 49]⟩, svc (4) false ⟨#[115, 116, 111, 114, 101, 50]⟩, svc (0) true ⟨#[104, 101, 114, 101]⟩, svc (0) true ⟨#[108, 111, 99, 97, 108, 101, 115]⟩, svc (1) false ⟨#[103, 111]⟩, svc (0) true ⟨#[99, 111, 117, 110, 116, 101, 114]⟩, svc (-1) false ⟨#[115, 112, 97, 119, 110]⟩, svc (1) false ⟨#[119, 97, 105, 116]⟩, svc (0) true ⟨#[115, 99, 111, 112, 101]⟩, svc (0) false ⟨#[117, 110, 115, 99, 111, 112, 101]⟩, svc (1) true ⟨#[112, 105, 101, 99, 101, 115]⟩, svc (3) true ⟨#[112, 105, 101, 99, 101]⟩] (by simp)) ?_
  refine GOps_nil ?_
  refine thn_normal ?_
  refine G_seq ?_
  refine g_region ?_
  refine sv rfl (y_move) ?_
  refine sv rfl (y_buildSlice (xs := [.const (.string ⟨#[105, 115, 70, 117, 108, 108]⟩), .const (.string ⟨#[114, 101, 97, 100, 70, 69]⟩), .const (.string ⟨#[114, 101, 97, 100, 70, 70]⟩), .const (.string ⟨#[114, 101, 97, 100, 88, 88]⟩), .const (.string ⟨#[114, 101, 115, 101, 116]⟩)]) Try.underlying79 inf9) ?_
  refine g_callm [0] (xs := [.const (.int .i64 (1)), .const (.bool true), .tmp 78]) rfl (c43 (1) true [⟨#[105, 115, 70, 117, 108, 108]⟩, ⟨#[114, 101, 97, 100, 70, 69]⟩, ⟨#[114, 101, 97, 100, 70, 70]⟩, ⟨#[114, 101, 97, 100, 88, 88]⟩, ⟨#[114, 101, 115, 101, 116]⟩] [svc (1) true ⟨#[103, 101, 116]⟩, svc (2) false ⟨#[112, 117, 116]⟩, svc (2) true ⟨#[114, 97, 110, 103, 101]⟩, svc (2) true ⟨#[98, 121]⟩, svc (2) true ⟨#[99, 111, 117, 110, 116]⟩, svc (1) true ⟨#[100, 111, 109, 97, 105, 110, 49]⟩, svc (2) true ⟨#[100, 111, 109, 97, 105, 110, 50]⟩, svc (3) true ⟨#[109, 97, 112]⟩, svc (1) true ⟨#[97, 114, 114, 97, 121]⟩, svc (0) true ⟨#[99, 101, 108, 108]⟩, svc (0) true ⟨#[97, 116, 111, 109, 105, 99]⟩, svc (1) true ⟨#[115, 105, 122, 101]⟩, svc (1) true ⟨#[108, 111, 119]⟩, svc (1) true ⟨#[104, 105, 103, 104]⟩, svc (1) true ⟨#[115, 116, 114, 105, 100, 101]⟩, svc (1) true ⟨#[100, 111, 109, 97, 105, 110]⟩, svc (3) true ⟨#[110, 116, 104]⟩, svc (2) true ⟨#[108, 111, 97, 100, 49]⟩, svc (3) true ⟨#[108, 111, 97, 100, 50]⟩, svc (3) false ⟨#[115, 116, 111, 114, 101, 49]⟩, svc (4) false ⟨#[115, 116, 111, 114, 101, 50]⟩, svc (0) true ⟨#[104, 101, 114, 101]⟩, svc (0) true ⟨#[108, 111, 99, 97, 108, 101, 115]⟩, svc (1) false ⟨#[103, 111]⟩, svc (0) true ⟨#[99, 111, 117, 110, 116, 101, 114]⟩, svc (-1) false ⟨#[115, 112, 97, 119, 110]⟩, svc (1) false ⟨#[119, 97, 105, 116]⟩, svc (0) true ⟨#[115, 99, 111, 112, 101]⟩, svc (0) false ⟨#[117, 110, 115, 99, 111, 112, 101]⟩, svc (1) true ⟨#[112, 105, 101, 99, 101, 115]⟩, svc (3) true ⟨#[112, 105, 101, 99, 101]⟩, svc (4) true ⟨#[105, 110, 112, 105, 101, 99, 101]⟩] (by simp)) ?_
  refine GOps_nil ?_
  refine thn_normal ?_
  refine G_seq ?_
  refine g_region ?_
  refine sv rfl (y_move) ?_
  refine sv rfl (y_buildSlice (xs := [.const (.string ⟨#[119, 114, 105, 116, 101, 69, 70]⟩), .const (.string ⟨#[119, 114, 105, 116, 101, 70, 70]⟩), .const (.string ⟨#[119, 114, 105, 116, 101, 88, 70]⟩)]) Try.underlying79 inf9) ?_
  refine g_callm [0] (xs := [.const (.int .i64 (2)), .const (.bool true), .tmp 81]) rfl (c43 (2) true [⟨#[119, 114, 105, 116, 101, 69, 70]⟩, ⟨#[119, 114, 105, 116, 101, 70, 70]⟩, ⟨#[119, 114, 105, 116, 101, 88, 70]⟩] [svc (1) true ⟨#[103, 101, 116]⟩, svc (2) false ⟨#[112, 117, 116]⟩, svc (2) true ⟨#[114, 97, 110, 103, 101]⟩, svc (2) true ⟨#[98, 121]⟩, svc (2) true ⟨#[99, 111, 117, 110, 116]⟩, svc (1) true ⟨#[100, 111, 109, 97, 105, 110, 49]⟩, svc (2) true ⟨#[100, 111, 109, 97, 105, 110, 50]⟩, svc (3) true ⟨#[109, 97, 112]⟩, svc (1) true ⟨#[97, 114, 114, 97, 121]⟩, svc (0) true ⟨#[99, 101, 108, 108]⟩, svc (0) true ⟨#[97, 116, 111, 109, 105, 99]⟩, svc (1) true ⟨#[115, 105, 122, 101]⟩, svc (1) true ⟨#[108, 111, 119]⟩, svc (1) true ⟨#[104, 105, 103, 104]⟩, svc (1) true ⟨#[115, 116, 114, 105, 100, 101]⟩, svc (1) true ⟨#[100, 111, 109, 97, 105, 110]⟩, svc (3) true ⟨#[110, 116, 104]⟩, svc (2) true ⟨#[108, 111, 97, 100, 49]⟩, svc (3) true ⟨#[108, 111, 97, 100, 50]⟩, svc (3) false ⟨#[115, 116, 111, 114, 101, 49]⟩, svc (4) false ⟨#[115, 116, 111, 114, 101, 50]⟩, svc (0) true ⟨#[104, 101, 114, 101]⟩, svc (0) true ⟨#[108, 111, 99, 97, 108, 101, 115]⟩, svc (1) false ⟨#[103, 111]⟩, svc (0) true ⟨#[99, 111, 117, 110, 116, 101, 114]⟩, svc (-1) false ⟨#[115, 112, 97, 119, 110]⟩, svc (1) false ⟨#[119, 97, 105, 116]⟩, svc (0) true ⟨#[115, 99, 111, 112, 101]⟩, svc (0) false ⟨#[117, 110, 115, 99, 111, 112, 101]⟩, svc (1) true ⟨#[112, 105, 101, 99, 101, 115]⟩, svc (3) true ⟨#[112, 105, 101, 99, 101]⟩, svc (4) true ⟨#[105, 110, 112, 105, 101, 99, 101]⟩, svc (1) true ⟨#[105, 115, 70, 117, 108, 108]⟩, svc (1) true ⟨#[114, 101, 97, 100, 70, 69]⟩, svc (1) true ⟨#[114, 101, 97, 100, 70, 70]⟩, svc (1) true ⟨#[114, 101, 97, 100, 88, 88]⟩, svc (1) true ⟨#[114, 101, 115, 101, 116]⟩] (by simp)) ?_
  refine GOps_nil ?_
  refine thn_normal ?_
  refine G_seq ?_
  refine g_region ?_
  refine sv rfl (y_move) ?_
  refine sv rfl (y_buildSlice (xs := [.const (.string ⟨#[114, 101, 97, 100]⟩)]) Try.underlying79 inf9) ?_
  refine g_callm [0] (xs := [.const (.int .i64 (1)), .const (.bool true), .tmp 84]) rfl (c43 (1) true [⟨#[114, 101, 97, 100]⟩] [svc (1) true ⟨#[103, 101, 116]⟩, svc (2) false ⟨#[112, 117, 116]⟩, svc (2) true ⟨#[114, 97, 110, 103, 101]⟩, svc (2) true ⟨#[98, 121]⟩, svc (2) true ⟨#[99, 111, 117, 110, 116]⟩, svc (1) true ⟨#[100, 111, 109, 97, 105, 110, 49]⟩, svc (2) true ⟨#[100, 111, 109, 97, 105, 110, 50]⟩, svc (3) true ⟨#[109, 97, 112]⟩, svc (1) true ⟨#[97, 114, 114, 97, 121]⟩, svc (0) true ⟨#[99, 101, 108, 108]⟩, svc (0) true ⟨#[97, 116, 111, 109, 105, 99]⟩, svc (1) true ⟨#[115, 105, 122, 101]⟩, svc (1) true ⟨#[108, 111, 119]⟩, svc (1) true ⟨#[104, 105, 103, 104]⟩, svc (1) true ⟨#[115, 116, 114, 105, 100, 101]⟩, svc (1) true ⟨#[100, 111, 109, 97, 105, 110]⟩, svc (3) true ⟨#[110, 116, 104]⟩, svc (2) true ⟨#[108, 111, 97, 100, 49]⟩, svc (3) true ⟨#[108, 111, 97, 100, 50]⟩, svc (3) false ⟨#[115, 116, 111, 114, 101, 49]⟩, svc (4) false ⟨#[115, 116, 111, 114, 101, 50]⟩, svc (0) true ⟨#[104, 101, 114, 101]⟩, svc (0) true ⟨#[108, 111, 99, 97, 108, 101, 115]⟩, svc (1) false ⟨#[103, 111]⟩, svc (0) true ⟨#[99, 111, 117, 110, 116, 101, 114]⟩, svc (-1) false ⟨#[115, 112, 97, 119, 110]⟩, svc (1) false ⟨#[119, 97, 105, 116]⟩, svc (0) true ⟨#[115, 99, 111, 112, 101]⟩, svc (0) false ⟨#[117, 110, 115, 99, 111, 112, 101]⟩, svc (1) true ⟨#[112, 105, 101, 99, 101, 115]⟩, svc (3) true ⟨#[112, 105, 101, 99, 101]⟩, svc (4) true ⟨#[105, 110, 112, 105, 101, 99, 101]⟩, svc (1) true ⟨#[105, 115, 70, 117, 108, 108]⟩, svc (1) true ⟨#[114, 101, 97, 100, 70, 69]⟩, svc (1) true ⟨#[114, 101, 97, 100, 70, 70]⟩, svc (1) true ⟨#[114, 101, 97, 100, 88, 88]⟩, svc (1) true ⟨#[114, 101, 115, 101, 116]⟩, svc (2) true ⟨#[119, 114, 105, 116, 101, 69, 70]⟩, svc (2) true ⟨#[119, 114, 105, 116, 101, 70, 70]⟩, svc (2) true ⟨#[119, 114, 105, 116, 101, 88, 70]⟩] (by simp)) ?_
  refine GOps_nil ?_
  refine thn_normal ?_
  refine G_seq ?_
  refine g_region ?_
  refine sv rfl (y_move) ?_
  refine sv rfl (y_buildSlice (xs := [.const (.string ⟨#[119, 114, 105, 116, 101]⟩), .const (.string ⟨#[97, 100, 100]⟩), .const (.string ⟨#[102, 101, 116, 99, 104, 65, 100, 100]⟩), .const (.string ⟨#[101, 120, 99, 104, 97, 110, 103, 101]⟩)]) Try.underlying79 inf9) ?_
  refine g_callm [0] (xs := [.const (.int .i64 (2)), .const (.bool true), .tmp 87]) rfl (c43 (2) true [⟨#[119, 114, 105, 116, 101]⟩, ⟨#[97, 100, 100]⟩, ⟨#[102, 101, 116, 99, 104, 65, 100, 100]⟩, ⟨#[101, 120, 99, 104, 97, 110, 103, 101]⟩] [svc (1) true ⟨#[103, 101, 116]⟩, svc (2) false ⟨#[112, 117, 116]⟩, svc (2) true ⟨#[114, 97, 110, 103, 101]⟩, svc (2) true ⟨#[98, 121]⟩, svc (2) true ⟨#[99, 111, 117, 110, 116]⟩, svc (1) true ⟨#[100, 111, 109, 97, 105, 110, 49]⟩, svc (2) true ⟨#[100, 111, 109, 97, 105, 110, 50]⟩, svc (3) true ⟨#[109, 97, 112]⟩, svc (1) true ⟨#[97, 114, 114, 97, 121]⟩, svc (0) true ⟨#[99, 101, 108, 108]⟩, svc (0) true ⟨#[97, 116, 111, 109, 105, 99]⟩, svc (1) true ⟨#[115, 105, 122, 101]⟩, svc (1) true ⟨#[108, 111, 119]⟩, svc (1) true ⟨#[104, 105, 103, 104]⟩, svc (1) true ⟨#[115, 116, 114, 105, 100, 101]⟩, svc (1) true ⟨#[100, 111, 109, 97, 105, 110]⟩, svc (3) true ⟨#[110, 116, 104]⟩, svc (2) true ⟨#[108, 111, 97, 100, 49]⟩, svc (3) true ⟨#[108, 111, 97, 100, 50]⟩, svc (3) false ⟨#[115, 116, 111, 114, 101, 49]⟩, svc (4) false ⟨#[115, 116, 111, 114, 101, 50]⟩, svc (0) true ⟨#[104, 101, 114, 101]⟩, svc (0) true ⟨#[108, 111, 99, 97, 108, 101, 115]⟩, svc (1) false ⟨#[103, 111]⟩, svc (0) true ⟨#[99, 111, 117, 110, 116, 101, 114]⟩, svc (-1) false ⟨#[115, 112, 97, 119, 110]⟩, svc (1) false ⟨#[119, 97, 105, 116]⟩, svc (0) true ⟨#[115, 99, 111, 112, 101]⟩, svc (0) false ⟨#[117, 110, 115, 99, 111, 112, 101]⟩, svc (1) true ⟨#[112, 105, 101, 99, 101, 115]⟩, svc (3) true ⟨#[112, 105, 101, 99, 101]⟩, svc (4) true ⟨#[105, 110, 112, 105, 101, 99, 101]⟩, svc (1) true ⟨#[105, 115, 70, 117, 108, 108]⟩, svc (1) true ⟨#[114, 101, 97, 100, 70, 69]⟩, svc (1) true ⟨#[114, 101, 97, 100, 70, 70]⟩, svc (1) true ⟨#[114, 101, 97, 100, 88, 88]⟩, svc (1) true ⟨#[114, 101, 115, 101, 116]⟩, svc (2) true ⟨#[119, 114, 105, 116, 101, 69, 70]⟩, svc (2) true ⟨#[119, 114, 105, 116, 101, 70, 70]⟩, svc (2) true ⟨#[119, 114, 105, 116, 101, 88, 70]⟩, svc (1) true ⟨#[114, 101, 97, 100]⟩] (by simp)) ?_
  refine GOps_nil ?_
  refine thn_normal ?_
  refine G_seq ?_
  refine g_region ?_
  refine sv rfl (y_move) ?_
  refine sv rfl (y_buildSlice (xs := [.const (.string ⟨#[99, 111, 109, 112, 97, 114, 101, 65, 110, 100, 83, 119, 97, 112]⟩)]) Try.underlying79 inf9) ?_
  refine g_callm [0] (xs := [.const (.int .i64 (3)), .const (.bool true), .tmp 90]) rfl (c43 (3) true [⟨#[99, 111, 109, 112, 97, 114, 101, 65, 110, 100, 83, 119, 97, 112]⟩] [svc (1) true ⟨#[103, 101, 116]⟩, svc (2) false ⟨#[112, 117, 116]⟩, svc (2) true ⟨#[114, 97, 110, 103, 101]⟩, svc (2) true ⟨#[98, 121]⟩, svc (2) true ⟨#[99, 111, 117, 110, 116]⟩, svc (1) true ⟨#[100, 111, 109, 97, 105, 110, 49]⟩, svc (2) true ⟨#[100, 111, 109, 97, 105, 110, 50]⟩, svc (3) true ⟨#[109, 97, 112]⟩, svc (1) true ⟨#[97, 114, 114, 97, 121]⟩, svc (0) true ⟨#[99, 101, 108, 108]⟩, svc (0) true ⟨#[97, 116, 111, 109, 105, 99]⟩, svc (1) true ⟨#[115, 105, 122, 101]⟩, svc (1) true ⟨#[108, 111, 119]⟩, svc (1) true ⟨#[104, 105, 103, 104]⟩, svc (1) true ⟨#[115, 116, 114, 105, 100, 101]⟩, svc (1) true ⟨#[100, 111, 109, 97, 105, 110]⟩, svc (3) true ⟨#[110, 116, 104]⟩, svc (2) true ⟨#[108, 111, 97, 100, 49]⟩, svc (3) true ⟨#[108, 111, 97, 100, 50]⟩, svc (3) false ⟨#[115, 116, 111, 114, 101, 49]⟩, svc (4) false ⟨#[115, 116, 111, 114, 101, 50]⟩, svc (0) true ⟨#[104, 101, 114, 101]⟩, svc (0) true ⟨#[108, 111, 99, 97, 108, 101, 115]⟩, svc (1) false ⟨#[103, 111]⟩, svc (0) true ⟨#[99, 111, 117, 110, 116, 101, 114]⟩, svc (-1) false ⟨#[115, 112, 97, 119, 110]⟩, svc (1) false ⟨#[119, 97, 105, 116]⟩, svc (0) true ⟨#[115, 99, 111, 112, 101]⟩, svc (0) false ⟨#[117, 110, 115, 99, 111, 112, 101]⟩, svc (1) true ⟨#[112, 105, 101, 99, 101, 115]⟩, svc (3) true ⟨#[112, 105, 101, 99, 101]⟩, svc (4) true ⟨#[105, 110, 112, 105, 101, 99, 101]⟩, svc (1) true ⟨#[105, 115, 70, 117, 108, 108]⟩, svc (1) true ⟨#[114, 101, 97, 100, 70, 69]⟩, svc (1) true ⟨#[114, 101, 97, 100, 70, 70]⟩, svc (1) true ⟨#[114, 101, 97, 100, 88, 88]⟩, svc (1) true ⟨#[114, 101, 115, 101, 116]⟩, svc (2) true ⟨#[119, 114, 105, 116, 101, 69, 70]⟩, svc (2) true ⟨#[119, 114, 105, 116, 101, 70, 70]⟩, svc (2) true ⟨#[119, 114, 105, 116, 101, 88, 70]⟩, svc (1) true ⟨#[114, 101, 97, 100]⟩, svc (2) true ⟨#[119, 114, 105, 116, 101]⟩, svc (2) true ⟨#[97, 100, 100]⟩, svc (2) true ⟨#[102, 101, 116, 99, 104, 65, 100, 100]⟩, svc (2) true ⟨#[101, 120, 99, 104, 97, 110, 103, 101]⟩] (by simp)) ?_
  refine GOps_nil ?_
  refine thn_normal ?_
  refine G_seq ?_
  refine g_region ?_
  refine sv rfl (y_move) ?_
  refine sv rfl (y_buildSlice (xs := [.const (.string ⟨#[108, 105, 110, 101]⟩)]) Try.underlying79 inf9) ?_
  refine g_callm [0] (xs := [.const (.int .i64 (-1)), .const (.bool false), .tmp 93]) rfl (c43 (-1) false [⟨#[108, 105, 110, 101]⟩] [svc (1) true ⟨#[103, 101, 116]⟩, svc (2) false ⟨#[112, 117, 116]⟩, svc (2) true ⟨#[114, 97, 110, 103, 101]⟩, svc (2) true ⟨#[98, 121]⟩, svc (2) true ⟨#[99, 111, 117, 110, 116]⟩, svc (1) true ⟨#[100, 111, 109, 97, 105, 110, 49]⟩, svc (2) true ⟨#[100, 111, 109, 97, 105, 110, 50]⟩, svc (3) true ⟨#[109, 97, 112]⟩, svc (1) true ⟨#[97, 114, 114, 97, 121]⟩, svc (0) true ⟨#[99, 101, 108, 108]⟩, svc (0) true ⟨#[97, 116, 111, 109, 105, 99]⟩, svc (1) true ⟨#[115, 105, 122, 101]⟩, svc (1) true ⟨#[108, 111, 119]⟩, svc (1) true ⟨#[104, 105, 103, 104]⟩, svc (1) true ⟨#[115, 116, 114, 105, 100, 101]⟩, svc (1) true ⟨#[100, 111, 109, 97, 105, 110]⟩, svc (3) true ⟨#[110, 116, 104]⟩, svc (2) true ⟨#[108, 111, 97, 100, 49]⟩, svc (3) true ⟨#[108, 111, 97, 100, 50]⟩, svc (3) false ⟨#[115, 116, 111, 114, 101, 49]⟩, svc (4) false ⟨#[115, 116, 111, 114, 101, 50]⟩, svc (0) true ⟨#[104, 101, 114, 101]⟩, svc (0) true ⟨#[108, 111, 99, 97, 108, 101, 115]⟩, svc (1) false ⟨#[103, 111]⟩, svc (0) true ⟨#[99, 111, 117, 110, 116, 101, 114]⟩, svc (-1) false ⟨#[115, 112, 97, 119, 110]⟩, svc (1) false ⟨#[119, 97, 105, 116]⟩, svc (0) true ⟨#[115, 99, 111, 112, 101]⟩, svc (0) false ⟨#[117, 110, 115, 99, 111, 112, 101]⟩, svc (1) true ⟨#[112, 105, 101, 99, 101, 115]⟩, svc (3) true ⟨#[112, 105, 101, 99, 101]⟩, svc (4) true ⟨#[105, 110, 112, 105, 101, 99, 101]⟩, svc (1) true ⟨#[105, 115, 70, 117, 108, 108]⟩, svc (1) true ⟨#[114, 101, 97, 100, 70, 69]⟩, svc (1) true ⟨#[114, 101, 97, 100, 70, 70]⟩, svc (1) true ⟨#[114, 101, 97, 100, 88, 88]⟩, svc (1) true ⟨#[114, 101, 115, 101, 116]⟩, svc (2) true ⟨#[119, 114, 105, 116, 101, 69, 70]⟩, svc (2) true ⟨#[119, 114, 105, 116, 101, 70, 70]⟩, svc (2) true ⟨#[119, 114, 105, 116, 101, 88, 70]⟩, svc (1) true ⟨#[114, 101, 97, 100]⟩, svc (2) true ⟨#[119, 114, 105, 116, 101]⟩, svc (2) true ⟨#[97, 100, 100]⟩, svc (2) true ⟨#[102, 101, 116, 99, 104, 65, 100, 100]⟩, svc (2) true ⟨#[101, 120, 99, 104, 97, 110, 103, 101]⟩, svc (3) true ⟨#[99, 111, 109, 112, 97, 114, 101, 65, 110, 100, 83, 119, 97, 112]⟩] (by simp)) ?_
  refine GOps_nil ?_
  refine thn_normal ?_
  refine G_seq ?_
  refine g_region ?_
  refine sv rfl (y_move) ?_
  refine sv rfl (y_buildSlice (xs := [.const (.string ⟨#[97, 115, 115, 101, 114, 116]⟩)]) Try.underlying79 inf9) ?_
  refine g_callm [0] (xs := [.const (.int .i64 (1)), .const (.bool false), .tmp 96]) rfl (c43 (1) false [⟨#[97, 115, 115, 101, 114, 116]⟩] [svc (1) true ⟨#[103, 101, 116]⟩, svc (2) false ⟨#[112, 117, 116]⟩, svc (2) true ⟨#[114, 97, 110, 103, 101]⟩, svc (2) true ⟨#[98, 121]⟩, svc (2) true ⟨#[99, 111, 117, 110, 116]⟩, svc (1) true ⟨#[100, 111, 109, 97, 105, 110, 49]⟩, svc (2) true ⟨#[100, 111, 109, 97, 105, 110, 50]⟩, svc (3) true ⟨#[109, 97, 112]⟩, svc (1) true ⟨#[97, 114, 114, 97, 121]⟩, svc (0) true ⟨#[99, 101, 108, 108]⟩, svc (0) true ⟨#[97, 116, 111, 109, 105, 99]⟩, svc (1) true ⟨#[115, 105, 122, 101]⟩, svc (1) true ⟨#[108, 111, 119]⟩, svc (1) true ⟨#[104, 105, 103, 104]⟩, svc (1) true ⟨#[115, 116, 114, 105, 100, 101]⟩, svc (1) true ⟨#[100, 111, 109, 97, 105, 110]⟩, svc (3) true ⟨#[110, 116, 104]⟩, svc (2) true ⟨#[108, 111, 97, 100, 49]⟩, svc (3) true ⟨#[108, 111, 97, 100, 50]⟩, svc (3) false ⟨#[115, 116, 111, 114, 101, 49]⟩, svc (4) false ⟨#[115, 116, 111, 114, 101, 50]⟩, svc (0) true ⟨#[104, 101, 114, 101]⟩, svc (0) true ⟨#[108, 111, 99, 97, 108, 101, 115]⟩, svc (1) false ⟨#[103, 111]⟩, svc (0) true ⟨#[99, 111, 117, 110, 116, 101, 114]⟩, svc (-1) false ⟨#[115, 112, 97, 119, 110]⟩, svc (1) false ⟨#[119, 97, 105, 116]⟩, svc (0) true ⟨#[115, 99, 111, 112, 101]⟩, svc (0) false ⟨#[117, 110, 115, 99, 111, 112, 101]⟩, svc (1) true ⟨#[112, 105, 101, 99, 101, 115]⟩, svc (3) true ⟨#[112, 105, 101, 99, 101]⟩, svc (4) true ⟨#[105, 110, 112, 105, 101, 99, 101]⟩, svc (1) true ⟨#[105, 115, 70, 117, 108, 108]⟩, svc (1) true ⟨#[114, 101, 97, 100, 70, 69]⟩, svc (1) true ⟨#[114, 101, 97, 100, 70, 70]⟩, svc (1) true ⟨#[114, 101, 97, 100, 88, 88]⟩, svc (1) true ⟨#[114, 101, 115, 101, 116]⟩, svc (2) true ⟨#[119, 114, 105, 116, 101, 69, 70]⟩, svc (2) true ⟨#[119, 114, 105, 116, 101, 70, 70]⟩, svc (2) true ⟨#[119, 114, 105, 116, 101, 88, 70]⟩, svc (1) true ⟨#[114, 101, 97, 100]⟩, svc (2) true ⟨#[119, 114, 105, 116, 101]⟩, svc (2) true ⟨#[97, 100, 100]⟩, svc (2) true ⟨#[102, 101, 116, 99, 104, 65, 100, 100]⟩, svc (2) true ⟨#[101, 120, 99, 104, 97, 110, 103, 101]⟩, svc (3) true ⟨#[99, 111, 109, 112, 97, 114, 101, 65, 110, 100, 83, 119, 97, 112]⟩, svc (-1) false ⟨#[108, 105, 110, 101]⟩] (by simp)) ?_
  refine GOps_nil ?_
  refine thn_normal ?_
  refine G_seq ?_
  refine g_region ?_
  refine sv rfl (y_load_take Try.underlying31) ?_
  first | refine sv rfl (y_assign_take) ?_ | refine sv rfl (y_assign) ?_
  refine GOps_nil ?_
  refine thn_normal ?_
  refine G_ret ?_
  refine fino (by simp) ?_
  exact ⟨rfl, rfl⟩

end Go.Proofs.Ytphfdmagkgpgfaa
