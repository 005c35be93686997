/- Contracts of functions. Conditions: none. -/
import Derived.Test.YtphfdmagkgpgfaaWt
namespace Go.Proofs.Ytphfdmagkgpgfaa
open Go Go.Proofs.Ytphfdmagkgpgfaa.E

theorem Tr.decl_dummy : True := trivial
theorem set_same {α : Type} {xs : List α} {z : Nat} {x : α} (h : xs[z]? = some x) : xs.set z x = xs := by
  apply List.ext_getElem?
  intro i
  by_cases hi : z = i
  · subst hi; rw [List.getElem?_set_self (List.getElem?_eq_some_iff.1 h).1, h]
  · rw [List.getElem?_set_ne hi]
/-- Trees of the same Ops, Nums and shapes. -/
inductive Tr.Shp : Tr → Tr → Prop
  | mk {op : Int} {name name' : ByteArray} {num : Int} {ks ks' : List Tr} (h : ks.length = ks'.length) (h' : ∀ (i : Nat) x y, ks[i]? = some x → ks'[i]? = some y → Tr.Shp x y) : Tr.Shp (.mk op name num ks) (.mk op name' num ks')

theorem c14n : ∀ (n : Nat) (t u : Tr), t.size ≤ n → t.Ok → t.Shp u → Pf Try.prog 14 [t.d, u.d] (.d (.bool true)) := by
  intro n
  induction n with
  | zero => intro t u h; exact absurd t.size_pos (by omega)
  | succ n ih =>
    intro t u hsz hok hsh
    cases hsh with | @mk op name name' num ks ks' hl hr =>
    have hkd : ∀ k ∈ ks, k.size ≤ n := fun k hk => by
      have := Tr.size_mem hk
      rw [Tr.size] at hsz
      omega
    rw [Tr.d_mk, Tr.d_mk]
    cases hok with | mk h1 h2 h3 h4 h5 =>
    refine pf_body (rvs := [.tmp 4]) [(0, .d (.agg [.int .i64 op, .str name, .int .i64 num, .sl (ks.map Tr.d)])), (1, .d (.agg [.int .i64 op, .str name', .int .i64 num, .sl (ks'.map Tr.d)]))] Try.func14 Try.ntmps14 Try.results14 (fun S0 O0 w0 m0 hm0 => ?_)
    refine G_seq ?_
    refine g_region ?_
    refine sv rfl (y_box) ?_
    refine g_freeze 0 [] (.agg [.int .i64 op, .str name, .int .i64 num, .sl (ks.map Tr.d)]) rfl ?_
    refine sv rfl (y_box) ?_
    refine g_freeze 0 [] (.agg [.int .i64 op, .str name', .int .i64 num, .sl (ks'.map Tr.d)]) rfl ?_
    refine sv rfl (y_assign) ?_
    refine GOps_nil ?_
    refine thn_normal ?_
    refine G_seq ?_
    refine g_region ?_
    first | refine sv rfl (y_fieldAddr Try.underlying24 rfl sz3) ?_ | refine sv rfl (y_fieldp_leaf Try.underlying24 rfl sz3) ?_
    first | refine sv rfl (y_load_leaf Try.underlying3) ?_ | refine sv rfl (y_loadp_leaf Try.underlying3) ?_
    first | refine sv rfl (y_fieldAddr Try.underlying24 rfl sz3) ?_ | refine sv rfl (y_fieldp_leaf Try.underlying24 rfl sz3) ?_
    first | refine sv rfl (y_load_leaf Try.underlying3) ?_ | refine sv rfl (y_loadp_leaf Try.underlying3) ?_
    refine sv rfl (y_eql) ?_
    refine sv rfl (y_move) ?_
    first | refine sg rfl (fun hg => q_fieldAddr Try.underlying24 rfl sz3) ?_ | refine sg rfl (fun hg => q_fieldp_leaf Try.underlying24 rfl sz3) ?_
    first | refine sg rfl (fun hg => strip 11 (by simp only [GS.set, GS.get, List.lookup_cons, Nat.reduceBEq] <;> rfl) hg (q_load_leaf Try.underlying3)) ?_ | refine sg rfl (fun hg => strip 11 (by simp only [GS.set, GS.get, List.lookup_cons, Nat.reduceBEq] <;> rfl) hg (q_loadp_leaf Try.underlying3)) ?_
    first | refine sg rfl (fun hg => q_fieldAddr Try.underlying24 rfl sz3) ?_ | refine sg rfl (fun hg => q_fieldp_leaf Try.underlying24 rfl sz3) ?_
    first | refine sg rfl (fun hg => strip 13 (by simp only [GS.set, GS.get, List.lookup_cons, Nat.reduceBEq] <;> rfl) hg (q_load_leaf Try.underlying3)) ?_ | refine sg rfl (fun hg => strip 13 (by simp only [GS.set, GS.get, List.lookup_cons, Nat.reduceBEq] <;> rfl) hg (q_loadp_leaf Try.underlying3)) ?_
    refine sg rfl (fun hg => strip 14 (by simp only [GS.set, GS.get, List.lookup_cons, Nat.reduceBEq] <;> rfl) hg (strip 12 (by simp only [GS.set, GS.get, List.lookup_cons, Nat.reduceBEq] <;> rfl) hg (q_eql))) ?_
    refine sv rfl (y_and) ?_
    refine sv rfl (y_move) ?_
    first | refine sg rfl (fun hg => q_fieldAddr Try.underlying24 rfl sz22) ?_ | refine sg rfl (fun hg => q_fieldp_leaf Try.underlying24 rfl sz22) ?_
    first | refine sg rfl (fun hg => strip 18 (by simp only [GS.set, GS.get, List.lookup_cons, Nat.reduceBEq] <;> rfl) hg (q_load_leaf Try.underlying22)) ?_ | refine sg rfl (fun hg => strip 18 (by simp only [GS.set, GS.get, List.lookup_cons, Nat.reduceBEq] <;> rfl) hg (q_loadp_leaf Try.underlying22)) ?_
    first | refine sg rfl (fun hg => q_fieldAddr Try.underlying24 rfl sz22) ?_ | refine sg rfl (fun hg => q_fieldp_leaf Try.underlying24 rfl sz22) ?_
    first | refine sg rfl (fun hg => strip 20 (by simp only [GS.set, GS.get, List.lookup_cons, Nat.reduceBEq] <;> rfl) hg (q_load_leaf Try.underlying22)) ?_ | refine sg rfl (fun hg => strip 20 (by simp only [GS.set, GS.get, List.lookup_cons, Nat.reduceBEq] <;> rfl) hg (q_loadp_leaf Try.underlying22)) ?_
    refine g_callg (xs := [.tmp 19, .tmp 21, .func 14]) rfl (fun hg => c38 ks ks' 14 hl h4 (fun i x y hx hy => ih x y (hkd x (List.mem_of_getElem? hx)) (h5 x (List.mem_of_getElem? hx)) (hr i x y hx hy))) ?_
    refine sv rfl (y_and) ?_
    refine sv rfl (y_assign) ?_
    refine GOps_nil ?_
    refine thn_normal ?_
    refine G_ret ?_
    refine fin1 (by simp) ?_
    exact ⟨by simp, rfl⟩

theorem c80 (xs : List D) (hlim : xs.length ≤ 1000000) (hc : ∀ x ∈ xs, x.cells.length = 4) : Gm Try.prog 80 [.d (.sl xs)] [] (.rsl 0 0 xs.length 4) [flat xs] := by
  refine gm_body (rvs := [.tmp 2]) 0 [(0, .d (.sl xs))] Try.func80 Try.ntmps80 Try.results80 (fun S0 O0 w0 m0 hm0 => ?_)
  refine G_seq ?_
  refine g_region ?_
  refine sv rfl (y_assign) ?_
  refine GOps_nil ?_
  refine thn_normal ?_
  refine G_seq ?_
  refine G_seq ?_
  refine g_region ?_
  refine sv rfl (y_move) ?_
  refine GOps_slnil (xs := xs) rfl rfl Try.underlying22 (of_decide_eq_true rfl) (fun b hnil => ?_)
  refine GOps_nil ?_
  refine thn_normal ?_
  refine g_cond (fun hb0 => ?_) (fun hb0 => ?_)
  ·
    refine G_seq ?_
    refine g_region ?_
    refine sv rfl (y_assign) ?_
    have hx0 : xs = [] := hnil hb0
    subst hx0
    refine GOps_le (s' := ⟨[(2, .rsl 0 0 0 4)], [[]]⟩) (Le_nilrow 2 4 rfl) ?_
    refine GOps_nil ?_
    refine thn_normal ?_
    refine G_ret ?_
    refine thn_ret ?_
    refine finn [flat []] (by simp) ?_ (hm := .cons .nil .nil)
    exact ⟨rfl, rfl⟩
  ·
    refine G_skip ?_
    refine thn_normal ?_
    refine G_seq ?_
    refine g_region ?_
    refine sv rfl (y_buildSlice0 Try.underlying22 inf24) ?_
    refine sv rfl (y_move) ?_
    refine sv rfl (y_appendN (k := 4) (ys := xs) Try.underlying22 inf24 (hk := hc)) ?_
    refine sv rfl (y_assign) ?_
    refine GOps_nil ?_
    refine thn_normal ?_
    refine G_ret ?_
    refine finn [flat xs] (by simp) ?_ (hm := .cons (CSub_flat _ _) .nil)
    exact ⟨rfl, rfl⟩

set_option maxHeartbeats 4000000 in
theorem c66n : ∀ (n : Nat) (t : Tr), t.size ≤ n → t.Ok → t.size ≤ 100000 → Pf Try.prog 66 [t.d] (.d t.d) := by
  intro n
  induction n with
  | zero => intro t h; exact absurd t.size_pos (by omega)
  | succ n ih =>
    intro t hsz hok hszb
    obtain ⟨op, name, num, ks⟩ := t
    have hkd : ∀ k ∈ ks, k.size ≤ n := fun k hk => by
      have := Tr.size_mem hk
      rw [Tr.size] at hsz
      omega
    rw [Tr.d_mk]
    cases hok with | mk h1 h2 h3 h4 h5 =>
    have hln := Tr.len_sizes ks
    rw [Tr.size] at hszb
    refine pf_body (rvs := [.cell 2 24]) [(0, .d (.agg [.int .i64 op, .str name, .int .i64 num, .sl (ks.map Tr.d)]))] Try.func66 Try.ntmps66 Try.results66 (fun S0 O0 w0 m0 hm0 => ?_)
    refine G_seq ?_
    refine g_region ?_
    refine sv rfl (y_box) ?_
    refine sv rfl (y_alloc zr24) ?_
    refine GOps_nil ?_
    refine thn_normal ?_
    refine G_seq ?_
    refine g_region ?_
    first | refine sv rfl (y_fieldAddr Try.underlying24 rfl sz22) ?_ | refine sv rfl (y_fieldp_leaf Try.underlying24 rfl sz22) ?_
    first | refine sv rfl (y_load_leaf Try.underlying22) ?_ | refine sv rfl (y_loadp_leaf Try.underlying22) ?_
    refine g_calln (xs := [.tmp 5]) rfl (c80 (ks.map Tr.d) (by simp only [List.length_map]; omega) (Tr.ds_cells ks)) ?_
    first | refine sv rfl (y_fieldAddr Try.underlying24 rfl sz22) ?_ | refine sv rfl (y_fieldp_leaf Try.underlying24 rfl sz22) ?_
    first | refine sa rfl (d_store sz22) ?_ | refine sa rfl (d_store_take sz22) ?_
    refine GOps_nil ?_
    refine thn_normal ?_
    refine G_seq ?_
    refine G_seq ?_
    refine g_region ?_
    first | refine sv rfl (y_fieldAddr Try.underlying24 rfl sz22) ?_ | refine sv rfl (y_fieldp_leaf Try.underlying24 rfl sz22) ?_
    first | refine sv rfl (y_load_leaf Try.underlying22) ?_ | refine sv rfl (y_loadp_leaf Try.underlying22) ?_
    refine sv rfl (Yld_pure rfl (of_decide_eq_true rfl) (q_rowLen Try.underlying22)) ?_
    refine sv rfl (y_move) ?_
    refine GOps_nil ?_
    refine thn_normal ?_
    refine G_block ?_
    refine g_loop (α := Nat) (fun z => ⟨[(11, .d (.int .i64 (z : Nat))), (10, .d (.int .i64 ((ks.map Tr.d).length : Nat))), (1, .ref 0 0), (2, .ref 1 0)], [[.d (.int .i64 op), .d (.str name), .d (.int .i64 num), .rsl 2 0 (ks.map Tr.d).length 4], [.d (.int .i64 0), .d (.str ⟨#[]⟩), .d (.int .i64 0), .nils], flat (ks.map Tr.d)]⟩) (fun z => ks.length - z) (fun z => z ≤ ks.length) 0 (Nat.zero_le _) (fun z hz Q' hn0 he0 hr0 => ?_) (le_of)
    skip
    refine G_seq ?_
    refine g_region ?_
    refine sv rfl (y_lss) ?_
    refine GOps_nil ?_
    refine thn_normal ?_
    refine G_seq ?_
    refine g_cond (fun hb0 => ?_) (fun hb0 => ?_)
    ·
      have hlt : z < ks.length := by simpa using hb0
      obtain ⟨k, hk⟩ : ∃ k, ks[z]? = some k := ⟨_, List.getElem?_eq_getElem hlt⟩
      have hmem := List.mem_of_getElem? hk
      have hxd := Tr.ds_get hk
      have hxa := hxd
      obtain ⟨kop, knm, knu, kks, hka⟩ := k.d_agg
      rw [hka] at hxa
      have hset := set_same hxa
      refine G_skip ?_
      refine thn_normal ?_
      refine G_seq ?_
      refine G_block ?_
      refine G_seq ?_
      refine g_region ?_
      refine sv rfl (y_move) ?_
      refine sv rfl (y_assign) ?_
      refine GOps_nil ?_
      refine thn_normal ?_
      refine G_drawB 11 rfl (by kernel_rfl) (fun S1 O1 w1 m1 hm1 hm2 => ?_)
      have hB1 : ∀ i, i < m1.length → (List.range m1.length).contains i = true := fun i hi => by simpa using hi
      first | refine bq 0 hB1 rfl (q_fieldAddr Try.underlying24 rfl sz22) ?_ | refine bq 0 hB1 rfl (q_fieldp_leaf Try.underlying24 rfl sz22) ?_
      refine bq 2 hB1 rfl (q_move) ?_
      first | refine bq 3 hB1 rfl (q_fieldAddr Try.underlying24 rfl sz22) ?_ | refine bq 3 hB1 rfl (q_fieldp_leaf Try.underlying24 rfl sz22) ?_
      refine bq 5 hB1 rfl (q_move) ?_
      refine GB_go ?_
      refine ga2 1 4 ?_ ?_
      ·
        first | refine sv rfl (y_load_leaf Try.underlying22) ?_ | refine sv rfl (y_loadp_leaf Try.underlying22) ?_
        refine GOps_nil ⟨rfl, ?_⟩
        refine ga1 4 ?_
        first | refine sv rfl (y_load_leaf Try.underlying22) ?_ | refine sv rfl (y_loadp_leaf Try.underlying22) ?_
        refine GOps_nil ⟨rfl, ?_⟩
        refine ga1 6 ?_
        refine sv rfl (Yld_pure rfl (of_decide_eq_true rfl) (q_rowIndex Try.underlying22 sz24)) ?_
        refine GOps_nil ⟨rfl, ?_⟩
        refine ga1 7 ?_
        refine sv rfl (y_rowLoad (i := z) (hi := hxa) (hk := Tr.ds_cells ks) (hz := sz24) (hu := Try.underlying24)) ?_
        refine GOps_nil ⟨rfl, ?_⟩
        refine ga1 8 ?_
        refine g_call (xs := [.tmp 21]) rfl ((hka ▸ ih k (hkd k hmem) (h5 k hmem) (by have := hkd k hmem; have := Tr.size_mem hmem; omega))) ?_
        refine GOps_nil ⟨rfl, ?_⟩
        refine ga1 9 ?_
        refine sv rfl (Yld_pure rfl (of_decide_eq_true rfl) (q_rowIndex Try.underlying22 sz24)) ?_
        refine GOps_nil ⟨rfl, ?_⟩
        refine ga1 10 ?_
        refine sa rfl (d_rowStore (i := z) (hi := by simpa using hlt) (hk := Tr.ds_cells ks) (hk0 := by decide) (hz := sz24)) ?_
        rw [hset]
        refine GOps_nil ⟨rfl, ?_⟩
        refine GA_done (by kernel_rfl) ?_
        refine blk_normal ?_
        refine thn_normal ?_
        refine g_keep [0, 1, 2, 3, 10, 11] ?_
        refine g_region ?_
        refine sv rfl (y_add) ?_
        refine sv rfl (y_move) ?_
        refine GOps_nil ?_
        refine hn0 _ (z + 1) (by omega) (by omega) le_of
      ·
        first | refine sv rfl (y_load_leaf Try.underlying22) ?_ | refine sv rfl (y_loadp_leaf Try.underlying22) ?_
        refine GOps_nil ⟨rfl, ?_⟩
        refine ga2 1 6 ?_ ?_
        ·
          first | refine sv rfl (y_load_leaf Try.underlying22) ?_ | refine sv rfl (y_loadp_leaf Try.underlying22) ?_
          refine GOps_nil ⟨rfl, ?_⟩
          refine ga1 6 ?_
          refine sv rfl (Yld_pure rfl (of_decide_eq_true rfl) (q_rowIndex Try.underlying22 sz24)) ?_
          refine GOps_nil ⟨rfl, ?_⟩
          refine ga1 7 ?_
          refine sv rfl (y_rowLoad (i := z) (hi := hxa) (hk := Tr.ds_cells ks) (hz := sz24) (hu := Try.underlying24)) ?_
          refine GOps_nil ⟨rfl, ?_⟩
          refine ga1 8 ?_
          refine g_call (xs := [.tmp 21]) rfl ((hka ▸ ih k (hkd k hmem) (h5 k hmem) (by have := hkd k hmem; have := Tr.size_mem hmem; omega))) ?_
          refine GOps_nil ⟨rfl, ?_⟩
          refine ga1 9 ?_
          refine sv rfl (Yld_pure rfl (of_decide_eq_true rfl) (q_rowIndex Try.underlying22 sz24)) ?_
          refine GOps_nil ⟨rfl, ?_⟩
          refine ga1 10 ?_
          refine sa rfl (d_rowStore (i := z) (hi := by simpa using hlt) (hk := Tr.ds_cells ks) (hk0 := by decide) (hz := sz24)) ?_
          rw [hset]
          refine GOps_nil ⟨rfl, ?_⟩
          refine GA_done (by kernel_rfl) ?_
          refine blk_normal ?_
          refine thn_normal ?_
          refine g_keep [0, 1, 2, 3, 10, 11] ?_
          refine g_region ?_
          refine sv rfl (y_add) ?_
          refine sv rfl (y_move) ?_
          refine GOps_nil ?_
          refine hn0 _ (z + 1) (by omega) (by omega) le_of
        ·
          refine sv rfl (Yld_pure rfl (of_decide_eq_true rfl) (q_rowIndex Try.underlying22 sz24)) ?_
          refine GOps_nil ⟨rfl, ?_⟩
          refine ga2 1 7 ?_ ?_
          ·
            first | refine sv rfl (y_load_leaf Try.underlying22) ?_ | refine sv rfl (y_loadp_leaf Try.underlying22) ?_
            refine GOps_nil ⟨rfl, ?_⟩
            refine ga1 7 ?_
            refine sv rfl (y_rowLoad (i := z) (hi := hxa) (hk := Tr.ds_cells ks) (hz := sz24) (hu := Try.underlying24)) ?_
            refine GOps_nil ⟨rfl, ?_⟩
            refine ga1 8 ?_
            refine g_call (xs := [.tmp 21]) rfl ((hka ▸ ih k (hkd k hmem) (h5 k hmem) (by have := hkd k hmem; have := Tr.size_mem hmem; omega))) ?_
            refine GOps_nil ⟨rfl, ?_⟩
            refine ga1 9 ?_
            refine sv rfl (Yld_pure rfl (of_decide_eq_true rfl) (q_rowIndex Try.underlying22 sz24)) ?_
            refine GOps_nil ⟨rfl, ?_⟩
            refine ga1 10 ?_
            refine sa rfl (d_rowStore (i := z) (hi := by simpa using hlt) (hk := Tr.ds_cells ks) (hk0 := by decide) (hz := sz24)) ?_
            rw [hset]
            refine GOps_nil ⟨rfl, ?_⟩
            refine GA_done (by kernel_rfl) ?_
            refine blk_normal ?_
            refine thn_normal ?_
            refine g_keep [0, 1, 2, 3, 10, 11] ?_
            refine g_region ?_
            refine sv rfl (y_add) ?_
            refine sv rfl (y_move) ?_
            refine GOps_nil ?_
            refine hn0 _ (z + 1) (by omega) (by omega) le_of
          ·
            refine sv rfl (y_rowLoad (i := z) (hi := hxa) (hk := Tr.ds_cells ks) (hz := sz24) (hu := Try.underlying24)) ?_
            refine GOps_nil ⟨rfl, ?_⟩
            refine ga2 1 8 ?_ ?_
            ·
              first | refine sv rfl (y_load_leaf Try.underlying22) ?_ | refine sv rfl (y_loadp_leaf Try.underlying22) ?_
              refine GOps_nil ⟨rfl, ?_⟩
              refine ga1 8 ?_
              refine g_call (xs := [.tmp 21]) rfl ((hka ▸ ih k (hkd k hmem) (h5 k hmem) (by have := hkd k hmem; have := Tr.size_mem hmem; omega))) ?_
              refine GOps_nil ⟨rfl, ?_⟩
              refine ga1 9 ?_
              refine sv rfl (Yld_pure rfl (of_decide_eq_true rfl) (q_rowIndex Try.underlying22 sz24)) ?_
              refine GOps_nil ⟨rfl, ?_⟩
              refine ga1 10 ?_
              refine sa rfl (d_rowStore (i := z) (hi := by simpa using hlt) (hk := Tr.ds_cells ks) (hk0 := by decide) (hz := sz24)) ?_
              rw [hset]
              refine GOps_nil ⟨rfl, ?_⟩
              refine GA_done (by kernel_rfl) ?_
              refine blk_normal ?_
              refine thn_normal ?_
              refine g_keep [0, 1, 2, 3, 10, 11] ?_
              refine g_region ?_
              refine sv rfl (y_add) ?_
              refine sv rfl (y_move) ?_
              refine GOps_nil ?_
              refine hn0 _ (z + 1) (by omega) (by omega) le_of
            ·
              refine g_call (xs := [.tmp 21]) rfl ((hka ▸ ih k (hkd k hmem) (h5 k hmem) (by have := hkd k hmem; have := Tr.size_mem hmem; omega))) ?_
              refine GOps_nil ⟨rfl, ?_⟩
              refine ga1 1 ?_
              first | refine sv rfl (y_load_leaf Try.underlying22) ?_ | refine sv rfl (y_loadp_leaf Try.underlying22) ?_
              refine GOps_nil ⟨rfl, ?_⟩
              refine ga1 9 ?_
              refine sv rfl (Yld_pure rfl (of_decide_eq_true rfl) (q_rowIndex Try.underlying22 sz24)) ?_
              refine GOps_nil ⟨rfl, ?_⟩
              refine ga1 10 ?_
              refine sa rfl (d_rowStore (i := z) (hi := by simpa using hlt) (hk := Tr.ds_cells ks) (hk0 := by decide) (hz := sz24)) ?_
              rw [hset]
              refine GOps_nil ⟨rfl, ?_⟩
              refine GA_done (by kernel_rfl) ?_
              refine blk_normal ?_
              refine thn_normal ?_
              refine g_keep [0, 1, 2, 3, 10, 11] ?_
              refine g_region ?_
              refine sv rfl (y_add) ?_
              refine sv rfl (y_move) ?_
              refine GOps_nil ?_
              refine hn0 _ (z + 1) (by omega) (by omega) le_of
    ·
      refine G_exit ?_
      refine thn_exit ?_
      refine he0 _ _ ?_
      refine blk_exit ?_
      refine thn_normal ?_
      refine G_seq ?_
      refine g_region ?_
      refine g_freezeR 2 4 [[.d (.int .i64 op), .d (.str name), .d (.int .i64 num), .rsl 2 0 (ks.map Tr.d).length 4], [.d (.int .i64 0), .d (.str ⟨#[]⟩), .d (.int .i64 0), .nils]] (ks.map Tr.d) (Tr.ds_cells ks) rfl ?_
      first | refine sv rfl (y_load_agg sz24 Try.underlying24 rfl) ?_ | refine sv rfl (y_loadp_agg (by exact sz24) Try.underlying24 rfl) ?_
      first | refine sa rfl (d_store sz24) ?_ | refine sa rfl (d_store_take sz24) ?_
      refine GOps_nil ?_
      refine thn_normal ?_
      refine G_ret ?_
      refine findc sz24 Try.underlying24 (by simp) ?_
      exact ⟨rfl, rfl⟩

end Go.Proofs.Ytphfdmagkgpgfaa
