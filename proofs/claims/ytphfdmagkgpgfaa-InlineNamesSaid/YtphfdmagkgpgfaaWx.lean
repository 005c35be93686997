/- Contracts of functions. Conditions: none. -/
import Derived.Test.YtphfdmagkgpgfaaWw
namespace Go.Proofs.Ytphfdmagkgpgfaa
open Go Go.Proofs.Ytphfdmagkgpgfaa.E

theorem has_change (n : ByteArray) (l : List ByteArray) : (fun x => hasB1 x (without n l ++ [n])) = addV n fun x => hasB1 x l := by
  funext x
  unfold addV hasB1 without
  rw [List.any_append, List.any_filter]
  by_cases h : n = x
  · subst h; simp
  · have : (l.any fun s => !decide (s = n) && decide (s = x)) = l.any fun s => decide (s = x) := by
      congr 1; funext s
      by_cases hs : s = x
      · subst hs; have : ¬ s = n := fun e => h e.symm
        simp [this]
      · simp [hs]
    rw [this]; simp [h]
theorem Tr.size_idx : ∀ {ks : List Tr} {z : Nat} {k : Tr}, ks[z]? = some k → z + k.size ≤ Tr.sizes ks
  | [], z, k, h => by simp at h
  | x :: r, 0, k, h => by simp at h; subst h; rw [Tr.sizes]; omega
  | x :: r, z + 1, k, h => by have := Tr.size_idx (ks := r) (z := z) (k := k) (by simpa using h); have := x.size_pos; rw [Tr.sizes]; omega
theorem use_step {ks : List Tr} {y : Nat} {q : Tr} {use inn : List ByteArray} (hq : ks[y]? = some q) (h : (fun x => hasB1 x use) = fun x => hasB1 x (loopNames (ks.take y)) || hasB1 x inn) :
    (q.op = 4 → (fun x => hasB1 x (without q.nm use ++ [q.nm])) = fun x => hasB1 x (loopNames (ks.take (y + 1))) || hasB1 x inn) ∧ (¬ q.op = 4 → (fun x => hasB1 x use) = fun x => hasB1 x (loopNames (ks.take (y + 1))) || hasB1 x inn) := by
  refine ⟨fun h4 => ?_, fun h4 => ?_⟩
  · rw [has_change, h, loopNames_step hq, if_pos h4]
    funext x
    simp only [addV, hasB1, List.any_append, List.any_cons, List.any_nil, Bool.or_false]
    cases decide (q.nm = x) <;> simp
  · rw [h, loopNames_step hq, if_neg h4, List.append_nil]

theorem c73 (name : ByteArray) : Pf Try.prog 73 [.sl [], .str name] (.d (.sl [])) := by
  refine pf_body (rvs := [.tmp 4]) [(0, .d (.sl [])), (1, .d (.str name))] Try.func73 Try.ntmps73 Try.results73 (fun S0 O0 w0 m0 hm0 => ?_)
  refine G_seq ?_
  refine g_region ?_
  refine sv rfl (y_assign) ?_
  refine GOps_nil ?_
  refine thn_normal ?_
  refine G_seq ?_
  refine g_region ?_
  refine sv rfl (y_buildSlice (xs := []) Try.underlying111 inf113) ?_
  first | refine sv rfl (y_assign_take) ?_ | refine sv rfl (y_assign) ?_
  refine GOps_nil ?_
  refine thn_normal ?_
  refine G_seq ?_
  refine G_seq ?_
  refine g_region ?_
  refine sv rfl (y_assign) ?_
  refine GOps_nil ?_
  refine thn_normal ?_
  refine G_block ?_
  refine g_loop (α := Unit) (fun z => ⟨[(6, .d (.int .i64 0)), (0, .d (.sl [])), (5, .d (.sl []))], []⟩) (fun z => 0) (fun z => True) () trivial (fun z hz Q' hn0 he0 hr0 => ?_) (le_of)
  skip
  refine G_seq ?_
  refine G_seq ?_
  refine g_region ?_
  refine sv rfl (y_move) ?_
  refine sv rfl (y_move) ?_
  refine sv rfl (y_len Try.underlying111) ?_
  refine sv rfl (y_lss) ?_
  refine GOps_nil ?_
  refine thn_normal ?_
  refine g_cond (fun hb0 => ?_) (fun hb0 => ?_)
  ·
    exact absurd hb0 (by decide)
  ·
    refine G_exit ?_
    refine thn_exit ?_
    refine he0 _ _ ?_
    refine blk_exit ?_
    refine thn_normal ?_
    refine G_seq ?_
    refine g_region ?_
    refine sv rfl (y_move) ?_
    first | refine sv rfl (y_assign_take) ?_ | refine sv rfl (y_assign) ?_
    refine GOps_nil ?_
    refine thn_normal ?_
    refine G_ret ?_
    refine fin1 (by simp) ?_
    exact ⟨rfl, rfl⟩

set_option maxHeartbeats 4000000 in
theorem c41n (sfx : ByteArray) (hsfx : sfx.size ≤ 1000000) : ∀ (n : Nat) (t : Tr), t.size ≤ n → t.Ok → t.size ≤ 100000 → t.long = false → ∀ ns : List ByteArray, ns.length + 3 * t.size ≤ 1000000 → Pf Try.prog 41 [t.d, .sl (ns.map .str), .str sfx, .sl []] (.d (t.ren sfx (fun x => hasB1 x ns)).d) := by
  intro n
  induction n with
  | zero => intro t h; exact absurd t.size_pos (by omega)
  | succ n ih =>
    intro t hsz hok hszb hlg ns hns
    obtain ⟨op, name, num, ks⟩ := t
    have hok0 := hok
    have hszb0 := hszb
    have hkd : ∀ k ∈ ks, k.size ≤ n := fun k hk => by
      have := Tr.size_mem hk
      rw [Tr.size] at hsz
      omega
    rw [Tr.d_mk]
    cases hok with | mk h1 h2 h3 h4 h5 =>
    have hln := Tr.len_sizes ks
    rw [Tr.size] at hszb hns
    obtain ⟨hnm3, hlgk⟩ := long_kids hlg
    refine pf_body (rvs := [.cell 8 24]) [(0, .d (.agg [.int .i64 op, .str name, .int .i64 num, .sl (ks.map Tr.d)])), (1, .d (.sl (ns.map .str))), (2, .d (.str sfx)), (3, .d (.sl []))] Try.func41 Try.ntmps41 Try.results41 (fun S0 O0 w0 m0 hm0 => ?_)
    refine G_seq ?_
    refine g_region ?_
    refine sv rfl (y_box) ?_
    refine g_freeze 0 [] (.agg [.int .i64 op, .str name, .int .i64 num, .sl (ks.map Tr.d)]) rfl ?_
    refine sv rfl (y_alloc zr24) ?_
    refine GOps_nil ?_
    refine thn_normal ?_
    refine G_seq_cut (α := Unit) (fun u => ⟨[(1, .d (.sl (ns.map .str))), (2, .d (.str sfx)), (3, .d (.sl [])), (4, .d (.ptr (.agg [.int .i64 op, .str name, .int .i64 num, .sl (ks.map Tr.d)]))), (8, .ref 0 0)], [[.d (.int .i64 0), .d (.str ⟨#[]⟩), .d (.int .i64 0), .nils]]⟩) (fun u => True) (fun Q' hn he hr => ?_) (fun u hu => ?_)
    ·
      refine G_seq ?_
      refine g_region ?_
      first | refine sv rfl (y_fieldAddr Try.underlying24 rfl sz3) ?_ | refine sv rfl (y_fieldp_leaf Try.underlying24 rfl sz3) ?_
      first | refine sv rfl (y_load_leaf Try.underlying3) ?_ | refine sv rfl (y_loadp_leaf Try.underlying3) ?_
      refine sv rfl (y_eql) ?_
      refine GOps_nil ?_
      refine thn_normal ?_
      refine g_cond (fun hb0 => ?_) (fun hb0 => ?_)
      ·
        refine G_seq ?_
        refine g_region ?_
        refine sv rfl (y_assign) ?_
        refine GOps_nil ?_
        refine thn_normal ?_
        refine G_block ?_
        refine g_loop (α := Unit) (fun u => ⟨[(9, .d (.int .i64 0)), (1, .d (.sl (ns.map .str))), (2, .d (.str sfx)), (3, .d (.sl [])), (4, .d (.ptr (.agg [.int .i64 op, .str name, .int .i64 num, .sl (ks.map Tr.d)]))), (8, .ref 0 0)], [[.d (.int .i64 0), .d (.str ⟨#[]⟩), .d (.int .i64 0), .nils]]⟩) (fun u => 0) (fun u => True) () trivial (fun u hu Q' hn0 he0 hr0 => ?_) (le_of)
        skip
        refine G_seq ?_
        refine G_seq ?_
        refine g_region ?_
        refine sv rfl (y_move) ?_
        refine sv rfl (y_move) ?_
        refine sv rfl (y_len Try.underlying111) ?_
        refine sv rfl (y_lss) ?_
        refine GOps_nil ?_
        refine thn_normal ?_
        refine g_cond (fun hb1 => ?_) (fun hb1 => ?_)
        ·
          exact absurd hb1 (by decide)
        ·
          refine G_exit ?_
          refine thn_exit ?_
          refine he0 _ _ ?_
          refine blk_exit ?_
          refine hn _ () trivial le_of
      ·
        refine G_skip ?_
        refine hn _ () trivial le_of
    ·
      skip
      refine G_seq ?_
      refine G_seq ?_
      refine g_region ?_
      first | refine sv rfl (y_fieldAddr Try.underlying24 rfl sz3) ?_ | refine sv rfl (y_fieldp_leaf Try.underlying24 rfl sz3) ?_
      first | refine sv rfl (y_load_leaf Try.underlying3) ?_ | refine sv rfl (y_loadp_leaf Try.underlying3) ?_
      refine sv rfl (y_eql) ?_
      refine sv rfl (y_move) ?_
      refine sg rfl (fun hg => q_move) ?_
      first | refine sg rfl (fun hg => q_fieldAddr Try.underlying24 rfl sz9) ?_ | refine sg rfl (fun hg => q_fieldp_leaf Try.underlying24 rfl sz9) ?_
      first | refine sg rfl (fun hg => strip 47 (by simp only [GS.set, GS.get, List.lookup_cons, Nat.reduceBEq] <;> rfl) hg (q_load_leaf Try.underlying9)) ?_ | refine sg rfl (fun hg => strip 47 (by simp only [GS.set, GS.get, List.lookup_cons, Nat.reduceBEq] <;> rfl) hg (q_loadp_leaf Try.underlying9)) ?_
      refine g_callg (xs := [.tmp 46, .tmp 48]) rfl (fun hg => c71 ns name (by omega)) ?_
      refine sv rfl (y_and) ?_
      refine GOps_nil ?_
      refine thn_normal ?_
      refine g_cond (fun hb2 => ?_) (fun hb2 => ?_)
      ·
        obtain ⟨hop, hhb⟩ : op = 4 ∧ hasB1 name ns = true := by simpa using hb2
        subst hop
        refine G_seq ?_
        refine g_keep [0, 1, 2, 3, 4, 8, 9, 10, 11, 12, 13, 14, 15, 16, 17, 18] ?_
        refine G_drawB 13 rfl (by kernel_rfl) (fun S1 O1 w1 m1 hm1 hm2 => ?_)
        have hB1 : ∀ i, i < m1.length → (List.range m1.length).contains i = true := fun i hi => by simpa using hi
        first | refine bq 0 hB1 rfl (q_fieldAddr Try.underlying24 rfl sz3) ?_ | refine bq 0 hB1 rfl (q_fieldp_leaf Try.underlying24 rfl sz3) ?_
        first | refine bq 1 hB1 rfl (q_load_leaf Try.underlying3) ?_ | refine bq 1 hB1 rfl (q_loadp_leaf Try.underlying3) ?_
        first | refine bq 2 hB1 rfl (q_fieldAddr Try.underlying24 rfl sz9) ?_ | refine bq 2 hB1 rfl (q_fieldp_leaf Try.underlying24 rfl sz9) ?_
        first | refine bq 3 hB1 rfl (q_load_leaf Try.underlying9) ?_ | refine bq 3 hB1 rfl (q_loadp_leaf Try.underlying9) ?_
        refine bq 4 hB1 rfl (q_move) ?_
        refine bq 5 hB1 rfl (q_stradd) ?_
        first | refine bq 6 hB1 rfl (q_fieldAddr Try.underlying24 rfl sz3) ?_ | refine bq 6 hB1 rfl (q_fieldp_leaf Try.underlying24 rfl sz3) ?_
        first | refine bq 7 hB1 rfl (q_load_leaf Try.underlying3) ?_ | refine bq 7 hB1 rfl (q_loadp_leaf Try.underlying3) ?_
        first | refine bq 8 hB1 rfl (q_load_agg sz24 Try.underlying24 rfl) ?_ | refine bq 8 hB1 rfl (q_loadp_agg (by exact sz24) Try.underlying24 rfl) ?_
        refine GB_go ?_
        refine ga1 9 ?_
        refine g_call (xs := [.tmp 59]) rfl ((Tr.d_mk 4 name num ks ▸ c70n _ (.mk 4 name num ks) (Nat.le_refl _) hok0 hszb0)) ?_
        refine GOps_nil ⟨rfl, ?_⟩
        refine ga1 10 ?_
        refine sv rfl (Yld_pure rfl (of_decide_eq_true rfl) (q_field Try.underlying24 rfl Try.underlying22)) ?_
        refine GOps_nil ⟨rfl, ?_⟩
        refine ga1 11 ?_
        refine sv rfl (y_buildS pl24 zr24) ?_
        refine GOps_nil ⟨rfl, ?_⟩
        refine ga1 12 ?_
        first | refine sa rfl (d_store sz24) ?_ | refine sa rfl (d_store_take sz24) ?_
        refine GOps_nil ⟨rfl, ?_⟩
        refine GA_done (by kernel_rfl) ?_
        refine thn_normal ?_
        refine G_ret ?_
        refine thn_ret ?_
        refine findc sz24 Try.underlying24 (by simp) ?_
        exact ⟨by rw [Tr.ren_name ⟨rfl, hhb⟩, Tr.d_mk], rfl⟩
      ·
        have hv : ¬ (op = 4 ∧ (fun x => hasB1 x ns) name = true) := by
          rintro ⟨e1, e2⟩
          replace e2 : hasB1 name ns = true := e2
          simp [e1, e2] at hb2
        refine G_skip ?_
        refine thn_normal ?_
        refine G_seq ?_
        refine g_keep [0, 1, 2, 3, 4, 8, 9, 10, 11, 12, 13, 14, 15, 16, 17, 18] ?_
        refine g_region ?_
        first | refine sv rfl (y_fieldAddr Try.underlying24 rfl sz3) ?_ | refine sv rfl (y_fieldp_leaf Try.underlying24 rfl sz3) ?_
        first | refine sv rfl (y_load_leaf Try.underlying3) ?_ | refine sv rfl (y_loadp_leaf Try.underlying3) ?_
        first | refine sv rfl (y_fieldAddr Try.underlying24 rfl sz9) ?_ | refine sv rfl (y_fieldp_leaf Try.underlying24 rfl sz9) ?_
        first | refine sv rfl (y_load_leaf Try.underlying9) ?_ | refine sv rfl (y_loadp_leaf Try.underlying9) ?_
        first | refine sv rfl (y_fieldAddr Try.underlying24 rfl sz3) ?_ | refine sv rfl (y_fieldp_leaf Try.underlying24 rfl sz3) ?_
        first | refine sv rfl (y_load_leaf Try.underlying3) ?_ | refine sv rfl (y_loadp_leaf Try.underlying3) ?_
        refine sv rfl (Yld_pure rfl (of_decide_eq_true rfl) (q_buildP pl24 zr24)) ?_
        refine sv rfl (y_alloc zr24) ?_
        first | refine sa rfl (d_store sz24) ?_ | refine sa rfl (d_store_take sz24) ?_
        refine GOps_nil ?_
        refine thn_normal ?_
        refine G_seq_cut (α := ByteArray) (fun nmx => ⟨[(1, .d (.sl (ns.map .str))), (2, .d (.str sfx)), (3, .d (.sl [])), (4, .d (.ptr (.agg [.int .i64 op, .str name, .int .i64 num, .sl (ks.map Tr.d)]))), (8, .ref 0 0), (10, .ref 1 0)], [[.d (.int .i64 0), .d (.str ⟨#[]⟩), .d (.int .i64 0), .nils], [.d (.int .i64 op), .d (.str nmx), .d (.int .i64 num), .nils]]⟩) (fun nmx => nmx = if op = 50 then name ++ sfx else name) (fun Q' hn he hr => ?_) (fun nmx hnmx => ?_)
        ·
          refine G_seq ?_
          refine g_region ?_
          first | refine sv rfl (y_fieldAddr Try.underlying24 rfl sz3) ?_ | refine sv rfl (y_fieldp_leaf Try.underlying24 rfl sz3) ?_
          first | refine sv rfl (y_load_leaf Try.underlying3) ?_ | refine sv rfl (y_loadp_leaf Try.underlying3) ?_
          refine sv rfl (y_eql) ?_
          refine GOps_nil ?_
          refine thn_normal ?_
          refine g_cond (fun hb3 => ?_) (fun hb3 => ?_)
          ·
            have h50 : op = 50 := by simpa using hb3
            refine g_keep [0, 1, 2, 3, 4, 8, 9, 10, 11, 12, 13, 14, 15, 16, 17, 18] ?_
            refine g_region ?_
            first | refine sv rfl (y_fieldAddr Try.underlying24 rfl sz9) ?_ | refine sv rfl (y_fieldp_leaf Try.underlying24 rfl sz9) ?_
            first | refine sv rfl (y_load_leaf Try.underlying9) ?_ | refine sv rfl (y_loadp_leaf Try.underlying9) ?_
            refine sv rfl (y_move) ?_
            refine sv rfl (y_stradd) ?_
            first | refine sv rfl (y_fieldAddr Try.underlying24 rfl sz9) ?_ | refine sv rfl (y_fieldp_leaf Try.underlying24 rfl sz9) ?_
            first | refine sa rfl (d_store sz9) ?_ | refine sa rfl (d_store_take sz9) ?_
            refine GOps_nil ?_
            refine hn _ (name ++ sfx) (by rw [if_pos h50]) le_of
          ·
            have h50 : ¬ op = 50 := by simpa using hb3
            refine G_skip ?_
            refine hn _ name (by rw [if_neg h50]) le_of
        ·
          skip
          refine G_seq_cut (α := Unit) (fun u => ⟨[(11, .d (.bool (isLoopD op num (ks.map Tr.d).length))), (1, .d (.sl (ns.map .str))), (2, .d (.str sfx)), (3, .d (.sl [])), (4, .d (.ptr (.agg [.int .i64 op, .str name, .int .i64 num, .sl (ks.map Tr.d)]))), (8, .ref 0 0), (10, .ref 1 0)], [[.d (.int .i64 0), .d (.str ⟨#[]⟩), .d (.int .i64 0), .nils], [.d (.int .i64 op), .d (.str nmx), .d (.int .i64 num), .nils]]⟩) (fun u => True) (fun Q' hn he hr => ?_) (fun u hu => ?_)
          ·
            refine g_keep [0, 1, 2, 3, 4, 8, 9, 10, 11, 12, 13, 14, 15, 16, 17, 18] ?_
            refine g_region ?_
            first | refine sv rfl (y_fieldAddr Try.underlying24 rfl sz3) ?_ | refine sv rfl (y_fieldp_leaf Try.underlying24 rfl sz3) ?_
            first | refine sv rfl (y_load_leaf Try.underlying3) ?_ | refine sv rfl (y_loadp_leaf Try.underlying3) ?_
            refine sv rfl (y_eql) ?_
            refine sv rfl (y_move) ?_
            first | refine sg rfl (fun hg => q_fieldAddr Try.underlying24 rfl sz3) ?_ | refine sg rfl (fun hg => q_fieldp_leaf Try.underlying24 rfl sz3) ?_
            first | refine sg rfl (fun hg => strip 82 (by simp only [GS.set, GS.get, List.lookup_cons, Nat.reduceBEq] <;> rfl) hg (q_load_leaf Try.underlying3)) ?_ | refine sg rfl (fun hg => strip 82 (by simp only [GS.set, GS.get, List.lookup_cons, Nat.reduceBEq] <;> rfl) hg (q_loadp_leaf Try.underlying3)) ?_
            refine sg rfl (fun hg => strip 83 (by simp only [GS.set, GS.get, List.lookup_cons, Nat.reduceBEq] <;> rfl) hg (q_eql)) ?_
            refine sv rfl (y_or) ?_
            refine sv rfl (y_move) ?_
            first | refine sg rfl (fun hg => q_fieldAddr Try.underlying24 rfl sz3) ?_ | refine sg rfl (fun hg => q_fieldp_leaf Try.underlying24 rfl sz3) ?_
            first | refine sg rfl (fun hg => strip 87 (by simp only [GS.set, GS.get, List.lookup_cons, Nat.reduceBEq] <;> rfl) hg (q_load_leaf Try.underlying3)) ?_ | refine sg rfl (fun hg => strip 87 (by simp only [GS.set, GS.get, List.lookup_cons, Nat.reduceBEq] <;> rfl) hg (q_loadp_leaf Try.underlying3)) ?_
            refine sg rfl (fun hg => strip 88 (by simp only [GS.set, GS.get, List.lookup_cons, Nat.reduceBEq] <;> rfl) hg (q_eql)) ?_
            refine sv rfl (y_or) ?_
            refine sv rfl (y_move) ?_
            first | refine sg rfl (fun hg => q_fieldAddr Try.underlying24 rfl sz3) ?_ | refine sg rfl (fun hg => q_fieldp_leaf Try.underlying24 rfl sz3) ?_
            first | refine sg rfl (fun hg => strip 92 (by simp only [GS.set, GS.get, List.lookup_cons, Nat.reduceBEq] <;> rfl) hg (q_load_leaf Try.underlying3)) ?_ | refine sg rfl (fun hg => strip 92 (by simp only [GS.set, GS.get, List.lookup_cons, Nat.reduceBEq] <;> rfl) hg (q_loadp_leaf Try.underlying3)) ?_
            refine sg rfl (fun hg => strip 93 (by simp only [GS.set, GS.get, List.lookup_cons, Nat.reduceBEq] <;> rfl) hg (q_geq)) ?_
            refine sv rfl (y_and) ?_
            refine sv rfl (y_move) ?_
            first | refine sg rfl (fun hg => q_fieldAddr Try.underlying24 rfl sz3) ?_ | refine sg rfl (fun hg => q_fieldp_leaf Try.underlying24 rfl sz3) ?_
            first | refine sg rfl (fun hg => strip 97 (by simp only [GS.set, GS.get, List.lookup_cons, Nat.reduceBEq] <;> rfl) hg (q_load_leaf Try.underlying3)) ?_ | refine sg rfl (fun hg => strip 97 (by simp only [GS.set, GS.get, List.lookup_cons, Nat.reduceBEq] <;> rfl) hg (q_loadp_leaf Try.underlying3)) ?_
            refine sg rfl (fun hg => strip 98 (by simp only [GS.set, GS.get, List.lookup_cons, Nat.reduceBEq] <;> rfl) hg (q_leq)) ?_
            refine sv rfl (y_and) ?_
            refine sv rfl (y_move) ?_
            first | refine sg rfl (fun hg => q_fieldAddr Try.underlying24 rfl sz22) ?_ | refine sg rfl (fun hg => q_fieldp_leaf Try.underlying24 rfl sz22) ?_
            first | refine sg rfl (fun hg => strip 102 (by simp only [GS.set, GS.get, List.lookup_cons, Nat.reduceBEq] <;> rfl) hg (q_load_leaf Try.underlying22)) ?_ | refine sg rfl (fun hg => strip 102 (by simp only [GS.set, GS.get, List.lookup_cons, Nat.reduceBEq] <;> rfl) hg (q_loadp_leaf Try.underlying22)) ?_
            refine sg rfl (fun hg => strip 103 (by simp only [GS.set, GS.get, List.lookup_cons, Nat.reduceBEq] <;> rfl) hg (q_len Try.underlying22)) ?_
            first | refine sg rfl (fun hg => q_fieldAddr Try.underlying24 rfl sz3) ?_ | refine sg rfl (fun hg => q_fieldp_leaf Try.underlying24 rfl sz3) ?_
            first | refine sg rfl (fun hg => strip 105 (by simp only [GS.set, GS.get, List.lookup_cons, Nat.reduceBEq] <;> rfl) hg (q_load_leaf Try.underlying3)) ?_ | refine sg rfl (fun hg => strip 105 (by simp only [GS.set, GS.get, List.lookup_cons, Nat.reduceBEq] <;> rfl) hg (q_loadp_leaf Try.underlying3)) ?_
            refine sg rfl (fun hg => strip 106 (by simp only [GS.set, GS.get, List.lookup_cons, Nat.reduceBEq] <;> rfl) hg (q_add)) ?_
            refine sg rfl (fun hg => strip 107 (by simp only [GS.set, GS.get, List.lookup_cons, Nat.reduceBEq] <;> rfl) hg (strip 104 (by simp only [GS.set, GS.get, List.lookup_cons, Nat.reduceBEq] <;> rfl) hg (q_geq))) ?_
            refine sv rfl (y_and) ?_
            refine sv rfl (y_assign) ?_
            refine GOps_nil ?_
            refine hn _ () trivial le_of
          ·
            rw [List.length_map]
            obtain ⟨lp, hlp⟩ : ∃ lp, isLoopD op num ks.length = lp := ⟨_, rfl⟩
            obtain ⟨dn, hdn⟩ : ∃ dn, loopNames (ks.take num.toNat) = dn := ⟨_, rfl⟩
            obtain ⟨R, hRe⟩ : ∃ R, Tr.renK sfx lp num dn 0 (fun x => hasB1 x ns) ks = R := ⟨_, rfl⟩
            have hlpn : lp = true → 0 ≤ num ∧ num ≤ 2 ∧ num + 2 ≤ ks.length := fun h => isLoop_num (hlp.trans h)
            rw [hlp]
            refine G_seq ?_
            refine g_keep [0, 1, 2, 3, 4, 8, 9, 10, 11, 12, 13, 14, 15, 16, 17, 18] ?_
            refine g_region ?_
            refine sv rfl (y_move) ?_
            first | refine sv rfl (y_assign_take) ?_ | refine sv rfl (y_assign) ?_
            refine GOps_nil ?_
            refine thn_normal ?_
            refine G_seq ?_
            refine G_seq ?_
            refine g_region ?_
            refine sv rfl (y_assign) ?_
            refine GOps_nil ?_
            refine thn_normal ?_
            refine G_block ?_
            refine g_loop (α := Nat × List ByteArray × List Tr) (fun z => ⟨[(13, .d (.int .i64 (z.1 : Nat))), (12, .d (.sl (z.2.1.map .str))), (2, .d (.str sfx)), (3, .d (.sl [])), (4, .d (.ptr (.agg [.int .i64 op, .str name, .int .i64 num, .sl (ks.map Tr.d)]))), (8, .ref 0 0), (10, .ref 1 0), (11, .d (.bool lp))], [[.d (.int .i64 0), .d (.str ⟨#[]⟩), .d (.int .i64 0), .nils], [.d (.int .i64 op), .d (.str nmx), .d (.int .i64 num), .osl 4 (z.2.2.map Tr.d)]]⟩) (fun z => ks.length - z.1) (fun z => z.1 ≤ ks.length ∧ z.2.2.length = z.1 ∧ z.2.1.length ≤ ns.length + z.1 ∧ z.2.2 ++ Tr.renK sfx lp num dn z.1 (fun x => hasB1 x z.2.1) (ks.drop z.1) = R) (0, ns, []) ⟨Nat.zero_le _, rfl, Nat.le_refl _, by show [] ++ Tr.renK sfx lp num dn 0 (fun x => hasB1 x ns) (ks.drop 0) = R; rw [List.nil_append, List.drop_zero, hRe]⟩ (fun z hz Q' hn1 he1 hr1 => ?_) (le_of)
            obtain ⟨z, inn, acc⟩ := z
            obtain ⟨hz1, hal, hil, hR⟩ := hz
            replace hz1 : z ≤ ks.length := hz1
            replace hal : acc.length = z := hal
            replace hil : inn.length ≤ ns.length + z := hil
            replace hR : acc ++ Tr.renK sfx lp num dn z (fun x => hasB1 x inn) (ks.drop z) = R := hR
            refine G_seq ?_
            refine G_seq ?_
            refine g_region ?_
            refine sv rfl (y_move) ?_
            first | refine sv rfl (y_fieldAddr Try.underlying24 rfl sz22) ?_ | refine sv rfl (y_fieldp_leaf Try.underlying24 rfl sz22) ?_
            first | refine sv rfl (y_load_leaf Try.underlying22) ?_ | refine sv rfl (y_loadp_leaf Try.underlying22) ?_
            refine sv rfl (y_len Try.underlying22) ?_
            refine sv rfl (y_lss) ?_
            refine GOps_nil ?_
            refine thn_normal ?_
            refine g_cond (fun hb4 => ?_) (fun hb4 => ?_)
            ·
              have hlt : z < ks.length := by simpa using hb4
              obtain ⟨k, hk⟩ : ∃ k, ks[z]? = some k := ⟨_, List.getElem?_eq_getElem hlt⟩
              have hmem := List.mem_of_getElem? hk
              have hxa := Tr.ds_get hk
              have hkok := h5 k hmem
              have hksz := hkd k hmem
              have hks2 := Tr.size_mem hmem
              have hks3 := Tr.size_idx hk
              have hklg := hlgk k hmem
              obtain ⟨kop, knm, knu, kks⟩ := k
              have hka := Tr.d_mk kop knm knu kks
              rw [hka] at hxa
              have hknm : knm.size ≤ 300 := (long_kids hklg).1
              refine G_skip ?_
              refine thn_normal ?_
              refine G_seq ?_
              refine G_block ?_
              refine G_seq ?_
              refine g_region ?_
              first | refine sv rfl (y_fieldAddr Try.underlying24 rfl sz22) ?_ | refine sv rfl (y_fieldp_leaf Try.underlying24 rfl sz22) ?_
              first | refine sv rfl (y_load_leaf Try.underlying22) ?_ | refine sv rfl (y_loadp_leaf Try.underlying22) ?_
              refine sv rfl (y_move) ?_
              refine sv rfl (y_indexAddr Try.underlying22 sz24) ?_
              first | refine sv rfl (y_load_agg sz24 Try.underlying24 rfl) ?_ | refine sv rfl (y_loadp_agg (by exact sz24) Try.underlying24 rfl) ?_
              refine sv rfl (y_alloc zr24) ?_
              first | refine sa rfl (d_store sz24) ?_ | refine sa rfl (d_store_take sz24) ?_
              refine g_freeze 2 [[.d (.int .i64 0), .d (.str ⟨#[]⟩), .d (.int .i64 0), .nils], [.d (.int .i64 op), .d (.str nmx), .d (.int .i64 num), .osl 4 (acc.map Tr.d)]] (.agg [.int .i64 kop, .str knm, .int .i64 knu, .sl (kks.map Tr.d)]) rfl ?_
              refine GOps_nil ?_
              refine thn_normal ?_
              refine G_seq ?_
              refine G_block ?_
              refine G_seq ?_
              refine g_keep [0, 1, 2, 3, 4, 8, 9, 10, 11, 12, 13, 14, 15, 16, 17, 18] ?_
              refine g_region ?_
              refine sv rfl (y_move) ?_
              refine sv rfl (y_move) ?_
              refine sg rfl (fun hg => q_move) ?_
              first | refine sg rfl (fun hg => q_fieldAddr Try.underlying24 rfl sz3) ?_ | refine sg rfl (fun hg => q_fieldp_leaf Try.underlying24 rfl sz3) ?_
              first | refine sg rfl (fun hg => strip 127 (by simp only [GS.set, GS.get, List.lookup_cons, Nat.reduceBEq] <;> rfl) hg (q_load_leaf Try.underlying3)) ?_ | refine sg rfl (fun hg => strip 127 (by simp only [GS.set, GS.get, List.lookup_cons, Nat.reduceBEq] <;> rfl) hg (q_loadp_leaf Try.underlying3)) ?_
              refine sg rfl (fun hg => strip 128 (by simp only [GS.set, GS.get, List.lookup_cons, Nat.reduceBEq] <;> rfl) hg (strip 126 (by simp only [GS.set, GS.get, List.lookup_cons, Nat.reduceBEq] <;> rfl) hg (q_lss))) ?_
              refine sv rfl (y_and) ?_
              refine sv rfl (y_assign) ?_
              refine GOps_nil ?_
              refine thn_normal ?_
              refine g_cond (fun hb5 => ?_) (fun hb5 => ?_)
              ·
                have hin : lp = true ∧ (z : Int) < num := by simpa using hb5
                refine G_seq ?_
                refine g_region ?_
                first | refine sv rfl (y_load_agg sz24 Try.underlying24 rfl) ?_ | refine sv rfl (y_loadp_agg (by exact sz24) Try.underlying24 rfl) ?_
                refine g_call (xs := [.tmp 131]) rfl ((hka ▸ c70n _ (Tr.mk kop knm knu kks) (Nat.le_refl _) hkok (by omega))) ?_
                refine sv rfl (y_alloc zr24) ?_
                first | refine sa rfl (d_store sz24) ?_ | refine sa rfl (d_store_take sz24) ?_
                refine GOps_nil ?_
                refine thn_normal ?_
                refine G_seq_cut (α := ByteArray) (fun u => ⟨[(13, .d (.int .i64 (z : Nat))), (12, .d (.sl (inn.map .str))), (2, .d (.str sfx)), (3, .d (.sl [])), (4, .d (.ptr (.agg [.int .i64 op, .str name, .int .i64 num, .sl (ks.map Tr.d)]))), (8, .ref 0 0), (10, .ref 1 0), (11, .d (.bool lp)), (15, .ref 2 0)], [[.d (.int .i64 0), .d (.str ⟨#[]⟩), .d (.int .i64 0), .nils], [.d (.int .i64 op), .d (.str nmx), .d (.int .i64 num), .osl 4 (acc.map Tr.d)]] ++ [[.d (.int .i64 kop), .d (.str u), .d (.int .i64 knu), .d (.sl (kks.map Tr.d))]]⟩) (fun u => u = if kop = 4 then knm ++ sfx else knm) (fun Q' hn he hr => ?_) (fun u hu => ?_)
                ·
                  refine G_seq ?_
                  refine g_keep [0, 1, 2, 3, 4, 8, 9, 10, 11, 12, 13, 14, 15, 16, 17, 18] ?_
                  refine g_region ?_
                  first | refine sv rfl (y_fieldAddr Try.underlying24 rfl sz3) ?_ | refine sv rfl (y_fieldp_leaf Try.underlying24 rfl sz3) ?_
                  first | refine sv rfl (y_load_leaf Try.underlying3) ?_ | refine sv rfl (y_loadp_leaf Try.underlying3) ?_
                  refine sv rfl (y_eql) ?_
                  refine GOps_nil ?_
                  refine thn_normal ?_
                  refine g_cond (fun hb6 => ?_) (fun hb6 => ?_)
                  ·
                    have h4k : kop = 4 := by simpa using hb6
                    refine g_region ?_
                    first | refine sv rfl (y_fieldAddr Try.underlying24 rfl sz9) ?_ | refine sv rfl (y_fieldp_leaf Try.underlying24 rfl sz9) ?_
                    first | refine sv rfl (y_load_leaf Try.underlying9) ?_ | refine sv rfl (y_loadp_leaf Try.underlying9) ?_
                    refine sv rfl (y_move) ?_
                    refine sv rfl (y_stradd) ?_
                    first | refine sv rfl (y_fieldAddr Try.underlying24 rfl sz9) ?_ | refine sv rfl (y_fieldp_leaf Try.underlying24 rfl sz9) ?_
                    first | refine sa rfl (d_store sz9) ?_ | refine sa rfl (d_store_take sz9) ?_
                    refine GOps_nil ?_
                    refine hn _ (knm ++ sfx) (by rw [if_pos h4k]) le_of
                  ·
                    have h4k : ¬ kop = 4 := by simpa using hb6
                    refine G_skip ?_
                    refine hn _ knm (by rw [if_neg h4k]) le_of
                ·
                  have hacc : acc.map Tr.d ++ [.agg [.int .i64 kop, .str u, .int .i64 knu, .sl (kks.map Tr.d)]] = (acc ++ [(Tr.mk kop knm knu kks).nmd sfx]).map Tr.d := by
                    rw [List.map_append, List.map_cons, List.map_nil]
                    show _ = _ ++ [(Tr.mk kop (if kop = 4 then knm ++ sfx else knm) knu kks).d]
                    rw [Tr.d_mk, hu]
                  refine G_seq ?_
                  refine g_region ?_
                  first | refine sv rfl (y_fieldAddr Try.underlying24 rfl sz22) ?_ | refine sv rfl (y_fieldp_leaf Try.underlying24 rfl sz22) ?_
                  first | refine sv rfl (y_load_take Try.underlying22) ?_ | refine sv rfl (y_load_leaf Try.underlying22) ?_ | refine sv rfl (y_loadp_leaf Try.underlying22) ?_
                  first | refine sv rfl (y_load_agg sz24 Try.underlying24 rfl) ?_ | refine sv rfl (y_loadp_agg (by exact sz24) Try.underlying24 rfl) ?_
                  refine sv rfl (y_buildSlice (xs := [.tmp 143]) Try.underlying22 inf24 (hk := by intro x hx; rw [List.mem_singleton.1 hx]; first | exact Tr.d_cells _ | rfl)) ?_
                  refine sv rfl (y_append Try.underlying22 inf24 (hk := by intro x hx; rw [List.mem_singleton.1 hx]; first | exact Tr.d_cells _ | rfl) (hlen := by simp [lim]; omega) (hB := by simp [lim]; omega)) ?_
                  rw [hacc]
                  first | refine sv rfl (y_fieldAddr Try.underlying24 rfl sz22) ?_ | refine sv rfl (y_fieldp_leaf Try.underlying24 rfl sz22) ?_
                  first | refine sa rfl (d_store sz22) ?_ | refine sa rfl (d_store_take sz22) ?_
                  refine GOps_nil ?_
                  refine thn_normal ?_
                  refine G_exit ?_
                  refine blk_other (by decide) ?_
                  refine thn_exit ?_
                  refine blk_exit ?_
                  refine thn_normal ?_
                  refine g_region ?_
                  refine sv rfl (y_move) ?_
                  refine sv rfl (y_add) ?_
                  refine sv rfl (y_assign) ?_
                  refine GOps_nil ?_
                  refine hn1 _ (z + 1, inn, acc ++ [(Tr.mk kop knm knu kks).nmd sfx]) ⟨by show z + 1 ≤ ks.length; omega, by show (acc ++ [_]).length = z + 1; rw [List.length_append, hal]; rfl, by show inn.length ≤ ns.length + (z + 1); omega, by show (acc ++ [_]) ++ Tr.renK sfx lp num dn (z + 1) _ (ks.drop (z + 1)) = R; rw [← hR, List.append_assoc]; congr 1; rw [Tr.renK_name hk hin]; rfl⟩ (by show ks.length - (z + 1) < ks.length - z; omega) le_of
              ·
                have hni : ¬ (lp = true ∧ (z : Int) < num) := by
                  rintro ⟨e, h⟩
                  simp [e, h] at hb5
                refine G_seq ?_
                refine g_region ?_
                refine sv rfl (y_move) ?_
                refine sv rfl (y_move) ?_
                refine sg rfl (fun hg => q_move) ?_
                first | refine sg rfl (fun hg => q_fieldAddr Try.underlying24 rfl sz3) ?_ | refine sg rfl (fun hg => q_fieldp_leaf Try.underlying24 rfl sz3) ?_
                first | refine sg rfl (fun hg => strip 151 (by simp only [GS.set, GS.get, List.lookup_cons, Nat.reduceBEq] <;> rfl) hg (q_load_leaf Try.underlying3)) ?_ | refine sg rfl (fun hg => strip 151 (by simp only [GS.set, GS.get, List.lookup_cons, Nat.reduceBEq] <;> rfl) hg (q_loadp_leaf Try.underlying3)) ?_
                refine sg rfl (fun hg => strip 152 (by simp only [GS.set, GS.get, List.lookup_cons, Nat.reduceBEq] <;> rfl) hg (q_add)) ?_
                refine sg rfl (fun hg => strip 153 (by simp only [GS.set, GS.get, List.lookup_cons, Nat.reduceBEq] <;> rfl) hg (strip 150 (by simp only [GS.set, GS.get, List.lookup_cons, Nat.reduceBEq] <;> rfl) hg (q_eql))) ?_
                refine sv rfl (y_and) ?_
                refine sv rfl (y_assign) ?_
                refine GOps_nil ?_
                refine thn_normal ?_
                refine g_cond (fun hb7 => ?_) (fun hb7 => ?_)
                ·
                  have hlt1 : lp = true := by
                    cases lp with
                    | true => rfl
                    | false => simp at hb7
                  have hl7 := hlpn hlt1
                  have hbd : lp = true ∧ (z : Int) = num + 1 := by
                    have hw : IntKind.i64.wrap (num + 1) = num + 1 := wrap_add (by omega) (by omega)
                    rw [hw, hlt1] at hb7
                    exact ⟨hlt1, by simpa using hb7⟩
                  refine G_seq ?_
                  refine g_keep [0, 1, 2, 3, 4, 8, 9, 10, 11, 12, 13, 14, 15, 16, 17, 18] ?_
                  refine g_region ?_
                  refine sv rfl (y_move) ?_
                  first | refine sv rfl (y_assign_take) ?_ | refine sv rfl (y_assign) ?_
                  refine GOps_nil ?_
                  refine thn_normal ?_
                  refine G_seq ?_
                  refine g_region ?_
                  refine sv rfl (y_move) ?_
                  first | refine sv rfl (y_assign_take) ?_ | refine sv rfl (y_assign) ?_
                  refine GOps_nil ?_
                  refine thn_normal ?_
                  refine G_seq ?_
                  refine G_seq ?_
                  refine g_region ?_
                  refine sv rfl (y_assign) ?_
                  refine GOps_nil ?_
                  refine thn_normal ?_
                  refine G_block ?_
                  refine g_loop (α := Nat × List ByteArray) (fun y => ⟨[(18, .d (.int .i64 (y.1 : Nat))), (16, .d (.sl (y.2.map .str))), (17, .d (.sl [])), (13, .d (.int .i64 (z : Nat))), (12, .d (.sl (inn.map .str))), (2, .d (.str sfx)), (3, .d (.sl [])), (4, .d (.ptr (.agg [.int .i64 op, .str name, .int .i64 num, .sl (ks.map Tr.d)]))), (8, .ref 0 0), (10, .ref 1 0), (11, .d (.bool lp)), (14, .d (.ptr (.agg [.int .i64 kop, .str knm, .int .i64 knu, .sl (kks.map Tr.d)])))], [[.d (.int .i64 0), .d (.str ⟨#[]⟩), .d (.int .i64 0), .nils], [.d (.int .i64 op), .d (.str nmx), .d (.int .i64 num), .osl 4 (acc.map Tr.d)]]⟩) (fun y => num.toNat - y.1) (fun y => (y.1 : Int) ≤ num ∧ y.2.length ≤ inn.length + y.1 ∧ (fun x => hasB1 x y.2) = fun x => hasB1 x (loopNames (ks.take y.1)) || hasB1 x inn) (0, inn) ⟨by show (0 : Int) ≤ num; omega, Nat.le_refl _, rfl⟩ (fun y hy Q' hn2 he2 hr2 => ?_) (le_of)
                  obtain ⟨y, use⟩ := y
                  obtain ⟨hy1, hy2, hy3⟩ := hy
                  replace hy1 : (y : Int) ≤ num := hy1
                  replace hy2 : use.length ≤ inn.length + y := hy2
                  replace hy3 : (fun x => hasB1 x use) = fun x => hasB1 x (loopNames (ks.take y)) || hasB1 x inn := hy3
                  refine G_seq ?_
                  refine G_seq ?_
                  refine g_region ?_
                  refine sv rfl (y_move) ?_
                  first | refine sv rfl (y_fieldAddr Try.underlying24 rfl sz3) ?_ | refine sv rfl (y_fieldp_leaf Try.underlying24 rfl sz3) ?_
                  first | refine sv rfl (y_load_leaf Try.underlying3) ?_ | refine sv rfl (y_loadp_leaf Try.underlying3) ?_
                  refine sv rfl (y_lss) ?_
                  refine GOps_nil ?_
                  refine thn_normal ?_
                  refine g_cond (fun hb8 => ?_) (fun hb8 => ?_)
                  ·
                    have hlt2 : (y : Int) < num := by simpa using hb8
                    obtain ⟨q, hq⟩ : ∃ q, ks[y]? = some q := ⟨_, List.getElem?_eq_getElem (by omega)⟩
                    have hqa := Tr.ds_get hq
                    have hqlg := hlgk q (List.mem_of_getElem? hq)
                    obtain ⟨qop, qnm, qnu, qks⟩ := q
                    rw [Tr.d_mk] at hqa
                    have hqnm : qnm.size ≤ 300 := (long_kids hqlg).1
                    refine G_skip ?_
                    refine thn_normal ?_
                    refine G_seq ?_
                    refine G_block ?_
                    refine G_seq ?_
                    refine g_region ?_
                    first | refine sv rfl (y_fieldAddr Try.underlying24 rfl sz22) ?_ | refine sv rfl (y_fieldp_leaf Try.underlying24 rfl sz22) ?_
                    first | refine sv rfl (y_load_leaf Try.underlying22) ?_ | refine sv rfl (y_loadp_leaf Try.underlying22) ?_
                    refine sv rfl (y_move) ?_
                    refine sv rfl (y_indexAddr Try.underlying22 sz24) ?_
                    first | refine sv rfl (y_fieldAddr Try.underlying24 rfl sz3) ?_ | refine sv rfl (y_fieldp_leaf Try.underlying24 rfl sz3) ?_
                    first | refine sv rfl (y_load_leaf Try.underlying3) ?_ | refine sv rfl (y_loadp_leaf Try.underlying3) ?_
                    refine sv rfl (y_eql) ?_
                    refine GOps_nil ?_
                    refine thn_normal ?_
                    refine g_cond (fun hb9 => ?_) (fun hb9 => ?_)
                    ·
                      have h4q : qop = 4 := by simpa using hb9
                      refine G_seq ?_
                      refine g_region ?_
                      refine sv rfl (y_move) ?_
                      first | refine sv rfl (y_fieldAddr Try.underlying24 rfl sz22) ?_ | refine sv rfl (y_fieldp_leaf Try.underlying24 rfl sz22) ?_
                      first | refine sv rfl (y_load_leaf Try.underlying22) ?_ | refine sv rfl (y_loadp_leaf Try.underlying22) ?_
                      refine sv rfl (y_move) ?_
                      refine sv rfl (y_indexAddr Try.underlying22 sz24) ?_
                      first | refine sv rfl (y_fieldAddr Try.underlying24 rfl sz9) ?_ | refine sv rfl (y_fieldp_leaf Try.underlying24 rfl sz9) ?_
                      first | refine sv rfl (y_load_leaf Try.underlying9) ?_ | refine sv rfl (y_loadp_leaf Try.underlying9) ?_
                      refine g_call (xs := [.tmp 171, .tmp 177]) rfl (Pf.data (c72 use qnm (by omega))) ?_
                      first | refine sv rfl (y_assign_take) ?_ | refine sv rfl (y_assign) ?_
                      refine GOps_nil ?_
                      refine thn_normal ?_
                      refine g_keep [0, 1, 2, 3, 4, 8, 9, 10, 11, 12, 13, 14, 15, 16, 17, 18] ?_
                      refine g_region ?_
                      refine sv rfl (y_move) ?_
                      first | refine sv rfl (y_fieldAddr Try.underlying24 rfl sz22) ?_ | refine sv rfl (y_fieldp_leaf Try.underlying24 rfl sz22) ?_
                      first | refine sv rfl (y_load_leaf Try.underlying22) ?_ | refine sv rfl (y_loadp_leaf Try.underlying22) ?_
                      refine sv rfl (y_move) ?_
                      refine sv rfl (y_indexAddr Try.underlying22 sz24) ?_
                      first | refine sv rfl (y_fieldAddr Try.underlying24 rfl sz9) ?_ | refine sv rfl (y_fieldp_leaf Try.underlying24 rfl sz9) ?_
                      first | refine sv rfl (y_load_leaf Try.underlying9) ?_ | refine sv rfl (y_loadp_leaf Try.underlying9) ?_
                      refine g_call (xs := [.tmp 179, .tmp 185]) rfl (c73 qnm) ?_
                      first | refine sv rfl (y_assign_take) ?_ | refine sv rfl (y_assign) ?_
                      refine GOps_nil ?_
                      refine blk_normal ?_
                      refine thn_normal ?_
                      refine g_region ?_
                      refine sv rfl (y_move) ?_
                      refine sv rfl (y_add) ?_
                      refine sv rfl (y_assign) ?_
                      refine GOps_nil ?_
                      refine hn2 _ (y + 1, without qnm use ++ [qnm]) ⟨by show ((y + 1 : Nat) : Int) ≤ num; omega, by show (without qnm use ++ [qnm]).length ≤ inn.length + (y + 1); have := without_len qnm use; rw [List.length_append]; simp; omega, (use_step hq hy3).1 h4q⟩ (by show num.toNat - (y + 1) < num.toNat - y; omega) le_of
                    ·
                      have h4q : ¬ qop = 4 := by simpa using hb9
                      refine G_skip ?_
                      refine blk_normal ?_
                      refine thn_normal ?_
                      refine g_region ?_
                      refine sv rfl (y_move) ?_
                      refine sv rfl (y_add) ?_
                      refine sv rfl (y_assign) ?_
                      refine GOps_nil ?_
                      refine hn2 _ (y + 1, use) ⟨by show ((y + 1 : Nat) : Int) ≤ num; omega, by show use.length ≤ inn.length + (y + 1); omega, (use_step hq hy3).2 h4q⟩ (by show num.toNat - (y + 1) < num.toNat - y; omega) le_of
                  ·
                    have hge2 : y = num.toNat := by
                      have : ¬ (y : Int) < num := by simpa using hb8
                      omega
                    rw [hge2, hdn] at hy3
                    refine G_exit ?_
                    refine thn_exit ?_
                    refine he2 _ _ ?_
                    refine blk_exit ?_
                    refine thn_normal ?_
                    refine G_seq ?_
                    refine G_drawB 11 rfl (by kernel_rfl) (fun S1 O1 w1 m1 hm1 hm2 => ?_)
                    have hB1 : ∀ i, i < m1.length → (List.range m1.length).contains i = true := fun i hi => by simpa using hi
                    first | refine bq 0 hB1 rfl (q_fieldAddr Try.underlying24 rfl sz22) ?_ | refine bq 0 hB1 rfl (q_fieldp_leaf Try.underlying24 rfl sz22) ?_
                    first | refine bq 2 hB1 rfl (q_load_agg sz24 Try.underlying24 rfl) ?_ | refine bq 2 hB1 rfl (q_loadp_agg (by exact sz24) Try.underlying24 rfl) ?_
                    refine bq 3 hB1 rfl (q_move) ?_
                    refine bq 4 hB1 rfl (q_move) ?_
                    refine bq 5 hB1 rfl (q_move) ?_
                    refine GB_go ?_
                    refine ga2 1 6 ?_ ?_
                    ·
                      first | refine sv rfl (y_load_take Try.underlying22) ?_ | refine sv rfl (y_load_leaf Try.underlying22) ?_ | refine sv rfl (y_loadp_leaf Try.underlying22) ?_
                      refine GOps_nil ⟨rfl, ?_⟩
                      refine ga1 6 ?_
                      refine g_call (xs := [.tmp 189, .tmp 190, .tmp 191, .tmp 192]) rfl ((hka ▸ ih (Tr.mk kop knm knu kks) hksz hkok (by omega) hklg use (by omega))) ?_
                      refine GOps_nil ⟨rfl, ?_⟩
                      refine ga1 7 ?_
                      refine sv rfl (y_buildSlice (xs := [.tmp 193]) Try.underlying22 inf24 (hk := by intro x hx; rw [List.mem_singleton.1 hx]; first | exact Tr.d_cells _ | rfl)) ?_
                      refine GOps_nil ⟨rfl, ?_⟩
                      refine ga1 8 ?_
                      refine sv rfl (y_append Try.underlying22 inf24 (hk := by intro x hx; rw [List.mem_singleton.1 hx]; first | exact Tr.d_cells _ | rfl) (hlen := by simp [lim]; omega) (hB := by simp [lim]; omega)) ?_
                      rw [acc_snoc]
                      refine GOps_nil ⟨rfl, ?_⟩
                      refine ga1 9 ?_
                      first | refine sv rfl (y_fieldAddr Try.underlying24 rfl sz22) ?_ | refine sv rfl (y_fieldp_leaf Try.underlying24 rfl sz22) ?_
                      refine GOps_nil ⟨rfl, ?_⟩
                      refine ga1 10 ?_
                      first | refine sa rfl (d_store sz22) ?_ | refine sa rfl (d_store_take sz22) ?_
                      refine GOps_nil ⟨rfl, ?_⟩
                      refine GA_done (by kernel_rfl) ?_
                      refine thn_normal ?_
                      refine G_exit ?_
                      refine blk_other (by decide) ?_
                      refine thn_exit ?_
                      refine blk_exit ?_
                      refine thn_normal ?_
                      refine g_keep [0, 1, 2, 3, 4, 8, 9, 10, 11, 12, 13, 14, 15, 16, 17, 18] ?_
                      refine g_region ?_
                      refine sv rfl (y_move) ?_
                      refine sv rfl (y_add) ?_
                      refine sv rfl (y_assign) ?_
                      refine GOps_nil ?_
                      refine hn1 _ (z + 1, inn, acc ++ [(Tr.mk kop knm knu kks).ren sfx (fun x => hasB1 x use)]) ⟨by show z + 1 ≤ ks.length; omega, by show (acc ++ [_]).length = z + 1; rw [List.length_append, hal]; rfl, by show inn.length ≤ ns.length + (z + 1); omega, by show (acc ++ [_]) ++ Tr.renK sfx lp num dn (z + 1) _ (ks.drop (z + 1)) = R; rw [← hR, List.append_assoc]; congr 1; rw [Tr.renK_body hk hbd, hy3]; rfl⟩ (by show ks.length - (z + 1) < ks.length - z; omega) le_of
                    ·
                      refine g_call (xs := [.tmp 189, .tmp 190, .tmp 191, .tmp 192]) rfl ((hka ▸ ih (Tr.mk kop knm knu kks) hksz hkok (by omega) hklg use (by omega))) ?_
                      refine GOps_nil ⟨rfl, ?_⟩
                      refine ga2 1 7 ?_ ?_
                      ·
                        first | refine sv rfl (y_load_take Try.underlying22) ?_ | refine sv rfl (y_load_leaf Try.underlying22) ?_ | refine sv rfl (y_loadp_leaf Try.underlying22) ?_
                        refine GOps_nil ⟨rfl, ?_⟩
                        refine ga1 7 ?_
                        refine sv rfl (y_buildSlice (xs := [.tmp 193]) Try.underlying22 inf24 (hk := by intro x hx; rw [List.mem_singleton.1 hx]; first | exact Tr.d_cells _ | rfl)) ?_
                        refine GOps_nil ⟨rfl, ?_⟩
                        refine ga1 8 ?_
                        refine sv rfl (y_append Try.underlying22 inf24 (hk := by intro x hx; rw [List.mem_singleton.1 hx]; first | exact Tr.d_cells _ | rfl) (hlen := by simp [lim]; omega) (hB := by simp [lim]; omega)) ?_
                        rw [acc_snoc]
                        refine GOps_nil ⟨rfl, ?_⟩
                        refine ga1 9 ?_
                        first | refine sv rfl (y_fieldAddr Try.underlying24 rfl sz22) ?_ | refine sv rfl (y_fieldp_leaf Try.underlying24 rfl sz22) ?_
                        refine GOps_nil ⟨rfl, ?_⟩
                        refine ga1 10 ?_
                        first | refine sa rfl (d_store sz22) ?_ | refine sa rfl (d_store_take sz22) ?_
                        refine GOps_nil ⟨rfl, ?_⟩
                        refine GA_done (by kernel_rfl) ?_
                        refine thn_normal ?_
                        refine G_exit ?_
                        refine blk_other (by decide) ?_
                        refine thn_exit ?_
                        refine blk_exit ?_
                        refine thn_normal ?_
                        refine g_keep [0, 1, 2, 3, 4, 8, 9, 10, 11, 12, 13, 14, 15, 16, 17, 18] ?_
                        refine g_region ?_
                        refine sv rfl (y_move) ?_
                        refine sv rfl (y_add) ?_
                        refine sv rfl (y_assign) ?_
                        refine GOps_nil ?_
                        refine hn1 _ (z + 1, inn, acc ++ [(Tr.mk kop knm knu kks).ren sfx (fun x => hasB1 x use)]) ⟨by show z + 1 ≤ ks.length; omega, by show (acc ++ [_]).length = z + 1; rw [List.length_append, hal]; rfl, by show inn.length ≤ ns.length + (z + 1); omega, by show (acc ++ [_]) ++ Tr.renK sfx lp num dn (z + 1) _ (ks.drop (z + 1)) = R; rw [← hR, List.append_assoc]; congr 1; rw [Tr.renK_body hk hbd, hy3]; rfl⟩ (by show ks.length - (z + 1) < ks.length - z; omega) le_of
                      ·
                        refine sv rfl (y_buildSlice (xs := [.tmp 193]) Try.underlying22 inf24 (hk := by intro x hx; rw [List.mem_singleton.1 hx]; first | exact Tr.d_cells _ | rfl)) ?_
                        refine GOps_nil ⟨rfl, ?_⟩
                        refine ga1 1 ?_
                        first | refine sv rfl (y_load_take Try.underlying22) ?_ | refine sv rfl (y_load_leaf Try.underlying22) ?_ | refine sv rfl (y_loadp_leaf Try.underlying22) ?_
                        refine GOps_nil ⟨rfl, ?_⟩
                        refine ga1 8 ?_
                        refine sv rfl (y_append Try.underlying22 inf24 (hk := by intro x hx; rw [List.mem_singleton.1 hx]; first | exact Tr.d_cells _ | rfl) (hlen := by simp [lim]; omega) (hB := by simp [lim]; omega)) ?_
                        rw [acc_snoc]
                        refine GOps_nil ⟨rfl, ?_⟩
                        refine ga1 9 ?_
                        first | refine sv rfl (y_fieldAddr Try.underlying24 rfl sz22) ?_ | refine sv rfl (y_fieldp_leaf Try.underlying24 rfl sz22) ?_
                        refine GOps_nil ⟨rfl, ?_⟩
                        refine ga1 10 ?_
                        first | refine sa rfl (d_store sz22) ?_ | refine sa rfl (d_store_take sz22) ?_
                        refine GOps_nil ⟨rfl, ?_⟩
                        refine GA_done (by kernel_rfl) ?_
                        refine thn_normal ?_
                        refine G_exit ?_
                        refine blk_other (by decide) ?_
                        refine thn_exit ?_
                        refine blk_exit ?_
                        refine thn_normal ?_
                        refine g_keep [0, 1, 2, 3, 4, 8, 9, 10, 11, 12, 13, 14, 15, 16, 17, 18] ?_
                        refine g_region ?_
                        refine sv rfl (y_move) ?_
                        refine sv rfl (y_add) ?_
                        refine sv rfl (y_assign) ?_
                        refine GOps_nil ?_
                        refine hn1 _ (z + 1, inn, acc ++ [(Tr.mk kop knm knu kks).ren sfx (fun x => hasB1 x use)]) ⟨by show z + 1 ≤ ks.length; omega, by show (acc ++ [_]).length = z + 1; rw [List.length_append, hal]; rfl, by show inn.length ≤ ns.length + (z + 1); omega, by show (acc ++ [_]) ++ Tr.renK sfx lp num dn (z + 1) _ (ks.drop (z + 1)) = R; rw [← hR, List.append_assoc]; congr 1; rw [Tr.renK_body hk hbd, hy3]; rfl⟩ (by show ks.length - (z + 1) < ks.length - z; omega) le_of
                ·
                  have hnb : ¬ (lp = true ∧ (z : Int) = num + 1) := by
                    rintro ⟨e1, e2⟩
                    have hl7 := hlpn e1
                    have hw : IntKind.i64.wrap (num + 1) = num + 1 := wrap_add (by omega) (by omega)
                    rw [hw, e1, e2] at hb7
                    simp at hb7
                  refine G_skip ?_
                  refine blk_normal ?_
                  refine thn_normal ?_
                  refine G_seq_cut (α := Unit) (fun u => ⟨[(13, .d (.int .i64 (z : Nat))), (12, .d (.sl (inn.map .str))), (2, .d (.str sfx)), (3, .d (.sl [])), (4, .d (.ptr (.agg [.int .i64 op, .str name, .int .i64 num, .sl (ks.map Tr.d)]))), (8, .ref 0 0), (10, .ref 1 0), (11, .d (.bool lp)), (14, .d (.ptr (.agg [.int .i64 kop, .str knm, .int .i64 knu, .sl (kks.map Tr.d)])))], [[.d (.int .i64 0), .d (.str ⟨#[]⟩), .d (.int .i64 0), .nils], [.d (.int .i64 op), .d (.str nmx), .d (.int .i64 num), .osl 4 ((acc ++ [(Tr.mk kop knm knu kks).ren sfx (fun x => hasB1 x inn)]).map Tr.d)]]⟩) (fun u => True) (fun Q' hn he hr => ?_) (fun u hu => ?_)
                  ·
                    refine g_keep [0, 1, 2, 3, 4, 8, 9, 10, 11, 12, 13, 14, 15, 16, 17, 18] ?_
                    refine G_drawB 11 rfl (by kernel_rfl) (fun S1 O1 w1 m1 hm1 hm2 => ?_)
                    have hB1 : ∀ i, i < m1.length → (List.range m1.length).contains i = true := fun i hi => by simpa using hi
                    first | refine bq 0 hB1 rfl (q_fieldAddr Try.underlying24 rfl sz22) ?_ | refine bq 0 hB1 rfl (q_fieldp_leaf Try.underlying24 rfl sz22) ?_
                    first | refine bq 2 hB1 rfl (q_load_agg sz24 Try.underlying24 rfl) ?_ | refine bq 2 hB1 rfl (q_loadp_agg (by exact sz24) Try.underlying24 rfl) ?_
                    refine bq 3 hB1 rfl (q_move) ?_
                    refine bq 4 hB1 rfl (q_move) ?_
                    refine bq 5 hB1 rfl (q_move) ?_
                    refine GB_go ?_
                    refine ga2 1 6 ?_ ?_
                    ·
                      first | refine sv rfl (y_load_take Try.underlying22) ?_ | refine sv rfl (y_load_leaf Try.underlying22) ?_ | refine sv rfl (y_loadp_leaf Try.underlying22) ?_
                      refine GOps_nil ⟨rfl, ?_⟩
                      refine ga1 6 ?_
                      refine g_call (xs := [.tmp 199, .tmp 200, .tmp 201, .tmp 202]) rfl ((hka ▸ ih (Tr.mk kop knm knu kks) hksz hkok (by omega) hklg inn (by omega))) ?_
                      refine GOps_nil ⟨rfl, ?_⟩
                      refine ga1 7 ?_
                      refine sv rfl (y_buildSlice (xs := [.tmp 203]) Try.underlying22 inf24 (hk := by intro x hx; rw [List.mem_singleton.1 hx]; first | exact Tr.d_cells _ | rfl)) ?_
                      refine GOps_nil ⟨rfl, ?_⟩
                      refine ga1 8 ?_
                      refine sv rfl (y_append Try.underlying22 inf24 (hk := by intro x hx; rw [List.mem_singleton.1 hx]; first | exact Tr.d_cells _ | rfl) (hlen := by simp [lim]; omega) (hB := by simp [lim]; omega)) ?_
                      rw [acc_snoc]
                      refine GOps_nil ⟨rfl, ?_⟩
                      refine ga1 9 ?_
                      first | refine sv rfl (y_fieldAddr Try.underlying24 rfl sz22) ?_ | refine sv rfl (y_fieldp_leaf Try.underlying24 rfl sz22) ?_
                      refine GOps_nil ⟨rfl, ?_⟩
                      refine ga1 10 ?_
                      first | refine sa rfl (d_store sz22) ?_ | refine sa rfl (d_store_take sz22) ?_
                      refine GOps_nil ⟨rfl, ?_⟩
                      refine GA_done (by kernel_rfl) ?_
                      refine hn _ () trivial le_of
                    ·
                      refine g_call (xs := [.tmp 199, .tmp 200, .tmp 201, .tmp 202]) rfl ((hka ▸ ih (Tr.mk kop knm knu kks) hksz hkok (by omega) hklg inn (by omega))) ?_
                      refine GOps_nil ⟨rfl, ?_⟩
                      refine ga2 1 7 ?_ ?_
                      ·
                        first | refine sv rfl (y_load_take Try.underlying22) ?_ | refine sv rfl (y_load_leaf Try.underlying22) ?_ | refine sv rfl (y_loadp_leaf Try.underlying22) ?_
                        refine GOps_nil ⟨rfl, ?_⟩
                        refine ga1 7 ?_
                        refine sv rfl (y_buildSlice (xs := [.tmp 203]) Try.underlying22 inf24 (hk := by intro x hx; rw [List.mem_singleton.1 hx]; first | exact Tr.d_cells _ | rfl)) ?_
                        refine GOps_nil ⟨rfl, ?_⟩
                        refine ga1 8 ?_
                        refine sv rfl (y_append Try.underlying22 inf24 (hk := by intro x hx; rw [List.mem_singleton.1 hx]; first | exact Tr.d_cells _ | rfl) (hlen := by simp [lim]; omega) (hB := by simp [lim]; omega)) ?_
                        rw [acc_snoc]
                        refine GOps_nil ⟨rfl, ?_⟩
                        refine ga1 9 ?_
                        first | refine sv rfl (y_fieldAddr Try.underlying24 rfl sz22) ?_ | refine sv rfl (y_fieldp_leaf Try.underlying24 rfl sz22) ?_
                        refine GOps_nil ⟨rfl, ?_⟩
                        refine ga1 10 ?_
                        first | refine sa rfl (d_store sz22) ?_ | refine sa rfl (d_store_take sz22) ?_
                        refine GOps_nil ⟨rfl, ?_⟩
                        refine GA_done (by kernel_rfl) ?_
                        refine hn _ () trivial le_of
                      ·
                        refine sv rfl (y_buildSlice (xs := [.tmp 203]) Try.underlying22 inf24 (hk := by intro x hx; rw [List.mem_singleton.1 hx]; first | exact Tr.d_cells _ | rfl)) ?_
                        refine GOps_nil ⟨rfl, ?_⟩
                        refine ga1 1 ?_
                        first | refine sv rfl (y_load_take Try.underlying22) ?_ | refine sv rfl (y_load_leaf Try.underlying22) ?_ | refine sv rfl (y_loadp_leaf Try.underlying22) ?_
                        refine GOps_nil ⟨rfl, ?_⟩
                        refine ga1 8 ?_
                        refine sv rfl (y_append Try.underlying22 inf24 (hk := by intro x hx; rw [List.mem_singleton.1 hx]; first | exact Tr.d_cells _ | rfl) (hlen := by simp [lim]; omega) (hB := by simp [lim]; omega)) ?_
                        rw [acc_snoc]
                        refine GOps_nil ⟨rfl, ?_⟩
                        refine ga1 9 ?_
                        first | refine sv rfl (y_fieldAddr Try.underlying24 rfl sz22) ?_ | refine sv rfl (y_fieldp_leaf Try.underlying24 rfl sz22) ?_
                        refine GOps_nil ⟨rfl, ?_⟩
                        refine ga1 10 ?_
                        first | refine sa rfl (d_store sz22) ?_ | refine sa rfl (d_store_take sz22) ?_
                        refine GOps_nil ⟨rfl, ?_⟩
                        refine GA_done (by kernel_rfl) ?_
                        refine hn _ () trivial le_of
                  ·
                    skip
                    refine G_seq ?_
                    refine g_region ?_
                    first | refine sv rfl (y_fieldAddr Try.underlying24 rfl sz3) ?_ | refine sv rfl (y_fieldp_leaf Try.underlying24 rfl sz3) ?_
                    first | refine sv rfl (y_load_leaf Try.underlying3) ?_ | refine sv rfl (y_loadp_leaf Try.underlying3) ?_
                    refine sv rfl (y_eql) ?_
                    refine GOps_nil ?_
                    refine thn_normal ?_
                    refine g_cond (fun hb10 => ?_) (fun hb10 => ?_)
                    ·
                      have h50k : kop = 50 := by simpa using hb10
                      refine G_seq ?_
                      refine g_keep [0, 1, 2, 3, 4, 8, 9, 10, 11, 12, 13, 14, 15, 16, 17, 18] ?_
                      refine g_region ?_
                      refine sv rfl (y_move) ?_
                      first | refine sv rfl (y_fieldAddr Try.underlying24 rfl sz9) ?_ | refine sv rfl (y_fieldp_leaf Try.underlying24 rfl sz9) ?_
                      first | refine sv rfl (y_load_leaf Try.underlying9) ?_ | refine sv rfl (y_loadp_leaf Try.underlying9) ?_
                      refine g_call (xs := [.tmp 210, .tmp 212]) rfl (Pf.data (c72 inn knm (by omega))) ?_
                      first | refine sv rfl (y_assign_take) ?_ | refine sv rfl (y_assign) ?_
                      refine GOps_nil ?_
                      refine thn_normal ?_
                      refine g_region ?_
                      refine sv rfl (y_move) ?_
                      first | refine sv rfl (y_fieldAddr Try.underlying24 rfl sz9) ?_ | refine sv rfl (y_fieldp_leaf Try.underlying24 rfl sz9) ?_
                      first | refine sv rfl (y_load_leaf Try.underlying9) ?_ | refine sv rfl (y_loadp_leaf Try.underlying9) ?_
                      refine g_call (xs := [.tmp 214, .tmp 216]) rfl (c73 knm) ?_
                      first | refine sv rfl (y_assign_take) ?_ | refine sv rfl (y_assign) ?_
                      refine GOps_nil ?_
                      refine blk_normal ?_
                      refine thn_normal ?_
                      refine g_region ?_
                      refine sv rfl (y_move) ?_
                      refine sv rfl (y_add) ?_
                      refine sv rfl (y_assign) ?_
                      refine GOps_nil ?_
                      refine hn1 _ (z + 1, without knm inn ++ [knm], acc ++ [(Tr.mk kop knm knu kks).ren sfx (fun x => hasB1 x inn)]) ⟨by show z + 1 ≤ ks.length; omega, by show (acc ++ [_]).length = z + 1; rw [List.length_append, hal]; rfl, by show (without knm inn ++ [knm]).length ≤ ns.length + (z + 1); have := without_len knm inn; rw [List.length_append]; simp; omega, by show (acc ++ [_]) ++ Tr.renK sfx lp num dn (z + 1) _ (ks.drop (z + 1)) = R; rw [← hR, List.append_assoc]; congr 1; rw [Tr.renK_other hk hni hnb, has_change]; show _ = _ :: Tr.renK sfx lp num dn (z + 1) (if kop = 50 then _ else _) _; rw [if_pos h50k]; rfl⟩ (by show ks.length - (z + 1) < ks.length - z; omega) le_of
                    ·
                      have h50k : ¬ kop = 50 := by simpa using hb10
                      refine G_skip ?_
                      refine blk_normal ?_
                      refine thn_normal ?_
                      refine g_keep [0, 1, 2, 3, 4, 8, 9, 10, 11, 12, 13, 14, 15, 16, 17, 18] ?_
                      refine g_region ?_
                      refine sv rfl (y_move) ?_
                      refine sv rfl (y_add) ?_
                      refine sv rfl (y_assign) ?_
                      refine GOps_nil ?_
                      refine hn1 _ (z + 1, inn, acc ++ [(Tr.mk kop knm knu kks).ren sfx (fun x => hasB1 x inn)]) ⟨by show z + 1 ≤ ks.length; omega, by show (acc ++ [_]).length = z + 1; rw [List.length_append, hal]; rfl, by show inn.length ≤ ns.length + (z + 1); omega, by show (acc ++ [_]) ++ Tr.renK sfx lp num dn (z + 1) _ (ks.drop (z + 1)) = R; rw [← hR, List.append_assoc]; congr 1; rw [Tr.renK_other hk hni hnb]; show _ = _ :: Tr.renK sfx lp num dn (z + 1) (if kop = 50 then _ else _) _; rw [if_neg h50k]; rfl⟩ (by show ks.length - (z + 1) < ks.length - z; omega) le_of
            ·
              have hge : z = ks.length := by
                have : ¬ (z : Int) < (ks.map Tr.d).length := by simpa using hb4
                rw [List.length_map] at this
                omega
              have hRR : acc = R := by rw [← hR, hge, List.drop_length, Tr.renK, List.append_nil]
              refine G_exit ?_
              refine thn_exit ?_
              refine he1 _ _ ?_
              refine blk_exit ?_
              refine thn_normal ?_
              refine G_seq ?_
              refine g_region ?_
              first | refine sv rfl (y_load_agg sz24 Try.underlying24 rfl) ?_ | refine sv rfl (y_loadp_agg (by exact sz24) Try.underlying24 rfl) ?_
              first | refine sa rfl (d_store sz24) ?_ | refine sa rfl (d_store_take sz24) ?_
              refine GOps_nil ?_
              refine thn_normal ?_
              refine G_ret ?_
              refine findc sz24 Try.underlying24 (by simp) ?_
              exact ⟨by rw [Tr.ren_other hv, Tr.d_mk, hlp, hdn, hRe, hRR, hnmx], rfl⟩

end Go.Proofs.Ytphfdmagkgpgfaa
