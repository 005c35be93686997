import Derived.Test.YtklkbfpjimeaoaaGreatM33
import Derived.Test.YtklkbfpjimeaoaaGreatM19
import Derived.Test.YtklkbfpjimeaoaaGreatM30
/- Contracts of functions. Conditions: none. -/
set_option linter.unusedSimpArgs false
set_option linter.unusedVariables false
set_option maxRecDepth 20000
namespace Go.Proofs.YtklkbfpjimeaoaaGreat
open Go Go.Proofs.YtklkbfpjimeaoaaGreat.E
section
set_option maxHeartbeats 4000000 in
theorem c112o (l : List (ByteArray × Tr)) (nm : ByteArray) (hlim : l.length ≤ 1000000) : Pf Tryz.prog 112 [.sl (l.map cD), .str nm] (.osl 5 ((woL l nm).map cD)) := by
 refine pf_body (rvs := [.tmp 4]) [(0, .d (.sl (l.map cD))), (1, .d (.str nm))] Tryz.func112 Tryz.ntmps112 Tryz.results112 (fun S0 O0 w0 m0 hm0 => ?_)
 refine Z339 ?_;refine Z143 ?_;refine Z63 ?_;refine Z11 ?_;refine Z357 ?_
 refine g_loop (α := Nat) (fun z => ⟨[(6, .d (.int .i64 (z : Nat))), (5, .osl 5 ((woL (l.take z) nm).map cD)), (1, .d (.str nm)), (0, .d (.sl (l.map cD)))], []⟩) (fun z => l.length - z) (fun z => z ≤ l.length) 0 (Nat.zero_le _) (fun z hz Q' hn0 he0 hr0 => ?_) (le_of)
 have hll : (woL (l.take z) nm).length ≤ z := Nat.le_trans (woL_len _ _) (by rw [List.length_take]; omega)
 refine Z44 ?_;refine Z321 ?_
 refine vq rfl (q_len u49) ?_
 refine Z346 ?_
 refine gC ?_ ?_ <;> intro hb0
 ·
  have hlt : z < l.length := by simpa using hb0
  obtain ⟨c, hc⟩ : ∃ c, l[z]? = some c := ⟨_, gE hlt⟩
  have hxd := cD_get hc
  have hws := woL_step hc nm
  obtain ⟨op, name, num, ks, _, hca⟩ := cD_agg c
  rw [hca] at hxd
  refine Z26 ?_;refine Z321 ?_;refine Z269 ?_
  refine vq rfl (qF u59 rfl sz9) ?_
  refine Z39 ?_;refine Z0 ?_;refine Z307 ?_;refine Z5 ?_
  refine gC ?_ ?_ <;> intro hb1
  ·
   rw [if_neg (by simpa using hb1)] at hws
   refine Z14 ?_;refine Z119 ?_;refine Z321 ?_;refine Z269 ?_
   refine vq rfl (qG (by exact sz59) u59 rfl) ?_
   refine sv rfl (y_buildSlice (xs := [.tmp 25]) u49 inf59) ?_
   refine Z32 ?_
   rw [← hca, show (woL (l.take z) nm).map cD ++ [cD c] = (woL (l.take (z + 1)) nm).map cD from by rw [hws, List.map_append]; rfl]
   refine Z63 ?_;refine Z282 ?_
   refine gP [0, 1, 4, 5, 6] ?_
   refine Z426 ?_
   refine hn0 _ (z + 1) (by omega) (by omega) le_of
  rw [if_pos (by simpa using hb1), List.append_nil] at hws
  refine Z77 ?_
  rw [← hws]
  refine Z349 ?_
  refine hn0 _ (z + 1) (by omega) (by omega) le_of
 have hge : z = l.length := by
  have : ¬ (z : Int) < (l.map cD).length := by simpa using hb0
  rw [List.length_map] at this
  omega
 refine Z347 ?_
 rw [hge, List.take_length]
 refine Z119 ?_;refine Z63 ?_;refine Z8 ?_
 refine fino (by simp) ?_
 exact ⟨rfl, rfl⟩
set_option maxHeartbeats 32000000 in
theorem c60 (p : Pg) (hok : p.Ok) (hT : p.total ≤ 1000) : Pf Tryz.prog 60 [.agg [.sl (p.globals.map Tr.d), .sl (p.procs.map Pc.d)]] (.tup [.d (foldT p).1.d, .d (.int .i64 (foldT p).2)]) := by
 refine pf_body (rvs := [.cell 2 25, .tmp 3]) [(0, .d (.agg [.sl (p.globals.map Tr.d), .sl (p.procs.map Pc.d)]))] Tryz.func60 Tryz.ntmps60 Tryz.results60 (fun S0 O0 w0 m0 hm0 => ?_)
 refine Z3 ?_
 have hgs := Tr.len_sizes p.globals
 have htt : p.total = Tr.sizes p.globals + pcsT p.procs := rfl
 have hps := pcsTrees_size p.procs
 have hpl := hok.pl
 refine Z24 ?_;refine Z80 ?_;refine Z268 ?_;refine Z328 ?_;refine Z144 ?_
 refine gL (xs := [.tmp 19]) rfl (c23 p hok (by omega)) ?_
 refine Z378 ?_;refine Z350 ?_
 refine gC ?_ ?_ <;> intro hb0
 ·
  have hfe : (formE p != 0) = true := hb0
  refine Z3 ?_;refine Z244 ?_;refine Z0 ?_;refine Z199 ?_;refine Z327 ?_;refine Z218 ?_
  exact ⟨by unfold foldT; rw [if_pos hfe]; rfl, rfl⟩
 have hfe : (formE p != 0) = false := hb0
 have hf0 : formE p = 0 := by simpa using hfe
 obtain ⟨hfg, hfp⟩ := form_facts hf0
 refine Z46 ?_
 refine vq rfl ((q_buildP pl25 zr25)) ?_
 refine Z268 ?_;refine Z199 ?_;refine Z7 ?_;refine Z143 ?_;refine Z63 ?_;refine Z11 ?_;refine Z357 ?_
 refine g_loop (α := Nat × List Tr × List (ByteArray × Tr) × KL) (fun z => ⟨[(7, .d (.int .i64 (z.1 : Nat))), (1, .d (.ptr (.agg [.sl (p.globals.map Tr.d), .sl (p.procs.map Pc.d)]))), (2, .ref 0 0), (5, .ref 1 0), (6, .osl 5 (z.2.2.1.map cD))], [[.nils, .nils], [.osl 4 (z.2.1.map Tr.d), .nils]]⟩) (fun z => p.globals.length - z.1) (fun z => z.1 ≤ p.globals.length ∧ z.2.1.length ≤ z.1 ∧ CV z.1 z.2.2.1 ∧ Agree z.2.2.2 z.2.2.1 ∧ globF p.globals [] = contG z.2.1 (globF (p.globals.drop z.1) z.2.2.2)) (0, [], [], []) ⟨Nat.zero_le _, Nat.le_refl _, ⟨Nat.le_refl _, fun c hc => by cases hc⟩, fun _ => rfl, by rw [List.drop_zero, contG_nil]⟩ (fun z hz Q' hn0 he0 hr0 => ?_) (le_of)
 obtain ⟨z, acc, l, c⟩ := z
 obtain ⟨hz1, hz2, hz3, hz5, hz4⟩ := hz
 replace hz1 : z ≤ p.globals.length := hz1
 replace hz2 : acc.length ≤ z := hz2
 replace hz3 : CV z l := hz3
 replace hz5 : Agree c l := hz5
 replace hz4 : globF p.globals [] = contG acc (globF (p.globals.drop z) c) := hz4
 have hll := hz3.1
 refine Z355 ?_;refine Z443 ?_;refine Z45 ?_;refine Z346 ?_
 refine gC ?_ ?_ <;> intro hb1
 ·
  have hlt : z < p.globals.length := by simpa using hb1
  obtain ⟨k, hk⟩ : ∃ k, p.globals[z]? = some k := ⟨_, gE hlt⟩
  have hmem := mG hk
  obtain ⟨hk50, hksh⟩ := hfg k hmem
  have hkok := hok.g.2 k hmem
  have hkz := Tr.size_mem hmem
  have hkl := Tr.lens_of _ k (Nat.le_refl _) (by omega)
  obtain ⟨kop, knm, knu, kks⟩ := k
  obtain rfl : kop = 50 := hk50
  have hxa := Tr.ds_get hk
  rw [Tr.d_mk] at hxa
  have hXa := ((Tr.mk 50 knm knu kks).put c).d_eta
  have q37 := c37n _ (Tr.mk 50 knm knu kks) (Nat.le_refl _) hkl l c (hz3.clens (by omega)) hz5
  rw [Tr.d_mk, hXa] at q37
  obtain ⟨f0, f1, _⟩ := var_facts hksh
  have hbit := (andI_bits ⟨f0, f1⟩).2.2
  refine Z26 ?_;refine Z443 ?_;refine Z0 ?_;refine Z416 ?_
  refine gF 2 [[.nils, .nils], [.osl 4 (acc.map Tr.d), .nils]] (.agg [.int .i64 50, .str knm, .int .i64 knu, .sl (kks.map Tr.d)]) rfl ?_
  refine Z11 ?_;refine Z323 ?_
  refine vq rfl (q_quo (show (8 : Int) ≠ 0 by decide) (show IntKind.i64.wrap (knu.tdiv 8) = knu / 8 from by rw [Int.tdiv_eq_ediv_of_nonneg (by omega)]; exact wrap_i64 (by omega) (by omega))) ?_
  refine vq rfl (q_rem (show (2 : Int) ≠ 0 by decide) (show (knu / 8).tmod 2 = knu / 8 % 2 from Int.tmod_eq_emod_of_nonneg (by omega))) ?_
  refine Z407 ?_
  refine gC ?_ ?_ <;> intro hb2
  ·
   have hvp : (andI (Tr.mk 50 knm knu kks).nu 8 != 0) = true := by
    have h1 : knu / 8 % 2 = 1 := by simpa using hb2
    rw [bne_iff_ne]
    intro h
    have := hbit.1 h
    omega
   refine Z51 ?_
   rcases hv : staticV (kl l) (Tr.mk 50 knm knu kks) with _ | ⟨vop, vnm, vnu, vks⟩
   ·
    refine Z14 ?_
    have q := c134 l (hz3.cok (by omega)) hz3.kok knm knu kks hkok hksh
    rw [hv] at q
    rw [show cD (paramO knm none).1 = .agg [.str ⟨#[]⟩, .int .i64 0, .str ⟨#[]⟩, .int .i64 0, .sl []] from cD_mk _ _ _ _ _] at q
    replace q : Pf Tryz.prog 134 _ (.tup [.d (.agg [.str ⟨#[]⟩, .int .i64 0, .str ⟨#[]⟩, .int .i64 0, .sl []]), .d (.int .i64 140)]) := q
    refine Z6 ?_;refine Z0 ?_
    refine gL (xs := [.tmp 45, .tmp 46]) rfl (q) ?_
    refine Z340 ?_;refine Z293 ?_;refine Z179 ?_;refine Z440 ?_
    refine gC ?_ ?_ <;> intro hb3
    ·
     refine Z3 ?_;refine Z244 ?_;refine Z0 ?_;refine Z199 ?_;refine Z1 ?_;refine Z291 ?_;refine Z368 ?_;refine Z218 ?_
     exact ⟨by unfold foldT; rw [if_neg (by rw [hfe]; decide), hz4, globF_drop hk, globF_param hvp, ← hz5.static, hv]; rfl, rfl⟩
    exact Y15
   refine Z14 ?_
   have q := c134 l (hz3.cok (by omega)) hz3.kok knm knu kks hkok hksh
   rw [hv] at q
   rw [show cD (paramO knm (some (Tr.mk vop vnm vnu vks))).1 = .agg [.str knm, .int .i64 vop, .str vnm, .int .i64 vnu, .sl (vks.map Tr.d)] from cD_mk _ _ _ _ _] at q
   replace q : Pf Tryz.prog 134 _ (.tup [.d (.agg [.str knm, .int .i64 vop, .str vnm, .int .i64 vnu, .sl (vks.map Tr.d)]), .d (.int .i64 0)]) := q
   have hvo : ValOk (Tr.mk vop vnm vnu vks) := static_ok hz3.kok hkok hksh hv
   have hcs : l.map cD ++ [.agg [.str knm, .int .i64 vop, .str vnm, .int .i64 vnu, .sl (vks.map Tr.d)]] = (l ++ [(knm, (Tr.mk vop vnm vnu vks))]).map cD := by rw [List.map_append, List.map_singleton, cD_mk]
   refine Z6 ?_;refine Z0 ?_
   refine gL (xs := [.tmp 45, .tmp 46]) rfl (q) ?_
   refine Z340 ?_;refine Z293 ?_;refine Z179 ?_
   refine gF 2 [[.nils, .nils], [.osl 4 (acc.map Tr.d), .nils]] (.agg [.str knm, .int .i64 vop, .str vnm, .int .i64 vnu, .sl (vks.map Tr.d)]) rfl ?_
   refine Z440 ?_
   refine gC ?_ ?_ <;> intro hb4
   · exact absurd hb4 (by decide)
   refine Z46 ?_;refine Z119 ?_
   refine vq rfl (qG (by exact sz59) u59 rfl) ?_
   refine sv rfl (y_buildSlice (xs := [.tmp 55]) u49 inf59) ?_
   refine Z32 ?_
   rw [hcs]
   refine Z63 ?_
   refine gN (tN (G_exit (thn_exit (blk_exit (tN (gR ?_))))))
   refine Z349 ?_
   refine hn0 _ (z + 1, acc, l ++ [(knm, (Tr.mk vop vnm vnu vks))], (knm, some (Tr.mk vop vnm vnu vks)) :: c) ⟨by show z + 1 ≤ p.globals.length; omega, by show acc.length ≤ z + 1; omega, hz3.snoc knm hvo, hz5.cons knm (Tr.mk vop vnm vnu vks), by rw [hz4, globF_drop hk, globF_param hvp, ← hz5.static, hv]; rfl⟩ (by show p.globals.length - (z + 1) < p.globals.length - z; omega) le_of
  have hvp : (andI (Tr.mk 50 knm knu kks).nu 8 != 0) = false := by
   have h1 : ¬ knu / 8 % 2 = 1 := by simpa using hb2
   have h2 : andI knu 8 = 0 := hbit.2 (by omega)
   show (andI knu 8 != 0) = false
   rw [h2]; rfl
  refine Z67 ?_
  refine g_ck [(1, 6), (6, 8)] [58, 59, 60, 61, 62, 63, 64, 65] (fun bq => [[.nils, .nils], cond (bq 8) [.osl 4 ((acc ++ [(Tr.mk 50 knm knu kks).put c]).map Tr.d), .nils] (cond (bq 1) [.d (.sl (acc.map Tr.d)), .nils] [.osl 4 (acc.map Tr.d), .nils])]) rfl ?_
  refine Z81 ?_
  refine ck_st 1 (fun _ _ _ _ _ => sv rfl (y_fieldAt 0 u25 rfl sz22) (gN ⟨rfl, rfl⟩)) ?_
  refine Z232 ?_
  refine ck_st 2 (fun bq rest hc1 hc2 hc3 => by
   have h9 := hc3.no 6 1 hc1
   have h11 := hc3.no 8 6 h9
   have e1 : upd bq 1 1 = true := rfl
   have e2 : upd bq 1 8 = false := h11
   simp only [hc1, h11, cond_false]
   refine Z171 ?_
   exact (gN ⟨rfl, by rw [e1, e2]; rfl⟩)) ?_
  refine Z81 ?_;refine Z103 ?_;refine Z81 ?_;refine Z222 ?_
  refine ck_pre [2, 3] ?_
  refine ck_st 5 (fun _ _ _ _ _ => gL (xs := [.tmp 60, .tmp 61]) rfl (q37) (gN ⟨rfl, rfl⟩)) ?_
  refine ck_pre [4] ?_
  refine ck_st 6 (fun _ _ _ _ _ => sv rfl (y_buildSlice (xs := [.tmp 62]) u22 inf27) (gN ⟨rfl, rfl⟩)) ?_
  refine ck_pre [1, 5, 4] ?_
  refine ck_tk 7 59 (fun _ _ _ _ _ => sv rfl (y_append u22 inf27 (hk := by first | exact Tr.ds_cells _ | (intro x hx; simp at hx; subst hx; simp [D.cells])) (hlen := by simp [lim]; omega) (hB := by simp [lim]; omega)) (gN ⟨rfl, rfl⟩)) ?_
  rw [← hXa, acc_snoc]
  refine ck_pre [0, 2, 3, 4, 5] ?_
  refine ck_st 8 (fun _ _ _ _ _ => sv rfl (y_fieldAt 0 u25 rfl sz22) (gN ⟨rfl, rfl⟩)) ?_
  refine Z283 ?_
  refine ck_atk 9 64 (fun bq rest hc1 hc2 hc3 => by
   have h9 := hc2 6 dep_in
   have h1 := hc3 6 h9 1 dep_in
   have e1 : upd bq 8 8 = true := rfl
   simp only [hc1, h1, cond_true, cond_false]
   refine Z161 ?_
   exact (gN ⟨rfl, by rw [e1]; rfl⟩)) ?_
  refine ck_done (mem'' := [[.nils, .nils], [.osl 4 ((acc ++ [(Tr.mk 50 knm knu kks).put c]).map Tr.d), .nils]]) ?_
  refine tN (gR ?_)
  refine Z0 ?_;refine Z336 ?_
  refine gL (xs := [.tmp 66, .tmp 68]) rfl (c112o l knm (by omega)) ?_
  refine Z63 ?_;refine Z95 ?_;refine Z349 ?_
  refine hn0 _ (z + 1, acc ++ [(Tr.mk 50 knm knu kks).put c], woL l knm, hideK knm c) ⟨by show z + 1 ≤ p.globals.length; omega, by show (acc ++ [_]).length ≤ z + 1; rw [List.length_append, List.length_singleton]; omega, (hz3.wo knm).mono (by show z ≤ z + 1; omega), hz5.hide knm, by rw [hz4, globF_drop hk, contG_put hvp]; rfl⟩ (by show p.globals.length - (z + 1) < p.globals.length - z; omega) le_of
 have hge : z = p.globals.length := by
  have : ¬ (z : Int) < (p.globals.map Tr.d).length := by simpa using hb1
  rw [List.length_map] at this
  omega
 subst hge
 rw [List.drop_length] at hz4
 replace hz4 : globF p.globals [] = some (acc, c) := by rw [hz4]; show some (acc ++ [], c) = _; rw [List.append_nil]
 refine Z342 ?_;refine Z238 ?_
 generalize acc = gs at hz4 ⊢
 refine Z357 ?_
 refine g_loop (α := Nat × List Pc) (fun z => ⟨[(11, .d (.int .i64 (z.1 : Nat))), (1, .d (.ptr (.agg [.sl (p.globals.map Tr.d), .sl (p.procs.map Pc.d)]))), (2, .ref 0 0), (5, .ref 1 0), (6, .osl 5 (l.map cD))], [[.nils, .nils], [.osl 4 (gs.map Tr.d), .osl 10 (z.2.map Pc.d)]]⟩) (fun z => p.procs.length - z.1) (fun z => z.1 ≤ p.procs.length ∧ z.2.length ≤ z.1 ∧ procsF p.procs c = contP z.2 (procsF (p.procs.drop z.1) c)) (0, []) ⟨Nat.zero_le _, Nat.le_refl _, by rw [List.drop_zero, contP_nil]⟩ (fun z hz Q' hn1 he1 hr1 => ?_) (le_of)
 obtain ⟨z, pacc⟩ := z
 obtain ⟨hy1, hy2, hy3⟩ := hz
 replace hy1 : z ≤ p.procs.length := hy1
 replace hy2 : pacc.length ≤ z := hy2
 replace hy3 : procsF p.procs c = contP pacc (procsF (p.procs.drop z) c) := hy3
 refine Z355 ?_;refine Z403 ?_;refine Z156 ?_;refine Z346 ?_
 refine gC ?_ ?_ <;> intro hb5
 ·
  have hlt : z < p.procs.length := by simpa using hb5
  obtain ⟨q, hq⟩ : ∃ q, p.procs[z]? = some q := ⟨_, gE hlt⟩
  have hqd := pc_get hq
  have hqm := mG hq
  obtain ⟨hfb, hfw, hfr, hff, hbl, hwl, hfl, _⟩ := pc_fit hok (by omega) hf0 hqm
  have hbz : p.globals.length + Tr.sizes q.body ≤ 1000 := by
   have h1 := pcsT_get hq
   have h2 : pcT q = fmT q.formals + q.result.size + Tr.sizes q.wh + Tr.sizes q.body := rfl
   omega
  have q109 := c109n _ q.result (Nat.le_refl _) hfr
  rw [t_eta] at q109
  refine Z26 ?_;refine Z403 ?_;refine Z0 ?_;refine Z189 ?_;refine Z129 ?_;refine Z208 ?_;refine Z228 ?_
  refine gF 2 [[.nils, .nils], [.osl 4 (gs.map Tr.d), .osl 10 (pacc.map Pc.d)]] (.agg [.str q.nm, .bool q.iter, .bool q.priv, .sl (q.formals.map Fm.d), .int .i64 q.result.op, .str q.result.nm, .int .i64 q.result.nu, .sl (q.result.kids.map Tr.d), .sl (q.wh.map Tr.d), .sl (q.body.map Tr.d)]) rfl ?_
  refine Z7 ?_;refine Z0 ?_;refine Z372 ?_
  refine g_cg [83, 84, 85, 86, 87, 88, 89, 90, 91, 92, 14] (fun bq => cond (bq 10) ([[.nils, .nils], [.osl 4 (gs.map Tr.d), .osl 10 (pacc.map Pc.d)]] ++ [cond (bq 11) [.d (.str q.nm), .d (.bool q.iter), .d (.bool q.priv), .nils, .d (.int .i64 q.result.op), .d (.str q.result.nm), .d (.int .i64 q.result.nu), .d (.sl (q.result.kids.map Tr.d)), .nils, .nils] [.d (.str ⟨#[]⟩), .d (.bool false), .d (.bool false), .nils, .d (.int .i64 0), .d (.str ⟨#[]⟩), .d (.int .i64 0), .nils, .nils, .nils]]) [[.nils, .nils], [.osl 4 (gs.map Tr.d), .osl 10 (pacc.map Pc.d)]]) rfl ?_
  refine Z30 ?_
  refine cS 1 (fun _ _ _ _ _ => vq rfl (qF u81 rfl sz9) (gN ⟨rfl, rfl⟩)) ?_
  refine Z172 ?_
  refine cS 2 (fun _ _ _ _ _ => vq rfl (qL u9) (gN ⟨rfl, rfl⟩)) ?_
  refine Z30 ?_
  refine cS 3 (fun _ _ _ _ _ => vq rfl (qF u81 rfl sz4) (gN ⟨rfl, rfl⟩)) ?_
  refine Z114 ?_
  refine cS 4 (fun _ _ _ _ _ => vq rfl (qL u4) (gN ⟨rfl, rfl⟩)) ?_
  refine Z30 ?_
  refine cS 5 (fun _ _ _ _ _ => vq rfl (qF u81 rfl sz4) (gN ⟨rfl, rfl⟩)) ?_
  refine Z125 ?_
  refine cS 6 (fun _ _ _ _ _ => vq rfl (qL u4) (gN ⟨rfl, rfl⟩)) ?_
  refine Z30 ?_
  refine cS 7 (fun _ _ _ _ _ => vq rfl (q_fieldAgg [.int .i64 q.result.op, .str q.result.nm, .int .i64 q.result.nu, .sl (q.result.kids.map Tr.d)] u81 rfl sz27) (gN ⟨rfl, rfl⟩)) ?_
  refine Z162 ?_
  refine cS 8 (fun _ _ _ _ _ => vq rfl (qG (by exact sz27) u27 rfl) (gN ⟨rfl, rfl⟩)) ?_
  refine Z204 ?_
  refine cS 9 (fun _ _ _ _ _ => gL (xs := [.tmp 90]) rfl (q109) (gN ⟨rfl, rfl⟩)) ?_
  refine cP [1, 3, 5, 8] ?_
  refine cS 10 (fun _ _ _ _ _ => vq rfl ((q_buildP pl81 zr81)) (gN ⟨rfl, rfl⟩)) ?_
  refine Z30 ?_
  refine cS 11 (fun bq rest hc1 hc2 hc3 => by
   have hs := hc3.no 11 10 hc1
   have e1 : upd bq 10 10 = true := rfl
   have e2 : upd bq 10 11 = false := hs
   simp only [hc1, cond_false]
   refine Z208 ?_
   exact (gN ⟨rfl, by rw [e1, e2]; rfl⟩)) ?_
  refine cP [10, 9, 8, 0, 1, 2, 3, 4, 5, 6, 7, 8, 9, 10] ?_
  refine cg_act 12 (fun bq rest hc1 hc2 hc3 => by
   have ha := hc2 10 dep_in
   have e1 : upd bq 11 10 = true := ha
   have e2 : upd bq 11 11 = true := rfl
   simp only [ha, hc1, cond_true, cond_false]
   refine Z228 ?_
   exact (gN ⟨rfl, by rw [e1, e2]; rfl⟩)) ?_
  refine cg_done (mem'' := [[.nils, .nils], [.osl 4 (gs.map Tr.d), .osl 10 (pacc.map Pc.d)], [.d (.str q.nm), .d (.bool q.iter), .d (.bool q.priv), .nils, .d (.int .i64 q.result.op), .d (.str q.result.nm), .d (.int .i64 q.result.nu), .d (.sl (q.result.kids.map Tr.d)), .nils, .nils]]) ?_
  refine tN (gS (gS (gR ?_)))
  refine Z357 ?_
  refine g_loop (α := Nat × List (ByteArray × Tr)) (fun y => ⟨[(15, .d (.int .i64 (y.1 : Nat))), (13, .d (.sl (y.2.map cD))), (12, .d (.ptr (.agg [.str q.nm, .bool q.iter, .bool q.priv, .sl (q.formals.map Fm.d), .int .i64 q.result.op, .str q.result.nm, .int .i64 q.result.nu, .sl (q.result.kids.map Tr.d), .sl (q.wh.map Tr.d), .sl (q.body.map Tr.d)]))), (14, .ref 2 0), (11, .d (.int .i64 (z : Nat))), (1, .d (.ptr (.agg [.sl (p.globals.map Tr.d), .sl (p.procs.map Pc.d)]))), (2, .ref 0 0), (5, .ref 1 0), (6, .osl 5 (l.map cD))], [[.nils, .nils], [.osl 4 (gs.map Tr.d), .osl 10 (pacc.map Pc.d)], [.d (.str q.nm), .d (.bool q.iter), .d (.bool q.priv), .osl 6 ((q.formals.take y.1).map Fm.d), .d (.int .i64 q.result.op), .d (.str q.result.nm), .d (.int .i64 q.result.nu), .d (.sl (q.result.kids.map Tr.d)), .nils, .nils]]⟩) (fun y => q.formals.length - y.1) (fun y => y.1 ≤ q.formals.length ∧ Agree (fmHide c (q.formals.take y.1)) y.2 ∧ CV p.globals.length y.2) (0, l) ⟨Nat.zero_le _, hz5, hz3⟩ (fun y hy Q' hn2 he2 hr2 => ?_) (le_of)
  obtain ⟨y, m⟩ := y
  obtain ⟨hy4, hy5, hy6⟩ := hy
  replace hy4 : y ≤ q.formals.length := hy4
  replace hy5 : Agree (fmHide c (q.formals.take y)) m := hy5
  replace hy6 : CV p.globals.length m := hy6
  have hml := hy6.1
  have hll2 : (q.formals.take y).length = y := by rw [List.length_take]; omega
  refine Z355 ?_;refine Z431 ?_;refine Z170 ?_;refine Z346 ?_
  refine gC ?_ ?_ <;> intro hb6
  ·
   have hlt2 : y < q.formals.length := by simpa using hb6
   obtain ⟨f, hf⟩ : ∃ f, q.formals[y]? = some f := ⟨_, gE hlt2⟩
   have hfd := fm_get hf
   have q109 := c109n _ f.ty (Nat.le_refl _) (hff f (mG hf))
   rw [t_eta] at q109
   refine Z383 ?_;refine Z431 ?_;refine Z0 ?_;refine Z182 ?_;refine Z442 ?_
   refine gL (xs := [.tmp 100, .tmp 106]) rfl (c112 m f.nm (by omega)) ?_
   refine Z319 ?_
   refine g_ck [(1, 23), (23, 25)] [108, 109, 110, 111, 112, 113, 114, 115, 116, 117, 118, 119, 120, 121, 122, 123, 124, 125, 126, 127, 128, 129, 130, 131, 132] (fun bq => [[.nils, .nils], [.osl 4 (gs.map Tr.d), .osl 10 (pacc.map Pc.d)], cond (bq 25) [.d (.str q.nm), .d (.bool q.iter), .d (.bool q.priv), .osl 6 ((q.formals.take y).map Fm.d ++ [D.agg [.str f.intent, .str f.nm, .int .i64 f.ty.op, .str f.ty.nm, .int .i64 f.ty.nu, .sl (f.ty.kids.map Tr.d)]]), .d (.int .i64 q.result.op), .d (.str q.result.nm), .d (.int .i64 q.result.nu), .d (.sl (q.result.kids.map Tr.d)), .nils, .nils] (cond (bq 1) [.d (.str q.nm), .d (.bool q.iter), .d (.bool q.priv), .d (.sl ((q.formals.take y).map Fm.d)), .d (.int .i64 q.result.op), .d (.str q.result.nm), .d (.int .i64 q.result.nu), .d (.sl (q.result.kids.map Tr.d)), .nils, .nils] [.d (.str q.nm), .d (.bool q.iter), .d (.bool q.priv), .osl 6 ((q.formals.take y).map Fm.d), .d (.int .i64 q.result.op), .d (.str q.result.nm), .d (.int .i64 q.result.nu), .d (.sl (q.result.kids.map Tr.d)), .nils, .nils])]) rfl ?_
   refine Z81 ?_
   refine ck_st 1 (fun _ _ _ _ _ => sv rfl (y_fieldAt 3 u81 rfl sz79) (gN ⟨rfl, rfl⟩)) ?_
   refine Z232 ?_
   refine ck_st 2 (fun bq rest hc1 hc2 hc3 => by
    have h9 := hc3.no 23 1 hc1
    have h11 := hc3.no 25 23 h9
    have e1 : upd bq 1 1 = true := rfl
    have e2 : upd bq 1 25 = false := h11
    simp only [hc1, h11, cond_false]
    refine sv rfl (y_load_take u79) ?_
    exact (gN ⟨rfl, by rw [e1, e2]; rfl⟩)) ?_
   refine Z81 ?_
   refine ck_st 3 (fun _ _ _ _ _ => vq rfl (qF u81 rfl sz79) (gN ⟨rfl, rfl⟩)) ?_
   refine Z297 ?_
   refine ck_st 4 (fun _ _ _ _ _ => vq rfl (qL u79) (gN ⟨rfl, rfl⟩)) ?_
   refine Z81 ?_;refine Z221 ?_
   refine ck_pre [3, 4] ?_
   refine ck_st 6 (fun _ _ _ _ _ => vq rfl (qI u79 sz102) (gN ⟨rfl, rfl⟩)) ?_
   refine ck_pre [5] ?_
   refine ck_st 7 (fun _ _ _ _ _ => vq rfl (qF u102 rfl sz9) (gN ⟨rfl, rfl⟩)) ?_
   refine ck_pre [6] ?_
   refine ck_st 8 (fun _ _ _ _ _ => vq rfl (qL u9) (gN ⟨rfl, rfl⟩)) ?_
   refine Z81 ?_
   refine ck_st 9 (fun _ _ _ _ _ => vq rfl (qF u81 rfl sz79) (gN ⟨rfl, rfl⟩)) ?_
   refine ck_pre [8] ?_
   refine ck_st 10 (fun _ _ _ _ _ => vq rfl (qL u79) (gN ⟨rfl, rfl⟩)) ?_
   refine Z81 ?_
   refine ck_st 11 (fun _ _ _ _ _ => vq rfl qM (gN ⟨rfl, rfl⟩)) ?_
   refine ck_pre [9, 10] ?_
   refine ck_st 12 (fun _ _ _ _ _ => vq rfl (qI u79 sz102) (gN ⟨rfl, rfl⟩)) ?_
   refine ck_pre [11] ?_
   refine ck_st 13 (fun _ _ _ _ _ => vq rfl (qF u102 rfl sz9) (gN ⟨rfl, rfl⟩)) ?_
   refine ck_pre [12] ?_
   refine ck_st 14 (fun _ _ _ _ _ => vq rfl (qL u9) (gN ⟨rfl, rfl⟩)) ?_
   refine Z81 ?_
   refine ck_st 15 (fun _ _ _ _ _ => vq rfl (qF u81 rfl sz79) (gN ⟨rfl, rfl⟩)) ?_
   refine ck_pre [14] ?_
   refine ck_st 16 (fun _ _ _ _ _ => vq rfl (qL u79) (gN ⟨rfl, rfl⟩)) ?_
   refine Z81 ?_
   refine ck_st 17 (fun _ _ _ _ _ => vq rfl qM (gN ⟨rfl, rfl⟩)) ?_
   refine ck_pre [15, 16] ?_
   refine ck_st 18 (fun _ _ _ _ _ => vq rfl (qI u79 sz102) (gN ⟨rfl, rfl⟩)) ?_
   refine ck_pre [17] ?_
   refine ck_st 19 (fun _ _ _ _ _ => vq rfl (q_fieldAgg [.int .i64 f.ty.op, .str f.ty.nm, .int .i64 f.ty.nu, .sl (f.ty.kids.map Tr.d)] u102 rfl sz27) (gN ⟨rfl, rfl⟩)) ?_
   refine ck_pre [18] ?_
   refine ck_st 20 (fun _ _ _ _ _ => vq rfl (qG (by exact sz27) u27 rfl) (gN ⟨rfl, rfl⟩)) ?_
   refine ck_pre [19] ?_
   refine ck_st 21 (fun _ _ _ _ _ => gL (xs := [.tmp 127]) rfl (q109) (gN ⟨rfl, rfl⟩)) ?_
   refine ck_pre [7, 13, 20] ?_
   refine ck_st 22 (fun _ _ _ _ _ => vq rfl (q_buildS pl102 zr102) (gN ⟨rfl, rfl⟩)) ?_
   refine ck_pre [21] ?_
   refine ck_st 23 (fun _ _ _ _ _ => sv rfl (y_buildSlice (xs := [.tmp 129]) u79 inf102) (gN ⟨rfl, rfl⟩)) ?_
   refine ck_pre [1, 22, 20] ?_
   refine ck_tk 24 109 (fun _ _ _ _ _ => sv rfl (y_append u79 inf102 (hk := by first | exact fm_cells _ | (intro x hx; simp at hx; subst hx; rfl)) (hlen := by simp [lim]; omega) (hB := by simp [lim]; omega)) (gN ⟨rfl, rfl⟩)) ?_
   refine ck_pre [0, 2, 3, 4, 5, 6, 7, 8, 9, 10, 11, 12, 13, 14, 15, 16, 17, 18, 19, 20, 21, 22] ?_
   refine ck_st 25 (fun _ _ _ _ _ => sv rfl (y_fieldAt 3 u81 rfl sz79) (gN ⟨rfl, rfl⟩)) ?_
   refine ck_pre [24, 23, 23, 0, 2, 3, 4, 5, 6, 7, 8, 9, 10, 11, 12, 13, 14, 15, 16, 17, 18, 19, 20, 21, 22, 23] ?_
   refine ck_atk 26 131 (fun bq rest hc1 hc2 hc3 => by
    have h9 := hc2 23 dep_in
    have h1 := hc3 23 h9 1 dep_in
    have e1 : upd bq 25 25 = true := rfl
    simp only [hc1, h1, cond_true, cond_false]
    refine sa rfl (d_store_take sz79) ?_
    exact (gN ⟨rfl, by rw [e1]; rfl⟩)) ?_
   refine ck_done (mem'' := [[.nils, .nils], [.osl 4 (gs.map Tr.d), .osl 10 (pacc.map Pc.d)], [.d (.str q.nm), .d (.bool q.iter), .d (.bool q.priv), .osl 6 ((q.formals.take y).map Fm.d ++ [D.agg [.str f.intent, .str f.nm, .int .i64 f.ty.op, .str f.ty.nm, .int .i64 f.ty.nu, .sl (f.ty.kids.map Tr.d)]]), .d (.int .i64 q.result.op), .d (.str q.result.nm), .d (.int .i64 q.result.nu), .d (.sl (q.result.kids.map Tr.d)), .nils, .nils]]) ?_
   refine Z310 ?_
   rw [fm_snoc hf]
   refine Z349 ?_
   refine hn2 _ (y + 1, woL m f.nm) ⟨by show y + 1 ≤ q.formals.length; omega, by show Agree (fmHide c (q.formals.take (y + 1))) (woL m f.nm); rw [fmHide_step hf]; exact hy5.hide f.nm, hy6.wo f.nm⟩ (by show q.formals.length - (y + 1) < q.formals.length - y; omega) le_of
  have hge2 : y = q.formals.length := by
   have : ¬ (y : Int) < (q.formals.map Fm.d).length := by simpa using hb6
   rw [List.length_map] at this
   omega
  rw [hge2, List.take_length] at hy5
  rw [hge2, List.take_length]
  have q117 := c117 q.body hbl hfb p.globals.length hbz m (fmHide c q.formals) hy6 hy5
  refine Z37 ?_;refine Z312 ?_;refine Z38 ?_;refine Z398 ?_;refine Z0 ?_
  refine gL (xs := [.tmp 135, .tmp 136]) rfl (q117) ?_
  refine Z389 ?_;refine Z440 ?_
  refine gC ?_ ?_ <;> intro hb7
  ·
   have he : (pcE q c != 0) = true := hb7
   refine Z3 ?_;refine Z244 ?_;refine Z0 ?_;refine Z199 ?_;refine Z396 ?_
   refine hr1 _ ?_
   refine Z91 ?_;refine Z218 ?_
   exact Y9
  have he : (pcE q c != 0) = false := hb7
  refine Z434 ?_
  refine sv rfl (y_fieldAt 9 u81 rfl sz22) ?_
  refine Z196 ?_;refine Z11 ?_;refine Z357 ?_
  refine g_loop (α := Nat) (fun u => ⟨[(18, .d (.int .i64 (u : Nat))), (13, .d (.sl (m.map cD))), (12, .d (.ptr (.agg [.str q.nm, .bool q.iter, .bool q.priv, .sl (q.formals.map Fm.d), .int .i64 q.result.op, .str q.result.nm, .int .i64 q.result.nu, .sl (q.result.kids.map Tr.d), .sl (q.wh.map Tr.d), .sl (q.body.map Tr.d)]))), (14, .ref 2 0), (11, .d (.int .i64 (z : Nat))), (1, .d (.ptr (.agg [.sl (p.globals.map Tr.d), .sl (p.procs.map Pc.d)]))), (2, .ref 0 0), (5, .ref 1 0), (6, .osl 5 (l.map cD))], [[.nils, .nils], [.osl 4 (gs.map Tr.d), .osl 10 (pacc.map Pc.d)], [.d (.str q.nm), .d (.bool q.iter), .d (.bool q.priv), .osl 6 (q.formals.map Fm.d), .d (.int .i64 q.result.op), .d (.str q.result.nm), .d (.int .i64 q.result.nu), .d (.sl (q.result.kids.map Tr.d)), .osl 4 (((q.wh.take u).map fun t => t.put (fmHide c q.formals)).map Tr.d), .d (.sl ((Tr.block q.body (fmHide c q.formals)).1.map Tr.d))]]⟩) (fun u => q.wh.length - u) (fun u => u ≤ q.wh.length) 0 (Nat.zero_le _) (fun u hu Q' hn3 he3 hr3 => ?_) (le_of)
  have hul : (q.wh.take u).length = u := by rw [List.length_take]; omega
  refine Z355 ?_;refine Z398 ?_;refine Z45 ?_;refine Z346 ?_
  refine gC ?_ ?_ <;> intro hb8
  ·
   have hlt3 : u < q.wh.length := by simpa using hb8
   obtain ⟨t, ht⟩ : ∃ t, q.wh[u]? = some t := ⟨_, gE hlt3⟩
   have hxt := Tr.ds_get ht
   have hYa := (t.put (fmHide c q.formals)).d_eta
   have q37 := c37n _ t (Nat.le_refl _) (hfw t (mG ht)) m (fmHide c q.formals) (hy6.clens (by omega)) hy5
   rw [t_eta] at hxt q37
   rw [hYa] at q37
   have hws : ((q.wh.take u).map fun t => t.put (fmHide c q.formals)).map Tr.d ++ [D.agg [.int .i64 (t.put (fmHide c q.formals)).op, .str (t.put (fmHide c q.formals)).nm, .int .i64 (t.put (fmHide c q.formals)).nu, .sl ((t.put (fmHide c q.formals)).kids.map Tr.d)]] = ((q.wh.take (u + 1)).map fun t => t.put (fmHide c q.formals)).map Tr.d := by rw [← hYa, List.take_add_one, ht, List.map_append, List.map_append]; rfl
   refine gK (tN (gS (G_block ?_)))
   refine g_ck [(1, 10), (10, 12)] [153, 154, 155, 156, 157, 158, 159, 160, 161, 162, 163, 164] (fun bq => [[.nils, .nils], [.osl 4 (gs.map Tr.d), .osl 10 (pacc.map Pc.d)], cond (bq 12) [.d (.str q.nm), .d (.bool q.iter), .d (.bool q.priv), .osl 6 (q.formals.map Fm.d), .d (.int .i64 q.result.op), .d (.str q.result.nm), .d (.int .i64 q.result.nu), .d (.sl (q.result.kids.map Tr.d)), .osl 4 (((q.wh.take u).map fun t => t.put (fmHide c q.formals)).map Tr.d ++ [D.agg [.int .i64 (t.put (fmHide c q.formals)).op, .str (t.put (fmHide c q.formals)).nm, .int .i64 (t.put (fmHide c q.formals)).nu, .sl ((t.put (fmHide c q.formals)).kids.map Tr.d)]]), .d (.sl ((Tr.block q.body (fmHide c q.formals)).1.map Tr.d))] (cond (bq 1) [.d (.str q.nm), .d (.bool q.iter), .d (.bool q.priv), .osl 6 (q.formals.map Fm.d), .d (.int .i64 q.result.op), .d (.str q.result.nm), .d (.int .i64 q.result.nu), .d (.sl (q.result.kids.map Tr.d)), .d (.sl (((q.wh.take u).map fun t => t.put (fmHide c q.formals)).map Tr.d)), .d (.sl ((Tr.block q.body (fmHide c q.formals)).1.map Tr.d))] [.d (.str q.nm), .d (.bool q.iter), .d (.bool q.priv), .osl 6 (q.formals.map Fm.d), .d (.int .i64 q.result.op), .d (.str q.result.nm), .d (.int .i64 q.result.nu), .d (.sl (q.result.kids.map Tr.d)), .osl 4 (((q.wh.take u).map fun t => t.put (fmHide c q.formals)).map Tr.d), .d (.sl ((Tr.block q.body (fmHide c q.formals)).1.map Tr.d))])]) rfl ?_
   refine Z81 ?_
   refine ck_st 1 (fun _ _ _ _ _ => sv rfl (y_fieldAt 8 u81 rfl sz22) (gN ⟨rfl, rfl⟩)) ?_
   refine Z232 ?_
   refine ck_st 2 (fun bq rest hc1 hc2 hc3 => by
    have h9 := hc3.no 10 1 hc1
    have h11 := hc3.no 12 10 h9
    have e1 : upd bq 1 1 = true := rfl
    have e2 : upd bq 1 12 = false := h11
    simp only [hc1, h11, cond_false]
    refine Z171 ?_
    exact (gN ⟨rfl, by rw [e1, e2]; rfl⟩)) ?_
   refine Z81 ?_
   refine ck_st 3 (fun _ _ _ _ _ => vq rfl (qF u81 rfl sz22) (gN ⟨rfl, rfl⟩)) ?_
   refine Z297 ?_;refine Z262 ?_;refine Z81 ?_;refine Z221 ?_
   refine ck_pre [3, 4] ?_
   refine Z251 ?_
   refine ck_pre [5] ?_
   refine Z230 ?_;refine Z81 ?_
   refine ck_st 8 (fun _ _ _ _ _ => vq rfl qM (gN ⟨rfl, rfl⟩)) ?_
   refine ck_pre [6, 7] ?_
   refine ck_st 9 (fun _ _ _ _ _ => gL (xs := [.tmp 159, .tmp 160]) rfl (q37) (gN ⟨rfl, rfl⟩)) ?_
   refine ck_pre [8] ?_
   refine ck_st 10 (fun _ _ _ _ _ => sv rfl (y_buildSlice (xs := [.tmp 161]) u22 inf27) (gN ⟨rfl, rfl⟩)) ?_
   refine ck_pre [1, 9, 8] ?_
   refine ck_tk 11 154 (fun _ _ _ _ _ => sv rfl (y_append u22 inf27 (hk := by first | exact Tr.ds_cells _ | (intro x hx; simp at hx; subst hx; simp [D.cells])) (hlen := by simp [lim]; omega) (hB := by simp [lim]; omega)) (gN ⟨rfl, rfl⟩)) ?_
   refine ck_pre [0, 2, 3, 4, 5, 6, 7, 8, 9] ?_
   refine ck_st 12 (fun _ _ _ _ _ => sv rfl (y_fieldAt 8 u81 rfl sz22) (gN ⟨rfl, rfl⟩)) ?_
   refine ck_pre [11, 10, 10, 0, 2, 3, 4, 5, 6, 7, 8, 9, 10] ?_
   refine ck_atk 13 163 (fun bq rest hc1 hc2 hc3 => by
    have h9 := hc2 10 dep_in
    have h1 := hc3 10 h9 1 dep_in
    have e1 : upd bq 12 12 = true := rfl
    simp only [hc1, h1, cond_true, cond_false]
    refine Z161 ?_
    exact (gN ⟨rfl, by rw [e1]; rfl⟩)) ?_
   refine ck_done (mem'' := [[.nils, .nils], [.osl 4 (gs.map Tr.d), .osl 10 (pacc.map Pc.d)], [.d (.str q.nm), .d (.bool q.iter), .d (.bool q.priv), .osl 6 (q.formals.map Fm.d), .d (.int .i64 q.result.op), .d (.str q.result.nm), .d (.int .i64 q.result.nu), .d (.sl (q.result.kids.map Tr.d)), .osl 4 (((q.wh.take u).map fun t => t.put (fmHide c q.formals)).map Tr.d ++ [D.agg [.int .i64 (t.put (fmHide c q.formals)).op, .str (t.put (fmHide c q.formals)).nm, .int .i64 (t.put (fmHide c q.formals)).nu, .sl ((t.put (fmHide c q.formals)).kids.map Tr.d)]]), .d (.sl ((Tr.block q.body (fmHide c q.formals)).1.map Tr.d))]]) ?_
   refine Z310 ?_
   rw [hws]
   refine Z349 ?_
   refine hn3 _ (u + 1) (by omega) (by omega) le_of
  have hge3 : u = q.wh.length := by
   have : ¬ (u : Int) < (q.wh.map Tr.d).length := by simpa using hb8
   rw [List.length_map] at this
   omega
  rw [hge3, List.take_length]
  refine Z37 ?_
  refine he3 _ _ ?_
  refine blk_exit (tN (gR ?_))
  refine Z289 ?_
  refine sv rfl (y_load_take u23) ?_
  refine Z292 ?_
  refine sv rfl (y_buildSlice (xs := [.tmp 167]) u23 inf81) ?_
  refine sv rfl (y_append u23 inf81 (hk := by first | exact pc_cells _ | (intro x hx; simp at hx; subst hx; rfl)) (hlen := by simp [lim]; omega) (hB := by simp [lim]; omega)) ?_
  rw [show pacc.map Pc.d ++ [D.agg [.str q.nm, .bool q.iter, .bool q.priv, .sl (q.formals.map Fm.d), .int .i64 q.result.op, .str q.result.nm, .int .i64 q.result.nu, .sl (q.result.kids.map Tr.d), .sl ((q.wh.map fun t => t.put (fmHide c q.formals)).map Tr.d), .sl ((Tr.block q.body (fmHide c q.formals)).1.map Tr.d)]] = (pacc ++ [pcF q c]).map Pc.d from by rw [List.map_append]; rfl]
  refine Z289 ?_
  refine sa rfl (d_store_take sz23) ?_
  refine Z95 ?_
  refine g_forget 2 [[.nils, .nils], [.osl 4 (gs.map Tr.d), .osl 10 ((pacc ++ [pcF q c]).map Pc.d)]] rfl ?_ (hrf := by (simp only [List.all_cons, List.all_nil, PV.refsBs, PV.refsB, Bool.and_true, Bool.and_self]) <;> rfl)
  refine Z349 ?_
  refine hn1 _ (z + 1, pacc ++ [pcF q c]) ⟨by show z + 1 ≤ p.procs.length; omega, by show (pacc ++ [_]).length ≤ z + 1; rw [List.length_append, List.length_singleton]; omega, by rw [hy3, procsF_drop hq, contP_step he]⟩ (by show p.procs.length - (z + 1) < p.procs.length - z; omega) le_of
 have hge : z = p.procs.length := by
  have : ¬ (z : Int) < (p.procs.map Pc.d).length := by simpa using hb5
  rw [List.length_map] at this
  omega
 subst hge
 rw [List.drop_length, contP_end] at hy3
 refine Z439 ?_;refine Z38 ?_
 refine sv rfl (y_load_agg sz25 u25 rfl) ?_
 refine Z199 ?_;refine Z317 ?_;refine Z218 ?_
 exact Y21
end
section
theorem globF_ok : ∀ (gs : List Tr) (c : KL) (x : List Tr × KL), (∀ g ∈ gs, g.Ok ∧ g.op = 50 ∧ g.shaped = true) → KOk c → globF gs c = some x → x.1.length ≤ gs.length ∧ (∀ t ∈ x.1, t.Ok) ∧ KOk x.2
 | [], c, x, _, hc, h => by
  rw [globF] at h
  injection h with h
  subst h
  exact ⟨Nat.le_refl _, by simp, hc⟩
 | g :: r, c, x, hg, hc, h => by
  have hr : ∀ g ∈ r, g.Ok ∧ g.op = 50 ∧ g.shaped = true := fun y hy => hg y (by simp [hy])
  obtain ⟨h1, h2, h3⟩ := hg g (by simp)
  rw [globF] at h
  split at h
  · cases hv : staticV c g with
    | none => rw [hv] at h; cases h
    | some v =>
     rw [hv] at h
     obtain ⟨op, nm, num, ks⟩ := g
     obtain rfl : op = 50 := h2
     have h4 := globF_ok r ((nm, some v) :: c) x hr (hc.cons nm (static_ok hc h1 h3 hv)) h
     exact ⟨Nat.le_trans h4.1 (by simp), h4.2⟩
  · cases hx : globF r (hideK g.nm c) with
    | none => rw [hx] at h; cases h
    | some y =>
     rw [hx] at h
     injection h with h
     subst h
     have h4 := globF_ok r (hideK g.nm c) y hr (hc.hide _) hx
     refine ⟨by simpa using h4.1, fun t ht => ?_, h4.2.2⟩
     rcases List.mem_cons.1 ht with rfl | ht
     · exact put_okT _ g (Nat.le_refl _) h1 c hc.okT
     · exact h4.2.1 t ht
theorem pcF_ok {q : Pc} {c : KL} (hok : q.Ok) (hc : KOk c) (hf : ∀ t ∈ q.body, SFit t) : (pcF q c).Ok := by
 have hl := KOk.fm q.formals hc
 have hb := block_okx q.body (fmHide c q.formals) hl fun t ht => ⟨⟨(hf t ht).1, (hf t ht).2.1⟩, fun l hl => fold_ok _ t (Nat.le_refl _) (hf t ht).1 (hf t ht).2.1 (hf t ht).2.2.1 l hl⟩
 refine ⟨hok.n, hok.fl, hok.f, hok.r, ⟨?_, fun t ht => ?_⟩, ⟨Nat.le_trans hb.1 hok.b.1, hb.2⟩⟩
 · show (q.wh.map fun t => t.put (fmHide c q.formals)).length ≤ _
   rw [List.length_map]; exact hok.w.1
 · obtain ⟨y, hy, rfl⟩ := List.mem_map.1 ht
   exact put_okT _ y (Nat.le_refl _) (hok.w.2 y hy) _ hl.okT
theorem procsF_ok {c : KL} (hc : KOk c) : ∀ (l : List Pc), (∀ q ∈ l, q.Ok ∧ ∀ t ∈ q.body, SFit t) → (procsF l c).1.length ≤ l.length ∧ ∀ q ∈ (procsF l c).1, q.Ok
 | [], _ => by rw [procsF]; exact ⟨Nat.le_refl _, by simp⟩
 | q :: r, h => by
  have h1 := procsF_ok hc r fun x hx => h x (by simp [hx])
  have h2 := h q (by simp)
  rw [procsF]
  split
  · exact ⟨Nat.zero_le _, by simp⟩
  · split
    · exact ⟨Nat.zero_le _, by simp⟩
    · refine ⟨by simpa using h1.1, fun x hx => ?_⟩
      rcases List.mem_cons.1 hx with rfl | hx
      · exact pcF_ok h2.1 hc h2.2
      · exact h1.2 x hx
theorem pg0_ok : (⟨[], []⟩ : Pg).Ok := ⟨⟨Nat.zero_le _, by simp⟩, Nat.zero_le _, by simp⟩
theorem foldT_ok {p : Pg} (hok : p.Ok) (hT : p.total ≤ 1000000) : (foldT p).1.Ok := by
 unfold foldT
 split
 · exact pg0_ok
 · rename_i h0
   have hf0 : formE p = 0 := by simpa using h0
   cases hx : globF p.globals [] with
   | none => exact pg0_ok
   | some x =>
    have h1 := globF_ok p.globals [] x (fun g hg => ⟨hok.g.2 g hg, (form_facts hf0).1 g hg⟩) KOk_nil hx
    dsimp only
    split
    · exact pg0_ok
    · have h2 := procsF_ok h1.2.2 p.procs fun q hq => ⟨hok.p q hq, (pc_fit hok hT hf0 hq).1⟩
      exact ⟨⟨Nat.le_trans h1.1 hok.g.1, h1.2.1⟩, Nat.le_trans h2.1 hok.pl, h2.2⟩
set_option maxHeartbeats 8000000 in
theorem c12 (p : Pg) (hok : p.Ok) : Pf Tryz.prog 12 [.agg [.sl (p.globals.map Tr.d), .sl (p.procs.map Pc.d)]] (.d (.bool true)) := by
 refine pf_body (rvs := [.tmp 2]) [(0, .d (.agg [.sl (p.globals.map Tr.d), .sl (p.procs.map Pc.d)]))] Tryz.func12 Tryz.ntmps12 Tryz.results12 (fun S0 O0 w0 m0 hm0 => ?_)
 refine Z325 ?_;refine Z80 ?_;refine Z328 ?_;refine Z144 ?_
 refine gL (xs := [.tmp 7, .const (.int .i64 (600))]) rfl (c14g p 600 hok (by decide) (by decide)) ?_
 refine Z381 ?_
 refine gC ?_ ?_ <;> intro hb0
 ·
  refine Z3 ?_
  refine gL (xs := []) rfl (c27) ?_
  refine Z365 ?_
  exact ⟨by first | rfl | simp, rfl⟩
 have hfw : p.few 600 = true := by simpa using hb0
 have hs := (Pg.few_total (by decide) hfw).1
 have q59 := c59 p hok (by omega)
 have q60 := c60 p hok (by omega)
 have hr := foldT_ok hok (show p.total ≤ 1000000 by omega)
 generalize (foldT p).2 = re at q59 q60
 generalize (foldT p).1 = r at q59 q60 hr
 have q61 := c61 r hr
 replace q59 : Pf Tryz.prog 59 _ (.tup [.d (.agg [.sl (r.globals.map Tr.d), .sl (r.procs.map Pc.d)]), .d (.int .i64 re)]) := q59
 replace q60 : Pf Tryz.prog 60 _ (.tup [.d (.agg [.sl (r.globals.map Tr.d), .sl (r.procs.map Pc.d)]), .d (.int .i64 re)]) := q60
 refine Z46 ?_;refine Z144 ?_
 refine gL (xs := [.tmp 12]) rfl (q59) ?_
 refine Z340 ?_;refine Z268 ?_;refine Z199 ?_
 refine gF 0 [] (.agg [.sl (r.globals.map Tr.d), .sl (r.procs.map Pc.d)]) rfl ?_
 refine Z372 ?_
 refine gP [0, 1, 2, 3, 4, 5, 6] ?_
 refine Z14 ?_;refine Z144 ?_
 refine gL (xs := [.tmp 17]) rfl (q60) ?_
 refine Z340 ?_;refine Z268 ?_;refine Z199 ?_
 refine gF 0 [] (.agg [.sl (r.globals.map Tr.d), .sl (r.procs.map Pc.d)]) rfl ?_
 refine Z324 ?_;refine Z144 ?_;refine Z144 ?_
 refine gL (xs := [.tmp 21, .tmp 22]) rfl (q61) ?_
 refine Z332 ?_;refine Z18 ?_
 refine sg rfl (fun hg => sP 26 rfl hg (sP 25 rfl hg q_eql)) ?_
 refine Z353 ?_
 refine g_callg (xs := []) rfl (fun hg => c27) ?_
 refine Z360 ?_
 exact ⟨by first | rfl | simp, rfl⟩
end
section
theorem c1_3 : Tryz.prog.cellsOf 3 = 1 := by kernel_rfl
theorem c1_9 : Tryz.prog.cellsOf 9 = 1 := by kernel_rfl
theorem c1_22 : Tryz.prog.cellsOf 22 = 1 := by kernel_rfl
theorem c1_27 : Tryz.prog.cellsOf 27 = 4 := by kernel_rfl
theorem list4 : ∀ (ds : List D), ds.length = 4 → ∃ d0 d1 d2 d3, ds = [d0, d1, d2, d3]
 | [d0, d1, d2, d3], _ => ⟨d0, d1, d2, d3, rfl⟩
theorem tree_of {e : TypeId} {ds : List D} (h : DT Tryz.prog e ds) : (e = 27 → ∃ t : Tr, t.Ok ∧ D.agg ds = t.d) ∧ (e = 22 → ∃ ts : List Tr, ds = [.sl (ts.map Tr.d)] ∧ ts.length ≤ 140737488355328 ∧ ∀ t ∈ ts, t.Ok) := by
 induction h with
 | bool t b hu => exact ⟨fun h => (by subst h; rw [u27] at hu; cases hu), fun h => (by subst h; rw [u22] at hu; cases hu)⟩
 | int t k n hu => exact ⟨fun h => (by subst h; rw [u27] at hu; cases hu), fun h => (by subst h; rw [u22] at hu; cases hu)⟩
 | str t s hu => exact ⟨fun h => (by subst h; rw [u27] at hu; cases hu), fun h => (by subst h; rw [u22] at hu; cases hu)⟩
 | nil t e hu => exact ⟨fun h => (by subst h; rw [u27] at hu; cases hu), fun h => (by subst h; rw [u22] at hu; cases hu)⟩
 | ptr t e ds hu => exact ⟨fun h => (by subst h; rw [u27] at hu; cases hu), fun h => (by subst h; rw [u22] at hu; cases hu)⟩
 | sl t e dss hu hl hall ih =>
  refine ⟨fun h => (by subst h; rw [u27] at hu; cases hu), fun h => ?_⟩
  subst h
  rw [u22] at hu
  injection hu with hu
  injection hu with hu
  subst hu
  obtain ⟨ts, h1, h2, h3⟩ := list_at (P := Tryz.prog) (e := 27) (f := Tr.d) (Q := Tr.Ok) dss (fun i ds hi => by
   obtain ⟨t, ho, ht⟩ := (ih i ds hi).1 rfl
   exact ⟨t, ho, by simpa [D.mk, u27] using ht⟩)
  exact ⟨ts, by rw [h1], by rw [h3]; unfold reachBytes at hl; omega, h2⟩
 | struct t fs ds hu hl hall ih =>
  refine ⟨fun h => ?_, fun h => (by subst h; rw [u22] at hu; cases hu)⟩
  subst h
  rw [u27] at hu
  injection hu with hu
  injection hu with hu
  subst hu
  rw [c1_27] at hl
  obtain ⟨d0, d1, d2, d3, rfl⟩ := list4 ds hl
  have h0 : DT Tryz.prog 3 ((List.drop 0 [d0, d1, d2, d3]).take (Tryz.prog.cellsOf 3)) := hall 0 _ rfl
  have h1 : DT Tryz.prog 9 ((List.drop 1 [d0, d1, d2, d3]).take (Tryz.prog.cellsOf 9)) := hall 1 _ rfl
  have h2 : DT Tryz.prog 3 ((List.drop 2 [d0, d1, d2, d3]).take (Tryz.prog.cellsOf 3)) := hall 2 _ rfl
  obtain ⟨ts, h3, hlen, hok⟩ := (ih 3 _ rfl).2 rfl
  replace h3 : (List.drop 3 [d0, d1, d2, d3]).take (Tryz.prog.cellsOf 22) = [.sl (ts.map Tr.d)] := h3
  simp only [c1_3, c1_9, c1_22, List.drop_zero, List.drop_succ_cons, List.take_succ_cons, List.take_zero] at h0 h1 h2 h3
  obtain ⟨n0, e0, w0⟩ := h0.int_of u3
  obtain ⟨s1, e1, w1⟩ := h1.str_of u9
  obtain ⟨n2, e2, w2⟩ := h2.int_of u3
  obtain rfl := (List.cons.inj e0).1
  obtain rfl := (List.cons.inj e1).1
  obtain rfl := (List.cons.inj e2).1
  obtain rfl := (List.cons.inj h3).1
  exact ⟨.mk n0 s1 n2 ts, .mk w0 (by unfold reachBytes at w1; omega) w2 hlen hok, by rw [Tr.d_mk]⟩
theorem node_of {ds : List D} (h : DT Tryz.prog 27 ds) : ∃ t : Tr, t.Ok ∧ D.agg ds = t.d := (tree_of h).1 rfl
end
section
theorem c1_4 : Tryz.prog.cellsOf 4 = 1 := by kernel_rfl
theorem c1_23 : Tryz.prog.cellsOf 23 = 1 := by kernel_rfl
theorem c1_79 : Tryz.prog.cellsOf 79 = 1 := by kernel_rfl
theorem c1_25 : Tryz.prog.cellsOf 25 = 2 := by kernel_rfl
theorem c1_81 : Tryz.prog.cellsOf 81 = 10 := by kernel_rfl
theorem c1_102 : Tryz.prog.cellsOf 102 = 6 := by kernel_rfl
theorem list6 : ∀ (ds : List D), ds.length = 6 → ∃ d0 d1 d2 d3 d4 d5, ds = [d0, d1, d2, d3, d4, d5]
 | [d0, d1, d2, d3, d4, d5], _ => ⟨d0, d1, d2, d3, d4, d5, rfl⟩
theorem list10 : ∀ (ds : List D), ds.length = 10 → ∃ d0 d1 d2 d3 d4 d5 d6 d7 d8 d9, ds = [d0, d1, d2, d3, d4, d5, d6, d7, d8, d9]
 | [d0, d1, d2, d3, d4, d5, d6, d7, d8, d9], _ => ⟨d0, d1, d2, d3, d4, d5, d6, d7, d8, d9, rfl⟩
theorem list2d : ∀ (ds : List D), ds.length = 2 → ∃ d0 d1, ds = [d0, d1]
 | [d0, d1], _ => ⟨d0, d1, rfl⟩
theorem node_cells {d0 d1 d2 d3 : D} {t : Tr} (h : D.agg [d0, d1, d2, d3] = t.d) : d0 = .int .i64 t.op ∧ d1 = .str t.nm ∧ d2 = .int .i64 t.nu ∧ d3 = .sl (t.kids.map Tr.d) := by
 rw [t.d_eta] at h
 injection h with h
 injection h with h0 h
 injection h with h1 h
 injection h with h2 h
 injection h with h3 _
 exact ⟨h0, h1, h2, h3⟩
theorem nodes_of {ds : List D} (h : DT Tryz.prog 22 ds) : ∃ ts : List Tr, ds = [.sl (ts.map Tr.d)] ∧ TsOk ts := by
 obtain ⟨ts, h1, h2, h3⟩ := (tree_of h).2 rfl
 exact ⟨ts, h1, h2, h3⟩
theorem mkformal_of {ds : List D} (h : DT Tryz.prog 102 ds) : ∃ f : Fm, f.Ok ∧ D.mk Tryz.prog 102 ds = f.d := by
 obtain ⟨hl, hf⟩ := h.struct_of u102
 rw [c1_102] at hl
 obtain ⟨d0, d1, d2, d3, d4, d5, rfl⟩ := list6 ds hl
 have h0 : DT Tryz.prog 9 ((List.drop 0 [d0, d1, d2, d3, d4, d5]).take (Tryz.prog.cellsOf 9)) := hf 0 _ rfl
 have h1 : DT Tryz.prog 9 ((List.drop 1 [d0, d1, d2, d3, d4, d5]).take (Tryz.prog.cellsOf 9)) := hf 1 _ rfl
 have h2 : DT Tryz.prog 27 ((List.drop 2 [d0, d1, d2, d3, d4, d5]).take (Tryz.prog.cellsOf 27)) := hf 2 _ rfl
 rw [c1_9] at h0 h1
 rw [c1_27] at h2
 obtain ⟨s0, e0, w0⟩ := h0.str_of u9
 obtain ⟨s1, e1, w1⟩ := h1.str_of u9
 obtain rfl := (List.cons.inj e0).1
 obtain rfl := (List.cons.inj e1).1
 obtain ⟨t, hok, ht⟩ := node_of h2
 obtain ⟨rfl, rfl, rfl, rfl⟩ := node_cells ht
 refine ⟨⟨s0, s1, t⟩, ⟨by unfold reachBytes at w0; show s0.size ≤ _; omega, by unfold reachBytes at w1; show s1.size ≤ _; omega, hok⟩, ?_⟩
 simp [D.mk, u102, Fm.d]
theorem formals_of {ds : List D} (h : DT Tryz.prog 79 ds) : ∃ l : List Fm, ds = [.sl (l.map Fm.d)] ∧ l.length ≤ 140737488355328 ∧ ∀ f ∈ l, f.Ok := by
 obtain ⟨dss, h1, h2, h3⟩ := h.sl_of u79
 obtain ⟨l, h4, h5, h6⟩ := list_of (f := Fm.d) (fun ds h => mkformal_of h) dss h3
 exact ⟨l, by rw [h1, h4], by unfold reachBytes at h2; omega, h5⟩
theorem mkproc_of {ds : List D} (h : DT Tryz.prog 81 ds) : ∃ q : Pc, q.Ok ∧ D.mk Tryz.prog 81 ds = q.d := by
 obtain ⟨hl, hf⟩ := h.struct_of u81
 rw [c1_81] at hl
 obtain ⟨d0, d1, d2, d3, d4, d5, d6, d7, d8, d9, rfl⟩ := list10 ds hl
 have h0 : DT Tryz.prog 9 ((List.drop 0 [d0, d1, d2, d3, d4, d5, d6, d7, d8, d9]).take (Tryz.prog.cellsOf 9)) := hf 0 _ rfl
 have h1 : DT Tryz.prog 4 ((List.drop 1 [d0, d1, d2, d3, d4, d5, d6, d7, d8, d9]).take (Tryz.prog.cellsOf 4)) := hf 1 _ rfl
 have h2 : DT Tryz.prog 4 ((List.drop 2 [d0, d1, d2, d3, d4, d5, d6, d7, d8, d9]).take (Tryz.prog.cellsOf 4)) := hf 2 _ rfl
 have h3 : DT Tryz.prog 79 ((List.drop 3 [d0, d1, d2, d3, d4, d5, d6, d7, d8, d9]).take (Tryz.prog.cellsOf 79)) := hf 3 _ rfl
 have h4 : DT Tryz.prog 27 ((List.drop 4 [d0, d1, d2, d3, d4, d5, d6, d7, d8, d9]).take (Tryz.prog.cellsOf 27)) := hf 4 _ rfl
 have h5 : DT Tryz.prog 22 ((List.drop 8 [d0, d1, d2, d3, d4, d5, d6, d7, d8, d9]).take (Tryz.prog.cellsOf 22)) := hf 5 _ rfl
 have h6 : DT Tryz.prog 22 ((List.drop 9 [d0, d1, d2, d3, d4, d5, d6, d7, d8, d9]).take (Tryz.prog.cellsOf 22)) := hf 6 _ rfl
 rw [c1_9] at h0
 rw [c1_4] at h1 h2
 rw [c1_79] at h3
 rw [c1_27] at h4
 rw [c1_22] at h5 h6
 obtain ⟨s0, e0, w0⟩ := h0.str_of u9
 obtain ⟨b1, e1⟩ := h1.bool_of u4
 obtain ⟨b2, e2⟩ := h2.bool_of u4
 obtain ⟨l3, e3, w3, k3⟩ := formals_of h3
 obtain ⟨t, hok, ht⟩ := node_of h4
 obtain ⟨l5, e5, k5⟩ := nodes_of h5
 obtain ⟨l6, e6, k6⟩ := nodes_of h6
 obtain rfl := (List.cons.inj e0).1
 obtain rfl := (List.cons.inj e1).1
 obtain rfl := (List.cons.inj e2).1
 obtain rfl := (List.cons.inj e3).1
 obtain rfl := (List.cons.inj e5).1
 obtain rfl := (List.cons.inj e6).1
 obtain ⟨rfl, rfl, rfl, rfl⟩ := node_cells ht
 refine ⟨⟨s0, b1, b2, l3, t, l5, l6⟩, ⟨by unfold reachBytes at w0; show s0.size ≤ _; omega, w3, k3, hok, k5, k6⟩, ?_⟩
 simp [D.mk, u81, Pc.d]
theorem prog_of {ds : List D} (h : DT Tryz.prog 25 ds) : ∃ p : Pg, p.Ok ∧ D.agg ds = .agg [.sl (p.globals.map Tr.d), .sl (p.procs.map Pc.d)] := by
 obtain ⟨hl, hf⟩ := h.struct_of u25
 rw [c1_25] at hl
 obtain ⟨d0, d1, rfl⟩ := list2d ds hl
 have h0 : DT Tryz.prog 22 ((List.drop 0 [d0, d1]).take (Tryz.prog.cellsOf 22)) := hf 0 _ rfl
 have h1 : DT Tryz.prog 23 ((List.drop 1 [d0, d1]).take (Tryz.prog.cellsOf 23)) := hf 1 _ rfl
 rw [c1_22] at h0
 rw [c1_23] at h1
 obtain ⟨l0, e0, k0⟩ := nodes_of h0
 obtain ⟨dss, h2, h3, h4⟩ := h1.sl_of u23
 obtain ⟨l1, h5, h6, h7⟩ := list_of (f := Pc.d) (fun ds h => mkproc_of h) dss h4
 rw [h5] at h2
 obtain rfl := (List.cons.inj e0).1
 obtain rfl := (List.cons.inj h2).1
 exact ⟨⟨l0, l1⟩, ⟨k0, by show l1.length ≤ _; unfold reachBytes at h3; omega, h6⟩, rfl⟩
end
end Go.Proofs.YtklkbfpjimeaoaaGreat
