import Derived.Test.YtklkbfpjimeaoaaGreatM26
/- Contracts of functions. Conditions: none. -/
set_option linter.unusedSimpArgs false
set_option linter.unusedVariables false
set_option maxRecDepth 20000
namespace Go.Proofs.YtklkbfpjimeaoaaGreat
open Go Go.Proofs.YtklkbfpjimeaoaaGreat.E
def Agree (K : KL) (l : List (ByteArray × Tr)) : Prop := ∀ nm, findK nm K = findK nm (kl l)
theorem findK_filter (x nm : ByteArray) : ∀ K : KL, findK nm (K.filter fun c => !decide (c.1 = x)) = if x = nm then none else findK nm K
 | [] => by simp [findK]
 | c :: r => by
  rw [List.filter_cons]
  by_cases hc : c.1 = x
  · rw [if_neg (by simp [hc]), findK_filter x nm r]
    by_cases hx : x = nm
    · rw [if_pos hx, if_pos hx]
    · rw [if_neg hx, if_neg hx, findK, if_neg (by rw [hc]; exact hx)]
  · rw [if_pos (by simp [hc]), findK, findK, findK_filter x nm r]
    by_cases hx : x = nm
    · rw [if_pos hx, if_pos hx, if_neg (by rw [← hx]; exact hc)]
    · rw [if_neg hx, if_neg hx]
theorem kl_wo (l : List (ByteArray × Tr)) (x : ByteArray) : kl (woL l x) = (kl l).filter fun c => !decide (c.1 = x) := by
 unfold kl woL
 rw [List.filter_reverse, List.filter_map]
 rfl
theorem Agree.hide {K : KL} {l : List (ByteArray × Tr)} (h : Agree K l) (x : ByteArray) : Agree (hideK x K) (woL l x) := fun nm => by
 rw [kl_wo, findK_filter, ← h nm]
 rfl
theorem agree_kl (l : List (ByteArray × Tr)) : Agree (kl l) l := fun _ => rfl
def CLens (l : List (ByteArray × Tr)) : Prop := l.length ≤ 1000 ∧ ∀ c ∈ l, c.2.Lens
theorem CLens.wo {l : List (ByteArray × Tr)} (h : CLens l) (x : ByteArray) : CLens (woL l x) := ⟨Nat.le_trans (woL_len l x) h.1, fun c hc => h.2 c (List.mem_filter.1 hc).1⟩
theorem acc_snoc (acc : List Tr) (x : Tr) : acc.map Tr.d ++ [x.d] = (acc ++ [x]).map Tr.d := by simp
set_option maxHeartbeats 16000000 in
theorem c37n : ∀ (n : Nat) (t : Tr), t.size ≤ n → t.Lens → ∀ (l : List (ByteArray × Tr)) (K0 : KL), CLens l → Agree K0 l → Pf Tryz.prog 37 [t.d, .sl (l.map cD)] (.d (t.put K0).d) := by
 intro n
 induction n with
 | zero => intro t h; exact absurd t.size_pos (by omega)
 | succ n ih =>
  intro t hsz hlen l K0 hcl hag
  obtain ⟨op, name, num, ks⟩ := t
  obtain ⟨hlim, hks⟩ := hlen.mk'
  have hl1 := hcl.1
  have hI : ∀ k ∈ ks, ∀ (l : List (ByteArray × Tr)) (K : KL), CLens l → Agree K l → Pf Tryz.prog 37 [k.d, .sl (l.map cD)] (.d (k.put K).d) := fun k hk => ih k (by have := Tr.size_mem hk; rw [Tr.size] at hsz; omega) (hks k hk)
  have c109 : ∀ t : Tr, t.Lens → Pf Tryz.prog 109 [t.d] (.d t.d) := fun t h => c109n _ t (Nat.le_refl _) h
  rw [Tr.d_mk]
  refine pf_body (rvs := [.cell 4 27]) [(0, .d (.agg [.int .i64 op, .str name, .int .i64 num, .sl (ks.map Tr.d)])), (1, .d (.sl (l.map cD)))] Tryz.func37 Tryz.ntmps37 Tryz.results37 (fun S0 O0 w0 m0 hm0 => ?_)
  refine Z202 ?_
  refine gF 0 [] (.agg [.int .i64 op, .str name, .int .i64 num, .sl (ks.map Tr.d)]) rfl ?_
  refine Z29 ?_;refine Z16 ?_;refine Z268 ?_
  refine gC (fun hb0 => ?_) (fun hb0 => ?_)
  ·
   refine Z242 ?_;refine Z131 ?_
   refine vq rfl (q_sub (hw := (wrap_i64 (by rw [List.length_map]; omega) (by rw [List.length_map]; omega)))) ?_
   rw [List.length_map]
   refine Z243 ?_
   refine g_loop (α := Nat) (fun m => ⟨[(5, .d (.int .i64 ((m : Nat) - 1))), (2, .d (.ptr (.agg [.int .i64 op, .str name, .int .i64 num, .sl (ks.map Tr.d)]))), (1, .d (.sl (l.map cD))), (4, .ref 0 0)], [[.d (.int .i64 0), .d (.str ⟨#[]⟩), .d (.int .i64 0), .nils]]⟩) (fun m => m) (fun m => m ≤ l.length ∧ findK name K0 = findK name (kl (l.take m))) l.length ⟨Nat.le_refl _, by rw [List.take_length]; exact hag name⟩ (fun m hm Q' hn0 he0 hr0 => ?_) (le_of)
   obtain ⟨hm1, hm2⟩ := hm
   refine Z242 ?_;refine Z52 ?_;refine Z3 ?_
   refine gC (fun hb1 => ?_) (fun hb1 => ?_)
   ·
    have hm3 : ((m : Nat) : Int) - 1 ≥ 0 := by simpa using hb1
    obtain ⟨z, rfl⟩ : ∃ z, m = z + 1 := ⟨m - 1, by omega⟩
    rw [show (((z + 1 : Nat) : Int) - 1) = (z : Int) from by omega]
    obtain ⟨c, hc⟩ : ∃ c, l[z]? = some c := ⟨_, List.getElem?_eq_getElem (by omega)⟩
    have hmemc := List.mem_of_getElem? hc
    have hks2 := kl_step hc
    obtain ⟨cn, cop, cnm, cnu, cks⟩ := c
    have hxd := cD_get hc
    rw [show cD (cn, .mk cop cnm cnu cks) = .agg [.str cn, .int .i64 cop, .str cnm, .int .i64 cnu, .sl (cks.map Tr.d)] from by unfold cD; rw [Tr.d_mk]; rfl] at hxd
    refine gK (tN (gS (G_block (gS ?_))))
    refine G_draw 8 [0, 1, 2, 3, 4, 5, 6, 7] rfl rfl (by kernel_rfl) ?_
    refine sq rfl qM ?_
    refine sq rfl qM ?_
    refine sq rfl (qI u49 sz59) ?_
    refine sq rfl (qF u59 rfl sz9) ?_
    refine sq rfl (qL u9) ?_
    refine sq rfl (qF u27 rfl sz9) ?_
    refine sq rfl (qL u9) ?_
    refine sq rfl q_streq ?_
    refine GQ_nil (by kernel_rfl) (tN ?_)
    refine gC (fun hb2 => ?_) (fun hb2 => ?_)
    ·
     refine Z278 ?_;refine Z132 ?_
     refine vq rfl (q_fieldp_agg u59 rfl sz27) ?_
     refine vq rfl (qG (ds := [.int .i64 cop, .str cnm, .int .i64 cnu, .sl (cks.map Tr.d)]) (by exact sz27) u27 rfl) ?_
     refine gL (xs := [.tmp 33]) rfl ((Tr.d_mk cop cnm cnu cks ▸ c109 (.mk cop cnm cnu cks) (hcl.2 _ hmemc))) ?_
     refine Z17 ?_;refine Z13 ?_
     refine hr0 _ ?_
     refine bR (tR (tR ?_))
     refine Z83 ?_
     exact ⟨by rw [Tr.put, if_pos hb0, hm2, hks2, findK, if_pos (by simpa using hb2), Tr.d_mk], rfl⟩
    refine Z70 ?_;refine Z1 ?_;refine Z85 ?_;refine Z210 ?_
    refine hn0 _ z ⟨by omega, by rw [hm2, hks2, findK, if_neg (by simpa using hb2)]⟩ (by omega) le_of
   have hm0 : m = 0 := by
    have h : ¬ ((m : Nat) : Int) - 1 ≥ 0 := by simpa using hb1
    omega
   refine Z34 ?_
   refine he0 _ _ ?_
   refine Z38 ?_;refine Z11 ?_
   refine gL (xs := [.tmp 35]) rfl ((Tr.d_mk op name num ks ▸ c109 (.mk op name num ks) hlen)) ?_
   refine Z17 ?_;refine Z22 ?_;refine Z83 ?_
   exact ⟨by rw [Tr.put, if_pos hb0, hm2, hm0]; show _ = PV.d (Tr.d (.mk op name num ks)); rw [Tr.d_mk], rfl⟩
  refine Z58 ?_;refine Z268 ?_
  refine gC (fun hb3 => ?_) (fun hb3 => ?_)
  ·
   refine Z226 ?_
   refine gL (xs := [.tmp 40]) rfl ((Tr.d_mk op name num ks ▸ c109 (.mk op name num ks) hlen)) ?_
   refine Z17 ?_;refine Z22 ?_;refine Z83 ?_
   exact ⟨by rw [Tr.put, if_neg (by rw [hb0]; decide), if_pos hb3, Tr.d_mk], rfl⟩
  refine Z45 ?_;refine Z199 ?_;refine Z212 ?_;refine Z199 ?_
  refine vq rfl ((q_buildP pl27 zr27)) ?_
  refine Z218 ?_;refine Z7 ?_;refine Z1 ?_;refine Z201 ?_;refine Z243 ?_
  refine g_loop (α := Nat × List Tr × List (ByteArray × Tr) × KL) (fun z => ⟨[(8, .d (.int .i64 (z.1 : Nat))), (7, .d (.sl (z.2.2.1.map cD))), (6, .ref 1 0), (2, .d (.ptr (.agg [.int .i64 op, .str name, .int .i64 num, .sl (ks.map Tr.d)]))), (1, .d (.sl (l.map cD))), (4, .ref 0 0)], [[.d (.int .i64 0), .d (.str ⟨#[]⟩), .d (.int .i64 0), .nils], [.d (.int .i64 op), .d (.str name), .d (.int .i64 num), .osl 4 (z.2.1.map Tr.d)]]⟩) (fun z => ks.length - z.1) (fun z => z.1 ≤ ks.length ∧ z.2.1.length = z.1 ∧ Agree z.2.2.2 z.2.2.1 ∧ CLens z.2.2.1 ∧ z.2.1 ++ Tr.puts op num ks K0 z.1 z.2.2.2 (ks.drop z.1) = Tr.puts op num ks K0 0 K0 ks) (0, [], l, K0) ⟨Nat.zero_le _, rfl, hag, hcl, rfl⟩ (fun z hz Q' hn1 he1 hr1 => ?_) (le_of)
  obtain ⟨z, acc, il, inner⟩ := z
  obtain ⟨hz1, hz2, hz3, hz4, hz5⟩ := hz
  replace hz1 : z ≤ ks.length := hz1
  replace hz2 : acc.length = z := hz2
  replace hz3 : Agree inner il := hz3
  replace hz4 : CLens il := hz4
  replace hz5 : acc ++ Tr.puts op num ks K0 z inner (ks.drop z) = Tr.puts op num ks K0 0 K0 ks := hz5
  have hil := hz4.1
  refine Z242 ?_;refine Z281 ?_
  refine gC (fun hb4 => ?_) (fun hb4 => ?_)
  ·
   have hlt : z < ks.length := by simpa using hb4
   obtain ⟨k, hk⟩ : ∃ k, ks[z]? = some k := ⟨_, List.getElem?_eq_getElem (by omega)⟩
   have hmem := List.mem_of_getElem? hk
   obtain ⟨kop, knm, knu, kks⟩ := k
   have hxa := Tr.ds_get hk
   rw [Tr.d_mk] at hxa
   refine Z41 ?_
   have hsn : acc.map Tr.d ++ [.agg [.int .i64 kop, .str knm, .int .i64 knu, .sl (kks.map Tr.d)]] = (acc ++ [(Tr.mk kop knm knu kks)]).map Tr.d := by rw [← Tr.d_mk, acc_snoc]
   refine Z252 ?_;refine Z276 ?_
   refine gF 2 [[.d (.int .i64 0), .d (.str ⟨#[]⟩), .d (.int .i64 0), .nils], [.d (.int .i64 op), .d (.str name), .d (.int .i64 num), .osl 4 (acc.map Tr.d)]] (.agg [.int .i64 kop, .str knm, .int .i64 knu, .sl (kks.map Tr.d)]) rfl ?_
   refine Z3 ?_
   refine G_seq_cut (α := Tr × List (ByteArray × Tr) × KL) (fun y => ⟨[(9, .d (.ptr (.agg [.int .i64 kop, .str knm, .int .i64 knu, .sl (kks.map Tr.d)]))), (8, .d (.int .i64 (z : Nat))), (6, .ref 1 0), (2, .d (.ptr (.agg [.int .i64 op, .str name, .int .i64 num, .sl (ks.map Tr.d)]))), (1, .d (.sl (l.map cD))), (4, .ref 0 0), (7, .d (.sl (y.2.1.map cD)))], [[.d (.int .i64 0), .d (.str ⟨#[]⟩), .d (.int .i64 0), .nils], [.d (.int .i64 op), .d (.str name), .d (.int .i64 num), .osl 4 ((acc ++ [y.1]).map Tr.d)]]⟩) (fun y => (y.1, hideV (Tr.mk kop knm knu kks) y.2.2) = stepT op num ks K0 z inner (Tr.mk kop knm knu kks) ∧ Agree y.2.2 y.2.1 ∧ CLens y.2.1) (fun Q' hn he hr => ?_) (fun y hy => ?_)
   ·
    refine G_block (gS (gS (gR ?_)))
    refine Z229 ?_;refine Z205 ?_
    refine sg rfl (fun hg => sP 75 rfl hg q_eql) ?_
    refine Z8 ?_;refine Z206 ?_
    refine sg rfl (fun hg => sP 79 rfl hg (qL u3)) ?_
    refine sg rfl (fun hg => sP 80 rfl hg q_eql) ?_
    refine Z290 ?_
    refine gC (fun hb5 => ?_) (fun hb5 => ?_)
    ·
     have hkp : keepsB op num ks.length z (Tr.mk kop knm knu kks) = true := by
      unfold keepsB
      rw [show (((op == 51 && (z : Int) == 0) && ((Tr.mk kop knm knu kks)).op == 4)) = ((op == 51 && (z : Int) == 0) && kop == 4) from rfl]
      rw [show ((op == 51 && (z : Int) == 0) && kop == 4) = true from hb5]; rfl
     refine Z68 ?_
     refine gC (fun hb6 => ?_) (fun hb6 => ?_)
     ·
      refine g_ck [(1, 5), (5, 7)] [91, 92, 93, 94, 95, 96, 97] (fun bq => [[.d (.int .i64 0), .d (.str ⟨#[]⟩), .d (.int .i64 0), .nils], cond (bq 7) [.d (.int .i64 op), .d (.str name), .d (.int .i64 num), .osl 4 ((acc ++ [(Tr.mk kop knm knu kks)]).map Tr.d)] (cond (bq 1) [.d (.int .i64 op), .d (.str name), .d (.int .i64 num), .d (.sl (acc.map Tr.d))] [.d (.int .i64 op), .d (.str name), .d (.int .i64 num), .osl 4 (acc.map Tr.d)])]) rfl ?_
      refine ck_pre [] ?_
      refine ck_st 1 (fun bq rest hc1 hc2 hc3 => sv rfl (y_fieldAt 3 u27 rfl sz22) (gN ⟨rfl, rfl⟩)) ?_
      refine ck_pre [0] ?_
      refine ck_st 2 (fun bq rest hc1 hc2 hc3 => by
       have h9 := hc3.no 5 1 hc1
       have h11 := hc3.no 7 5 h9
       have e1 : upd bq 1 1 = true := rfl
       have e2 : upd bq 1 7 = false := h11
       simp only [hc1, h11, cond_false]
       refine Z133 ?_
       exact (gN ⟨rfl, by rw [e1, e2]; rfl⟩)) ?_
      refine ck_pre [] ?_
      refine ck_st 3 (fun bq rest hc1 hc2 hc3 => vq rfl (qG (by exact sz27) u27 rfl) (gN ⟨rfl, rfl⟩)) ?_
      refine ck_pre [2] ?_
      refine ck_st 4 (fun bq rest hc1 hc2 hc3 => gL (xs := [.tmp 93]) rfl ((Tr.d_mk kop knm knu kks ▸ c109 (Tr.mk kop knm knu kks) (hks _ hmem))) (gN ⟨rfl, rfl⟩)) ?_
      refine ck_pre [3] ?_
      refine ck_st 5 (fun bq rest hc1 hc2 hc3 => sv rfl (y_buildSlice (xs := [.tmp 94]) u22 inf27) (gN ⟨rfl, rfl⟩)) ?_
      refine ck_pre [1, 4, 3] ?_
      refine ck_tk 6 92 (fun bq rest hc1 hc2 hc3 => sv rfl (y_append u22 inf27 (hk := by first | exact Tr.ds_cells _ | (intro x hx; simp at hx; subst hx; simp [D.cells])) (hlen := by simp [lim]; omega) (hB := by simp [lim]; omega)) (gN ⟨rfl, rfl⟩)) ?_
      rw [hsn]
      refine ck_pre [0, 2, 3, 4] ?_
      refine ck_st 7 (fun bq rest hc1 hc2 hc3 => sv rfl (y_fieldAt 3 u27 rfl sz22) (gN ⟨rfl, rfl⟩)) ?_
      refine ck_pre [6, 5, 5, 0, 2, 3, 4, 5] ?_
      refine ck_atk 8 96 (fun bq rest hc1 hc2 hc3 => by
       have h9 := hc2 5 dep_in
       have h1 := hc3 5 h9 1 dep_in
       have e1 : upd bq 7 7 = true := rfl
       simp only [hc1, h1, cond_true, cond_false]
       refine Z134 ?_
       exact (gN ⟨rfl, by rw [e1]; rfl⟩)) ?_
      refine ck_done (mem'' := [[.d (.int .i64 0), .d (.str ⟨#[]⟩), .d (.int .i64 0), .nils], [.d (.int .i64 op), .d (.str name), .d (.int .i64 num), .osl 4 ((acc ++ [(Tr.mk kop knm knu kks)]).map Tr.d)]]) ?_
      refine bN ?_
      refine hn _ ((Tr.mk kop knm knu kks), il, inner) ⟨by rw [stepT, if_pos hkp], hz3, hz4⟩ le_of
     exact absurd (hb5.symm.trans hb6) (by decide)
    refine Z262 ?_
    refine gL (xs := [.tmp 83]) rfl ((Tr.d_mk op name num ks ▸ c111 (.mk op name num ks))) ?_
    refine Z205 ?_;refine Z28 ?_
    refine sg rfl (fun hg => sP 87 rfl hg (qL u3)) ?_
    refine sg rfl (fun hg => sP 88 rfl hg (sP 86 rfl hg q_lss)) ?_
    refine Z290 ?_
    refine gC (fun hb7 => ?_) (fun hb7 => ?_)
    ·
     have hkp : keepsB op num ks.length z (Tr.mk kop knm knu kks) = true := by
      unfold keepsB
      rw [show (((op == 51 && (z : Int) == 0) && ((Tr.mk kop knm knu kks)).op == 4)) = ((op == 51 && (z : Int) == 0) && kop == 4) from rfl]
      rw [show (loopsB op num ks.length && decide ((z : Int) < num)) = true from hb7, Bool.or_true]
     refine g_ck [(1, 5), (5, 7)] [91, 92, 93, 94, 95, 96, 97] (fun bq => [[.d (.int .i64 0), .d (.str ⟨#[]⟩), .d (.int .i64 0), .nils], cond (bq 7) [.d (.int .i64 op), .d (.str name), .d (.int .i64 num), .osl 4 ((acc ++ [(Tr.mk kop knm knu kks)]).map Tr.d)] (cond (bq 1) [.d (.int .i64 op), .d (.str name), .d (.int .i64 num), .d (.sl (acc.map Tr.d))] [.d (.int .i64 op), .d (.str name), .d (.int .i64 num), .osl 4 (acc.map Tr.d)])]) rfl ?_
     refine ck_pre [] ?_
     refine ck_st 1 (fun bq rest hc1 hc2 hc3 => sv rfl (y_fieldAt 3 u27 rfl sz22) (gN ⟨rfl, rfl⟩)) ?_
     refine ck_pre [0] ?_
     refine ck_st 2 (fun bq rest hc1 hc2 hc3 => by
      have h9 := hc3.no 5 1 hc1
      have h11 := hc3.no 7 5 h9
      have e1 : upd bq 1 1 = true := rfl
      have e2 : upd bq 1 7 = false := h11
      simp only [hc1, h11, cond_false]
      refine Z133 ?_
      exact (gN ⟨rfl, by rw [e1, e2]; rfl⟩)) ?_
     refine ck_pre [] ?_
     refine ck_st 3 (fun bq rest hc1 hc2 hc3 => vq rfl (qG (by exact sz27) u27 rfl) (gN ⟨rfl, rfl⟩)) ?_
     refine ck_pre [2] ?_
     refine ck_st 4 (fun bq rest hc1 hc2 hc3 => gL (xs := [.tmp 93]) rfl ((Tr.d_mk kop knm knu kks ▸ c109 (Tr.mk kop knm knu kks) (hks _ hmem))) (gN ⟨rfl, rfl⟩)) ?_
     refine ck_pre [3] ?_
     refine ck_st 5 (fun bq rest hc1 hc2 hc3 => sv rfl (y_buildSlice (xs := [.tmp 94]) u22 inf27) (gN ⟨rfl, rfl⟩)) ?_
     refine ck_pre [1, 4, 3] ?_
     refine ck_tk 6 92 (fun bq rest hc1 hc2 hc3 => sv rfl (y_append u22 inf27 (hk := by first | exact Tr.ds_cells _ | (intro x hx; simp at hx; subst hx; simp [D.cells])) (hlen := by simp [lim]; omega) (hB := by simp [lim]; omega)) (gN ⟨rfl, rfl⟩)) ?_
     rw [hsn]
     refine ck_pre [0, 2, 3, 4] ?_
     refine ck_st 7 (fun bq rest hc1 hc2 hc3 => sv rfl (y_fieldAt 3 u27 rfl sz22) (gN ⟨rfl, rfl⟩)) ?_
     refine ck_pre [6, 5, 5, 0, 2, 3, 4, 5] ?_
     refine ck_atk 8 96 (fun bq rest hc1 hc2 hc3 => by
      have h9 := hc2 5 dep_in
      have h1 := hc3 5 h9 1 dep_in
      have e1 : upd bq 7 7 = true := rfl
      simp only [hc1, h1, cond_true, cond_false]
      refine Z134 ?_
      exact (gN ⟨rfl, by rw [e1]; rfl⟩)) ?_
     refine ck_done (mem'' := [[.d (.int .i64 0), .d (.str ⟨#[]⟩), .d (.int .i64 0), .nils], [.d (.int .i64 op), .d (.str name), .d (.int .i64 num), .osl 4 ((acc ++ [(Tr.mk kop knm knu kks)]).map Tr.d)]]) ?_
     refine bN ?_
     refine hn _ ((Tr.mk kop knm knu kks), il, inner) ⟨by rw [stepT, if_pos hkp], hz3, hz4⟩ le_of
    have hkn : keepsB op num ks.length z (Tr.mk kop knm knu kks) = false := by
     unfold keepsB
     rw [show (((op == 51 && (z : Int) == 0) && ((Tr.mk kop knm knu kks)).op == 4)) = ((op == 51 && (z : Int) == 0) && kop == 4) from rfl, show ((op == 51 && (z : Int) == 0) && kop == 4) = false from hb5, show (loopsB op num ks.length && decide ((z : Int) < num)) = false from hb7]; rfl
    refine Z226 ?_
    refine gL (xs := [.tmp 99]) rfl ((Tr.d_mk op name num ks ▸ c111 (.mk op name num ks))) ?_
    refine Z205 ?_;refine Z28 ?_
    refine sg rfl (fun hg => sP 103 rfl hg (qL u3)) ?_
    refine sg rfl (fun hg => sP 104 rfl hg (q_add (hw := rfl))) ?_
    refine sg rfl (fun hg => sP 105 rfl hg (sP 102 rfl hg q_eql)) ?_
    refine Z290 ?_
    refine gC (fun hb8 => ?_) (fun hb8 => ?_)
    ·
     have hbd : (loopsB op num ks.length && (z : Int) == W (num + 1)) = true := hb8
     have hlp := loops_num (Bool.and_eq_true_iff.1 hbd).1
     refine Z35 ?_;refine Z243 ?_
     refine g_loop (α := Nat × List (ByteArray × Tr)) (fun j => ⟨[(10, .d (.int .i64 (j.1 : Nat))), (7, .d (.sl (j.2.map cD))), (9, .d (.ptr (.agg [.int .i64 kop, .str knm, .int .i64 knu, .sl (kks.map Tr.d)]))), (8, .d (.int .i64 (z : Nat))), (6, .ref 1 0), (2, .d (.ptr (.agg [.int .i64 op, .str name, .int .i64 num, .sl (ks.map Tr.d)]))), (1, .d (.sl (l.map cD))), (4, .ref 0 0)], [[.d (.int .i64 0), .d (.str ⟨#[]⟩), .d (.int .i64 0), .nils], [.d (.int .i64 op), .d (.str name), .d (.int .i64 num), .osl 4 (acc.map Tr.d)]]⟩) (fun j => num.toNat - j.1) (fun j => j.1 ≤ num.toNat ∧ Agree (bindK (ks.take j.1) inner) j.2 ∧ CLens j.2) (0, il) ⟨Nat.zero_le _, hz3, hz4⟩ (fun j hj Q' hn2 he2 hr2 => ?_) (le_of)
     obtain ⟨n, jl⟩ := j
     obtain ⟨hj1, hj2, hj3⟩ := hj
     replace hj1 : n ≤ num.toNat := hj1
     replace hj2 : Agree (bindK (ks.take n) inner) jl := hj2
     replace hj3 : CLens jl := hj3
     have hjl := hj3.1
     refine Z242 ?_;refine Z199 ?_;refine Z227 ?_
     refine gC (fun hb9 => ?_) (fun hb9 => ?_)
     ·
      have hlt2 : (n : Int) < num := by simpa using hb9
      obtain ⟨a, hka⟩ : ∃ a, ks[n]? = some a := ⟨_, List.getElem?_eq_getElem (by omega)⟩
      obtain ⟨aop, anm, anu, aks⟩ := a
      have hxb := Tr.ds_get hka
      rw [Tr.d_mk] at hxb
      refine gK (tN (gS (G_block (gR ?_))))
      refine Z1 ?_;refine Z252 ?_;refine Z32 ?_;refine Z212 ?_
      refine gL (xs := [.tmp 114, .tmp 120]) rfl (c112 jl anm (by omega)) ?_
      refine Z0 ?_;refine Z87 ?_;refine Z240 ?_
      refine hn2 _ (n + 1, woL jl anm) ⟨by show n + 1 ≤ num.toNat; omega, by show Agree (bindK (ks.take (n + 1)) inner) (woL jl anm); rw [bindK_step hka]; exact hj2.hide anm, hj3.wo anm⟩ (by show num.toNat - (n + 1) < num.toNat - n; omega) le_of
     have hnn : n = num.toNat := by
      have : ¬ (n : Int) < num := by simpa using hb9
      omega
     have hXa := ((Tr.mk kop knm knu kks).put (bindK (ks.take num.toNat) inner)).d_eta
     refine Z34 ?_
     refine he2 _ _ ?_
     refine blk_exit (tN (gS ?_))
     refine g_ck [(1, 6), (6, 8)] [122, 123, 124, 125, 126, 127, 128, 129] (fun bq => [[.d (.int .i64 0), .d (.str ⟨#[]⟩), .d (.int .i64 0), .nils], cond (bq 8) [.d (.int .i64 op), .d (.str name), .d (.int .i64 num), .osl 4 ((acc ++ [(Tr.mk kop knm knu kks).put (bindK (ks.take num.toNat) inner)]).map Tr.d)] (cond (bq 1) [.d (.int .i64 op), .d (.str name), .d (.int .i64 num), .d (.sl (acc.map Tr.d))] [.d (.int .i64 op), .d (.str name), .d (.int .i64 num), .osl 4 (acc.map Tr.d)])]) rfl ?_
     refine ck_pre [] ?_
     refine ck_st 1 (fun bq rest hc1 hc2 hc3 => sv rfl (y_fieldAt 3 u27 rfl sz22) (gN ⟨rfl, rfl⟩)) ?_
     refine ck_pre [0] ?_
     refine ck_st 2 (fun bq rest hc1 hc2 hc3 => by
      have h9 := hc3.no 6 1 hc1
      have h11 := hc3.no 8 6 h9
      have e1 : upd bq 1 1 = true := rfl
      have e2 : upd bq 1 8 = false := h11
      simp only [hc1, h11, cond_false]
      refine Z133 ?_
      exact (gN ⟨rfl, by rw [e1, e2]; rfl⟩)) ?_
     refine ck_pre [] ?_
     refine ck_st 3 (fun bq rest hc1 hc2 hc3 => vq rfl (qG (by exact sz27) u27 rfl) (gN ⟨rfl, rfl⟩)) ?_
     refine ck_pre [] ?_
     refine ck_st 4 (fun bq rest hc1 hc2 hc3 => vq rfl qM (gN ⟨rfl, rfl⟩)) ?_
     refine ck_pre [2, 3] ?_
     refine ck_st 5 (fun bq rest hc1 hc2 hc3 => gL (xs := [.tmp 124, .tmp 125]) rfl ((hXa ▸ Tr.d_mk kop knm knu kks ▸ hI _ hmem jl (bindK (ks.take num.toNat) inner) hj3 (hnn ▸ hj2))) (gN ⟨rfl, rfl⟩)) ?_
     refine ck_pre [4] ?_
     refine ck_st 6 (fun bq rest hc1 hc2 hc3 => sv rfl (y_buildSlice (xs := [.tmp 126]) u22 inf27) (gN ⟨rfl, rfl⟩)) ?_
     refine ck_pre [1, 5, 4] ?_
     refine ck_tk 7 123 (fun bq rest hc1 hc2 hc3 => sv rfl (y_append u22 inf27 (hk := by first | exact Tr.ds_cells _ | (intro x hx; simp at hx; subst hx; simp [D.cells])) (hlen := by simp [lim]; omega) (hB := by simp [lim]; omega)) (gN ⟨rfl, rfl⟩)) ?_
     rw [← hXa, acc_snoc]
     refine ck_pre [0, 2, 3, 4, 5] ?_
     refine ck_st 8 (fun bq rest hc1 hc2 hc3 => sv rfl (y_fieldAt 3 u27 rfl sz22) (gN ⟨rfl, rfl⟩)) ?_
     refine ck_pre [7, 6, 6, 0, 2, 3, 4, 5, 6] ?_
     refine ck_atk 9 128 (fun bq rest hc1 hc2 hc3 => by
      have h9 := hc2 6 dep_in
      have h1 := hc3 6 h9 1 dep_in
      have e1 : upd bq 8 8 = true := rfl
      simp only [hc1, h1, cond_true, cond_false]
      refine Z134 ?_
      exact (gN ⟨rfl, by rw [e1]; rfl⟩)) ?_
     refine ck_done (mem'' := [[.d (.int .i64 0), .d (.str ⟨#[]⟩), .d (.int .i64 0), .nils], [.d (.int .i64 op), .d (.str name), .d (.int .i64 num), .osl 4 ((acc ++ [(Tr.mk kop knm knu kks).put (bindK (ks.take num.toNat) inner)]).map Tr.d)]]) ?_
     refine tN (gR ?_)
     refine Z1 ?_;refine Z0 ?_;refine Z164 ?_
     refine hn _ ((Tr.mk kop knm knu kks).put (bindK (ks.take num.toNat) inner), l, K0) ⟨by rw [stepT, if_neg (by rw [hkn]; decide), if_pos hbd], hag, hcl⟩ le_of
    have hbd : (loopsB op num ks.length && (z : Int) == W (num + 1)) = false := hb8
    have hXa := ((Tr.mk kop knm knu kks).put inner).d_eta
    refine g_ck [(1, 6), (6, 8)] [62, 63, 64, 65, 66, 67, 68, 69] (fun bq => [[.d (.int .i64 0), .d (.str ⟨#[]⟩), .d (.int .i64 0), .nils], cond (bq 8) [.d (.int .i64 op), .d (.str name), .d (.int .i64 num), .osl 4 ((acc ++ [(Tr.mk kop knm knu kks).put inner]).map Tr.d)] (cond (bq 1) [.d (.int .i64 op), .d (.str name), .d (.int .i64 num), .d (.sl (acc.map Tr.d))] [.d (.int .i64 op), .d (.str name), .d (.int .i64 num), .osl 4 (acc.map Tr.d)])]) rfl ?_
    refine ck_pre [] ?_
    refine ck_st 1 (fun bq rest hc1 hc2 hc3 => sv rfl (y_fieldAt 3 u27 rfl sz22) (gN ⟨rfl, rfl⟩)) ?_
    refine ck_pre [0] ?_
    refine ck_st 2 (fun bq rest hc1 hc2 hc3 => by
     have h9 := hc3.no 6 1 hc1
     have h11 := hc3.no 8 6 h9
     have e1 : upd bq 1 1 = true := rfl
     have e2 : upd bq 1 8 = false := h11
     simp only [hc1, h11, cond_false]
     refine Z133 ?_
     exact (gN ⟨rfl, by rw [e1, e2]; rfl⟩)) ?_
    refine ck_pre [] ?_
    refine ck_st 3 (fun bq rest hc1 hc2 hc3 => vq rfl (qG (by exact sz27) u27 rfl) (gN ⟨rfl, rfl⟩)) ?_
    refine ck_pre [] ?_
    refine ck_st 4 (fun bq rest hc1 hc2 hc3 => vq rfl qM (gN ⟨rfl, rfl⟩)) ?_
    refine ck_pre [2, 3] ?_
    refine ck_st 5 (fun bq rest hc1 hc2 hc3 => gL (xs := [.tmp 64, .tmp 65]) rfl ((hXa ▸ Tr.d_mk kop knm knu kks ▸ hI _ hmem il inner hz4 hz3)) (gN ⟨rfl, rfl⟩)) ?_
    refine ck_pre [4] ?_
    refine ck_st 6 (fun bq rest hc1 hc2 hc3 => sv rfl (y_buildSlice (xs := [.tmp 66]) u22 inf27) (gN ⟨rfl, rfl⟩)) ?_
    refine ck_pre [1, 5, 4] ?_
    refine ck_tk 7 63 (fun bq rest hc1 hc2 hc3 => sv rfl (y_append u22 inf27 (hk := by first | exact Tr.ds_cells _ | (intro x hx; simp at hx; subst hx; simp [D.cells])) (hlen := by simp [lim]; omega) (hB := by simp [lim]; omega)) (gN ⟨rfl, rfl⟩)) ?_
    rw [← hXa, acc_snoc]
    refine ck_pre [0, 2, 3, 4, 5] ?_
    refine ck_st 8 (fun bq rest hc1 hc2 hc3 => sv rfl (y_fieldAt 3 u27 rfl sz22) (gN ⟨rfl, rfl⟩)) ?_
    refine ck_pre [7, 6, 6, 0, 2, 3, 4, 5, 6] ?_
    refine ck_atk 9 68 (fun bq rest hc1 hc2 hc3 => by
     have h9 := hc2 6 dep_in
     have h1 := hc3 6 h9 1 dep_in
     have e1 : upd bq 8 8 = true := rfl
     simp only [hc1, h1, cond_true, cond_false]
     refine Z134 ?_
     exact (gN ⟨rfl, by rw [e1]; rfl⟩)) ?_
    refine ck_done (mem'' := [[.d (.int .i64 0), .d (.str ⟨#[]⟩), .d (.int .i64 0), .nils], [.d (.int .i64 op), .d (.str name), .d (.int .i64 num), .osl 4 ((acc ++ [(Tr.mk kop knm knu kks).put inner]).map Tr.d)]]) ?_
    refine bN ?_
    refine hn _ ((Tr.mk kop knm knu kks).put inner, il, inner) ⟨by rw [stepT, if_neg (by rw [hkn]; decide), if_neg (by rw [hbd]; decide)], hz3, hz4⟩ le_of
   obtain ⟨y, yl, yk⟩ := y
   obtain ⟨hy1, hy2, hy3⟩ := hy
   replace hy1 : (y, hideV (Tr.mk kop knm knu kks) yk) = stepT op num ks K0 z inner (Tr.mk kop knm knu kks) := hy1
   replace hy2 : Agree yk yl := hy2
   replace hy3 : CLens yl := hy3
   have hyl := hy3.1
   refine Z2 ?_;refine Z268 ?_
   refine gC (fun hb10 => ?_) (fun hb10 => ?_)
   ·
    have e1 : (stepT op num ks K0 z inner (Tr.mk kop knm knu kks)).1 = y := by rw [← hy1]
    have e2 : (stepT op num ks K0 z inner (Tr.mk kop knm knu kks)).2 = hideK knm yk := by rw [← hy1]; exact hideV_t hb10
    refine Z208 ?_;refine Z212 ?_
    refine gL (xs := [.tmp 134, .tmp 136]) rfl (c112 yl knm (by omega)) ?_
    refine Z0 ?_;refine Z87 ?_;refine Z240 ?_
    refine hn1 _ (z + 1, acc ++ [y], woL yl knm, hideK knm yk) ⟨by show z + 1 ≤ ks.length; omega, by show (acc ++ [_]).length = z + 1; rw [List.length_append, List.length_singleton]; omega, hy2.hide knm, hy3.wo knm, by show (acc ++ [y]) ++ Tr.puts op num ks K0 (z + 1) (hideK knm yk) (ks.drop (z + 1)) = _; rw [← hz5, puts_drop hk, e1, e2, List.append_assoc]; rfl⟩ (by show ks.length - (z + 1) < ks.length - z; omega) le_of
   have e1 : (stepT op num ks K0 z inner (Tr.mk kop knm knu kks)).1 = y := by rw [← hy1]
   have e2 : (stepT op num ks K0 z inner (Tr.mk kop knm knu kks)).2 = yk := by rw [← hy1]; exact hideV_f hb10
   refine Z70 ?_;refine Z240 ?_
   refine hn1 _ (z + 1, acc ++ [y], yl, yk) ⟨by show z + 1 ≤ ks.length; omega, by show (acc ++ [_]).length = z + 1; rw [List.length_append, List.length_singleton]; omega, hy2, hy3, by show (acc ++ [y]) ++ Tr.puts op num ks K0 (z + 1) yk (ks.drop (z + 1)) = _; rw [← hz5, puts_drop hk, e1, e2, List.append_assoc]; rfl⟩ (by show ks.length - (z + 1) < ks.length - z; omega) le_of
  have hge : z = ks.length := by
   have : ¬ (z : Int) < ((ks.map Tr.d).length : Nat) := by simpa using hb4
   rw [List.length_map] at this
   omega
  refine Z34 ?_
  refine he1 _ _ ?_
  refine Z38 ?_
  subst hge
  rw [List.drop_length, Tr.puts, List.append_nil] at hz5
  rw [hz5]
  refine Z273 ?_;refine Z6 ?_;refine Z83 ?_
  exact ⟨by rw [Tr.put, if_neg (by rw [hb0]; decide), if_neg (by rw [hb3]; decide), Tr.d_mk], rfl⟩
end Go.Proofs.YtklkbfpjimeaoaaGreat
