import Derived.Test.YtklkbfpjimeaoaaGreatM17
/- Contracts of functions. Conditions: none. -/
set_option linter.unusedSimpArgs false
set_option linter.unusedVariables false
set_option maxRecDepth 20000
namespace Go.Proofs.YtklkbfpjimeaoaaGreat
open Go Go.Proofs.YtklkbfpjimeaoaaGreat.E
section
abbrev SP := (Int × Int × Int) × Bool
def noSP : SP := ((0, 0, 0), false)
def v0 (vs : List (Option Tr)) (i : Nat) : Option Tr := vs.getD i none
def s0 (ss : List SP) : SP := ss.getD 0 noSP
def okSP (x : (Int × Int × Int) × Int) : SP := (x.1, x.2 == 0)
def sizeB : ByteArray := ⟨#[115, 105, 122, 101]⟩
def spanN (op : Int) (vs : List (Option Tr)) (ss : List SP) : SP :=
 if (op == 7) = true then (if (!isV (v0 vs 0) 1 || !isV (v0 vs 1) 1) = true then noSP else okSP (ofS (nuV (v0 vs 0)) (nuV (v0 vs 1))))
 else if (op == 8 || op == 9) = true then
  (if (!(s0 ss).2 || !isV (v0 vs 1) 1) = true then noSP
   else if (op == 9) = true then okSP (countS (s0 ss).1.1 (s0 ss).1.2.1 (s0 ss).1.2.2 (nuV (v0 vs 1))) else okSP (byS (s0 ss).1.1 (s0 ss).1.2.1 (s0 ss).1.2.2 (nuV (v0 vs 1))))
 else noSP
def valN (l : KL) (op : Int) (nm : ByteArray) (num : Int) (ks : List Tr) (vs : List (Option Tr)) (ss : List SP) : Option Tr :=
 if (op == 1 || op == 2) = true then some (.mk op nm num ks)
 else if (op == 4) = true then findK nm l
 else if (op == 5) = true then unaryV nm (v0 vs 0)
 else if (op == 6) = true then binV nm (v0 vs 0) (v0 vs 1)
 else if (op == 19) = true then (if (!isV (v0 vs 0) 2) = true then none else v0 vs (2 - nuV (v0 vs 0)).toNat)
 else if (op == 14) = true then (if ((s0 ss).2 && decide (nm = sizeB)) = true then some (intT (sizeS (s0 ss).1.1 (s0 ss).1.2.1 (s0 ss).1.2.2)) else none)
 else none
set_option maxHeartbeats 8000000 in
theorem c185x (l : KL) (op : Int) (nm : ByteArray) (num : Int) (ks : List Tr) (vs : List (Option Tr)) (ss : List SP)
 (h7 : (op == 7) = true → ∃ k0 k1 a b, ks = [k0, k1] ∧ vs = [a, b] ∧ Pf Tryz.prog 104 [k0.d, knD l] (.d (valD a)) ∧ Pf Tryz.prog 104 [k1.d, knD l] (.d (valD b)))
 (h8 : (op == 8 || op == 9) = true → ∃ k0 k1 a b r ss', ks = [k0, k1] ∧ vs = [a, b] ∧ ss = r :: ss' ∧ Pf Tryz.prog 185 [k0.d, knD l] (.tup [.d (.agg [.int .i64 r.1.1, .int .i64 r.1.2.1, .int .i64 r.1.2.2]), .d (.bool r.2)]) ∧ wf64 r.1.2.2 ∧ Pf Tryz.prog 104 [k1.d, knD l] (.d (valD b))) : Pf Tryz.prog 185 [.agg [.int .i64 op, .str nm, .int .i64 num, .sl (ks.map Tr.d)], knD l] (.tup [.d (.agg [.int .i64 (spanN op vs ss).1.1, .int .i64 (spanN op vs ss).1.2.1, .int .i64 (spanN op vs ss).1.2.2]), .d (.bool (spanN op vs ss).2)]) := by
 refine pf_body (rvs := [.cell 4 199, .tmp 5]) [(0, .d (.agg [.int .i64 op, .str nm, .int .i64 num, .sl (ks.map Tr.d)])), (1, .d (knD l))] Tryz.func185 Tryz.ntmps185 Tryz.results185 (fun S0 O0 w0 m0 hm0 => ?_)
 refine Z232 ?_
 refine gF 0 [] (.agg [.int .i64 op, .str nm, .int .i64 num, .sl (ks.map Tr.d)]) rfl ?_
 refine Z133 ?_;refine Z233 ?_;refine Z238 ?_;refine Z151 ?_;refine Z260 ?_
 refine gC ?_ ?_ <;> intro hb0
 ·
  obtain ⟨k0, k1, a, b, hks, hvs, q0, q1⟩ := h7 hb0
  have hca := valD_cells a
  have hcb := valD_cells b
  obtain ⟨op0, nm0, nu0, ks0, ha0⟩ := k0.d_agg
  have hx0 : (ks.map Tr.d)[0]? = some (.agg [.int .i64 op0, .str nm0, .int .i64 nu0, .sl (ks0.map Tr.d)]) := by rw [hks, ← ha0]; rfl
  obtain ⟨op1, nm1, nu1, ks1, ha1⟩ := k1.d_agg
  have hx1 : (ks.map Tr.d)[1]? = some (.agg [.int .i64 op1, .str nm1, .int .i64 nu1, .sl (ks1.map Tr.d)]) := by rw [hks, ← ha1]; rfl
  refine Z53 ?_
  refine g_cg0 [19, 20, 21, 22, 23, 24, 25, 26, 27, 28, 29, 30, 6, 7] ?_
  refine Z15 ?_;refine Z177 ?_;refine Z168 ?_
  refine cS 2 (fun _ _ _ _ _ => vq rfl (qL u22) (gN ⟨rfl, rfl⟩)) ?_
  refine Z110 ?_
  refine cS 3 (fun _ _ _ _ _ => vq rfl (qI u22 sz27) (gN ⟨rfl, rfl⟩)) ?_
  refine Z97 ?_
  refine cS 4 (fun _ _ _ _ _ => vq rfl (qG (by exact sz27) u27 rfl) (gN ⟨rfl, rfl⟩)) ?_
  refine Z15 ?_;refine Z46 ?_
  refine cP [3, 4] ?_
  refine cS 6 (fun _ _ _ _ _ => gL (xs := [.tmp 22, .tmp 23]) rfl ((ha0 ▸ q0)) (gN ⟨rfl, rfl⟩)) ?_
  refine Z15 ?_
  refine cS 7 (fun _ _ _ _ _ => vq rfl (qF u27 rfl sz22) (gN ⟨rfl, rfl⟩)) ?_
  refine Z119 ?_
  refine cS 8 (fun _ _ _ _ _ => vq rfl (qL u22) (gN ⟨rfl, rfl⟩)) ?_
  refine Z169 ?_
  refine cS 9 (fun _ _ _ _ _ => vq rfl (qI u22 sz27) (gN ⟨rfl, rfl⟩)) ?_
  refine cP [8] ?_
  refine cS 10 (fun _ _ _ _ _ => vq rfl (qG (by exact sz27) u27 rfl) (gN ⟨rfl, rfl⟩)) ?_
  refine Z15 ?_
  refine cS 11 (fun _ _ _ _ _ => vq rfl qM (gN ⟨rfl, rfl⟩)) ?_
  refine cP [9, 10, 5] ?_
  refine cS 12 (fun _ _ _ _ _ => gL (xs := [.tmp 28, .tmp 29]) rfl ((ha1 ▸ q1)) (gN ⟨rfl, rfl⟩)) ?_
  refine cP [5, 11, 0, 1, 2, 3, 4, 5] ?_
  refine cS 13 (fun _ _ _ _ _ => vq rfl qA (gN ⟨rfl, rfl⟩)) ?_
  refine cP [11, 12, 0, 1, 2, 3, 4, 5, 6, 7, 8, 9, 10, 11, 12] ?_
  refine cS 14 (fun _ _ _ _ _ => vq rfl qA (gN ⟨rfl, rfl⟩)) ?_
  refine Z84 ?_
  refine tN (gS (gS ?_))
  refine Z75 ?_;refine Z253 ?_
  refine gL (xs := [.tmp 31, .const (.int .i64 (1))]) rfl (c184 a 1) ?_
  refine Z41 ?_;refine Z249 ?_
  refine g_callg (xs := [.tmp 35, .const (.int .i64 (1))]) rfl (fun hg => c184 b 1) ?_
  refine sg rfl (fun hg => sP 36 rfl hg q_not) ?_
  refine Z251 ?_
  refine gC ?_ ?_ <;> intro hb1
  ·
   refine Z3 ?_;refine Z73 ?_;refine Z55 ?_;refine Z1 ?_;refine Z132 ?_;refine Z56 ?_
   exact ⟨by rw [spanN, if_pos hb0, hvs]; show _ = PV.tup [_, _]; rw [if_pos (show (!isV (v0 [a, b] 0) 1 || !isV (v0 [a, b] 1) 1) = true from hb1)]; try rfl, rfl⟩
  have hab := hb1
  simp only [Bool.or_eq_false_iff, Bool.not_eq_false'] at hab
  obtain ⟨hka, hkb⟩ := hab
  obtain ⟨ta, rfl, haop⟩ := isV_some hka
  obtain ⟨aop, anm, anu, aks, haa⟩ := ta.d_agg
  have hna : nuV (some ta) = anu := by obtain ⟨o, n, u, l⟩ := ta; rw [Tr.d_mk] at haa; injection haa with ha; injection ha with ha1 ha; injection ha with ha2 ha; injection ha with ha3 ha; injection ha3
  rw [show valD (some ta) = .ptr ta.d from rfl, haa]
  obtain ⟨tb, rfl, hbop⟩ := isV_some hkb
  obtain ⟨bop, bnm, bnu, bks, hab⟩ := tb.d_agg
  have hnb : nuV (some tb) = bnu := by obtain ⟨o, n, u, l⟩ := tb; rw [Tr.d_mk] at hab; injection hab with ha; injection ha with ha1 ha; injection ha with ha2 ha; injection ha with ha3 ha; injection ha3
  rw [show valD (some tb) = .ptr tb.d from rfl, hab]
  refine Z58 ?_
  refine g_cg [41, 42, 43, 44, 45, 46, 47, 48, 49, 40, 50, 51, 8, 9] (fun bq => cond (bq 12) ([[.d (.int .i64 0), .d (.int .i64 0), .d (.int .i64 0)]] ++ [cond (bq 13) [.d (.int .i64 (ofS anu bnu).1.1), .d (.int .i64 (ofS anu bnu).1.2.1), .d (.int .i64 (ofS anu bnu).1.2.2)] [.d (.int .i64 0), .d (.int .i64 0), .d (.int .i64 0)]]) [[.d (.int .i64 0), .d (.int .i64 0), .d (.int .i64 0)]]) rfl ?_
  refine Z15 ?_;refine Z61 ?_;refine Z168 ?_
  refine cS 2 (fun _ _ _ _ _ => vq rfl q_nilCheck (gN ⟨rfl, rfl⟩)) ?_
  refine Z110 ?_
  refine cS 3 (fun _ _ _ _ _ => vq rfl (qF u27 rfl sz3) (gN ⟨rfl, rfl⟩)) ?_
  refine Z97 ?_;refine Z144 ?_;refine Z15 ?_;refine Z46 ?_;refine Z77 ?_
  refine cS 6 (fun _ _ _ _ _ => vq rfl q_nilCheck (gN ⟨rfl, rfl⟩)) ?_
  refine Z157 ?_
  refine cS 7 (fun _ _ _ _ _ => vq rfl (qF u27 rfl sz3) (gN ⟨rfl, rfl⟩)) ?_
  refine Z119 ?_
  refine cS 8 (fun _ _ _ _ _ => vq rfl (qL u3) (gN ⟨rfl, rfl⟩)) ?_
  refine cP [3, 7] ?_
  refine cS 9 (fun _ _ _ _ _ => gL (xs := [.tmp 44, .tmp 48, .const (.int .i64 (1))]) rfl (c246 anu bnu) (gN ⟨rfl, rfl⟩)) ?_
  refine cP [8] ?_
  refine cS 10 (fun _ _ _ _ _ => vq rfl qM (gN ⟨rfl, rfl⟩)) ?_
  refine cP [9] ?_
  refine cS 11 (fun _ _ _ _ _ => vq rfl qE (gN ⟨rfl, rfl⟩)) ?_
  refine cP [9] ?_
  refine cS 12 (fun _ _ _ _ _ => vq rfl qE (gN ⟨rfl, rfl⟩)) ?_
  refine Z15 ?_
  refine cS 13 (fun bq rest hc1 hc2 hc3 => by
   have hs := hc3.no 13 12 hc1
   have e1 : upd bq 12 12 = true := rfl
   have e2 : upd bq 12 13 = false := hs
   simp only [hc1, cond_false]
   refine Z133 ?_
   exact (gN ⟨rfl, by rw [e1, e2]; rfl⟩)) ?_
  refine cP [12, 10, 8, 0, 1, 2, 3, 4, 5, 6, 7, 8, 9, 10, 12] ?_
  refine cg_act 14 (fun bq rest hc1 hc2 hc3 => by
   have ha := hc2 12 dep_in
   have e1 : upd bq 13 12 = true := ha
   have e2 : upd bq 13 13 = true := rfl
   simp only [ha, hc1, cond_true, cond_false]
   refine Z55 ?_
   exact (gN ⟨rfl, by rw [e1, e2]; rfl⟩)) ?_
  refine cP [11, 13, 0, 1, 2, 3, 4, 5, 6, 7, 8, 9, 10, 11, 12, 13] ?_
  refine cS 15 (fun _ _ _ _ _ => vq rfl qA (gN ⟨rfl, rfl⟩)) ?_
  refine cg_done (mem'' := [[.d (.int .i64 0), .d (.int .i64 0), .d (.int .i64 0)], [.d (.int .i64 (ofS anu bnu).1.1), .d (.int .i64 (ofS anu bnu).1.2.1), .d (.int .i64 (ofS anu bnu).1.2.2)]]) ?_
  refine Z173 ?_;refine Z75 ?_;refine Z14 ?_;refine Z127 ?_;refine Z0 ?_;refine Z20 ?_;refine Z55 ?_;refine Z242 ?_;refine Z56 ?_
  exact ⟨by rw [spanN, if_pos hb0, hvs, if_neg (by rw [show (!isV (v0 [some ta, some tb] 0) 1 || !isV (v0 [some ta, some tb] 1) 1) = false from hb1]; decide), show nuV (v0 [some ta, some tb] 0) = anu from hna, show nuV (v0 [some ta, some tb] 1) = bnu from hnb]; try rfl, rfl⟩
 refine G_seq_cut (α := Bool) (fun w => ⟨[(1, .d (knD l)), (2, .d (.ptr (.agg [.int .i64 op, .str nm, .int .i64 num, .sl (ks.map Tr.d)]))), (4, .ref 0 0), (5, .d (.bool false)), (55, .d (.bool w))], [[.d (.int .i64 0), .d (.int .i64 0), .d (.int .i64 0)]]⟩) (fun w => w = (op == 8 || op == 9)) (fun Q' hn he hr => ?_) (fun w hw => ?_)
 ·
  refine Z278 ?_
  refine gC ?_ ?_ <;> intro hb2
  ·
   refine Z167 ?_
   refine hn _ (op == 8) (by rw [hb2]; rfl) le_of
  refine Z14 ?_;refine Z20 ?_;refine Z1 ?_;refine Z52 ?_
  refine hn _ (op == 9) (by rw [hb2]; rfl) le_of
 skip
 refine gC ?_ ?_ <;> intro hb3
 ·
  obtain ⟨k0, k1, a, b, r, ss', hks, hvs, hss, q0, hwf, q1⟩ := h8 (hw ▸ hb3)
  have hcb := valD_cells b
  obtain ⟨op0, nm0, nu0, ks0, ha0⟩ := k0.d_agg
  have hx0 : (ks.map Tr.d)[0]? = some (.agg [.int .i64 op0, .str nm0, .int .i64 nu0, .sl (ks0.map Tr.d)]) := by rw [hks, ← ha0]; rfl
  obtain ⟨op1, nm1, nu1, ks1, ha1⟩ := k1.d_agg
  have hx1 : (ks.map Tr.d)[1]? = some (.agg [.int .i64 op1, .str nm1, .int .i64 nu1, .sl (ks1.map Tr.d)]) := by rw [hks, ← ha1]; rfl
  refine Z3 ?_;refine Z250 ?_;refine Z258 ?_;refine Z0 ?_
  refine gL (xs := [.tmp 62, .tmp 63]) rfl ((ha0 ▸ q0)) ?_
  refine Z271 ?_;refine Z133 ?_;refine Z55 ?_;refine Z1 ?_;refine Z30 ?_;refine Z75 ?_;refine Z14 ?_;refine Z250 ?_;refine Z258 ?_;refine Z0 ?_
  refine gL (xs := [.tmp 70, .tmp 71]) rfl ((ha1 ▸ q1)) ?_
  refine Z256 ?_;refine Z41 ?_;refine Z249 ?_
  refine g_callg (xs := [.tmp 76, .const (.int .i64 (1))]) rfl (fun hg => c184 b 1) ?_
  refine sg rfl (fun hg => sP 77 rfl hg q_not) ?_
  refine Z251 ?_
  refine gC ?_ ?_ <;> intro hb4
  ·
   refine Z53 ?_;refine Z75 ?_;refine Z14 ?_;refine Z73 ?_;refine Z55 ?_;refine Z1 ?_;refine Z132 ?_;refine Z56 ?_
   exact ⟨by rw [spanN, if_neg (by rw [hb0]; decide), if_pos (hw ▸ hb3), hvs, hss, if_pos (show (!(s0 (r :: ss')).2 || !isV (v0 [a, b] 1) 1) = true from hb4)]; try rfl, rfl⟩
  have hab := hb4
  simp only [Bool.or_eq_false_iff, Bool.not_eq_false'] at hab
  obtain ⟨hka, hkb⟩ := hab
  obtain ⟨tb, rfl, hbop⟩ := isV_some hkb
  obtain ⟨bop, bnm, bnu, bks, hab⟩ := tb.d_agg
  have hnb : nuV (some tb) = bnu := by obtain ⟨o, n, u, l⟩ := tb; rw [Tr.d_mk] at hab; injection hab with ha; injection ha with ha1 ha; injection ha with ha2 ha; injection ha with ha3 ha; injection ha3
  rw [show valD (some tb) = .ptr tb.d from rfl, hab]
  refine Z58 ?_;refine Z75 ?_;refine Z14 ?_;refine Z233 ?_;refine Z266 ?_;refine Z10 ?_
  refine gC ?_ ?_ <;> intro hb5
  ·
   refine Z14 ?_;refine Z1 ?_;refine Z30 ?_
   refine g_cg [85, 86, 87, 88, 89, 90, 91, 84, 92, 93, 14] (fun bq => [[.d (.int .i64 0), .d (.int .i64 0), .d (.int .i64 0)], cond (bq 10) [.d (.int .i64 ((countS r.1.1 r.1.2.1 r.1.2.2 bnu)).1.1), .d (.int .i64 ((countS r.1.1 r.1.2.1 r.1.2.2 bnu)).1.2.1), .d (.int .i64 ((countS r.1.1 r.1.2.1 r.1.2.2 bnu)).1.2.2)] [.d (.int .i64 r.1.1), .d (.int .i64 r.1.2.1), .d (.int .i64 r.1.2.2)]]) rfl ?_
   refine Z15 ?_;refine Z61 ?_;refine Z15 ?_
   refine cS 2 (fun bq rest hc1 hc2 hc3 => by
    have hs := hc3.no 10 1 hc1
    have e2 : upd bq 1 10 = false := hs
    simp only [hs, cond_false]
    refine Z127 ?_
    exact (gN ⟨rfl, by rw [e2]; rfl⟩)) ?_
   refine Z15 ?_;refine Z71 ?_;refine Z97 ?_;refine Z138 ?_;refine Z111 ?_;refine Z130 ?_;refine Z77 ?_;refine Z79 ?_
   refine cP [0, 1, 5] ?_
   refine cS 7 (fun _ _ _ _ _ => gL (xs := [.tmp 86, .tmp 90]) rfl (c248 r.1.1 r.1.2.1 r.1.2.2 bnu hwf) (gN ⟨rfl, rfl⟩)) ?_
   refine Z119 ?_
   refine cS 8 (fun _ _ _ _ _ => vq rfl qM (gN ⟨rfl, rfl⟩)) ?_
   refine Z169 ?_
   refine cS 9 (fun _ _ _ _ _ => vq rfl qE (gN ⟨rfl, rfl⟩)) ?_
   refine Z169 ?_
   refine cS 10 (fun _ _ _ _ _ => vq rfl qE (gN ⟨rfl, rfl⟩)) ?_
   refine cP [8, 6, 0, 1, 2, 3, 4, 5, 6, 7, 8] ?_
   refine cg_act 11 (fun bq rest hc1 hc2 hc3 => by
    have e2 : upd bq 10 10 = true := rfl
    simp only [hc1, cond_false]
    refine Z55 ?_
    exact (gN ⟨rfl, by rw [e2]; rfl⟩)) ?_
   refine cP [9, 10, 0, 1, 2, 3, 4, 5, 6, 7, 8, 9, 10] ?_
   refine Z59 ?_
   refine cg_done (mem'' := [[.d (.int .i64 0), .d (.int .i64 0), .d (.int .i64 0)], [.d (.int .i64 ((countS r.1.1 r.1.2.1 r.1.2.2 bnu)).1.1), .d (.int .i64 ((countS r.1.1 r.1.2.1 r.1.2.2 bnu)).1.2.1), .d (.int .i64 ((countS r.1.1 r.1.2.1 r.1.2.2 bnu)).1.2.2)]]) ?_
   refine Z173 ?_;refine Z75 ?_;refine Z14 ?_;refine Z127 ?_;refine Z0 ?_;refine Z20 ?_;refine Z55 ?_;refine Z242 ?_;refine Z56 ?_
   exact ⟨by rw [spanN, if_neg (by rw [hb0]; decide), if_pos (hw ▸ hb3), hvs, hss, if_neg (by rw [show (!(s0 (r :: ss')).2 || !isV (v0 [a, some tb] 1) 1) = false from hb4]; decide), if_pos hb5, show nuV (v0 [a, some tb] 1) = bnu from hnb]; try rfl, rfl⟩
  refine Z58 ?_
  refine g_cg [85, 86, 87, 88, 89, 90, 91, 84, 92, 93, 14] (fun bq => [[.d (.int .i64 0), .d (.int .i64 0), .d (.int .i64 0)], cond (bq 10) [.d (.int .i64 ((byS r.1.1 r.1.2.1 r.1.2.2 bnu)).1.1), .d (.int .i64 ((byS r.1.1 r.1.2.1 r.1.2.2 bnu)).1.2.1), .d (.int .i64 ((byS r.1.1 r.1.2.1 r.1.2.2 bnu)).1.2.2)] [.d (.int .i64 r.1.1), .d (.int .i64 r.1.2.1), .d (.int .i64 r.1.2.2)]]) rfl ?_
  refine Z15 ?_;refine Z61 ?_;refine Z15 ?_
  refine cS 2 (fun bq rest hc1 hc2 hc3 => by
   have hs := hc3.no 10 1 hc1
   have e2 : upd bq 1 10 = false := hs
   simp only [hs, cond_false]
   refine Z127 ?_
   exact (gN ⟨rfl, by rw [e2]; rfl⟩)) ?_
  refine Z15 ?_;refine Z71 ?_;refine Z97 ?_;refine Z138 ?_;refine Z111 ?_;refine Z130 ?_;refine Z77 ?_;refine Z79 ?_
  refine cP [0, 1, 5] ?_
  refine cS 7 (fun _ _ _ _ _ => gL (xs := [.tmp 86, .tmp 90]) rfl (c247 r.1.1 r.1.2.1 r.1.2.2 bnu hwf) (gN ⟨rfl, rfl⟩)) ?_
  refine Z119 ?_
  refine cS 8 (fun _ _ _ _ _ => vq rfl qM (gN ⟨rfl, rfl⟩)) ?_
  refine Z169 ?_
  refine cS 9 (fun _ _ _ _ _ => vq rfl qE (gN ⟨rfl, rfl⟩)) ?_
  refine Z169 ?_
  refine cS 10 (fun _ _ _ _ _ => vq rfl qE (gN ⟨rfl, rfl⟩)) ?_
  refine cP [8, 6, 0, 1, 2, 3, 4, 5, 6, 7, 8] ?_
  refine cg_act 11 (fun bq rest hc1 hc2 hc3 => by
   have e2 : upd bq 10 10 = true := rfl
   simp only [hc1, cond_false]
   refine Z55 ?_
   exact (gN ⟨rfl, by rw [e2]; rfl⟩)) ?_
  refine cP [9, 10, 0, 1, 2, 3, 4, 5, 6, 7, 8, 9, 10] ?_
  refine Z59 ?_
  refine cg_done (mem'' := [[.d (.int .i64 0), .d (.int .i64 0), .d (.int .i64 0)], [.d (.int .i64 ((byS r.1.1 r.1.2.1 r.1.2.2 bnu)).1.1), .d (.int .i64 ((byS r.1.1 r.1.2.1 r.1.2.2 bnu)).1.2.1), .d (.int .i64 ((byS r.1.1 r.1.2.1 r.1.2.2 bnu)).1.2.2)]]) ?_
  refine Z173 ?_;refine Z75 ?_;refine Z14 ?_;refine Z127 ?_;refine Z0 ?_;refine Z20 ?_;refine Z55 ?_;refine Z242 ?_;refine Z56 ?_
  exact ⟨by rw [spanN, if_neg (by rw [hb0]; decide), if_pos (hw ▸ hb3), hvs, hss, if_neg (by rw [show (!(s0 (r :: ss')).2 || !isV (v0 [a, some tb] 1) 1) = false from hb4]; decide), if_neg (by rw [hb5]; decide), show nuV (v0 [a, some tb] 1) = bnu from hnb]; try rfl, rfl⟩
 refine Z91 ?_;refine Z73 ?_;refine Z55 ?_;refine Z228 ?_;refine Z56 ?_
 exact ⟨by rw [spanN, if_neg (by rw [hb0]; decide), if_neg (by rw [← hw, hb3]; decide)]; try rfl, rfl⟩
set_option maxHeartbeats 8000000 in
theorem c104x (l : KL) (op : Int) (nm : ByteArray) (num : Int) (ks : List Tr) (vs : List (Option Tr)) (ss : List SP)
 (h5 : (op == 5) = true → ∃ k0 a, ks = [k0] ∧ vs = [a] ∧ Pf Tryz.prog 104 [k0.d, knD l] (.d (valD a)))
 (h6 : (op == 6) = true → ∃ k0 k1 a b, ks = [k0, k1] ∧ vs = [a, b] ∧ Pf Tryz.prog 104 [k0.d, knD l] (.d (valD a)) ∧ Pf Tryz.prog 104 [k1.d, knD l] (.d (valD b)))
 (h19 : (op == 19) = true → ∃ k0 k1 k2 a b c, ks = [k0, k1, k2] ∧ vs = [a, b, c] ∧ Pf Tryz.prog 104 [k0.d, knD l] (.d (valD a)) ∧ Pf Tryz.prog 104 [k1.d, knD l] (.d (valD b)) ∧ Pf Tryz.prog 104 [k2.d, knD l] (.d (valD c)) ∧ ∀ t, a = some t → t.op = 2 → t.nu = 0 ∨ t.nu = 1)
 (h14 : (op == 14) = true → ∃ k0 r, ks = [k0] ∧ ss = [r] ∧ Pf Tryz.prog 185 [k0.d, knD l] (.tup [.d (.agg [.int .i64 r.1.1, .int .i64 r.1.2.1, .int .i64 r.1.2.2]), .d (.bool r.2)]) ∧ wf64 r.1.2.2) : Pf Tryz.prog 104 [.agg [.int .i64 op, .str nm, .int .i64 num, .sl (ks.map Tr.d)], knD l] (.d (valD (valN l op nm num ks vs ss))) := by
 refine pf_body (rvs := [.tmp 4]) [(0, .d (.agg [.int .i64 op, .str nm, .int .i64 num, .sl (ks.map Tr.d)])), (1, .d (knD l))] Tryz.func104 Tryz.ntmps104 Tryz.results104 (fun S0 O0 w0 m0 hm0 => ?_)
 refine Z232 ?_
 refine gF 0 [] (.agg [.int .i64 op, .str nm, .int .i64 num, .sl (ks.map Tr.d)]) rfl ?_
 refine Z233 ?_;refine Z238 ?_;refine Z38 ?_
 refine G_seq_cut (α := Bool) (fun w => ⟨[(1, .d (knD l)), (2, .d (.ptr (.agg [.int .i64 op, .str nm, .int .i64 num, .sl (ks.map Tr.d)]))), (9, .d (.int .i64 op)), (10, .d (.bool w))], []⟩) (fun w => w = (op == 1 || op == 2)) (fun Q' hn he hr => ?_) (fun w hw => ?_)
 ·
  refine Z278 ?_
  refine gC ?_ ?_ <;> intro hb0
  ·
   refine Z167 ?_
   refine hn _ (op == 1) (by rw [hb0]; rfl) le_of
  refine Z14 ?_;refine Z20 ?_;refine Z1 ?_;refine Z52 ?_
  refine hn _ (op == 2) (by rw [hb0]; rfl) le_of
 skip
 refine gC ?_ ?_ <;> intro hb1
 ·
  refine Z3 ?_;refine Z283 ?_
  exact ⟨by rw [valN, if_pos (hw ▸ hb1), valD, Tr.d_mk]; try rfl, rfl⟩
 refine Z278 ?_
 refine gC ?_ ?_ <;> intro hb2
 ·
  refine Z254 ?_;refine Z270 ?_
  refine gL (xs := [.tmp 15, .tmp 17]) rfl (c181 l nm) ?_
  refine Z283 ?_
  exact ⟨by rw [valN, if_neg (by rw [← hw, hb1]; decide), if_pos hb2]; try rfl, rfl⟩
 refine Z278 ?_
 refine gC ?_ ?_ <;> intro hb3
 ·
  obtain ⟨k0, a, hks, hvs, q0⟩ := h5 hb3
  obtain ⟨op0, nm0, nu0, ks0, ha0⟩ := k0.d_agg
  have hx0 : (ks.map Tr.d)[0]? = some (.agg [.int .i64 op0, .str nm0, .int .i64 nu0, .sl (ks0.map Tr.d)]) := by rw [hks, ← ha0]; rfl
  refine Z53 ?_;refine Z158 ?_
  refine g_cg0 [21, 22, 23, 24, 25, 26, 27, 28, 29, 4] ?_
  refine Z15 ?_
  refine cS 1 (fun _ _ _ _ _ => vq rfl (qF u27 rfl sz9) (gN ⟨rfl, rfl⟩)) ?_
  refine Z168 ?_
  refine cS 2 (fun _ _ _ _ _ => vq rfl (qL u9) (gN ⟨rfl, rfl⟩)) ?_
  refine Z15 ?_
  refine cS 3 (fun _ _ _ _ _ => vq rfl (qF u27 rfl sz22) (gN ⟨rfl, rfl⟩)) ?_
  refine Z97 ?_
  refine cS 4 (fun _ _ _ _ _ => vq rfl (qL u22) (gN ⟨rfl, rfl⟩)) ?_
  refine Z111 ?_
  refine cS 5 (fun _ _ _ _ _ => vq rfl (qI u22 sz27) (gN ⟨rfl, rfl⟩)) ?_
  refine Z77 ?_
  refine cS 6 (fun _ _ _ _ _ => vq rfl (qG (by exact sz27) u27 rfl) (gN ⟨rfl, rfl⟩)) ?_
  refine Z15 ?_;refine Z117 ?_
  refine cP [5, 6] ?_
  refine cS 8 (fun _ _ _ _ _ => gL (xs := [.tmp 26, .tmp 27]) rfl ((ha0 ▸ q0)) (gN ⟨rfl, rfl⟩)) ?_
  refine cP [1, 7, 7] ?_
  refine cS 9 (fun _ _ _ _ _ => gL (xs := [.tmp 22, .tmp 28]) rfl (c182 nm a) (gN ⟨rfl, rfl⟩)) ?_
  refine cP [8, 8, 0, 1, 2, 3, 4, 5, 6, 7, 8] ?_
  refine cS 10 (fun _ _ _ _ _ => vq rfl qA (gN ⟨rfl, rfl⟩)) ?_
  refine Z84 ?_;refine Z218 ?_;refine Z4 ?_
  exact ⟨by rw [valN, if_neg (by rw [← hw, hb1]; decide), if_neg (by rw [hb2]; decide), if_pos hb3, hvs]; try rfl, rfl⟩
 refine Z53 ?_;refine Z158 ?_;refine Z14 ?_;refine Z260 ?_
 refine gC ?_ ?_ <;> intro hb4
 ·
  obtain ⟨k0, k1, a, b, hks, hvs, q0, q1⟩ := h6 hb4
  refine Z3 ?_;refine Z8 ?_;refine Z0 ?_
  refine gL (xs := [.tmp 32, .tmp 33]) rfl ((hks ▸ c183 l op nm num k0 k1 a b q0 q1)) ?_
  refine Z283 ?_
  exact ⟨by rw [valN, if_neg (by rw [← hw, hb1]; decide), if_neg (by rw [hb2]; decide), if_neg (by rw [hb3]; decide), if_pos hb4, hvs]; try rfl, rfl⟩
 refine Z278 ?_
 refine gC ?_ ?_ <;> intro hb5
 ·
  obtain ⟨k0, k1, k2, a, b, c, hks, hvs, q0, q1, q2, hab⟩ := h19 hb5
  have hca := valD_cells a
  obtain ⟨op0, nm0, nu0, ks0, ha0⟩ := k0.d_agg
  have hx0 : (ks.map Tr.d)[0]? = some (.agg [.int .i64 op0, .str nm0, .int .i64 nu0, .sl (ks0.map Tr.d)]) := by rw [hks, ← ha0]; rfl
  obtain ⟨op1, nm1, nu1, ks1, ha1⟩ := k1.d_agg
  have hx1 : (ks.map Tr.d)[1]? = some (.agg [.int .i64 op1, .str nm1, .int .i64 nu1, .sl (ks1.map Tr.d)]) := by rw [hks, ← ha1]; rfl
  obtain ⟨op2, nm2, nu2, ks2, ha2⟩ := k2.d_agg
  have hx2 : (ks.map Tr.d)[2]? = some (.agg [.int .i64 op2, .str nm2, .int .i64 nu2, .sl (ks2.map Tr.d)]) := by rw [hks, ← ha2]; rfl
  refine Z3 ?_;refine Z250 ?_;refine Z258 ?_;refine Z0 ?_
  refine gL (xs := [.tmp 40, .tmp 41]) rfl ((ha0 ▸ q0)) ?_
  refine Z256 ?_
  refine gL (xs := [.tmp 43, .const (.int .i64 (2))]) rfl (c184 a 2) ?_
  refine Z281 ?_
  refine gC ?_ ?_ <;> intro hb6
  ·
   refine Z53 ?_;refine Z158 ?_;refine Z14 ?_;refine Z1 ?_;refine Z132 ?_;refine Z4 ?_
   exact ⟨by rw [valN, if_neg (by rw [← hw, hb1]; decide), if_neg (by rw [hb2]; decide), if_neg (by rw [hb3]; decide), if_neg (by rw [hb4]; decide), if_pos hb5, hvs, if_pos (show (!isV (v0 [a, b, c] 0) 2) = true from hb6)]; try rfl, rfl⟩
  have hka : isV a 2 = true := by simpa using hb6
  obtain ⟨ta, rfl, haop⟩ := isV_some hka
  obtain ⟨aop, anm, anu, aks, haa⟩ := ta.d_agg
  have hna : nuV (some ta) = anu := by obtain ⟨o, n, u, l⟩ := ta; rw [Tr.d_mk] at haa; injection haa with ha; injection ha with ha1 ha; injection ha with ha2 ha; injection ha with ha3 ha; injection ha3
  rw [show valD (some ta) = .ptr ta.d from rfl, haa]
  have hnn := hab ta rfl haop
  rw [show ta.nu = anu from hna] at hnn
  refine Z58 ?_
  rcases hnn with rfl | rfl
  ·
   refine Z158 ?_
   refine g_cg0 [46, 47, 48, 49, 50, 51, 52, 53, 54, 55, 56, 4] ?_
   refine Z15 ?_;refine Z177 ?_;refine Z168 ?_
   refine cS 2 (fun _ _ _ _ _ => vq rfl (qL u22) (gN ⟨rfl, rfl⟩)) ?_
   refine Z15 ?_;refine Z71 ?_;refine Z97 ?_;refine Z138 ?_;refine Z111 ?_;refine Z130 ?_;refine Z77 ?_;refine Z79 ?_;refine Z157 ?_
   refine cS 7 (fun _ _ _ _ _ => vq rfl (q_sub (hw := (show IntKind.i64.wrap (2 - 0) = 2 from by decide))) (gN ⟨rfl, rfl⟩)) ?_
   refine cP [1, 6] ?_
   refine cS 8 (fun _ _ _ _ _ => vq rfl (qI u22 sz27) (gN ⟨rfl, rfl⟩)) ?_
   refine Z169 ?_
   refine cS 9 (fun _ _ _ _ _ => vq rfl (qG (by exact sz27) u27 rfl) (gN ⟨rfl, rfl⟩)) ?_
   refine Z15 ?_
   refine cS 10 (fun _ _ _ _ _ => vq rfl qM (gN ⟨rfl, rfl⟩)) ?_
   refine cP [8, 9] ?_
   refine cS 11 (fun _ _ _ _ _ => gL (xs := [.tmp 54, .tmp 55]) rfl ((ha2 ▸ q2)) (gN ⟨rfl, rfl⟩)) ?_
   refine Z123 ?_;refine Z59 ?_;refine Z84 ?_;refine Z218 ?_;refine Z4 ?_
   exact ⟨by rw [valN, if_neg (by rw [← hw, hb1]; decide), if_neg (by rw [hb2]; decide), if_neg (by rw [hb3]; decide), if_neg (by rw [hb4]; decide), if_pos hb5, hvs, if_neg (by rw [show (!isV (v0 [some ta, b, c] 0) 2) = false from hb6]; decide), show nuV (v0 [some ta, b, c] 0) = 0 from hna]; try rfl, rfl⟩
  refine Z158 ?_
  refine g_cg0 [46, 47, 48, 49, 50, 51, 52, 53, 54, 55, 56, 4] ?_
  refine Z15 ?_;refine Z177 ?_;refine Z168 ?_
  refine cS 2 (fun _ _ _ _ _ => vq rfl (qL u22) (gN ⟨rfl, rfl⟩)) ?_
  refine Z15 ?_;refine Z71 ?_;refine Z97 ?_;refine Z138 ?_;refine Z111 ?_;refine Z130 ?_;refine Z77 ?_;refine Z79 ?_;refine Z157 ?_
  refine cS 7 (fun _ _ _ _ _ => vq rfl (q_sub (hw := (show IntKind.i64.wrap (2 - 1) = 1 from by decide))) (gN ⟨rfl, rfl⟩)) ?_
  refine cP [1, 6] ?_
  refine cS 8 (fun _ _ _ _ _ => vq rfl (qI u22 sz27) (gN ⟨rfl, rfl⟩)) ?_
  refine Z169 ?_
  refine cS 9 (fun _ _ _ _ _ => vq rfl (qG (by exact sz27) u27 rfl) (gN ⟨rfl, rfl⟩)) ?_
  refine Z15 ?_
  refine cS 10 (fun _ _ _ _ _ => vq rfl qM (gN ⟨rfl, rfl⟩)) ?_
  refine cP [8, 9] ?_
  refine cS 11 (fun _ _ _ _ _ => gL (xs := [.tmp 54, .tmp 55]) rfl ((ha1 ▸ q1)) (gN ⟨rfl, rfl⟩)) ?_
  refine Z123 ?_;refine Z59 ?_;refine Z84 ?_;refine Z218 ?_;refine Z4 ?_
  exact ⟨by rw [valN, if_neg (by rw [← hw, hb1]; decide), if_neg (by rw [hb2]; decide), if_neg (by rw [hb3]; decide), if_neg (by rw [hb4]; decide), if_pos hb5, hvs, if_neg (by rw [show (!isV (v0 [some ta, b, c] 0) 2) = false from hb6]; decide), show nuV (v0 [some ta, b, c] 0) = 1 from hna]; try rfl, rfl⟩
 refine Z278 ?_
 refine gC ?_ ?_ <;> intro hb7
 ·
  obtain ⟨k0, r, hks, hss, q0, hwf⟩ := h14 hb7
  obtain ⟨op0, nm0, nu0, ks0, ha0⟩ := k0.d_agg
  have hx0 : (ks.map Tr.d)[0]? = some (.agg [.int .i64 op0, .str nm0, .int .i64 nu0, .sl (ks0.map Tr.d)]) := by rw [hks, ← ha0]; rfl
  refine Z3 ?_;refine Z250 ?_;refine Z258 ?_;refine Z0 ?_
  refine gL (xs := [.tmp 63, .tmp 64]) rfl ((ha0 ▸ q0)) ?_
  refine Z271 ?_;refine Z133 ?_;refine Z55 ?_;refine Z1 ?_;refine Z30 ?_;refine Z158 ?_;refine Z14 ?_;refine Z231 ?_;refine Z50 ?_
  refine sg rfl (fun hg => sP 70 rfl hg (qL u9)) ?_
  refine sg rfl (fun hg => sP 71 rfl hg q_streq) ?_
  refine Z287 ?_
  refine gC ?_ ?_ <;> intro hb8
  ·
   refine Z3 ?_;refine Z127 ?_
   refine gL (xs := [.tmp 74]) rfl (c187 r.1.1 r.1.2.1 r.1.2.2 hwf) ?_
   refine gL (xs := [.tmp 75]) rfl (c186 _) ?_
   refine Z283 ?_
   exact ⟨by rw [valN, if_neg (by rw [← hw, hb1]; decide), if_neg (by rw [hb2]; decide), if_neg (by rw [hb3]; decide), if_neg (by rw [hb4]; decide), if_neg (by rw [hb5]; decide), if_pos hb7, hss, if_pos (show ((s0 [r]).2 && decide (nm = sizeB)) = true from hb8)]; try rfl, rfl⟩
  refine Z91 ?_;refine Z229 ?_
  exact ⟨by rw [valN, if_neg (by rw [← hw, hb1]; decide), if_neg (by rw [hb2]; decide), if_neg (by rw [hb3]; decide), if_neg (by rw [hb4]; decide), if_neg (by rw [hb5]; decide), if_pos hb7, hss, if_neg (by rw [show ((s0 [r]).2 && decide (nm = sizeB)) = false from hb8]; decide)]; try rfl, rfl⟩
 refine Z91 ?_;refine Z229 ?_
 exact ⟨by rw [valN, if_neg (by rw [← hw, hb1]; decide), if_neg (by rw [hb2]; decide), if_neg (by rw [hb3]; decide), if_neg (by rw [hb4]; decide), if_neg (by rw [hb5]; decide), if_neg (by rw [hb7]; decide)]; try rfl, rfl⟩
end
section
mutual
def Tr.value (l : KL) : Tr → Option Tr
 | .mk op nm num ks => valN l op nm num ks (Tr.values l ks) (Tr.spans l ks)
def Tr.span (l : KL) : Tr → SP
 | .mk op _ _ ks => spanN op (Tr.values l ks) (Tr.spans l ks)
def Tr.values (l : KL) : List Tr → List (Option Tr)
 | [] => []
 | k :: r => k.value l :: Tr.values l r
def Tr.spans (l : KL) : List Tr → List SP
 | [] => []
 | k :: r => k.span l :: Tr.spans l r
end
def ValOk (v : Tr) : Prop := (∃ n, wf64 n ∧ v = intT n) ∨ ∃ b, v = boolT b
def KOk (l : KL) : Prop := ∀ x ∈ l, ∀ t, x.2 = some t → ValOk t
variable {v : Tr}
theorem ValOk.num (h : ValOk v) (h2 : v.op = 2) : v.nu = 0 ∨ v.nu = 1 := by
 rcases h with ⟨n, _, rfl⟩ | ⟨b, rfl⟩
 · cases h2
 · cases b
   · exact .inl rfl
   · exact .inr rfl
variable {nm : ByteArray}
theorem findK_ok : ∀ {l : KL}, KOk l → ∀ v, findK nm l = some v → ValOk v
 | [], _, v, h => by cases h
 | x :: r, hl, v, h => by
  rw [findK] at h
  split at h
  · exact hl x (by simp) v h
  · exact findK_ok (fun y hy => hl y (by simp [hy])) v h
theorem wf0 : wf64 0 := by unfold wf64; omega
theorem wf1 : wf64 1 := by unfold wf64; omega
theorem normal_wf {f b c : Int} (h : wf64 b) : wf64 (normalS f b c).1.2.2 := by
 unfold normalS
 split
 · exact wf1
 · split
   · exact wf0
   · show wf64 (if (c == 1) = true then 1 else b)
     split
     · exact wf1
     · exact h
theorem series_wf {lo hi st : Int} (h : wf64 st) : wf64 (seriesS lo hi st).2.1 := by
 unfold seriesS
 split
 · exact wf0
 · split
   · exact h
   · exact h
theorem ofS_wf (lo hi : Int) : wf64 (ofS lo hi).1.2.2 := by
 unfold ofS
 split
 · exact wf0
 · split
   · exact normal_wf wf0
   · exact normal_wf wf1
theorem byS_wf (lo hi st n : Int) : wf64 (byS lo hi st n).1.2.2 := by
 unfold byS
 repeat' split
 · exact wf0
 · exact wf0
 · exact wf0
 · exact normal_wf (W_wf _)
 · exact normal_wf (W_wf _)
theorem countS_wf {lo hi st : Int} (h : wf64 st) (n : Int) : wf64 (countS lo hi st n).1.2.2 := by
 unfold countS
 repeat' split
 · exact wf0
 · exact wf0
 · exact normal_wf (series_wf h)
 · exact normal_wf (series_wf h)
variable {op : Int}
theorem spanN_wf {vs : List (Option Tr)} {ss : List SP} (h : wf64 (s0 ss).1.2.2) : wf64 (spanN op vs ss).1.2.2 := by
 unfold spanN
 repeat' split
 · exact wf0
 · exact ofS_wf _ _
 · exact wf0
 · exact countS_wf h _
 · exact byS_wf _ _ _ _
 · exact wf0
theorem Tr.span_wf (l : KL) : ∀ n (t : Tr), t.size ≤ n → wf64 (t.span l).1.2.2 := by
 intro n
 induction n with
 | zero => intro t h; exact absurd t.size_pos (by omega)
 | succ n ih =>
  intro t h
  obtain ⟨op, nm, num, ks⟩ := t
  rw [Tr.span]
  refine spanN_wf ?_
  cases ks with
  | nil => rw [Tr.spans]; exact wf0
  | cons k r =>
   rw [Tr.spans]
   exact ih k (by rw [Tr.size, Tr.sizes] at h; omega)
variable {a : Option Tr}
theorem unaryV_ok (h : unaryV nm a = some v) : ValOk v := by
 rcases a with _ | ⟨op, m, num, ks⟩
 · cases h
 · rw [unaryV] at h
   split at h
   · injection h with h; subst h; exact .inl ⟨_, W_wf _, rfl⟩
   · split at h
     · injection h with h; subst h; exact .inr ⟨_, rfl⟩
     · cases h
theorem fitsV_ok {n : Int} {ok : Bool} (hn : wf64 n) (h : fitsV n ok = some v) : ValOk v := by
 unfold fitsV at h
 split at h
 · injection h with h; subst h; exact .inl ⟨n, hn, rfl⟩
 · cases h
theorem tmod_wf {a b : Int} (h : wf64 a) : wf64 (a.tmod b) := by
 have h1 : (a.tmod b).natAbs ≤ a.natAbs := by rw [Int.natAbs_tmod]; exact Nat.mod_le _ _
 have h2 : 0 ≤ a → 0 ≤ a.tmod b := fun h => Int.tmod_nonneg b h
 have h3 : a ≤ 0 → a.tmod b ≤ 0 := fun h => by
  have h4 := Int.tmod_nonneg b (show 0 ≤ -a by omega)
  rw [Int.neg_tmod] at h4
  omega
 unfold wf64 at h ⊢
 omega
theorem intTab_val {o : Op2 (Option Tr)} (h : tabGet intTab nm = some o) {a b : Int} (ha : wf64 a) {v : Tr} (hv : o.f a b = some v) : ValOk v := by
 obtain ⟨x, hx, rfl⟩ := tabGet_mem h
 simp only [intTab, List.mem_cons, List.not_mem_nil, or_false] at hx
 rcases hx with rfl | rfl | rfl | rfl | rfl
 · exact fitsV_ok (W_wf _) hv
 · exact fitsV_ok (W_wf _) hv
 · exact fitsV_ok (W_wf _) hv
 · replace hv : quoV a b = some v := hv
   unfold quoV at hv
   split at hv
   · cases hv
   · injection hv with hv; subst hv; exact .inl ⟨_, W_wf _, rfl⟩
 · replace hv : remV a b = some v := hv
   unfold remV at hv
   split at hv
   · cases hv
   · injection hv with hv; subst hv; exact .inl ⟨_, tmod_wf ha, rfl⟩
theorem cmpV_ok {b : Option Tr} (h : cmpV nm a b = some v) : ValOk v := by
 unfold cmpV at h
 split at h
 · cases h
 · split at h
   · injection h with h; subst h; exact .inr ⟨_, rfl⟩
   · cases h
theorem nuV_wf (h : ∀ v, a = some v → ValOk v) : wf64 (nuV a) := by
 cases a with
 | none => exact wf0
 | some t =>
  rcases h t rfl with ⟨n, hn, rfl⟩ | ⟨b, rfl⟩
  · exact hn
  · cases b
    · exact wf0
    · exact wf1
theorem binV_ok {b : Option Tr} (ha : ∀ v, a = some v → ValOk v) (hb : ∀ v, b = some v → ValOk v) {v : Tr} (h : binV nm a b = some v) : ValOk v := by
 unfold binV at h
 split at h
 · split at h
   · cases h
   · split at h
     · exact ha v h
     · split at h
       · exact hb v h
       · cases h
 · split at h
   · split at h
     · rename_i ht _; exact intTab_val ht (nuV_wf ha) h
     · exact cmpV_ok h
   · exact cmpV_ok h
theorem sizeS_wf (lo hi st : Int) : wf64 (sizeS lo hi st) := by
 unfold sizeS
 split
 · exact wf0
 · unfold seriesS
   split
   · exact wf0
   · split
     · exact W_wf _
     · exact W_wf _
variable {num : Int} {ks : List Tr}
theorem right_ok {s : Sh} (ho : (otherB (.mk op nm num ks)).2 = false) (hs : shGet op = some s) (h : rightB (.mk op nm num ks) = true) :
 s.ok (.mk op nm num ks) = true ∧ (s.num = false → num = 0) ∧ (s.names = none → nm = ⟨#[]⟩) := by
 obtain ⟨nms, nb, g, caps, ok⟩ := s
 rw [rightB, if_neg (by rw [ho]; decide), hs] at h
 dsimp only at h
 split at h
 · cases h
 · rename_i h1
   rcases nms with _ | x
   · dsimp only at h
     split at h
     · cases h
     · rename_i h2
       refine ⟨h, fun hn => ?_, fun _ => by simpa using h2⟩
       replace hn : nb = false := hn
       subst hn
       simp at h1
       exact h1.2
   · dsimp only at h
     split at h
     · cases h
     · refine ⟨h, fun hn => ?_, fun hn => by cases hn⟩
       replace hn : nb = false := hn
       subst hn
       simp at h1
       exact h1.2
theorem len_forms {s : ByteArray} (h : formsB [s] (.mk op nm num ks) = true) : ks.length = s.size := by
 unfold formsB at h
 rw [List.any_cons, List.any_nil, Bool.or_false] at h
 exact kidsB_len h
theorem Tr.shaped_mk (h : (Tr.mk op nm num ks).shaped = true) : rightB (.mk op nm num ks) = true ∧ ∀ k ∈ ks, k.shaped = true := by
 rw [Tr.shaped, Tr.shapeds_all, Bool.and_eq_true, Bool.not_eq_true', List.any_eq_false] at h
 exact ⟨h.1, fun k hk => by simpa using h.2 k hk⟩
theorem list1 (h : ks.length = 1) : ∃ k, ks = [k] := by
 match ks, h with
 | [k], _ => exact ⟨k, rfl⟩
theorem list2 (h : ks.length = 2) : ∃ k k', ks = [k, k'] := by
 match ks, h with
 | [k, k'], _ => exact ⟨k, k', rfl⟩
theorem list3 (h : ks.length = 3) : ∃ k k' k'', ks = [k, k', k''] := by
 match ks, h with
 | [k, k', k''], _ => exact ⟨k, k', k'', rfl⟩
theorem shGet1 : shGet 1 = some ⟨none, true, 229, [.ptr (.sl ([⟨#[]⟩].map .str))], (formsB [⟨#[]⟩])⟩ := rfl
theorem shGet2 : shGet 2 = some ⟨none, true, 154, [], rule154⟩ := rfl
theorem shGet5 : shGet 5 = some ⟨(some (⟨#[45]⟩, [⟨#[33]⟩])), false, 229, [.ptr (.sl ([⟨#[101]⟩].map .str))], (formsB [⟨#[101]⟩])⟩ := rfl
theorem shGet6 : shGet 6 = some ⟨(some (⟨#[43]⟩, [⟨#[45]⟩, ⟨#[42]⟩, ⟨#[47]⟩, ⟨#[37]⟩, ⟨#[61, 61]⟩, ⟨#[33, 61]⟩, ⟨#[60]⟩, ⟨#[60, 61]⟩, ⟨#[62]⟩, ⟨#[62, 61]⟩, ⟨#[38, 38]⟩, ⟨#[124, 124]⟩])), false, 229, [.ptr (.sl ([⟨#[101, 101]⟩].map .str))], (formsB [⟨#[101, 101]⟩])⟩ := rfl
theorem shGet7 : shGet 7 = some ⟨none, false, 229, [.ptr (.sl ([⟨#[101, 101]⟩].map .str))], (formsB [⟨#[101, 101]⟩])⟩ := rfl
theorem shGet8 : shGet 8 = some ⟨none, false, 229, [.ptr (.sl ([⟨#[101, 101]⟩].map .str))], (formsB [⟨#[101, 101]⟩])⟩ := rfl
theorem shGet9 : shGet 9 = some ⟨none, false, 229, [.ptr (.sl ([⟨#[101, 101]⟩].map .str))], (formsB [⟨#[101, 101]⟩])⟩ := rfl
theorem shGet14 : shGet 14 = some ⟨(some (⟨#[115, 105, 122, 101]⟩, [⟨#[108, 111, 119]⟩, ⟨#[104, 105, 103, 104]⟩, ⟨#[115, 116, 114, 105, 100, 101]⟩, ⟨#[100, 111, 109, 97, 105, 110]⟩])), false, 229, [.ptr (.sl ([⟨#[101]⟩].map .str))], (formsB [⟨#[101]⟩])⟩ := rfl
theorem shGet19 : shGet 19 = some ⟨none, false, 229, [.ptr (.sl ([⟨#[101, 101, 101]⟩].map .str))], (formsB [⟨#[101, 101, 101]⟩])⟩ := rfl
theorem len1 (h : (Tr.mk 1 nm num ks).shaped = true) : ks.length = 0 := len_forms (right_ok (s := ⟨_, _, _, _, _⟩) rfl shGet1 (Tr.shaped_mk h).1).1
theorem len5 (h : (Tr.mk 5 nm num ks).shaped = true) : ks.length = 1 := len_forms (right_ok (s := ⟨_, _, _, _, _⟩) rfl shGet5 (Tr.shaped_mk h).1).1
theorem len14 (h : (Tr.mk 14 nm num ks).shaped = true) : ks.length = 1 := len_forms (right_ok (s := ⟨_, _, _, _, _⟩) rfl shGet14 (Tr.shaped_mk h).1).1
theorem len6 (h : (Tr.mk 6 nm num ks).shaped = true) : ks.length = 2 := len_forms (right_ok (s := ⟨_, _, _, _, _⟩) rfl shGet6 (Tr.shaped_mk h).1).1
theorem len7 (h : (Tr.mk 7 nm num ks).shaped = true) : ks.length = 2 := len_forms (right_ok (s := ⟨_, _, _, _, _⟩) rfl shGet7 (Tr.shaped_mk h).1).1
theorem len8 (h : (Tr.mk 8 nm num ks).shaped = true) : ks.length = 2 := len_forms (right_ok (s := ⟨_, _, _, _, _⟩) rfl shGet8 (Tr.shaped_mk h).1).1
theorem len9 (h : (Tr.mk 9 nm num ks).shaped = true) : ks.length = 2 := len_forms (right_ok (s := ⟨_, _, _, _, _⟩) rfl shGet9 (Tr.shaped_mk h).1).1
theorem len19 (h : (Tr.mk 19 nm num ks).shaped = true) : ks.length = 3 := len_forms (right_ok (s := ⟨_, _, _, _, _⟩) rfl shGet19 (Tr.shaped_mk h).1).1
theorem lit1 (h : (Tr.mk 1 nm num ks).shaped = true) : nm = ⟨#[]⟩ ∧ ks = [] :=
 ⟨(right_ok (s := ⟨_, _, _, _, _⟩) rfl shGet1 (Tr.shaped_mk h).1).2.2 rfl, List.length_eq_zero_iff.1 (len1 h)⟩
theorem lit2 (h : (Tr.mk 2 nm num ks).shaped = true) : nm = ⟨#[]⟩ ∧ ks = [] ∧ (num = 0 ∨ num = 1) := by
 obtain ⟨h1, _, h3⟩ := right_ok (s := ⟨_, _, _, _, _⟩) rfl shGet2 (Tr.shaped_mk h).1
 replace h1 : rule154 (.mk 2 nm num ks) = true := h1
 unfold rule154 at h1
 simp only [Tr.nu_mk, Tr.kids_mk, Bool.and_eq_true, Bool.or_eq_true, beq_iff_eq] at h1
 exact ⟨h3 rfl, List.length_eq_zero_iff.1 (by omega), h1.1⟩
theorem values_get (l : KL) (ks : List Tr) : Tr.values l ks = ks.map (Tr.value l) := by
 induction ks with
 | nil => rw [Tr.values]; rfl
 | cons k r ih => rw [Tr.values, ih]; rfl
theorem v0_map (l : KL) (ks : List Tr) (i : Nat) : v0 (Tr.values l ks) i = match ks[i]? with | some k => k.value l | none => none := by
 rw [values_get]
 unfold v0
 rw [List.getD_eq_getElem?_getD, List.getElem?_map]
 cases ks[i]? <;> rfl
theorem value_ok (l : KL) (hl : KOk l) : ∀ n (t : Tr), t.size ≤ n → t.Ok → t.shaped = true → ∀ v, t.value l = some v → ValOk v := by
 intro n
 induction n with
 | zero => intro t h; exact absurd t.size_pos (by omega)
 | succ n ih =>
  intro t hsz hok hsh v hv
  obtain ⟨op, nm, num, ks⟩ := t
  have hkd : ∀ k ∈ ks, ∀ v, k.value l = some v → ValOk v := fun k hk => by
   have h1 := Tr.size_mem hk
   rw [Tr.size] at hsz
   exact ih k (by omega) (Tr.kids_ok hok k hk) ((Tr.shaped_mk hsh).2 k hk)
  have hv0 : ∀ i v, v0 (Tr.values l ks) i = some v → ValOk v := fun i v h => by
   rw [v0_map] at h
   cases hk : ks[i]? with
   | none => rw [hk] at h; cases h
   | some k => rw [hk] at h; exact hkd k (mG hk) v h
  rw [Tr.value, valN] at hv
  split at hv
  · rename_i h
    injection hv with hv
    subst hv
    rw [Bool.or_eq_true, beq_iff_eq, beq_iff_eq] at h
    rcases h with rfl | rfl
    · obtain ⟨rfl, rfl⟩ := lit1 hsh
      refine .inl ⟨num, ?_, rfl⟩
      cases hok with | mk h1 h2 h3 h4 h5 =>
      simpa [Lit.wf, IntKind.min, IntKind.max, IntKind.signed, IntKind.bits, wf64] using h3
    · obtain ⟨rfl, rfl, rfl | rfl⟩ := lit2 hsh
      · exact .inr ⟨false, rfl⟩
      · exact .inr ⟨true, rfl⟩
  · split at hv
    · exact findK_ok hl v hv
    · split at hv
      · exact unaryV_ok hv
      · split at hv
        · exact binV_ok (hv0 0) (hv0 1) hv
        · split at hv
          · split at hv
            · cases hv
            · exact hv0 _ v hv
          · split at hv
            · split at hv
              · injection hv with hv; subst hv; exact .inl ⟨_, sizeS_wf _ _ _, rfl⟩
              · cases hv
            · cases hv
theorem c104n (l : KL) (hl : KOk l) : ∀ n (t : Tr), t.size ≤ n → t.Ok → t.shaped = true → Pf Tryz.prog 104 [t.d, knD l] (.d (valD (t.value l))) ∧ Pf Tryz.prog 185 [t.d, knD l] (.tup [.d (.agg [.int .i64 (t.span l).1.1, .int .i64 (t.span l).1.2.1, .int .i64 (t.span l).1.2.2]), .d (.bool (t.span l).2)]) := by
 intro n
 induction n with
 | zero => intro t h; exact absurd t.size_pos (by omega)
 | succ n ih =>
  intro t hsz hok hsh
  obtain ⟨op, nm, num, ks⟩ := t
  have hkd : ∀ k ∈ ks, Pf Tryz.prog 104 [k.d, knD l] (.d (valD (k.value l))) ∧ Pf Tryz.prog 185 [k.d, knD l] (.tup [.d (.agg [.int .i64 (k.span l).1.1, .int .i64 (k.span l).1.2.1, .int .i64 (k.span l).1.2.2]), .d (.bool (k.span l).2)]) := fun k hk => by
   have h1 := Tr.size_mem hk
   rw [Tr.size] at hsz
   exact ih k (by omega) (Tr.kids_ok hok k hk) ((Tr.shaped_mk hsh).2 k hk)
  rw [Tr.d_mk, Tr.value, Tr.span]
  refine ⟨c104x l op nm num ks _ _ (fun h => ?_) (fun h => ?_) (fun h => ?_) (fun h => ?_), c185x l op nm num ks _ _ (fun h => ?_) (fun h => ?_)⟩
  · obtain rfl := eq_of_beq h
    obtain ⟨k0, rfl⟩ := list1 (len5 hsh)
    exact ⟨k0, _, rfl, rfl, (hkd k0 (by simp)).1⟩
  · obtain rfl := eq_of_beq h
    obtain ⟨k0, k1, rfl⟩ := list2 (len6 hsh)
    exact ⟨k0, k1, _, _, rfl, rfl, (hkd k0 (by simp)).1, (hkd k1 (by simp)).1⟩
  · obtain rfl := eq_of_beq h
    obtain ⟨k0, k1, k2, rfl⟩ := list3 (len19 hsh)
    refine ⟨k0, k1, k2, _, _, _, rfl, rfl, (hkd k0 (by simp)).1, (hkd k1 (by simp)).1, (hkd k2 (by simp)).1, fun t ht h2 => ?_⟩
    exact (value_ok l hl _ k0 (Nat.le_refl _) (Tr.kids_ok hok k0 (by simp [Tr.kids])) ((Tr.shaped_mk hsh).2 k0 (by simp)) t ht).num h2
  · obtain rfl := eq_of_beq h
    obtain ⟨k0, rfl⟩ := list1 (len14 hsh)
    exact ⟨k0, _, rfl, rfl, (hkd k0 (by simp)).2, Tr.span_wf l _ k0 (Nat.le_refl _)⟩
  · obtain rfl := eq_of_beq h
    obtain ⟨k0, k1, rfl⟩ := list2 (len7 hsh)
    exact ⟨k0, k1, _, _, rfl, rfl, (hkd k0 (by simp)).1, (hkd k1 (by simp)).1⟩
  · rw [Bool.or_eq_true, beq_iff_eq, beq_iff_eq] at h
    have hlen : ks.length = 2 := by
     rcases h with rfl | rfl
     · exact len8 hsh
     · exact len9 hsh
    obtain ⟨k0, k1, rfl⟩ := list2 hlen
    exact ⟨k0, k1, _, _, _, _, rfl, rfl, rfl, (hkd k0 (by simp)).2, Tr.span_wf l _ k0 (Nat.le_refl _), (hkd k1 (by simp)).1⟩
theorem c104 (l : KL) (hl : KOk l) (t : Tr) (hok : t.Ok) (hsh : t.shaped = true) : Pf Tryz.prog 104 [t.d, knD l] (.d (valD (t.value l))) := (c104n l hl _ t (Nat.le_refl _) hok hsh).1
end
section
inductive Tr.Lens : Tr → Prop
 | mk {op : Int} {name : ByteArray} {num : Int} {ks : List Tr} (h4 : ks.length ≤ 1000000) (h5 : ∀ k ∈ ks, Tr.Lens k) : Tr.Lens (.mk op name num ks)
theorem Tr.lens_of : ∀ n (t : Tr), t.size ≤ n → t.size ≤ 1000000 → t.Lens := by
 intro n
 induction n with
 | zero => intro t h; exact absurd t.size_pos (by omega)
 | succ n ih =>
  intro t h hb
  obtain ⟨op, nm, num, ks⟩ := t
  have hl := Tr.len_sizes ks
  rw [Tr.size] at h hb
  exact .mk (by omega) fun k hk => by have := Tr.size_mem hk; exact ih k (by omega) (by omega)
theorem ValOk.lens {v : Tr} (h : ValOk v) : v.Lens := by
 rcases h with ⟨n, _, rfl⟩ | ⟨b, rfl⟩
 · exact .mk (by simp) (by simp)
 · exact .mk (by simp) (by simp)
variable {z : Nat}
theorem take_map {ks : List Tr} {k : Tr} (f : Tr → Tr) (h : ks[z]? = some k) : ((ks.take z).map f).map Tr.d ++ [(f k).d] = ((ks.take (z + 1)).map f).map Tr.d := by rw [List.take_add_one, h, List.map_append, List.map_append]; rfl
set_option maxHeartbeats 4000000 in
theorem c101 (ks : List Tr) (g : FuncId) (fc : List D) (f : Tr → Tr) (hlim : ks.length ≤ 1000000)
 (hcb : ∀ (i : Int), ∀ x ∈ ks, Pf Tryz.prog g ([] ++ [.int .i64 i, x.d] ++ fc) (.d (f x).d)) : Pf Tryz.prog 101 [.sl (ks.map Tr.d), .fn (.func g) [] fc] (.d (.sl ((ks.map f).map Tr.d))) := by
 refine pf_body (rvs := [.tmp 4]) [(0, .d (.sl (ks.map Tr.d))), (1, .d (.fn (.func g) [] fc))] Tryz.func101 Tryz.ntmps101 Tryz.results101 (fun S0 O0 w0 m0 hm0 => ?_)
 refine Z240 ?_;refine Z256 ?_;refine Z273 ?_
 refine g_loop (α := Nat) (fun z => ⟨[(10, .d (.int .i64 (z : Nat))), (9, .d (.int .i64 ((ks.map Tr.d).length : Nat))), (8, .d (.sl (ks.map Tr.d))), (5, .osl 4 (((ks.take z).map f).map Tr.d)), (1, .d (.fn (.func g) [] fc))], []⟩) (fun z => ks.length - z) (fun z => z ≤ ks.length) 0 (Nat.zero_le _) (fun z hz Q' hn0 he0 hr0 => ?_) (le_of)
 have hll : ((ks.take z).map f).length = z := by rw [List.length_map, List.length_take]; omega
 refine Z248 ?_
 refine gC ?_ ?_ <;> intro hb0
 ·
  have hlt : z < ks.length := by simpa using hb0
  obtain ⟨k, hk⟩ : ∃ k, ks[z]? = some k := ⟨_, gE hlt⟩
  have hmem := mG hk
  have hxd := Tr.ds_get hk
  have hxa := hxd
  obtain ⟨kop, knm, knu, kks, hka⟩ := k.d_agg
  rw [hka] at hxa
  obtain ⟨fop, fnm, fnu, fks, hfa⟩ := (f k).d_agg
  refine Z268 ?_;refine Z258 ?_;refine Z29 ?_;refine Z1 ?_;refine Z21 ?_;refine Z63 ?_;refine Z162 ?_;refine Z184 ?_;refine Z231 ?_;refine Z8 ?_
  refine gL (xs := [.tmp 17, .tmp 18]) rfl ((hfa ▸ hka ▸ hcb (z : Nat) k hmem)) ?_
  refine Z176 ?_;refine Z83 ?_
  rw [← hfa, take_map f hk]
  refine Z125 ?_;refine Z222 ?_;refine Z209 ?_;refine Z285 ?_
  refine hn0 _ (z + 1) (by omega) (by omega) le_of
 have hge : z = ks.length := by
  have : ¬ (z : Int) < (ks.map Tr.d).length := by simpa using hb0
  rw [List.length_map] at this
  omega
 refine Z259 ?_
 rw [hge, List.take_length]
 refine Z0 ?_;refine Z229 ?_
 exact ⟨rfl, rfl⟩
theorem c178 (t : Tr) (i : Int) (f : Tr → Tr) (h : Pf Tryz.prog 100 [t.d] (.d (f t).d)) : Pf Tryz.prog 178 [.int .i64 i, t.d] (.d (f t).d) := by
 obtain ⟨op, name, num, ks⟩ := t
 rw [Tr.d_mk]
 try simp only [Tr.op_mk, Tr.nm_mk, Tr.nu_mk, Tr.kids_mk]
 refine pf_body (rvs := [.cell 4 27]) [(0, .d (.int .i64 i)), (1, .d (.agg [.int .i64 op, .str name, .int .i64 num, .sl (ks.map Tr.d)]))] Tryz.func178 Tryz.ntmps178 Tryz.results178 (fun S0 O0 w0 m0 hm0 => ?_)
 refine Z3 ?_
 obtain ⟨fop, fnm, fnu, fks, hfa⟩ := (f (.mk op name num ks)).d_agg
 refine Z13 ?_;refine Z9 ?_;refine Z29 ?_;refine Z5 ?_;refine Z8 ?_
 refine gL (xs := [.tmp 5]) rfl ((hfa ▸ Tr.d_mk op name num ks ▸ h)) ?_
 refine Z21 ?_;refine Z7 ?_;refine Z140 ?_
 exact ⟨by rw [hfa], rfl⟩
set_option maxHeartbeats 4000000 in
theorem c100n : ∀ (n : Nat) (t : Tr), t.size ≤ n → t.Lens → Pf Tryz.prog 100 [t.d] (.d t.d) := by
 intro n
 induction n with
 | zero => intro t h; exact absurd t.size_pos (by omega)
 | succ n ih =>
  intro t hsz hok
  obtain ⟨op, name, num, ks⟩ := t
  have hkd : ∀ k ∈ ks, k.size ≤ n := fun k hk => by
   have := Tr.size_mem hk
   rw [Tr.size] at hsz
   omega
  rw [Tr.d_mk]
  cases hok with | mk h4 h5 =>
  refine pf_body (rvs := [.cell 2 27]) [(0, .d (.agg [.int .i64 op, .str name, .int .i64 num, .sl (ks.map Tr.d)]))] Tryz.func100 Tryz.ntmps100 Tryz.results100 (fun S0 O0 w0 m0 hm0 => ?_)
  refine Z232 ?_;refine Z29 ?_;refine Z5 ?_;refine Z82 ?_
  refine sv rfl (y_load_leaf u22) ?_
  refine gL (xs := [.tmp 4, .func 178]) rfl (c101 ks 178 [] id h4 (fun i x hx => c178 x i id (ih x (hkd x hx) (h5 x hx)))) ?_
  rw [List.map_id]
  refine Z82 ?_;refine Z175 ?_;refine Z5 ?_;refine Z60 ?_;refine Z21 ?_;refine Z7 ?_;refine Z140 ?_
  exact ⟨by rfl, rfl⟩
theorem c100 (t : Tr) (h : t.Lens) : Pf Tryz.prog 100 [t.d] (.d t.d) := c100n _ t (Nat.le_refl _) h
def cD (c : ByteArray × Tr) : D := .agg (.str c.1 :: c.2.d.cells)
theorem cD_agg (c : ByteArray × Tr) : ∃ op name num ks, c.2 = .mk op name num ks ∧ cD c = .agg [.str c.1, .int .i64 op, .str name, .int .i64 num, .sl (ks.map Tr.d)] := by
 obtain ⟨n, op, name, num, ks⟩ := c
 exact ⟨op, name, num, ks, rfl, by unfold cD; rw [Tr.d_mk]; rfl⟩
theorem cD_get {l : List (ByteArray × Tr)} {c : ByteArray × Tr} (h : l[z]? = some c) : (l.map cD)[z]? = some (cD c) := by rw [List.getElem?_map, h]; rfl
def badC : ByteArray × Tr → Bool
 | (_, .mk op name num ks) => (op != 1 && op != 2) || nodeE (.mk op name num ks) != 0
theorem c180 (cn : ByteArray) (op : Int) (name : ByteArray) (num : Int) (ks : List Tr) (hok : (Tr.mk op name num ks).Ok) (hszb : (Tr.mk op name num ks).size ≤ 1000000000) : Pf Tryz.prog 180 [.agg [.str cn, .int .i64 op, .str name, .int .i64 num, .sl (ks.map Tr.d)]] (.d (.bool (badC (cn, .mk op name num ks)))) := by
 refine pf_body (rvs := [.tmp 2]) [(0, .d (.agg [.str cn, .int .i64 op, .str name, .int .i64 num, .sl (ks.map Tr.d)]))] Tryz.func180 Tryz.ntmps180 Tryz.results180 (fun S0 O0 w0 m0 hm0 => ?_)
 refine Z232 ?_
 refine gF 0 [] (.agg [.str cn, .int .i64 op, .str name, .int .i64 num, .sl (ks.map Tr.d)]) rfl ?_
 refine Z230 ?_
 refine vq rfl (q_fieldp_agg u66 rfl sz27) ?_
 refine vq rfl (qG (ds := [.int .i64 op, .str name, .int .i64 num, .sl (ks.map Tr.d)]) (by exact sz27) u27 rfl) ?_
 refine Z269 ?_;refine Z9 ?_;refine Z5 ?_;refine Z238 ?_;refine Z57 ?_;refine Z263 ?_
 refine sg rfl (fun hg => sP 10 rfl hg (qL u3)) ?_
 refine sg rfl (fun hg => sP 11 rfl hg q_neq) ?_
 refine Z241 ?_;refine Z70 ?_
 refine g_callg (xs := [.tmp 15]) rfl (fun hg => (Tr.d_mk op name num ks ▸ c24 (.mk op name num ks) hok hszb)) ?_
 refine sg rfl (fun hg => sP 16 rfl hg q_neq) ?_
 refine Z275 ?_
 exact ⟨rfl, rfl⟩
theorem c241 (ts : List (ByteArray × Tr)) (g : FuncId) (fa fc : List D) (p : ByteArray × Tr → Bool) (hlim : ts.length ≤ 140737488355328)
 (hcb : ∀ x ∈ ts, Pf Tryz.prog g (fa ++ [cD x] ++ fc) (.d (.bool (p x)))) : Pf Tryz.prog 241 [.sl (ts.map cD), .fn (.func g) fa fc] (.d (.int .i64 (idxL p ts))) := by
 refine pf_body (rvs := [.tmp 4]) [(0, .d (.sl (ts.map cD))), (1, .d (.fn (.func g) fa fc))] Tryz.func241 Tryz.ntmps241 Tryz.results241 (fun S0 O0 w0 m0 hm0 => ?_)
 refine Z272 ?_
 refine vq rfl (q_len u51) ?_
 refine Z246 ?_
 refine g_loop (α := Nat) (fun z => ⟨[(8, .d (.int .i64 (z : Nat))), (7, .d (.int .i64 ((ts.map cD).length : Nat))), (6, .d (.sl (ts.map cD))), (1, .d (.fn (.func g) fa fc)), (0, .d (.sl (ts.map cD)))], []⟩) (fun z => ts.length - z) (fun z => z ≤ ts.length ∧ ∀ i, i < z → ∀ x, ts[i]? = some x → p x = false) 0 ⟨Nat.zero_le _, by simp⟩ (fun z hz Q' hn0 he0 hr0 => ?_) (le_of)
 obtain ⟨hz1, hz2⟩ := hz
 refine Z248 ?_
 refine gC ?_ ?_ <;> intro hb0
 ·
  have hlt : z < ts.length := by simpa using hb0
  obtain ⟨x, hx⟩ : ∃ x, ts[z]? = some x := ⟨_, gE hlt⟩
  have hmem := mG hx
  have hxd := cD_get hx
  have hcx := hcb x hmem
  obtain ⟨op, name, num, kids, _, hca⟩ := cD_agg x
  rw [hca] at hxd hcx
  refine Z268 ?_;refine Z230 ?_;refine Z231 ?_;refine Z0 ?_
  refine vq rfl (qI u51 sz66) ?_
  refine vq rfl (qG (by exact sz66) u66 rfl) ?_
  refine Z211 ?_;refine Z10 ?_
  refine gC ?_ ?_ <;> intro hb1
  ·
   refine Z254 ?_;refine Z242 ?_;refine Z276 ?_
   exact Y2
  refine Z284 ?_
  refine hn0 _ (z + 1) ⟨by omega, idxL_step hz2 hx hb1⟩ (by omega) le_of
 have hge : z = ts.length := by
  have : ¬ (z : Int) < (ts.map cD).length := by simpa using hb0
  rw [List.length_map] at this
  omega
 refine Z259 ?_;refine Z228 ?_
 exact Y3
theorem c179 (ts : List (ByteArray × Tr)) (g : FuncId) (fa fc : List D) (p : ByteArray × Tr → Bool) (hlim : ts.length ≤ 140737488355328)
 (hcb : ∀ x ∈ ts, Pf Tryz.prog g (fa ++ [cD x] ++ fc) (.d (.bool (p x)))) : Pf Tryz.prog 179 [.sl (ts.map cD), .fn (.func g) fa fc] (.d (.bool (ts.any p))) := by
 refine pf_body (rvs := [.tmp 4]) [(0, .d (.sl (ts.map cD))), (1, .d (.fn (.func g) fa fc))] Tryz.func179 Tryz.ntmps179 Tryz.results179 (fun S0 O0 w0 m0 hm0 => ?_)
 refine Z274 ?_
 refine gL (xs := [.tmp 5, .tmp 6]) rfl (c241 ts g fa fc p hlim hcb) ?_
 refine Z99 ?_;refine Z229 ?_
 exact Y5
def constsB (l : List (ByteArray × Tr)) : Bool := !(l.any badC)
def COk (l : List (ByteArray × Tr)) : Prop := l.length ≤ 1000 ∧ ∀ c ∈ l, c.2.Ok ∧ c.2.size ≤ 1000000
theorem badC_nil : constsB [] = true := rfl
def kl (l : List (ByteArray × Tr)) : KL := (l.map fun c => (c.1, some c.2)).reverse
theorem kl_step {l : List (ByteArray × Tr)} {c : ByteArray × Tr} (h : l[z]? = some c) : kl (l.take (z + 1)) = (c.1, some c.2) :: kl (l.take z) := by
 unfold kl
 rw [List.take_add_one, h, List.map_append, List.reverse_append]; rfl
theorem knD_or (l : KL) : knD l = .nil ∨ ∃ d, knD l = .ptr d := by
 cases l with
 | nil => exact .inl rfl
 | cons x r => exact .inr ⟨_, rfl⟩
theorem c103 (l : List (ByteArray × Tr)) (hl : COk l) : Pf Tryz.prog 103 [.sl (l.map cD)] (.d (.bool (constsB l))) := by
 refine pf_body (rvs := [.tmp 2]) [(0, .d (.sl (l.map cD)))] Tryz.func103 Tryz.ntmps103 Tryz.results103 (fun S0 O0 w0 m0 hm0 => ?_)
 refine Z280 ?_
 refine gL (xs := [.tmp 3, .func 180]) rfl (c179 l 180 [] [] badC (by have := hl.1; omega) (fun x hx => by obtain ⟨op, name, num, ks, h1, h2⟩ := cD_agg x; have h3 := hl.2 x hx; rw [h1] at h3; rw [h2, show x = (x.1, .mk op name num ks) from by rw [← h1]]; exact c180 x.1 op name num ks h3.1 (by have := h3.2; omega))) ?_
 refine Z41 ?_;refine Z229 ?_
 exact ⟨rfl, rfl⟩
set_option maxHeartbeats 4000000 in
theorem c105 (l : List (ByteArray × Tr)) (hl : COk l) : Pf Tryz.prog 105 [.sl (l.map cD)] (.d (knD (kl l))) := by
 refine pf_body (rvs := [.tmp 2]) [(0, .d (.sl (l.map cD)))] Tryz.func105 Tryz.ntmps105 Tryz.results105 (fun S0 O0 w0 m0 hm0 => ?_)
 refine Z240 ?_;refine Z256 ?_
 refine vq rfl (q_len u51) ?_
 refine Z246 ?_
 refine g_loop (α := Nat) (fun z => ⟨[(7, .d (.int .i64 (z : Nat))), (6, .d (.int .i64 ((l.map cD).length : Nat))), (3, .d (knD (kl (l.take z)))), (0, .d (.sl (l.map cD)))], []⟩) (fun z => l.length - z) (fun z => z ≤ l.length) 0 (Nat.zero_le _) (fun z hz Q' hn0 he0 hr0 => ?_) (le_of)
 have hl1 := hl.1
 refine Z248 ?_
 refine gC ?_ ?_ <;> intro hb0
 ·
  have hlt : z < l.length := by simpa using hb0
  obtain ⟨c, hc⟩ : ∃ c, l[z]? = some c := ⟨_, gE hlt⟩
  have hxd := cD_get hc
  obtain ⟨op, name, num, ks, hct, hca⟩ := cD_agg c
  rw [hca] at hxd
  refine Z268 ?_;refine Z234 ?_
  rcases knD_or (kl (l.take z)) with hkd | ⟨kd, hkd⟩ <;> rw [hkd]
  ·
   refine G_drawB 13 rfl (by kernel_rfl) (fun S1 O1 w1 m1 hm1 hm2 => ?_)
   have hB1 : ∀ i, i < m1.length → (List.range m1.length).contains i = true := fun i hi => by simpa using hi
   refine bq 0 hB1 rfl qM ?_
   refine bq 1 hB1 rfl qM ?_
   refine bq 2 hB1 rfl (qI u51 sz66) ?_
   refine bq 3 hB1 rfl (qF u66 rfl sz9) ?_
   refine bq 4 hB1 rfl (qL u9) ?_
   refine bq 5 hB1 rfl qM ?_
   refine bq 6 hB1 rfl qM ?_
   refine bq 7 hB1 rfl (qI u51 sz66) ?_
   refine bq 8 hB1 rfl (q_fieldp_agg u66 rfl sz27) ?_
   refine GB_go ?_
   refine ga1 9 ?_
   refine Z0 ?_
   refine gN ⟨rfl, ?_⟩
   refine ga1 10 ?_
   refine Z124 ?_
   refine gN ⟨rfl, ?_⟩
   refine ga1 11 ?_
   refine Z13 ?_
   refine gN ⟨rfl, ?_⟩
   refine ga1 12 ?_
   refine Z1 ?_
   refine gN ⟨rfl, ?_⟩
   refine Z145 ?_;refine Z225 ?_
   refine gP [0, 2, 3, 4, 6, 7] ?_
   refine Z14 ?_
   refine gF 0 [] (.agg [.str c.1, .ptr (.agg [.int .i64 op, .str name, .int .i64 num, .sl (ks.map Tr.d)]), .nil]) rfl ?_
   rw [show D.ptr (.agg [.str c.1, .ptr (.agg [.int .i64 op, .str name, .int .i64 num, .sl (ks.map Tr.d)]), .nil]) = knD (kl (l.take (z + 1))) from by rw [kl_step hc, knD, valD, hct, Tr.d_mk, hkd]]
   refine Z239 ?_
   refine hn0 _ (z + 1) (by omega) (by omega) le_of
  refine G_drawB 13 rfl (by kernel_rfl) (fun S1 O1 w1 m1 hm1 hm2 => ?_)
  have hB1 : ∀ i, i < m1.length → (List.range m1.length).contains i = true := fun i hi => by simpa using hi
  refine bq 0 hB1 rfl qM ?_
  refine bq 1 hB1 rfl qM ?_
  refine bq 2 hB1 rfl (qI u51 sz66) ?_
  refine bq 3 hB1 rfl (qF u66 rfl sz9) ?_
  refine bq 4 hB1 rfl (qL u9) ?_
  refine bq 5 hB1 rfl qM ?_
  refine bq 6 hB1 rfl qM ?_
  refine bq 7 hB1 rfl (qI u51 sz66) ?_
  refine bq 8 hB1 rfl (q_fieldp_agg u66 rfl sz27) ?_
  refine GB_go ?_
  refine ga1 9 ?_
  refine Z0 ?_
  refine gN ⟨rfl, ?_⟩
  refine ga1 10 ?_
  refine Z124 ?_
  refine gN ⟨rfl, ?_⟩
  refine ga1 11 ?_
  refine Z13 ?_
  refine gN ⟨rfl, ?_⟩
  refine ga1 12 ?_
  refine Z1 ?_
  refine gN ⟨rfl, ?_⟩
  refine Z145 ?_;refine Z225 ?_
  refine gP [0, 2, 3, 4, 6, 7] ?_
  refine Z14 ?_
  refine gF 0 [] (.agg [.str c.1, .ptr (.agg [.int .i64 op, .str name, .int .i64 num, .sl (ks.map Tr.d)]), .ptr kd]) rfl ?_
  rw [show D.ptr (.agg [.str c.1, .ptr (.agg [.int .i64 op, .str name, .int .i64 num, .sl (ks.map Tr.d)]), .ptr kd]) = knD (kl (l.take (z + 1))) from by rw [kl_step hc, knD, valD, hct, Tr.d_mk, hkd]]
  refine Z239 ?_
  refine hn0 _ (z + 1) (by omega) (by omega) le_of
 have hge : z = l.length := by
  have : ¬ (z : Int) < (l.map cD).length := by simpa using hb0
  rw [List.length_map] at this
  omega
 refine Z259 ?_;refine Z0 ?_;refine Z229 ?_
 exact ⟨by rw [hge, List.take_length], rfl⟩
end
end Go.Proofs.YtklkbfpjimeaoaaGreat
