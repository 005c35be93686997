import Derived.Test.YtklkbfpjimeaoaaGreatM28
import Derived.Test.YtklkbfpjimeaoaaGreatM29
/- Contracts of functions. Conditions: none. -/
namespace Go.Proofs.YtklkbfpjimeaoaaGreat
open Go Go.Proofs.YtklkbfpjimeaoaaGreat.E
def optR (x : Tr × Bool) : Option Tr := if x.2 = true then some x.1 else none
theorem isV_optR (x : Tr × Bool) (k : Int) : isV (optR x) k = (x.2 && x.1.op == k) := by
  obtain ⟨t, b⟩ := x
  cases b <;> rfl
theorem nuV_optR {x : Tr × Bool} (h : x.2 = true) : nuV (optR x) = x.1.nu := by
  unfold optR
  rw [if_pos h]
  rfl
def shortR (nm : ByteArray) (x y : Tr × Bool) : Tr × Bool :=
  if (!x.2 || x.1.op != 2) = true then (x.1, false) else if ((x.1.nu == 1) == decide (nm = orB)) = true then (x.1, true) else (y.1, y.2 && y.1.op == 2)
def findR (nm : ByteArray) (l : List (ByteArray × Tr)) : Tr × Bool := match findK nm (kl l) with
  | some v => (v, true)
  | none => (z0, false)
def x0 (xs : List (Tr × Bool)) (i : Nat) : Tr × Bool := xs.getD i (z0, false)
def valNR (l : List (ByteArray × Tr)) (op : Int) (nm : ByteArray) (num : Int) (ks : List Tr) (xs : List (Tr × Bool)) (ss : List SP) : Tr × Bool :=
  if (op == 1 || op == 2) = true then (.mk op nm num ks, true)
  else if (op == 4) = true then findR nm l
  else if (op == 5) = true then (if (x0 xs 0).2 = true then unaryR nm (x0 xs 0).1 else (z0, false))
  else if (op == 6) = true then (if (decide (nm = andB) || decide (nm = orB)) = true then shortR nm (x0 xs 0) (x0 xs 1) else if ((x0 xs 0).2 && (x0 xs 1).2) = true then binR nm (x0 xs 0).1 (x0 xs 1).1 else (z0, false))
  else if (op == 19) = true then (if ((x0 xs 0).2 && (x0 xs 0).1.op == 2) = true then x0 xs (2 - (x0 xs 0).1.nu).toNat else (z0, false))
  else if (op == 14) = true then (if ((s0 ss).2 && decide (nm = sizeB)) = true then (intT (sizeS (s0 ss).1.1 (s0 ss).1.2.1 (s0 ss).1.2.2), true) else (z0, false))
  else (z0, false)
set_option maxHeartbeats 4000000 in
theorem c190x (l : List (ByteArray × Tr)) (op : Int) (nm : ByteArray) (num : Int) (k0 k1 : Tr) (x y : Tr × Bool) (q0 : Pf Tryz.prog 108 [k0.d, .sl (l.map cD)] (.tup [.d (x).1.d, .d (.bool (x).2)])) (q1 : Pf Tryz.prog 108 [k1.d, .sl (l.map cD)] (.tup [.d (y).1.d, .d (.bool (y).2)])) : Pf Tryz.prog 190 [.agg [.int .i64 op, .str nm, .int .i64 num, .sl ([k0, k1].map Tr.d)], .sl (l.map cD)] (.tup [.d (shortR nm x y).1.d, .d (.bool (shortR nm x y).2)]) := by
  refine pf_body (rvs := [.cell 4 27, .tmp 5]) [(0, .d (.agg [.int .i64 op, .str nm, .int .i64 num, .sl ([k0, k1].map Tr.d)])), (1, .d (.sl (l.map cD)))] Tryz.func190 Tryz.ntmps190 Tryz.results190 (fun S0 O0 w0 m0 hm0 => ?_)
  refine gS (gR ?_)
  obtain ⟨⟨xop, xnm, xnu, xks⟩, xb⟩ := x
  dsimp only at q0
  rw [Tr.d_mk] at q0
  obtain ⟨⟨yop, ynm, ynu, yks⟩, yb⟩ := y
  dsimp only at q1
  rw [Tr.d_mk] at q1
  obtain ⟨op0, nm0, nu0, ks0, ha0⟩ := k0.d_agg
  obtain ⟨op1, nm1, nu1, ks1, ha1⟩ := k1.d_agg
  have hx0 : ([k0, k1].map Tr.d)[0]? = some (.agg [.int .i64 op0, .str nm0, .int .i64 nu0, .sl (ks0.map Tr.d)]) := by rw [← ha0]; rfl
  have hx1 : ([k0, k1].map Tr.d)[1]? = some (.agg [.int .i64 op1, .str nm1, .int .i64 nu1, .sl (ks1.map Tr.d)]) := by rw [← ha1]; rfl
  refine sv rfl y_box ?_
  refine gF 0 [] (.agg [.int .i64 op, .str nm, .int .i64 num, .sl ([k0, k1].map Tr.d)]) rfl ?_
  refine sv rfl (y_alloc zr27) ?_
  refine vq rfl qA ?_
  refine gN (tN (gS (gR ?_)))
  refine vq rfl (qF u27 rfl sz22) ?_
  refine vq rfl (qL u22) ?_
  refine vq rfl (qI u22 sz27) ?_
  refine vq rfl (qG (by exact sz27) u27 rfl) ?_
  refine vq rfl qM ?_
  refine gL (xs := [.tmp 13, .tmp 14]) rfl ((ha0 ▸ q0)) ?_
  refine vq rfl qM ?_
  refine vq rfl qE ?_
  refine vq rfl qE ?_
  refine sv rfl (y_alloc zr27) ?_
  refine sa rfl (dS sz27) ?_
  refine vq rfl qA ?_
  refine gN (tN (gS (gS ?_)))
  refine gP [0, 1, 2, 4, 5, 6, 7, 8] ?_
  refine gR ?_
  refine vq rfl qM ?_
  refine vq rfl q_not ?_
  refine vq rfl qM ?_
  refine sg rfl (fun hg => q_fieldAddr u27 rfl sz3) ?_
  refine sg rfl (fun hg => sP 21 rfl hg (qO u3)) ?_
  refine sg rfl (fun hg => sP 22 rfl hg q_neq) ?_
  refine vq rfl q_or ?_
  refine gN (tN ?_)
  refine gC (fun hb0 => ?_) (fun hb0 => ?_)
  ·
    refine gS (gR ?_)
    refine sv rfl (y_load_agg sz27 u27 rfl) ?_
    refine sa rfl (dS sz27) ?_
    refine vq rfl qA ?_
    refine gN (tN (gT (tR ?_)))
    refine fincd sz27 u27 (by simp) ?_
    exact ⟨by rw [show shortR nm (Tr.mk xop xnm xnu xks, xb) (Tr.mk yop ynm ynu yks, yb) = ((Tr.mk xop xnm xnu xks, xb).1, false) from by rw [shortR, if_pos (show (!(Tr.mk xop xnm xnu xks, xb).2 || (Tr.mk xop xnm xnu xks, xb).1.op != 2) = true from hb0)]]; dsimp only; rw [Tr.d_mk], rfl⟩
  refine gK (tN (gS (gS (gR ?_))))
  refine sv rfl (y_fieldAt 2 u27 rfl sz3) ?_
  refine sv rfl (y_load_leaf u3) ?_
  refine vq rfl q_eql ?_
  refine vq rfl (qF u27 rfl sz9) ?_
  refine vq rfl (qL u9) ?_
  refine vq rfl q_streq ?_
  refine vq rfl (q_booleq u4) ?_
  refine gN (tN ?_)
  refine gC (fun hb1 => ?_) (fun hb1 => ?_)
  ·
    refine gS ?_
    refine gP [0, 1, 2, 4, 5, 6, 7, 8] ?_
    refine gR ?_
    refine sv rfl (y_load_agg sz27 u27 rfl) ?_
    refine sa rfl (dS sz27) ?_
    refine vq rfl qA ?_
    refine gN (tN (gT (tR ?_)))
    refine fincd sz27 u27 (by simp) ?_
    exact ⟨by rw [show shortR nm (Tr.mk xop xnm xnu xks, xb) (Tr.mk yop ynm ynu yks, yb) = ((Tr.mk xop xnm xnu xks, xb).1, true) from by rw [shortR, if_neg (by rw [show (!(Tr.mk xop xnm xnu xks, xb).2 || (Tr.mk xop xnm xnu xks, xb).1.op != 2) = false from hb0]; decide), if_pos (show (((Tr.mk xop xnm xnu xks, xb).1.nu == 1) == decide (nm = orB)) = true from hb1)]]; dsimp only; rw [Tr.d_mk], rfl⟩
  refine gK (tN (gS ?_))
  refine gP [0, 1, 2, 4, 5, 6, 7, 8] ?_
  refine gR ?_
  refine vq rfl (qF u27 rfl sz22) ?_
  refine vq rfl (qL u22) ?_
  refine vq rfl (qI u22 sz27) ?_
  refine vq rfl (qG (by exact sz27) u27 rfl) ?_
  refine vq rfl qM ?_
  refine gL (xs := [.tmp 38, .tmp 39]) rfl ((ha1 ▸ q1)) ?_
  refine vq rfl qM ?_
  refine vq rfl qE ?_
  refine vq rfl qE ?_
  refine sv rfl (y_alloc zr27) ?_
  refine sa rfl (dS sz27) ?_
  refine vq rfl qA ?_
  refine gN (tN (gS ?_))
  refine gP [0, 1, 2, 4, 5, 6, 7, 8] ?_
  refine g_cg [43, 44, 45, 46, 47, 48, 49, 5] (fun bq => [cond (bq 7) [.d (.int .i64 yop), .d (.str ynm), .d (.int .i64 ynu), .d (.sl (yks.map Tr.d))] [.d (.int .i64 0), .d (.str ⟨#[]⟩), .d (.int .i64 0), .nils], [.d (.int .i64 xop), .d (.str xnm), .d (.int .i64 xnu), .d (.sl (xks.map Tr.d))], [.d (.int .i64 yop), .d (.str ynm), .d (.int .i64 ynu), .d (.sl (yks.map Tr.d))]]) rfl ?_
  refine cP [] ?_
  refine cS 1 (fun bq rest hc1 hc2 hc3 => sv rfl (y_load_agg sz27 u27 rfl) (gN ⟨rfl, rfl⟩)) ?_
  refine cP [] ?_
  refine cS 2 (fun bq rest hc1 hc2 hc3 => vq rfl qM (gN ⟨rfl, rfl⟩)) ?_
  refine cP [1] ?_
  refine cS 3 (fun bq rest hc1 hc2 hc3 => vq rfl qM (gN ⟨rfl, rfl⟩)) ?_
  refine cP [2] ?_
  refine cS 4 (fun bq rest hc1 hc2 hc3 => sg rfl (fun hg => q_fieldAddr u27 rfl sz3) (gN ⟨rfl, rfl⟩)) ?_
  refine cP [3, 2] ?_
  refine cS 5 (fun bq rest hc1 hc2 hc3 => sg rfl (fun hg => sP 46 rfl hg (qO u3)) (gN ⟨rfl, rfl⟩)) ?_
  refine cP [4, 2] ?_
  refine cS 6 (fun bq rest hc1 hc2 hc3 => sg rfl (fun hg => sP 47 rfl hg q_eql) (gN ⟨rfl, rfl⟩)) ?_
  refine cP [2, 5] ?_
  refine cS 7 (fun bq rest hc1 hc2 hc3 => vq rfl q_and (gN ⟨rfl, rfl⟩)) ?_
  refine cP [0, 2, 0] ?_
  refine cg_act 8 (fun bq rest hc1 hc2 hc3 => by
      have e2 : upd bq 7 7 = true := rfl
      simp only [hc1, cond_false]
      refine sa rfl (dS sz27) ?_
      exact (gN ⟨rfl, by rw [e2]; rfl⟩)) ?_
  refine cP [6, 7, 0, 1, 2, 3, 4, 5, 6, 7] ?_
  refine cS 9 (fun bq rest hc1 hc2 hc3 => vq rfl qA (gN ⟨rfl, rfl⟩)) ?_
  refine cg_done (mem'' := [[.d (.int .i64 yop), .d (.str ynm), .d (.int .i64 ynu), .d (.sl (yks.map Tr.d))], [.d (.int .i64 xop), .d (.str xnm), .d (.int .i64 xnu), .d (.sl (xks.map Tr.d))], [.d (.int .i64 yop), .d (.str ynm), .d (.int .i64 ynu), .d (.sl (yks.map Tr.d))]]) ?_
  refine tN (gT ?_)
  refine fincd sz27 u27 (by simp) ?_
  exact ⟨by rw [show shortR nm (Tr.mk xop xnm xnu xks, xb) (Tr.mk yop ynm ynu yks, yb) = ((Tr.mk yop ynm ynu yks, yb).1, yb && yop == 2) from by rw [shortR, if_neg (by rw [show (!(Tr.mk xop xnm xnu xks, xb).2 || (Tr.mk xop xnm xnu xks, xb).1.op != 2) = false from hb0]; decide), if_neg (by rw [show (((Tr.mk xop xnm xnu xks, xb).1.nu == 1) == decide (nm = orB)) = false from hb1]; decide)]; rfl]; dsimp only; rw [Tr.d_mk], rfl⟩
set_option maxHeartbeats 8000000 in
theorem c192x (l : List (ByteArray × Tr)) (op : Int) (nm : ByteArray) (num : Int) (ks : List Tr) (xs : List (Tr × Bool)) (ss : List SP)
    (h : (op == 7 || op == 8 || op == 9) = true → ∃ k0 k1 x y r ss', ks = [k0, k1] ∧ xs = [x, y] ∧ ss = r :: ss' ∧ Pf Tryz.prog 108 [k0.d, .sl (l.map cD)] (.tup [.d (x).1.d, .d (.bool (x).2)]) ∧ Pf Tryz.prog 108 [k1.d, .sl (l.map cD)] (.tup [.d (y).1.d, .d (.bool (y).2)]) ∧ Pf Tryz.prog 192 [k0.d, .sl (l.map cD)] (.tup [.d (.agg [.int .i64 r.1.1, .int .i64 r.1.2.1, .int .i64 r.1.2.2]), .d (.bool r.2)]) ∧ (r.2 = true → Good r.1.1 r.1.2.1 r.1.2.2)) : Pf Tryz.prog 192 [.agg [.int .i64 op, .str nm, .int .i64 num, .sl (ks.map Tr.d)], .sl (l.map cD)] (.tup [.d (.agg [.int .i64 (spanN op (xs.map optR) ss).1.1, .int .i64 (spanN op (xs.map optR) ss).1.2.1, .int .i64 (spanN op (xs.map optR) ss).1.2.2]), .d (.bool (spanN op (xs.map optR) ss).2)]) := by
  refine pf_body (rvs := [.cell 4 199, .tmp 5]) [(0, .d (.agg [.int .i64 op, .str nm, .int .i64 num, .sl (ks.map Tr.d)])), (1, .d (.sl (l.map cD)))] Tryz.func192 Tryz.ntmps192 Tryz.results192 (fun S0 O0 w0 m0 hm0 => ?_)
  refine gS (gR ?_)
  refine sv rfl y_box ?_
  refine gF 0 [] (.agg [.int .i64 op, .str nm, .int .i64 num, .sl (ks.map Tr.d)]) rfl ?_
  refine sv rfl (y_alloc zr199) ?_
  refine vq rfl qA ?_
  refine gN (tN (gS (gS (gR ?_))))
  refine vq rfl (qF u27 rfl sz3) ?_
  refine vq rfl (qL u3) ?_
  refine vq rfl q_neq ?_
  refine vq rfl qM ?_
  refine sg rfl (fun hg => qF u27 rfl sz3) ?_
  refine sg rfl (fun hg => sP 17 rfl hg (qL u3)) ?_
  refine sg rfl (fun hg => sP 18 rfl hg q_neq) ?_
  refine vq rfl q_and ?_
  refine vq rfl qM ?_
  refine sg rfl (fun hg => qF u27 rfl sz3) ?_
  refine sg rfl (fun hg => sP 22 rfl hg (qL u3)) ?_
  refine sg rfl (fun hg => sP 23 rfl hg q_neq) ?_
  refine vq rfl q_and ?_
  refine gN (tN ?_)
  refine gC (fun hb0 => ?_) (fun hb0 => ?_)
  ·
    have ho : (op == 7 || op == 8 || op == 9) = false := by
      have h := hb0
      cases h7 : (op == 7) <;> cases h8 : (op == 8) <;> cases h9 : (op == 9) <;> simp [bne, h7, h8, h9] at h ⊢
    refine gS ?_
    refine gP [0, 1, 2, 4, 5, 6, 7, 8, 9, 10, 11, 12] ?_
    refine gR ?_
    refine vq rfl (q_buildS pl199 zr199) ?_
    refine sa rfl (dS sz199) ?_
    refine vq rfl qA ?_
    refine gN (tN (gT (tR ?_)))
    refine fincd sz199 u199 (by simp) ?_
    exact ⟨by rw [show spanN op (xs.map optR) ss = noSP from by rw [spanN, if_neg (by simp at ho; simp; exact ho.1.1), if_neg (by simp at ho; simp; exact ⟨ho.1.2, ho.2⟩)]]; rfl, rfl⟩
  have ho : (op == 7 || op == 8 || op == 9) = true := by
    have h := hb0
    cases h7 : (op == 7) <;> cases h8 : (op == 8) <;> cases h9 : (op == 9) <;> simp [bne, h7, h8, h9] at h ⊢
  obtain ⟨k0, k1, x, y, r, ss', hks, hxs, hss, q0, q1, q2, hgd⟩ := h ho
  obtain ⟨⟨xop, xnm, xnu, xks⟩, xb⟩ := x
  dsimp only at q0
  rw [Tr.d_mk] at q0
  obtain ⟨⟨yop, ynm, ynu, yks⟩, yb⟩ := y
  dsimp only at q1
  rw [Tr.d_mk] at q1
  obtain ⟨op0, nm0, nu0, ks0, ha0⟩ := k0.d_agg
  have hx0 : (ks.map Tr.d)[0]? = some (.agg [.int .i64 op0, .str nm0, .int .i64 nu0, .sl (ks0.map Tr.d)]) := by rw [hks, ← ha0]; rfl
  obtain ⟨op1, nm1, nu1, ks1, ha1⟩ := k1.d_agg
  have hx1 : (ks.map Tr.d)[1]? = some (.agg [.int .i64 op1, .str nm1, .int .i64 nu1, .sl (ks1.map Tr.d)]) := by rw [hks, ← ha1]; rfl
  refine gK (tN (gS ?_))
  refine gP [0, 1, 2, 4, 5, 6, 7, 8, 9, 10, 11, 12] ?_
  refine gR ?_
  refine vq rfl (qF u27 rfl sz22) ?_
  refine vq rfl (qL u22) ?_
  refine vq rfl (qI u22 sz27) ?_
  refine vq rfl (qG (by exact sz27) u27 rfl) ?_
  refine vq rfl qM ?_
  refine gL (xs := [.tmp 31, .tmp 32]) rfl ((ha1 ▸ q1)) ?_
  refine vq rfl qM ?_
  refine vq rfl qE ?_
  refine vq rfl qE ?_
  refine sv rfl (y_alloc zr27) ?_
  refine sa rfl (dS sz27) ?_
  refine vq rfl qA ?_
  refine gN (tN (gS (gS ?_)))
  refine gP [0, 1, 2, 4, 5, 6, 7, 8, 9, 10, 11, 12] ?_
  refine gR ?_
  refine vq rfl qM ?_
  refine vq rfl q_not ?_
  refine vq rfl qM ?_
  refine sg rfl (fun hg => q_fieldAddr u27 rfl sz3) ?_
  refine sg rfl (fun hg => sP 39 rfl hg (qO u3)) ?_
  refine sg rfl (fun hg => sP 40 rfl hg q_neq) ?_
  refine vq rfl q_or ?_
  refine gN (tN ?_)
  refine gC (fun hb1 => ?_) (fun hb1 => ?_)
  ·
    have hy : isV (optR (Tr.mk yop ynm ynu yks, yb)) 1 = false := by rw [isV_optR]; have h := hb1; cases yb <;> simp [bne] at h ⊢ <;> exact h
    refine gS (gR ?_)
    refine vq rfl (q_buildS pl199 zr199) ?_
    refine sa rfl (dS sz199) ?_
    refine vq rfl qA ?_
    refine gN (tN (gT (tR ?_)))
    refine fincd sz199 u199 (by simp) ?_
    exact ⟨by rw [show spanN op (xs.map optR) ss = noSP from by rw [spanN, hxs, hss, show v0 ([(Tr.mk xop xnm xnu xks, xb), (Tr.mk yop ynm ynu yks, yb)].map optR) 1 = optR (Tr.mk yop ynm ynu yks, yb) from rfl, hy]; simp only [Bool.not_false, Bool.or_true, if_true]; split <;> first | rfl | (split <;> rfl)]; rfl, rfl⟩
  have hy : isV (optR (Tr.mk yop ynm ynu yks, yb)) 1 = true := by rw [isV_optR]; have h := hb1; cases yb <;> simp [bne] at h ⊢ <;> exact h
  have hyb : yb = true := by rw [isV_optR] at hy; exact (Bool.and_eq_true_iff.1 hy).1
  have hyn := nuV_optR (x := (Tr.mk yop ynm ynu yks, yb)) hyb
  refine gK (tN (gS (gR ?_)))
  refine vq rfl qA ?_
  refine gN (tN (gS (gR ?_)))
  refine vq rfl (q_buildS pl199 zr199) ?_
  refine sv rfl (y_alloc zr199) ?_
  refine sa rfl (dS sz199) ?_
  refine gN (tN (gS (gS (gR ?_))))
  refine vq rfl (qF u27 rfl sz3) ?_
  refine vq rfl (qL u3) ?_
  refine vq rfl q_eql ?_
  refine gN (tN ?_)
  refine gC (fun hb2 => ?_) (fun hb2 => ?_)
  ·
    refine gS ?_
    refine gP [0, 1, 2, 4, 5, 6, 7, 8, 9, 10, 11, 12] ?_
    refine gR ?_
    refine vq rfl (qF u27 rfl sz22) ?_
    refine vq rfl (qL u22) ?_
    refine vq rfl (qI u22 sz27) ?_
    refine vq rfl (qG (by exact sz27) u27 rfl) ?_
    refine vq rfl qM ?_
    refine gL (xs := [.tmp 52, .tmp 53]) rfl ((ha0 ▸ q0)) ?_
    refine vq rfl qM ?_
    refine vq rfl qE ?_
    refine vq rfl qE ?_
    refine sv rfl (y_alloc zr27) ?_
    refine sa rfl (dS sz27) ?_
    refine vq rfl qA ?_
    refine gN (tN (gS (gS ?_)))
    refine gP [0, 1, 2, 4, 5, 6, 7, 8, 9, 10, 11, 12] ?_
    refine gR ?_
    refine vq rfl qM ?_
    refine vq rfl q_not ?_
    refine vq rfl qM ?_
    refine sg rfl (fun hg => q_fieldAddr u27 rfl sz3) ?_
    refine sg rfl (fun hg => sP 60 rfl hg (qO u3)) ?_
    refine sg rfl (fun hg => sP 61 rfl hg q_neq) ?_
    refine vq rfl q_or ?_
    refine gN (tN ?_)
    refine gC (fun hb3 => ?_) (fun hb3 => ?_)
    ·
      have hx : isV (optR (Tr.mk xop xnm xnu xks, xb)) 1 = false := by rw [isV_optR]; have h := hb3; cases xb <;> simp [bne] at h ⊢ <;> exact h
      refine gS (gR ?_)
      refine sv rfl (y_load_agg sz199 u199 rfl) ?_
      refine sa rfl (dS sz199) ?_
      refine vq rfl qA ?_
      refine gN (tN (gT (tR (tR ?_))))
      refine fincd sz199 u199 (by simp) ?_
      exact ⟨by rw [show spanN op (xs.map optR) ss = noSP from by rw [spanN, if_pos hb2, hxs, if_pos (show (!isV (v0 ([(Tr.mk xop xnm xnu xks, xb), (Tr.mk yop ynm ynu yks, yb)].map optR) 0) 1 || !isV (v0 ([(Tr.mk xop xnm xnu xks, xb), (Tr.mk yop ynm ynu yks, yb)].map optR) 1) 1) = true from by rw [show v0 ([(Tr.mk xop xnm xnu xks, xb), (Tr.mk yop ynm ynu yks, yb)].map optR) 0 = optR (Tr.mk xop xnm xnu xks, xb) from rfl, hx]; rfl)]]; rfl, rfl⟩
    have hx : isV (optR (Tr.mk xop xnm xnu xks, xb)) 1 = true := by rw [isV_optR]; have h := hb3; cases xb <;> simp [bne] at h ⊢ <;> exact h
    have hxb : xb = true := by rw [isV_optR] at hx; exact (Bool.and_eq_true_iff.1 hx).1
    have hxn := nuV_optR (x := (Tr.mk xop xnm xnu xks, xb)) hxb
    refine gK (tN (gS (gR ?_)))
    refine sv rfl (y_fieldAt 2 u27 rfl sz3) ?_
    refine sv rfl (y_load_leaf u3) ?_
    refine sv rfl (y_fieldAt 2 u27 rfl sz3) ?_
    refine sv rfl (y_load_leaf u3) ?_
    refine gL (xs := [.tmp 67, .tmp 69, .const (.int .i64 (1))]) rfl (c254 xnu ynu) ?_
    refine vq rfl qM ?_
    refine vq rfl qE ?_
    refine vq rfl qE ?_
    refine sa rfl (dS sz199) ?_
    refine vq rfl qA ?_
    refine gN (tN (gS ?_))
    refine gP [0, 1, 2, 4, 5, 6, 7, 8, 9, 10, 11, 12] ?_
    refine gR ?_
    refine sv rfl (y_load_agg sz199 u199 rfl) ?_
    refine vq rfl qM ?_
    refine vq rfl q_eql ?_
    refine sa rfl (dS sz199) ?_
    refine vq rfl qA ?_
    refine gN (tN (gT (tR ?_)))
    refine fincd sz199 u199 (by simp) ?_
    exact ⟨by rw [show spanN op (xs.map optR) ss = okSP (ofS xnu ynu) from by rw [spanN, if_pos hb2, hxs, if_neg (show ¬ (!isV (v0 ([(Tr.mk xop xnm xnu xks, xb), (Tr.mk yop ynm ynu yks, yb)].map optR) 0) 1 || !isV (v0 ([(Tr.mk xop xnm xnu xks, xb), (Tr.mk yop ynm ynu yks, yb)].map optR) 1) 1) = true from by rw [show v0 ([(Tr.mk xop xnm xnu xks, xb), (Tr.mk yop ynm ynu yks, yb)].map optR) 0 = optR (Tr.mk xop xnm xnu xks, xb) from rfl, show v0 ([(Tr.mk xop xnm xnu xks, xb), (Tr.mk yop ynm ynu yks, yb)].map optR) 1 = optR (Tr.mk yop ynm ynu yks, yb) from rfl, hx, hy]; decide), show v0 ([(Tr.mk xop xnm xnu xks, xb), (Tr.mk yop ynm ynu yks, yb)].map optR) 0 = optR (Tr.mk xop xnm xnu xks, xb) from rfl, show v0 ([(Tr.mk xop xnm xnu xks, xb), (Tr.mk yop ynm ynu yks, yb)].map optR) 1 = optR (Tr.mk yop ynm ynu yks, yb) from rfl, hxn, hyn]; rfl]; rfl, rfl⟩
  have h89 : (op == 8 || op == 9) = true := by rw [hb2, Bool.false_or] at ho; exact ho
  refine gK (tN (gS ?_))
  refine gP [0, 1, 2, 4, 5, 6, 7, 8, 9, 10, 11, 12] ?_
  refine gR ?_
  refine vq rfl (qF u27 rfl sz22) ?_
  refine vq rfl (qL u22) ?_
  refine vq rfl (qI u22 sz27) ?_
  refine vq rfl (qG (by exact sz27) u27 rfl) ?_
  refine vq rfl qM ?_
  refine gL (xs := [.tmp 80, .tmp 81]) rfl ((ha0 ▸ q2)) ?_
  refine vq rfl qM ?_
  refine vq rfl qE ?_
  refine vq rfl qE ?_
  refine sv rfl (y_alloc zr199) ?_
  refine sa rfl (dS sz199) ?_
  refine vq rfl qA ?_
  refine gN (tN (gS (gS ?_)))
  refine gP [0, 1, 2, 4, 5, 6, 7, 8, 9, 10, 11, 12] ?_
  refine gR ?_
  refine vq rfl qM ?_
  refine vq rfl q_not ?_
  refine gN (tN ?_)
  refine gC (fun hb4 => ?_) (fun hb4 => ?_)
  ·
    refine gS (gR ?_)
    refine sv rfl (y_load_agg sz199 u199 rfl) ?_
    refine sa rfl (dS sz199) ?_
    refine vq rfl qA ?_
    refine gN (tN (gT (tR ?_)))
    refine fincd sz199 u199 (by simp) ?_
    exact ⟨by rw [show spanN op (xs.map optR) ss = noSP from by rw [spanN, if_neg (by rw [hb2]; decide), if_pos h89, hxs, hss, if_pos (show (!(s0 (r :: ss')).2 || !isV (v0 ([(Tr.mk xop xnm xnu xks, xb), (Tr.mk yop ynm ynu yks, yb)].map optR) 1) 1) = true from by rw [show (!(s0 (r :: ss')).2) = true from hb4]; rfl)]]; rfl, rfl⟩
  have hr : r.2 = true := by simpa using hb4
  have hg := hgd hr
  refine gK (tN (gS (gS (gR ?_))))
  refine vq rfl (qF u27 rfl sz3) ?_
  refine vq rfl (qL u3) ?_
  refine vq rfl q_eql ?_
  refine gN (tN ?_)
  refine gC (fun hb5 => ?_) (fun hb5 => ?_)
  ·
    have h9 : ¬ (op == 9) = true := by
      have := eq_of_beq hb5
      subst this
      decide
    refine gR ?_
    refine sv rfl (y_load_agg sz199 u199 rfl) ?_
    refine sv rfl (y_fieldAt 2 u27 rfl sz3) ?_
    refine sv rfl (y_load_leaf u3) ?_
    refine gL (xs := [.tmp 92, .tmp 94]) rfl (c255 r.1.1 r.1.2.1 r.1.2.2 ynu hg) ?_
    refine vq rfl qM ?_
    refine vq rfl qE ?_
    refine vq rfl qE ?_
    refine sa rfl (dS sz199) ?_
    refine vq rfl qA ?_
    refine gN (tN (gS ?_))
    refine gP [0, 1, 2, 4, 5, 6, 7, 8, 9, 10, 11, 12] ?_
    refine gR ?_
    refine sv rfl (y_load_agg sz199 u199 rfl) ?_
    refine vq rfl qM ?_
    refine vq rfl q_eql ?_
    refine sa rfl (dS sz199) ?_
    refine vq rfl qA ?_
    refine gN (tN (gT ?_))
    refine fincd sz199 u199 (by simp) ?_
    exact ⟨by rw [show spanN op (xs.map optR) ss = okSP (byS r.1.1 r.1.2.1 r.1.2.2 ynu) from by rw [spanN, if_neg (by rw [hb2]; decide), if_pos h89, hxs, hss, if_neg (show ¬ (!(s0 (r :: ss')).2 || !isV (v0 ([(Tr.mk xop xnm xnu xks, xb), (Tr.mk yop ynm ynu yks, yb)].map optR) 1) 1) = true from by rw [show (s0 (r :: ss')).2 = true from hr, show v0 ([(Tr.mk xop xnm xnu xks, xb), (Tr.mk yop ynm ynu yks, yb)].map optR) 1 = optR (Tr.mk yop ynm ynu yks, yb) from rfl, hy]; decide), if_neg h9, show v0 ([(Tr.mk xop xnm xnu xks, xb), (Tr.mk yop ynm ynu yks, yb)].map optR) 1 = optR (Tr.mk yop ynm ynu yks, yb) from rfl, hyn]; rfl]; rfl, rfl⟩
  have h9 : (op == 9) = true := by rw [hb5, Bool.false_or] at h89; exact h89
  refine gR ?_
  refine sv rfl (y_load_agg sz199 u199 rfl) ?_
  refine sv rfl (y_fieldAt 2 u27 rfl sz3) ?_
  refine sv rfl (y_load_leaf u3) ?_
  refine gL (xs := [.tmp 99, .tmp 101]) rfl (c256 r.1.1 r.1.2.1 r.1.2.2 ynu hg) ?_
  refine vq rfl qM ?_
  refine vq rfl qE ?_
  refine vq rfl qE ?_
  refine sa rfl (dS sz199) ?_
  refine vq rfl qA ?_
  refine gN (tN (gS ?_))
  refine gP [0, 1, 2, 4, 5, 6, 7, 8, 9, 10, 11, 12] ?_
  refine gR ?_
  refine sv rfl (y_load_agg sz199 u199 rfl) ?_
  refine vq rfl qM ?_
  refine vq rfl q_eql ?_
  refine sa rfl (dS sz199) ?_
  refine vq rfl qA ?_
  refine gN (tN (gT ?_))
  refine fincd sz199 u199 (by simp) ?_
  exact ⟨by rw [show spanN op (xs.map optR) ss = okSP (countS r.1.1 r.1.2.1 r.1.2.2 ynu) from by rw [spanN, if_neg (by rw [hb2]; decide), if_pos h89, hxs, hss, if_neg (show ¬ (!(s0 (r :: ss')).2 || !isV (v0 ([(Tr.mk xop xnm xnu xks, xb), (Tr.mk yop ynm ynu yks, yb)].map optR) 1) 1) = true from by rw [show (s0 (r :: ss')).2 = true from hr, show v0 ([(Tr.mk xop xnm xnu xks, xb), (Tr.mk yop ynm ynu yks, yb)].map optR) 1 = optR (Tr.mk yop ynm ynu yks, yb) from rfl, hy]; decide), if_pos h9, show v0 ([(Tr.mk xop xnm xnu xks, xb), (Tr.mk yop ynm ynu yks, yb)].map optR) 1 = optR (Tr.mk yop ynm ynu yks, yb) from rfl, hyn]; rfl]; rfl, rfl⟩
set_option maxHeartbeats 16000000 in
theorem c108x (l : List (ByteArray × Tr)) (op : Int) (nm : ByteArray) (num : Int) (ks : List Tr) (xs : List (Tr × Bool)) (ss : List SP)
    (hl : COk l) (h5 : (op == 5) = true → ∃ k0 x, ks = [k0] ∧ xs = [x] ∧ Pf Tryz.prog 108 [k0.d, .sl (l.map cD)] (.tup [.d (x).1.d, .d (.bool (x).2)]))
    (h6 : (op == 6) = true → ∃ k0 k1 x y, ks = [k0, k1] ∧ xs = [x, y] ∧ Pf Tryz.prog 108 [k0.d, .sl (l.map cD)] (.tup [.d (x).1.d, .d (.bool (x).2)]) ∧ Pf Tryz.prog 108 [k1.d, .sl (l.map cD)] (.tup [.d (y).1.d, .d (.bool (y).2)]))
    (h19 : (op == 19) = true → ∃ k0 k1 k2 x y u, ks = [k0, k1, k2] ∧ xs = [x, y, u] ∧ Pf Tryz.prog 108 [k0.d, .sl (l.map cD)] (.tup [.d (x).1.d, .d (.bool (x).2)]) ∧ Pf Tryz.prog 108 [k1.d, .sl (l.map cD)] (.tup [.d (y).1.d, .d (.bool (y).2)]) ∧ Pf Tryz.prog 108 [k2.d, .sl (l.map cD)] (.tup [.d (u).1.d, .d (.bool (u).2)]) ∧ (x.2 = true → x.1.op = 2 → x.1.nu = 0 ∨ x.1.nu = 1))
    (h14 : (op == 14) = true → ∃ k0 r, ks = [k0] ∧ ss = [r] ∧ Pf Tryz.prog 192 [k0.d, .sl (l.map cD)] (.tup [.d (.agg [.int .i64 r.1.1, .int .i64 r.1.2.1, .int .i64 r.1.2.2]), .d (.bool r.2)]) ∧ (r.2 = true → Good r.1.1 r.1.2.1 r.1.2.2)) : Pf Tryz.prog 108 [.agg [.int .i64 op, .str nm, .int .i64 num, .sl (ks.map Tr.d)], .sl (l.map cD)] (.tup [.d (valNR l op nm num ks xs ss).1.d, .d (.bool (valNR l op nm num ks xs ss).2)]) := by
  refine pf_body (rvs := [.cell 4 27, .tmp 5]) [(0, .d (.agg [.int .i64 op, .str nm, .int .i64 num, .sl (ks.map Tr.d)])), (1, .d (.sl (l.map cD)))] Tryz.func108 Tryz.ntmps108 Tryz.results108 (fun S0 O0 w0 m0 hm0 => ?_)
  refine gS (gR ?_)
  refine sv rfl y_box ?_
  refine gF 0 [] (.agg [.int .i64 op, .str nm, .int .i64 num, .sl (ks.map Tr.d)]) rfl ?_
  have hl1 := hl.1
  refine sv rfl (y_alloc zr27) ?_
  refine vq rfl qA ?_
  refine gN (tN (gS (gS (gR ?_))))
  refine vq rfl (qF u27 rfl sz3) ?_
  refine vq rfl (qL u3) ?_
  refine gN (tN (G_block ?_))
  refine G_seq_cut (α := Bool) (fun w => ⟨[(1, .d (.sl (l.map cD))), (2, .d (.ptr (.agg [.int .i64 op, .str nm, .int .i64 num, .sl (ks.map Tr.d)]))), (4, .ref 0 0), (5, .d (.bool false)), (18, .d (.int .i64 op)), (19, .d (.bool w))], [[.d (.int .i64 0), .d (.str ⟨#[]⟩), .d (.int .i64 0), .nils]]⟩) (fun w => w = (op == 1 || op == 2)) (fun Q' hn he hr => ?_) (fun w hw => ?_)
  ·
    refine gS (gR ?_)
    refine vq rfl q_eql ?_
    refine vq rfl qA ?_
    refine gN (tN ?_)
    refine gC (fun hb0 => ?_) (fun hb0 => ?_)
    ·
      refine gK ?_
      refine hn _ (op == 1) (by rw [hb0]; rfl) le_of
    refine gR ?_
    refine vq rfl q_eql ?_
    refine vq rfl qA ?_
    refine gN ?_
    refine hn _ (op == 2) (by rw [hb0]; rfl) le_of
  skip
  refine gC (fun hb1 => ?_) (fun hb1 => ?_)
  ·
    refine gS (gR ?_)
    refine vq rfl (qG (by exact sz27) u27 rfl) ?_
    refine sa rfl (dS sz27) ?_
    refine vq rfl qA ?_
    refine gN (tN (gT (bR (tR ?_))))
    refine fincd sz27 u27 (by simp) ?_
    exact ⟨by rw [show valNR l op nm num ks xs ss = (.mk op nm num ks, true) from by rw [valNR, if_pos (hw ▸ hb1)]]; dsimp only; rw [Tr.d_mk], rfl⟩
  refine gS (gR ?_)
  refine vq rfl q_eql ?_
  refine vq rfl qA ?_
  refine gN (tN ?_)
  refine gC (fun hb2 => ?_) (fun hb2 => ?_)
  ·
    refine gS (gR ?_)
    refine vq rfl qM ?_
    refine vq rfl (q_len u49) ?_
    rw [List.length_map]
    refine vq rfl (q_sub (hw := (wrap_i64 (by omega) (by omega)))) ?_
    refine vq rfl qA ?_
    refine gN (tN (G_block ?_))
    refine g_loop (α := Nat) (fun m => ⟨[(6, .d (.int .i64 ((m : Nat) - 1))), (2, .d (.ptr (.agg [.int .i64 op, .str nm, .int .i64 num, .sl (ks.map Tr.d)]))), (1, .d (.sl (l.map cD))), (4, .ref 0 0), (5, .d (.bool false))], [[.d (.int .i64 0), .d (.str ⟨#[]⟩), .d (.int .i64 0), .nils]]⟩) (fun m => m) (fun m => m ≤ l.length ∧ findK nm (kl l) = findK nm (kl (l.take m))) l.length ⟨Nat.le_refl _, by rw [List.take_length]⟩ (fun m hm Q' hn0 he0 hr0 => ?_) (le_of)
    obtain ⟨hm1, hm2⟩ := hm
    refine gS (gS (gR ?_))
    refine vq rfl qM ?_
    refine vq rfl q_geq ?_
    refine gN (tN ?_)
    refine gC (fun hb3 => ?_) (fun hb3 => ?_)
    ·
      have hm3 : ((m : Nat) : Int) - 1 ≥ 0 := by simpa using hb3
      obtain ⟨z, rfl⟩ : ∃ z, m = z + 1 := ⟨m - 1, by omega⟩
      rw [show (((z + 1 : Nat) : Int) - 1) = (z : Int) from by omega]
      obtain ⟨c, hc⟩ : ∃ c, l[z]? = some c := ⟨_, List.getElem?_eq_getElem (by omega)⟩
      have hks2 := kl_step hc
      obtain ⟨cn, cop, cnm, cnu, cks⟩ := c
      have hxd := cD_get hc
      rw [show cD (cn, .mk cop cnm cnu cks) = .agg [.str cn, .int .i64 cop, .str cnm, .int .i64 cnu, .sl (cks.map Tr.d)] from by unfold cD; rw [Tr.d_mk]; rfl] at hxd
      refine gK (tN (gS (G_block (gS ?_))))
      refine G_draw 8 [0, 1, 2, 3, 4, 5, 6, 7] rfl rfl (by kernel_rfl) ?_
      refine sq rfl qM ?_
      refine sq rfl qM ?_
      refine sq rfl (qI u49 sz59) ?_
      refine sq rfl (qF u59 rfl sz9) ?_
      refine sq rfl (qL u9) ?_
      refine sq rfl (qF u27 rfl sz9) ?_
      refine sq rfl (qL u9) ?_
      refine sq rfl q_streq ?_
      refine GQ_nil (by kernel_rfl) (tN ?_)
      refine gC (fun hb4 => ?_) (fun hb4 => ?_)
      ·
        refine gS (gR ?_)
        refine vq rfl qM ?_
        refine vq rfl qM ?_
        refine vq rfl (qI u49 sz59) ?_
        refine vq rfl (q_fieldp_agg u59 rfl sz27) ?_
        refine vq rfl (qG (ds := [.int .i64 cop, .str cnm, .int .i64 cnu, .sl (cks.map Tr.d)]) (by exact sz27) u27 rfl) ?_
        refine sa rfl (dS sz27) ?_
        refine vq rfl qA ?_
        refine gN (tN (gT (bR (tR ?_))))
        refine hr0 _ ?_
        refine bR (bR (tR ?_))
        refine fincd sz27 u27 (by simp) ?_
        exact ⟨by rw [show valNR l op nm num ks xs ss = (.mk cop cnm cnu cks, true) from by rw [valNR, if_neg (by rw [← hw, hb1]; decide), if_pos hb2, findR, hm2, hks2, findK, if_pos (by simpa using hb4)]]; dsimp only; rw [Tr.d_mk], rfl⟩
      refine gK (bN (tN (gR ?_)))
      refine vq rfl qM ?_
      refine vq rfl q_sub ?_
      refine vq rfl qA ?_
      refine gN ?_
      refine hn0 _ z ⟨by omega, by rw [hm2, hks2, findK, if_neg (by simpa using hb4)]⟩ (by omega) le_of
    have hm0 : m = 0 := by
      have h : ¬ ((m : Nat) : Int) - 1 ≥ 0 := by simpa using hb3
      omega
    refine G_exit (thn_exit ?_)
    refine he0 _ _ ?_
    refine blk_exit (bN (tN (gS (gR ?_))))
    refine vq rfl (q_buildS pl27 zr27) ?_
    refine sa rfl (dS sz27) ?_
    refine vq rfl qA ?_
    refine gN (tN (gT ?_))
    refine fincd sz27 u27 (by simp) ?_
    exact ⟨by rw [show valNR l op nm num ks xs ss = (z0, false) from by rw [valNR, if_neg (by rw [← hw, hb1]; decide), if_pos hb2, findR, hm2, hm0]; rfl]; dsimp only; rw [z0_d], rfl⟩
  refine gS (gR ?_)
  refine vq rfl q_eql ?_
  refine vq rfl qA ?_
  refine gN (tN ?_)
  refine gC (fun hb5 => ?_) (fun hb5 => ?_)
  ·
    obtain ⟨k0, x, hks, hxs, q0⟩ := h5 hb5
    obtain ⟨⟨xop, xnm, xnu, xks⟩, xb⟩ := x
    dsimp only at q0
    rw [Tr.d_mk] at q0
    obtain ⟨op0, nm0, nu0, ks0, ha0⟩ := k0.d_agg
    have hx0 : (ks.map Tr.d)[0]? = some (.agg [.int .i64 op0, .str nm0, .int .i64 nu0, .sl (ks0.map Tr.d)]) := by rw [hks, ← ha0]; rfl
    have hU := (unaryR nm (.mk xop xnm xnu xks)).1.d_eta
    refine gS ?_
    refine gP [0, 1, 2, 4, 5, 6, 7, 8, 9, 10, 11, 12, 13, 14, 15, 16, 18, 19] ?_
    refine gR ?_
    refine vq rfl (qF u27 rfl sz22) ?_
    refine vq rfl (qL u22) ?_
    refine vq rfl (qI u22 sz27) ?_
    refine vq rfl (qG (by exact sz27) u27 rfl) ?_
    refine vq rfl qM ?_
    refine gL (xs := [.tmp 51, .tmp 52]) rfl ((ha0 ▸ q0)) ?_
    refine vq rfl qM ?_
    refine vq rfl qE ?_
    refine vq rfl qE ?_
    refine sv rfl (y_alloc zr27) ?_
    refine sa rfl (dS sz27) ?_
    refine vq rfl qA ?_
    refine gN (tN (gS ?_))
    refine gP [0, 1, 2, 4, 5, 6, 7, 8, 9, 10, 11, 12, 13, 14, 15, 16, 18, 19] ?_
    refine gR ?_
    refine vq rfl qM ?_
    refine gN (tN ?_)
    refine gC (fun hb6 => ?_) (fun hb6 => ?_)
    ·
      refine gS (gR ?_)
      refine vq rfl (qF u27 rfl sz9) ?_
      refine vq rfl (qL u9) ?_
      refine sv rfl (y_load_agg sz27 u27 rfl) ?_
      refine gL (xs := [.tmp 58, .tmp 59]) rfl ((hU ▸ Tr.d_mk xop xnm xnu xks ▸ c189 (.mk xop xnm xnu xks) nm)) ?_
      refine vq rfl qE ?_
      refine vq rfl qE ?_
      refine sa rfl (dS sz27) ?_
      refine vq rfl qA ?_
      refine gN (tN (gT (bR (tR ?_))))
      refine fincd sz27 u27 (by simp) ?_
      exact ⟨by rw [show valNR l op nm num ks xs ss = unaryR nm (.mk xop xnm xnu xks) from by rw [valNR, if_neg (by rw [← hw, hb1]; decide), if_neg (by rw [hb2]; decide), if_pos hb5, hxs, if_pos (show (x0 [(Tr.mk xop xnm xnu xks, xb)] 0).2 = true from hb6)]; rfl]; rw [hU], rfl⟩
    refine gK (bN (tN (gS (gR ?_))))
    refine vq rfl (q_buildS pl27 zr27) ?_
    refine sa rfl (dS sz27) ?_
    refine vq rfl qA ?_
    refine gN (tN (gT ?_))
    refine fincd sz27 u27 (by simp) ?_
    exact ⟨by rw [show valNR l op nm num ks xs ss = (z0, false) from by rw [valNR, if_neg (by rw [← hw, hb1]; decide), if_neg (by rw [hb2]; decide), if_pos hb5, hxs, if_neg (show ¬ (x0 [(Tr.mk xop xnm xnu xks, xb)] 0).2 = true from by show ¬ xb = true; rw [show xb = false from hb6]; decide)]]; dsimp only; rw [z0_d], rfl⟩
  refine gS ?_
  refine gP [0, 1, 2, 4, 5, 6, 7, 8, 9, 10, 11, 12, 13, 14, 15, 16, 18, 19] ?_
  refine gR ?_
  refine vq rfl q_eql ?_
  refine vq rfl qA ?_
  refine gN (tN ?_)
  refine gC (fun hb7 => ?_) (fun hb7 => ?_)
  ·
    obtain ⟨k0, k1, x, y, hks, hxs, q0, q1⟩ := h6 hb7
    refine gS (gS (gR ?_))
    refine vq rfl (qF u27 rfl sz9) ?_
    refine vq rfl (qL u9) ?_
    refine vq rfl q_streq ?_
    refine vq rfl qM ?_
    refine sg rfl (fun hg => qF u27 rfl sz9) ?_
    refine sg rfl (fun hg => sP 69 rfl hg (qL u9)) ?_
    refine sg rfl (fun hg => sP 70 rfl hg q_streq) ?_
    refine vq rfl q_or ?_
    refine gN (tN ?_)
    refine gC (fun hb8 => ?_) (fun hb8 => ?_)
    ·
      have hU := (shortR nm x y).1.d_eta
      refine gS (gR ?_)
      refine vq rfl (qG (by exact sz27) u27 rfl) ?_
      refine vq rfl qM ?_
      refine gL (xs := [.tmp 73, .tmp 74]) rfl ((hU ▸ hks ▸ c190x l op nm num k0 k1 x y q0 q1)) ?_
      refine vq rfl qE ?_
      refine vq rfl qE ?_
      refine sa rfl (dS sz27) ?_
      refine vq rfl qA ?_
      refine gN (tN (gT (tR (bR (tR ?_)))))
      refine fincd sz27 u27 (by simp) ?_
      exact ⟨by rw [show valNR l op nm num ks xs ss = shortR nm x y from by rw [valNR, if_neg (by rw [← hw, hb1]; decide), if_neg (by rw [hb2]; decide), if_neg (by rw [hb5]; decide), if_pos hb7, hxs, if_pos (show (decide (nm = andB) || decide (nm = orB)) = true from hb8)]; rfl]; rw [hU], rfl⟩
    obtain ⟨⟨xop, xnm, xnu, xks⟩, xb⟩ := x
    dsimp only at q0
    rw [Tr.d_mk] at q0
    obtain ⟨⟨yop, ynm, ynu, yks⟩, yb⟩ := y
    dsimp only at q1
    rw [Tr.d_mk] at q1
    obtain ⟨op0, nm0, nu0, ks0, ha0⟩ := k0.d_agg
    have hx0 : (ks.map Tr.d)[0]? = some (.agg [.int .i64 op0, .str nm0, .int .i64 nu0, .sl (ks0.map Tr.d)]) := by rw [hks, ← ha0]; rfl
    obtain ⟨op1, nm1, nu1, ks1, ha1⟩ := k1.d_agg
    have hx1 : (ks.map Tr.d)[1]? = some (.agg [.int .i64 op1, .str nm1, .int .i64 nu1, .sl (ks1.map Tr.d)]) := by rw [hks, ← ha1]; rfl
    have hU := (binR nm (.mk xop xnm xnu xks) (.mk yop ynm ynu yks)).1.d_eta
    refine gK (tN (gS (gR ?_)))
    refine vq rfl (qF u27 rfl sz22) ?_
    refine vq rfl (qL u22) ?_
    refine vq rfl (qI u22 sz27) ?_
    refine vq rfl (qG (by exact sz27) u27 rfl) ?_
    refine vq rfl qM ?_
    refine gL (xs := [.tmp 82, .tmp 83]) rfl ((ha0 ▸ q0)) ?_
    refine vq rfl qM ?_
    refine vq rfl qE ?_
    refine vq rfl qE ?_
    refine sv rfl (y_alloc zr27) ?_
    refine sa rfl (dS sz27) ?_
    refine vq rfl qA ?_
    refine gN (tN (gS ?_))
    refine gP [0, 1, 2, 4, 5, 6, 7, 8, 9, 10, 11, 12, 13, 14, 15, 16, 18, 19] ?_
    refine gR ?_
    refine vq rfl (qF u27 rfl sz22) ?_
    refine vq rfl (qL u22) ?_
    refine vq rfl (qI u22 sz27) ?_
    refine vq rfl (qG (by exact sz27) u27 rfl) ?_
    refine vq rfl qM ?_
    refine gL (xs := [.tmp 91, .tmp 92]) rfl ((ha1 ▸ q1)) ?_
    refine vq rfl qM ?_
    refine vq rfl qE ?_
    refine vq rfl qE ?_
    refine sv rfl (y_alloc zr27) ?_
    refine sa rfl (dS sz27) ?_
    refine vq rfl qA ?_
    refine gN (tN (gS ?_))
    refine gP [0, 1, 2, 4, 5, 6, 7, 8, 9, 10, 11, 12, 13, 14, 15, 16, 18, 19] ?_
    refine gR ?_
    refine vq rfl qM ?_
    refine vq rfl qM ?_
    refine sg rfl (fun hg => qM) ?_
    refine vq rfl q_and ?_
    refine gN (tN ?_)
    refine gC (fun hb9 => ?_) (fun hb9 => ?_)
    ·
      refine gS (gR ?_)
      refine vq rfl (qF u27 rfl sz9) ?_
      refine vq rfl (qL u9) ?_
      refine sv rfl (y_load_agg sz27 u27 rfl) ?_
      refine sv rfl (y_load_agg sz27 u27 rfl) ?_
      refine gL (xs := [.tmp 101, .tmp 102, .tmp 103]) rfl ((hU ▸ c191 nm xop xnu yop ynu xnm ynm xks yks)) ?_
      refine vq rfl qE ?_
      refine vq rfl qE ?_
      refine sa rfl (dS sz27) ?_
      refine vq rfl qA ?_
      refine gN (tN (gT (bR (tR ?_))))
      refine fincd sz27 u27 (by simp) ?_
      exact ⟨by rw [show valNR l op nm num ks xs ss = binR nm (.mk xop xnm xnu xks) (.mk yop ynm ynu yks) from by rw [valNR, if_neg (by rw [← hw, hb1]; decide), if_neg (by rw [hb2]; decide), if_neg (by rw [hb5]; decide), if_pos hb7, hxs, if_neg (by rw [show (decide (nm = andB) || decide (nm = orB)) = false from hb8]; decide), if_pos (show ((x0 [(Tr.mk xop xnm xnu xks, xb), (Tr.mk yop ynm ynu yks, yb)] 0).2 && (x0 [(Tr.mk xop xnm xnu xks, xb), (Tr.mk yop ynm ynu yks, yb)] 1).2) = true from hb9)]; rfl]; rw [hU], rfl⟩
    refine gK (bN (tN (gS (gR ?_))))
    refine vq rfl (q_buildS pl27 zr27) ?_
    refine sa rfl (dS sz27) ?_
    refine vq rfl qA ?_
    refine gN (tN (gT ?_))
    refine fincd sz27 u27 (by simp) ?_
    exact ⟨by rw [show valNR l op nm num ks xs ss = (z0, false) from by rw [valNR, if_neg (by rw [← hw, hb1]; decide), if_neg (by rw [hb2]; decide), if_neg (by rw [hb5]; decide), if_pos hb7, hxs, if_neg (by rw [show (decide (nm = andB) || decide (nm = orB)) = false from hb8]; decide), if_neg (by rw [show ((x0 [(Tr.mk xop xnm xnu xks, xb), (Tr.mk yop ynm ynu yks, yb)] 0).2 && (x0 [(Tr.mk xop xnm xnu xks, xb), (Tr.mk yop ynm ynu yks, yb)] 1).2) = false from hb9]; decide)]]; dsimp only; rw [z0_d], rfl⟩
  refine gS (gR ?_)
  refine vq rfl q_eql ?_
  refine vq rfl qA ?_
  refine gN (tN ?_)
  refine gC (fun hb10 => ?_) (fun hb10 => ?_)
  ·
    obtain ⟨k0, k1, k2, x, y, u, hks, hxs, q0, q1, q2, hxn⟩ := h19 hb10
    obtain ⟨⟨xop, xnm, xnu, xks⟩, xb⟩ := x
    dsimp only at q0
    rw [Tr.d_mk] at q0
    obtain ⟨⟨yop, ynm, ynu, yks⟩, yb⟩ := y
    dsimp only at q1
    rw [Tr.d_mk] at q1
    obtain ⟨⟨uop, unm, unu, uks⟩, ub⟩ := u
    dsimp only at q2
    rw [Tr.d_mk] at q2
    obtain ⟨op0, nm0, nu0, ks0, ha0⟩ := k0.d_agg
    have hx0 : (ks.map Tr.d)[0]? = some (.agg [.int .i64 op0, .str nm0, .int .i64 nu0, .sl (ks0.map Tr.d)]) := by rw [hks, ← ha0]; rfl
    obtain ⟨op1, nm1, nu1, ks1, ha1⟩ := k1.d_agg
    have hx1 : (ks.map Tr.d)[1]? = some (.agg [.int .i64 op1, .str nm1, .int .i64 nu1, .sl (ks1.map Tr.d)]) := by rw [hks, ← ha1]; rfl
    obtain ⟨op2, nm2, nu2, ks2, ha2⟩ := k2.d_agg
    have hx2 : (ks.map Tr.d)[2]? = some (.agg [.int .i64 op2, .str nm2, .int .i64 nu2, .sl (ks2.map Tr.d)]) := by rw [hks, ← ha2]; rfl
    refine gS (gR ?_)
    refine vq rfl (qF u27 rfl sz22) ?_
    refine vq rfl (qL u22) ?_
    refine vq rfl (qI u22 sz27) ?_
    refine vq rfl (qG (by exact sz27) u27 rfl) ?_
    refine vq rfl qM ?_
    refine gL (xs := [.tmp 113, .tmp 114]) rfl ((ha0 ▸ q0)) ?_
    refine vq rfl qM ?_
    refine vq rfl qE ?_
    refine vq rfl qE ?_
    refine sv rfl (y_alloc zr27) ?_
    refine sa rfl (dS sz27) ?_
    refine vq rfl qA ?_
    refine gN (tN (gS ?_))
    refine gP [0, 1, 2, 4, 5, 6, 7, 8, 9, 10, 11, 12, 13, 14, 15, 16, 18, 19] ?_
    refine gR ?_
    refine vq rfl qM ?_
    refine vq rfl qM ?_
    refine sg rfl (fun hg => q_fieldAddr u27 rfl sz3) ?_
    refine sg rfl (fun hg => sP 120 rfl hg (qO u3)) ?_
    refine sg rfl (fun hg => sP 121 rfl hg q_eql) ?_
    refine vq rfl q_and ?_
    refine gN (tN ?_)
    refine gC (fun hb11 => ?_) (fun hb11 => ?_)
    ·
      have hnn : xnu = 0 ∨ xnu = 1 := by
        have h := Bool.and_eq_true_iff.1 hb11
        exact hxn h.1 (eq_of_beq h.2)
      refine gS ?_
      rcases hnn with rfl | rfl
      ·
        refine gR ?_
        refine vq rfl (qF u27 rfl sz22) ?_
        refine vq rfl (qL u22) ?_
        refine sv rfl (y_fieldAt 2 u27 rfl sz3) ?_
        refine sv rfl (y_load_leaf u3) ?_
        refine vq rfl (q_sub (hw := (show IntKind.i64.wrap (2 - 0) = 2 from by decide))) ?_
        refine vq rfl (qI u22 sz27) ?_
        refine vq rfl (qG (by exact sz27) u27 rfl) ?_
        refine vq rfl qM ?_
        refine gL (xs := [.tmp 130, .tmp 131]) rfl ((ha2 ▸ q2)) ?_
        refine vq rfl qE ?_
        refine vq rfl qE ?_
        refine sa rfl (dS sz27) ?_
        refine vq rfl qA ?_
        refine gN (tN (gT (bR (tR ?_))))
        refine fincd sz27 u27 (by simp) ?_
        exact ⟨by rw [show valNR l op nm num ks xs ss = (Tr.mk uop unm unu uks, ub) from by rw [valNR, if_neg (by rw [← hw, hb1]; decide), if_neg (by rw [hb2]; decide), if_neg (by rw [hb5]; decide), if_neg (by rw [hb7]; decide), if_pos hb10, hxs, if_pos (show ((x0 [(Tr.mk xop xnm 0 xks, xb), (Tr.mk yop ynm ynu yks, yb), (Tr.mk uop unm unu uks, ub)] 0).2 && (x0 [(Tr.mk xop xnm 0 xks, xb), (Tr.mk yop ynm ynu yks, yb), (Tr.mk uop unm unu uks, ub)] 0).1.op == 2) = true from hb11)]; rfl]; dsimp only; rw [Tr.d_mk], rfl⟩
      refine gR ?_
      refine vq rfl (qF u27 rfl sz22) ?_
      refine vq rfl (qL u22) ?_
      refine sv rfl (y_fieldAt 2 u27 rfl sz3) ?_
      refine sv rfl (y_load_leaf u3) ?_
      refine vq rfl (q_sub (hw := (show IntKind.i64.wrap (2 - 1) = 1 from by decide))) ?_
      refine vq rfl (qI u22 sz27) ?_
      refine vq rfl (qG (by exact sz27) u27 rfl) ?_
      refine vq rfl qM ?_
      refine gL (xs := [.tmp 130, .tmp 131]) rfl ((ha1 ▸ q1)) ?_
      refine vq rfl qE ?_
      refine vq rfl qE ?_
      refine sa rfl (dS sz27) ?_
      refine vq rfl qA ?_
      refine gN (tN (gT (bR (tR ?_))))
      refine fincd sz27 u27 (by simp) ?_
      exact ⟨by rw [show valNR l op nm num ks xs ss = (Tr.mk yop ynm ynu yks, yb) from by rw [valNR, if_neg (by rw [← hw, hb1]; decide), if_neg (by rw [hb2]; decide), if_neg (by rw [hb5]; decide), if_neg (by rw [hb7]; decide), if_pos hb10, hxs, if_pos (show ((x0 [(Tr.mk xop xnm 1 xks, xb), (Tr.mk yop ynm ynu yks, yb), (Tr.mk uop unm unu uks, ub)] 0).2 && (x0 [(Tr.mk xop xnm 1 xks, xb), (Tr.mk yop ynm ynu yks, yb), (Tr.mk uop unm unu uks, ub)] 0).1.op == 2) = true from hb11)]; rfl]; dsimp only; rw [Tr.d_mk], rfl⟩
    refine gK (bN (tN (gS (gR ?_))))
    refine vq rfl (q_buildS pl27 zr27) ?_
    refine sa rfl (dS sz27) ?_
    refine vq rfl qA ?_
    refine gN (tN (gT ?_))
    refine fincd sz27 u27 (by simp) ?_
    exact ⟨by rw [show valNR l op nm num ks xs ss = (z0, false) from by rw [valNR, if_neg (by rw [← hw, hb1]; decide), if_neg (by rw [hb2]; decide), if_neg (by rw [hb5]; decide), if_neg (by rw [hb7]; decide), if_pos hb10, hxs, if_neg (by rw [show ((x0 [(Tr.mk xop xnm xnu xks, xb), (Tr.mk yop ynm ynu yks, yb), (Tr.mk uop unm unu uks, ub)] 0).2 && (x0 [(Tr.mk xop xnm xnu xks, xb), (Tr.mk yop ynm ynu yks, yb), (Tr.mk uop unm unu uks, ub)] 0).1.op == 2) = false from hb11]; decide)]]; dsimp only; rw [z0_d], rfl⟩
  refine gS (gR ?_)
  refine vq rfl q_eql ?_
  refine vq rfl qA ?_
  refine gN (tN ?_)
  refine gC (fun hb12 => ?_) (fun hb12 => ?_)
  ·
    obtain ⟨k0, r, hks, hss, q0, hgd⟩ := h14 hb12
    obtain ⟨op0, nm0, nu0, ks0, ha0⟩ := k0.d_agg
    have hx0 : (ks.map Tr.d)[0]? = some (.agg [.int .i64 op0, .str nm0, .int .i64 nu0, .sl (ks0.map Tr.d)]) := by rw [hks, ← ha0]; rfl
    refine gS (gR ?_)
    refine vq rfl (qF u27 rfl sz22) ?_
    refine vq rfl (qL u22) ?_
    refine vq rfl (qI u22 sz27) ?_
    refine vq rfl (qG (by exact sz27) u27 rfl) ?_
    refine vq rfl qM ?_
    refine gL (xs := [.tmp 141, .tmp 142]) rfl ((ha0 ▸ q0)) ?_
    refine vq rfl qM ?_
    refine vq rfl qE ?_
    refine vq rfl qE ?_
    refine sv rfl (y_alloc zr199) ?_
    refine sa rfl (dS sz199) ?_
    refine vq rfl qA ?_
    refine gN (tN (gS ?_))
    refine gP [0, 1, 2, 4, 5, 6, 7, 8, 9, 10, 11, 12, 13, 14, 15, 16, 18, 19] ?_
    refine gR ?_
    refine vq rfl qM ?_
    refine vq rfl qM ?_
    refine sg rfl (fun hg => qF u27 rfl sz9) ?_
    refine sg rfl (fun hg => sP 148 rfl hg (qL u9)) ?_
    refine sg rfl (fun hg => sP 149 rfl hg q_streq) ?_
    refine vq rfl q_and ?_
    refine gN (tN ?_)
    refine gC (fun hb13 => ?_) (fun hb13 => ?_)
    ·
      have hg := hgd (Bool.and_eq_true_iff.1 hb13).1
      refine gS (gR ?_)
      refine sv rfl (y_load_agg sz199 u199 rfl) ?_
      refine gL (xs := [.tmp 152]) rfl (c194 r.1.1 r.1.2.1 r.1.2.2 hg) ?_
      refine gL (xs := [.tmp 153]) rfl (c193 _) ?_
      refine sa rfl (dS sz27) ?_
      refine vq rfl qA ?_
      refine gN (tN (gT (bR (tR ?_))))
      refine fincd sz27 u27 (by simp) ?_
      exact ⟨by rw [show valNR l op nm num ks xs ss = (intT (sizeS r.1.1 r.1.2.1 r.1.2.2), true) from by rw [valNR, if_neg (by rw [← hw, hb1]; decide), if_neg (by rw [hb2]; decide), if_neg (by rw [hb5]; decide), if_neg (by rw [hb7]; decide), if_neg (by rw [hb10]; decide), if_pos hb12, hss, if_pos (show ((s0 [r]).2 && decide (nm = sizeB)) = true from hb13)]; rfl]; dsimp only; rw [intT_d], rfl⟩
    refine gK (bN (tN (gS (gR ?_))))
    refine vq rfl (q_buildS pl27 zr27) ?_
    refine sa rfl (dS sz27) ?_
    refine vq rfl qA ?_
    refine gN (tN (gT ?_))
    refine fincd sz27 u27 (by simp) ?_
    exact ⟨by rw [show valNR l op nm num ks xs ss = (z0, false) from by rw [valNR, if_neg (by rw [← hw, hb1]; decide), if_neg (by rw [hb2]; decide), if_neg (by rw [hb5]; decide), if_neg (by rw [hb7]; decide), if_neg (by rw [hb10]; decide), if_pos hb12, hss, if_neg (by rw [show ((s0 [r]).2 && decide (nm = sizeB)) = false from hb13]; decide)]]; dsimp only; rw [z0_d], rfl⟩
  refine gK (bN (tN (gS (gR ?_))))
  refine vq rfl (q_buildS pl27 zr27) ?_
  refine sa rfl (dS sz27) ?_
  refine vq rfl qA ?_
  refine gN (tN (gT ?_))
  refine fincd sz27 u27 (by simp) ?_
  exact ⟨by rw [show valNR l op nm num ks xs ss = (z0, false) from by rw [valNR, if_neg (by rw [← hw, hb1]; decide), if_neg (by rw [hb2]; decide), if_neg (by rw [hb5]; decide), if_neg (by rw [hb7]; decide), if_neg (by rw [hb10]; decide), if_neg (by rw [hb12]; decide)]]; dsimp only; rw [z0_d], rfl⟩
end Go.Proofs.YtklkbfpjimeaoaaGreat
