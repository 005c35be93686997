import Derived.Test.YtklkbfpjimeaoaaGreatM26
/- Contracts of functions. Conditions: none. -/
set_option linter.unusedSimpArgs false
set_option linter.unusedVariables false
set_option maxRecDepth 20000
namespace Go.Proofs.YtklkbfpjimeaoaaGreat
open Go Go.Proofs.YtklkbfpjimeaoaaGreat.E
section
def optR (x : Tr × Bool) : Option Tr := if x.2 = true then some x.1 else none
theorem isV_optR (x : Tr × Bool) (k : Int) : isV (optR x) k = (x.2 && x.1.op == k) := by
 obtain ⟨t, b⟩ := x
 cases b <;> rfl
theorem nuV_optR {x : Tr × Bool} (h : x.2 = true) : nuV (optR x) = x.1.nu := by
 unfold optR
 rw [if_pos h]
 rfl
def shortR (nm : ByteArray) (x y : Tr × Bool) : Tr × Bool :=
 if (!x.2 || x.1.op != 2) = true then (x.1, false) else if ((x.1.nu == 1) == decide (nm = orB)) = true then (x.1, true) else (y.1, y.2 && y.1.op == 2)
def findR (nm : ByteArray) (l : List (ByteArray × Tr)) : Tr × Bool := match findK nm (kl l) with
 | some v => (v, true)
 | none => (z0, false)
def x0 (xs : List (Tr × Bool)) (i : Nat) : Tr × Bool := xs.getD i (z0, false)
def valNR (l : List (ByteArray × Tr)) (op : Int) (nm : ByteArray) (num : Int) (ks : List Tr) (xs : List (Tr × Bool)) (ss : List SP) : Tr × Bool :=
 if (op == 1 || op == 2) = true then (.mk op nm num ks, true)
 else if (op == 4) = true then findR nm l
 else if (op == 5) = true then (if (x0 xs 0).2 = true then unaryR nm (x0 xs 0).1 else (z0, false))
 else if (op == 6) = true then (if (decide (nm = andB) || decide (nm = orB)) = true then shortR nm (x0 xs 0) (x0 xs 1) else if ((x0 xs 0).2 && (x0 xs 1).2) = true then binR nm (x0 xs 0).1 (x0 xs 1).1 else (z0, false))
 else if (op == 19) = true then (if ((x0 xs 0).2 && (x0 xs 0).1.op == 2) = true then x0 xs (2 - (x0 xs 0).1.nu).toNat else (z0, false))
 else if (op == 14) = true then (if ((s0 ss).2 && decide (nm = sizeB)) = true then (intT (sizeS (s0 ss).1.1 (s0 ss).1.2.1 (s0 ss).1.2.2), true) else (z0, false))
 else (z0, false)
set_option maxHeartbeats 4000000 in
theorem c190x (l : List (ByteArray × Tr)) (op : Int) (nm : ByteArray) (num : Int) (k0 k1 : Tr) (x y : Tr × Bool) (q0 : Pf Tryz.prog 108 [k0.d, .sl (l.map cD)] (.tup [.d (x).1.d, .d (.bool (x).2)])) (q1 : Pf Tryz.prog 108 [k1.d, .sl (l.map cD)] (.tup [.d (y).1.d, .d (.bool (y).2)])) : Pf Tryz.prog 190 [.agg [.int .i64 op, .str nm, .int .i64 num, .sl ([k0, k1].map Tr.d)], .sl (l.map cD)] (.tup [.d (shortR nm x y).1.d, .d (.bool (shortR nm x y).2)]) := by
 refine pf_body (rvs := [.cell 4 27, .tmp 5]) [(0, .d (.agg [.int .i64 op, .str nm, .int .i64 num, .sl ([k0, k1].map Tr.d)])), (1, .d (.sl (l.map cD)))] Tryz.func190 Tryz.ntmps190 Tryz.results190 (fun S0 O0 w0 m0 hm0 => ?_)
 refine Z3 ?_
 obtain ⟨⟨xop, xnm, xnu, xks⟩, xb⟩ := x
 dsimp only at q0
 rw [Tr.d_mk] at q0
 obtain ⟨⟨yop, ynm, ynu, yks⟩, yb⟩ := y
 dsimp only at q1
 rw [Tr.d_mk] at q1
 obtain ⟨op0, nm0, nu0, ks0, ha0⟩ := k0.d_agg
 obtain ⟨op1, nm1, nu1, ks1, ha1⟩ := k1.d_agg
 have hx0 : ([k0, k1].map Tr.d)[0]? = some (.agg [.int .i64 op0, .str nm0, .int .i64 nu0, .sl (ks0.map Tr.d)]) := by rw [← ha0]; rfl
 have hx1 : ([k0, k1].map Tr.d)[1]? = some (.agg [.int .i64 op1, .str nm1, .int .i64 nu1, .sl (ks1.map Tr.d)]) := by rw [← ha1]; rfl
 refine Z24 ?_
 refine gF 0 [] (.agg [.int .i64 op, .str nm, .int .i64 num, .sl ([k0, k1].map Tr.d)]) rfl ?_
 refine Z29 ?_;refine Z324 ?_;refine Z385 ?_
 refine gL (xs := [.tmp 13, .tmp 14]) rfl ((ha0 ▸ q0)) ?_
 refine Z430 ?_;refine Z421 ?_;refine Z98 ?_;refine Z335 ?_;refine Z423 ?_;refine Z197 ?_
 refine sg rfl (fun hg => sP 21 rfl hg (qO u3)) ?_
 refine sg rfl (fun hg => sP 22 rfl hg q_neq) ?_
 refine Z333 ?_
 refine gC ?_ ?_ <;> intro hb0
 ·
  refine Z3 ?_;refine Z412 ?_;refine Z413 ?_
  exact ⟨by rw [show shortR nm (Tr.mk xop xnm xnu xks, xb) (Tr.mk yop ynm ynu yks, yb) = ((Tr.mk xop xnm xnu xks, xb).1, false) from by rw [shortR, if_pos (show (!(Tr.mk xop xnm xnu xks, xb).2 || (Tr.mk xop xnm xnu xks, xb).1.op != 2) = true from hb0)]]; dsimp only; rw [Tr.d_mk], rfl⟩
 refine Z59 ?_;refine Z206 ?_;refine Z70 ?_;refine Z17 ?_;refine Z336 ?_;refine Z54 ?_
 refine vq rfl (q_booleq u4) ?_
 refine Z5 ?_
 refine gC ?_ ?_ <;> intro hb1
 ·
  refine Z51 ?_;refine Z98 ?_;refine Z14 ?_;refine Z412 ?_;refine Z413 ?_
  exact ⟨by rw [show shortR nm (Tr.mk xop xnm xnu xks, xb) (Tr.mk yop ynm ynu yks, yb) = ((Tr.mk xop xnm xnu xks, xb).1, true) from by rw [shortR, if_neg (by rw [show (!(Tr.mk xop xnm xnu xks, xb).2 || (Tr.mk xop xnm xnu xks, xb).1.op != 2) = false from hb0]; decide), if_pos (show (((Tr.mk xop xnm xnu xks, xb).1.nu == 1) == decide (nm = orB)) = true from hb1)]]; dsimp only; rw [Tr.d_mk], rfl⟩
 refine Z67 ?_;refine Z98 ?_;refine Z14 ?_;refine Z385 ?_
 refine gL (xs := [.tmp 38, .tmp 39]) rfl ((ha1 ▸ q1)) ?_
 refine Z430 ?_;refine Z372 ?_;refine Z98 ?_
 refine g_cg [43, 44, 45, 46, 47, 48, 49, 5] (fun bq => [cond (bq 7) [.d (.int .i64 yop), .d (.str ynm), .d (.int .i64 ynu), .d (.sl (yks.map Tr.d))] [.d (.int .i64 0), .d (.str ⟨#[]⟩), .d (.int .i64 0), .nils], [.d (.int .i64 xop), .d (.str xnm), .d (.int .i64 xnu), .d (.sl (xks.map Tr.d))], [.d (.int .i64 yop), .d (.str ynm), .d (.int .i64 ynu), .d (.sl (yks.map Tr.d))]]) rfl ?_
 refine Z30 ?_
 refine cS 1 (fun _ _ _ _ _ => sv rfl (y_load_agg sz27 u27 rfl) (gN ⟨rfl, rfl⟩)) ?_
 refine Z30 ?_;refine Z122 ?_;refine Z136 ?_;refine Z89 ?_;refine Z114 ?_
 refine cS 4 (fun _ _ _ _ _ => sg rfl (fun hg => q_fieldAddr u27 rfl sz3) (gN ⟨rfl, rfl⟩)) ?_
 refine cP [3, 2] ?_
 refine cS 5 (fun _ _ _ _ _ => sg rfl (fun hg => sP 46 rfl hg (qO u3)) (gN ⟨rfl, rfl⟩)) ?_
 refine cP [4, 2] ?_
 refine cS 6 (fun _ _ _ _ _ => sg rfl (fun hg => sP 47 rfl hg q_eql) (gN ⟨rfl, rfl⟩)) ?_
 refine cP [2, 5] ?_
 refine cS 7 (fun _ _ _ _ _ => vq rfl q_and (gN ⟨rfl, rfl⟩)) ?_
 refine cP [0, 2, 0] ?_
 refine cg_act 8 (fun bq rest hc1 hc2 hc3 => by
  have e2 : upd bq 7 7 = true := rfl
  simp only [hc1, cond_false]
  refine Z19 ?_
  exact (gN ⟨rfl, by rw [e2]; rfl⟩)) ?_
 refine Z202 ?_;refine Z123 ?_
 refine cg_done (mem'' := [[.d (.int .i64 yop), .d (.str ynm), .d (.int .i64 ynu), .d (.sl (yks.map Tr.d))], [.d (.int .i64 xop), .d (.str xnm), .d (.int .i64 xnu), .d (.sl (xks.map Tr.d))], [.d (.int .i64 yop), .d (.str ynm), .d (.int .i64 ynu), .d (.sl (yks.map Tr.d))]]) ?_
 refine Z279 ?_;refine Z50 ?_
 exact ⟨by rw [show shortR nm (Tr.mk xop xnm xnu xks, xb) (Tr.mk yop ynm ynu yks, yb) = ((Tr.mk yop ynm ynu yks, yb).1, yb && yop == 2) from by rw [shortR, if_neg (by rw [show (!(Tr.mk xop xnm xnu xks, xb).2 || (Tr.mk xop xnm xnu xks, xb).1.op != 2) = false from hb0]; decide), if_neg (by rw [show (((Tr.mk xop xnm xnu xks, xb).1.nu == 1) == decide (nm = orB)) = false from hb1]; decide)]; rfl]; dsimp only; rw [Tr.d_mk], rfl⟩
set_option maxHeartbeats 8000000 in
theorem c192x (l : List (ByteArray × Tr)) (op : Int) (nm : ByteArray) (num : Int) (ks : List Tr) (xs : List (Tr × Bool)) (ss : List SP)
 (h : (op == 7 || op == 8 || op == 9) = true → ∃ k0 k1 x y r ss', ks = [k0, k1] ∧ xs = [x, y] ∧ ss = r :: ss' ∧ Pf Tryz.prog 108 [k0.d, .sl (l.map cD)] (.tup [.d (x).1.d, .d (.bool (x).2)]) ∧ Pf Tryz.prog 108 [k1.d, .sl (l.map cD)] (.tup [.d (y).1.d, .d (.bool (y).2)]) ∧ Pf Tryz.prog 192 [k0.d, .sl (l.map cD)] (.tup [.d (.agg [.int .i64 r.1.1, .int .i64 r.1.2.1, .int .i64 r.1.2.2]), .d (.bool r.2)]) ∧ (r.2 = true → Good r.1.1 r.1.2.1 r.1.2.2)) : Pf Tryz.prog 192 [.agg [.int .i64 op, .str nm, .int .i64 num, .sl (ks.map Tr.d)], .sl (l.map cD)] (.tup [.d (.agg [.int .i64 (spanN op (xs.map optR) ss).1.1, .int .i64 (spanN op (xs.map optR) ss).1.2.1, .int .i64 (spanN op (xs.map optR) ss).1.2.2]), .d (.bool (spanN op (xs.map optR) ss).2)]) := by
 refine pf_body (rvs := [.cell 4 199, .tmp 5]) [(0, .d (.agg [.int .i64 op, .str nm, .int .i64 num, .sl (ks.map Tr.d)])), (1, .d (.sl (l.map cD)))] Tryz.func192 Tryz.ntmps192 Tryz.results192 (fun S0 O0 w0 m0 hm0 => ?_)
 refine Z325 ?_;refine Z203 ?_;refine Z101 ?_;refine Z328 ?_;refine Z323 ?_;refine Z56 ?_;refine Z337 ?_;refine Z234 ?_
 refine sg rfl (fun hg => sP 18 rfl hg q_neq) ?_
 refine Z13 ?_;refine Z337 ?_;refine Z211 ?_
 refine sg rfl (fun hg => sP 23 rfl hg q_neq) ?_
 refine Z369 ?_
 refine gC ?_ ?_ <;> intro hb0
 ·
  have ho : (op == 7 || op == 8 || op == 9) = false := by
   have h := hb0
   cases h7 : (op == 7) <;> cases h8 : (op == 8) <;> cases h9 : (op == 9) <;> simp [bne, h7, h8, h9] at h ⊢
  refine Z51 ?_;refine Z113 ?_;refine Z14 ?_;refine Z384 ?_;refine Z397 ?_
  exact ⟨by rw [show spanN op (xs.map optR) ss = noSP from by rw [spanN, if_neg (by simp at ho; simp; exact ho.1.1), if_neg (by simp at ho; simp; exact ⟨ho.1.2, ho.2⟩)]]; rfl, rfl⟩
 have ho : (op == 7 || op == 8 || op == 9) = true := by
  have h := hb0
  cases h7 : (op == 7) <;> cases h8 : (op == 8) <;> cases h9 : (op == 9) <;> simp [bne, h7, h8, h9] at h ⊢
 obtain ⟨k0, k1, x, y, r, ss', hks, hxs, hss, q0, q1, q2, hgd⟩ := h ho
 obtain ⟨⟨xop, xnm, xnu, xks⟩, xb⟩ := x
 dsimp only at q0
 rw [Tr.d_mk] at q0
 obtain ⟨⟨yop, ynm, ynu, yks⟩, yb⟩ := y
 dsimp only at q1
 rw [Tr.d_mk] at q1
 obtain ⟨op0, nm0, nu0, ks0, ha0⟩ := k0.d_agg
 have hx0 : (ks.map Tr.d)[0]? = some (.agg [.int .i64 op0, .str nm0, .int .i64 nu0, .sl (ks0.map Tr.d)]) := by rw [hks, ← ha0]; rfl
 obtain ⟨op1, nm1, nu1, ks1, ha1⟩ := k1.d_agg
 have hx1 : (ks.map Tr.d)[1]? = some (.agg [.int .i64 op1, .str nm1, .int .i64 nu1, .sl (ks1.map Tr.d)]) := by rw [hks, ← ha1]; rfl
 refine Z67 ?_;refine Z113 ?_;refine Z14 ?_;refine Z385 ?_
 refine gL (xs := [.tmp 31, .tmp 32]) rfl ((ha1 ▸ q1)) ?_
 refine Z430 ?_;refine Z421 ?_;refine Z113 ?_;refine Z335 ?_;refine Z423 ?_;refine Z197 ?_
 refine sg rfl (fun hg => sP 39 rfl hg (qO u3)) ?_
 refine sg rfl (fun hg => sP 40 rfl hg q_neq) ?_
 refine Z333 ?_
 refine gC ?_ ?_ <;> intro hb1
 ·
  have hy : isV (optR (Tr.mk yop ynm ynu yks, yb)) 1 = false := by rw [isV_optR]; have h := hb1; cases yb <;> simp [bne] at h ⊢ <;> exact h
  refine Z3 ?_;refine Z384 ?_;refine Z397 ?_
  exact ⟨by rw [show spanN op (xs.map optR) ss = noSP from by rw [spanN, hxs, hss, show v0 ([(Tr.mk xop xnm xnu xks, xb), (Tr.mk yop ynm ynu yks, yb)].map optR) 1 = optR (Tr.mk yop ynm ynu yks, yb) from rfl, hy]; simp only [Bool.not_false, Bool.or_true, if_true]; split <;> first | rfl | (split <;> rfl)]; rfl, rfl⟩
 have hy : isV (optR (Tr.mk yop ynm ynu yks, yb)) 1 = true := by rw [isV_optR]; have h := hb1; cases yb <;> simp [bne] at h ⊢ <;> exact h
 have hyb : yb = true := by rw [isV_optR] at hy; exact (Bool.and_eq_true_iff.1 hy).1
 have hyn := nuV_optR (x := (Tr.mk yop ynm ynu yks, yb)) hyb
 refine Z46 ?_;refine Z324 ?_;refine Z72 ?_;refine Z101 ?_;refine Z47 ?_;refine Z11 ?_;refine Z408 ?_
 refine gC ?_ ?_ <;> intro hb2
 ·
  refine Z51 ?_;refine Z113 ?_;refine Z14 ?_;refine Z385 ?_
  refine gL (xs := [.tmp 52, .tmp 53]) rfl ((ha0 ▸ q0)) ?_
  refine Z430 ?_;refine Z421 ?_;refine Z113 ?_;refine Z335 ?_;refine Z423 ?_;refine Z197 ?_
  refine sg rfl (fun hg => sP 60 rfl hg (qO u3)) ?_
  refine sg rfl (fun hg => sP 61 rfl hg q_neq) ?_
  refine Z333 ?_
  refine gC ?_ ?_ <;> intro hb3
  ·
   have hx : isV (optR (Tr.mk xop xnm xnu xks, xb)) 1 = false := by rw [isV_optR]; have h := hb3; cases xb <;> simp [bne] at h ⊢ <;> exact h
   refine Z3 ?_;refine Z85 ?_;refine Z47 ?_;refine Z1 ?_;refine Z237 ?_;refine Z53 ?_
   exact ⟨by rw [show spanN op (xs.map optR) ss = noSP from by rw [spanN, if_pos hb2, hxs, if_pos (show (!isV (v0 ([(Tr.mk xop xnm xnu xks, xb), (Tr.mk yop ynm ynu yks, yb)].map optR) 0) 1 || !isV (v0 ([(Tr.mk xop xnm xnu xks, xb), (Tr.mk yop ynm ynu yks, yb)].map optR) 1) 1) = true from by rw [show v0 ([(Tr.mk xop xnm xnu xks, xb), (Tr.mk yop ynm ynu yks, yb)].map optR) 0 = optR (Tr.mk xop xnm xnu xks, xb) from rfl, hx]; rfl)]]; rfl, rfl⟩
  have hx : isV (optR (Tr.mk xop xnm xnu xks, xb)) 1 = true := by rw [isV_optR]; have h := hb3; cases xb <;> simp [bne] at h ⊢ <;> exact h
  have hxb : xb = true := by rw [isV_optR] at hx; exact (Bool.and_eq_true_iff.1 hx).1
  have hxn := nuV_optR (x := (Tr.mk xop xnm xnu xks, xb)) hxb
  refine Z46 ?_;refine Z206 ?_;refine Z70 ?_;refine Z206 ?_;refine Z70 ?_
  refine gL (xs := [.tmp 67, .tmp 69, .const (.int .i64 (1))]) rfl (c254 xnu ynu) ?_
  refine Z340 ?_;refine Z47 ?_;refine Z372 ?_;refine Z113 ?_;refine Z14 ?_;refine Z85 ?_;refine Z0 ?_;refine Z17 ?_;refine Z47 ?_;refine Z397 ?_
  exact ⟨by rw [show spanN op (xs.map optR) ss = okSP (ofS xnu ynu) from by rw [spanN, if_pos hb2, hxs, if_neg (show ¬ (!isV (v0 ([(Tr.mk xop xnm xnu xks, xb), (Tr.mk yop ynm ynu yks, yb)].map optR) 0) 1 || !isV (v0 ([(Tr.mk xop xnm xnu xks, xb), (Tr.mk yop ynm ynu yks, yb)].map optR) 1) 1) = true from by rw [show v0 ([(Tr.mk xop xnm xnu xks, xb), (Tr.mk yop ynm ynu yks, yb)].map optR) 0 = optR (Tr.mk xop xnm xnu xks, xb) from rfl, show v0 ([(Tr.mk xop xnm xnu xks, xb), (Tr.mk yop ynm ynu yks, yb)].map optR) 1 = optR (Tr.mk yop ynm ynu yks, yb) from rfl, hx, hy]; decide), show v0 ([(Tr.mk xop xnm xnu xks, xb), (Tr.mk yop ynm ynu yks, yb)].map optR) 0 = optR (Tr.mk xop xnm xnu xks, xb) from rfl, show v0 ([(Tr.mk xop xnm xnu xks, xb), (Tr.mk yop ynm ynu yks, yb)].map optR) 1 = optR (Tr.mk yop ynm ynu yks, yb) from rfl, hxn, hyn]; rfl]; rfl, rfl⟩
 have h89 : (op == 8 || op == 9) = true := by rw [hb2, Bool.false_or] at ho; exact ho
 refine Z67 ?_;refine Z113 ?_;refine Z14 ?_;refine Z385 ?_
 refine gL (xs := [.tmp 80, .tmp 81]) rfl ((ha0 ▸ q2)) ?_
 refine Z340 ?_;refine Z101 ?_;refine Z47 ?_;refine Z421 ?_;refine Z113 ?_;refine Z335 ?_;refine Z381 ?_
 refine gC ?_ ?_ <;> intro hb4
 ·
  refine Z3 ?_;refine Z85 ?_;refine Z47 ?_;refine Z397 ?_
  exact ⟨by rw [show spanN op (xs.map optR) ss = noSP from by rw [spanN, if_neg (by rw [hb2]; decide), if_pos h89, hxs, hss, if_pos (show (!(s0 (r :: ss')).2 || !isV (v0 ([(Tr.mk xop xnm xnu xks, xb), (Tr.mk yop ynm ynu yks, yb)].map optR) 1) 1) = true from by rw [show (!(s0 (r :: ss')).2) = true from hb4]; rfl)]]; rfl, rfl⟩
 have hr : r.2 = true := by simpa using hb4
 have hg := hgd hr
 refine Z59 ?_;refine Z408 ?_
 refine gC ?_ ?_ <;> intro hb5
 ·
  have h9 : ¬ (op == 9) = true := by
   have := eq_of_beq hb5
   subst this
   decide
  refine Z14 ?_;refine Z85 ?_;refine Z206 ?_;refine Z70 ?_
  refine gL (xs := [.tmp 92, .tmp 94]) rfl (c255 r.1.1 r.1.2.1 r.1.2.2 ynu hg) ?_
  refine Z340 ?_;refine Z47 ?_;refine Z372 ?_;refine Z113 ?_;refine Z14 ?_;refine Z85 ?_;refine Z0 ?_;refine Z17 ?_;refine Z47 ?_;refine Z317 ?_;refine Z53 ?_
  exact ⟨by rw [show spanN op (xs.map optR) ss = okSP (byS r.1.1 r.1.2.1 r.1.2.2 ynu) from by rw [spanN, if_neg (by rw [hb2]; decide), if_pos h89, hxs, hss, if_neg (show ¬ (!(s0 (r :: ss')).2 || !isV (v0 ([(Tr.mk xop xnm xnu xks, xb), (Tr.mk yop ynm ynu yks, yb)].map optR) 1) 1) = true from by rw [show (s0 (r :: ss')).2 = true from hr, show v0 ([(Tr.mk xop xnm xnu xks, xb), (Tr.mk yop ynm ynu yks, yb)].map optR) 1 = optR (Tr.mk yop ynm ynu yks, yb) from rfl, hy]; decide), if_neg h9, show v0 ([(Tr.mk xop xnm xnu xks, xb), (Tr.mk yop ynm ynu yks, yb)].map optR) 1 = optR (Tr.mk yop ynm ynu yks, yb) from rfl, hyn]; rfl]; rfl, rfl⟩
 have h9 : (op == 9) = true := by rw [hb5, Bool.false_or] at h89; exact h89
 refine Z14 ?_;refine Z85 ?_;refine Z206 ?_;refine Z70 ?_
 refine gL (xs := [.tmp 99, .tmp 101]) rfl (c256 r.1.1 r.1.2.1 r.1.2.2 ynu hg) ?_
 refine Z340 ?_;refine Z47 ?_;refine Z372 ?_;refine Z113 ?_;refine Z14 ?_;refine Z85 ?_;refine Z0 ?_;refine Z17 ?_;refine Z47 ?_;refine Z317 ?_;refine Z53 ?_
 exact ⟨by rw [show spanN op (xs.map optR) ss = okSP (countS r.1.1 r.1.2.1 r.1.2.2 ynu) from by rw [spanN, if_neg (by rw [hb2]; decide), if_pos h89, hxs, hss, if_neg (show ¬ (!(s0 (r :: ss')).2 || !isV (v0 ([(Tr.mk xop xnm xnu xks, xb), (Tr.mk yop ynm ynu yks, yb)].map optR) 1) 1) = true from by rw [show (s0 (r :: ss')).2 = true from hr, show v0 ([(Tr.mk xop xnm xnu xks, xb), (Tr.mk yop ynm ynu yks, yb)].map optR) 1 = optR (Tr.mk yop ynm ynu yks, yb) from rfl, hy]; decide), if_pos h9, show v0 ([(Tr.mk xop xnm xnu xks, xb), (Tr.mk yop ynm ynu yks, yb)].map optR) 1 = optR (Tr.mk yop ynm ynu yks, yb) from rfl, hyn]; rfl]; rfl, rfl⟩
set_option maxHeartbeats 16000000 in
theorem c108x (l : List (ByteArray × Tr)) (op : Int) (nm : ByteArray) (num : Int) (ks : List Tr) (xs : List (Tr × Bool)) (ss : List SP)
 (hl : COk l) (h5 : (op == 5) = true → ∃ k0 x, ks = [k0] ∧ xs = [x] ∧ Pf Tryz.prog 108 [k0.d, .sl (l.map cD)] (.tup [.d (x).1.d, .d (.bool (x).2)]))
 (h6 : (op == 6) = true → ∃ k0 k1 x y, ks = [k0, k1] ∧ xs = [x, y] ∧ Pf Tryz.prog 108 [k0.d, .sl (l.map cD)] (.tup [.d (x).1.d, .d (.bool (x).2)]) ∧ Pf Tryz.prog 108 [k1.d, .sl (l.map cD)] (.tup [.d (y).1.d, .d (.bool (y).2)]))
 (h19 : (op == 19) = true → ∃ k0 k1 k2 x y u, ks = [k0, k1, k2] ∧ xs = [x, y, u] ∧ Pf Tryz.prog 108 [k0.d, .sl (l.map cD)] (.tup [.d (x).1.d, .d (.bool (x).2)]) ∧ Pf Tryz.prog 108 [k1.d, .sl (l.map cD)] (.tup [.d (y).1.d, .d (.bool (y).2)]) ∧ Pf Tryz.prog 108 [k2.d, .sl (l.map cD)] (.tup [.d (u).1.d, .d (.bool (u).2)]) ∧ (x.2 = true → x.1.op = 2 → x.1.nu = 0 ∨ x.1.nu = 1))
 (h14 : (op == 14) = true → ∃ k0 r, ks = [k0] ∧ ss = [r] ∧ Pf Tryz.prog 192 [k0.d, .sl (l.map cD)] (.tup [.d (.agg [.int .i64 r.1.1, .int .i64 r.1.2.1, .int .i64 r.1.2.2]), .d (.bool r.2)]) ∧ (r.2 = true → Good r.1.1 r.1.2.1 r.1.2.2)) : Pf Tryz.prog 108 [.agg [.int .i64 op, .str nm, .int .i64 num, .sl (ks.map Tr.d)], .sl (l.map cD)] (.tup [.d (valNR l op nm num ks xs ss).1.d, .d (.bool (valNR l op nm num ks xs ss).2)]) := by
 refine pf_body (rvs := [.cell 4 27, .tmp 5]) [(0, .d (.agg [.int .i64 op, .str nm, .int .i64 num, .sl (ks.map Tr.d)])), (1, .d (.sl (l.map cD)))] Tryz.func108 Tryz.ntmps108 Tryz.results108 (fun S0 O0 w0 m0 hm0 => ?_)
 refine Z325 ?_;refine Z203 ?_
 have hl1 := hl.1
 refine Z29 ?_;refine Z328 ?_;refine Z323 ?_;refine Z35 ?_
 refine G_seq_cut (α := Bool) (fun w => ⟨[(1, .d (.sl (l.map cD))), (2, .d (.ptr (.agg [.int .i64 op, .str nm, .int .i64 num, .sl (ks.map Tr.d)]))), (4, .ref 0 0), (5, .d (.bool false)), (18, .d (.int .i64 op)), (19, .d (.bool w))], [[.d (.int .i64 0), .d (.str ⟨#[]⟩), .d (.int .i64 0), .nils]]⟩) (fun w => w = (op == 1 || op == 2)) (fun Q' hn he hr => ?_) (fun w hw => ?_)
 ·
  refine Z354 ?_
  refine gC ?_ ?_ <;> intro hb0
  ·
   refine Z205 ?_
   refine hn _ (op == 1) (by rw [hb0]; rfl) le_of
  refine Z14 ?_;refine Z17 ?_;refine Z331 ?_
  refine hn _ (op == 2) (by rw [hb0]; rfl) le_of
 skip
 refine gC ?_ ?_ <;> intro hb1
 ·
  refine Z358 ?_;refine Z19 ?_;refine Z322 ?_;refine Z50 ?_
  exact ⟨by rw [show valNR l op nm num ks xs ss = (.mk op nm num ks, true) from by rw [valNR, if_pos (hw ▸ hb1)]]; dsimp only; rw [Tr.d_mk], rfl⟩
 refine Z354 ?_
 refine gC ?_ ?_ <;> intro hb2
 ·
  refine Z352 ?_
  refine vq rfl (q_len u49) ?_
  rw [List.length_map]
  refine vq rfl (q_sub (hw := (wrap_i64 (by omega) (by omega)))) ?_
  refine Z357 ?_
  refine g_loop (α := Nat) (fun m => ⟨[(6, .d (.int .i64 ((m : Nat) - 1))), (2, .d (.ptr (.agg [.int .i64 op, .str nm, .int .i64 num, .sl (ks.map Tr.d)]))), (1, .d (.sl (l.map cD))), (4, .ref 0 0), (5, .d (.bool false))], [[.d (.int .i64 0), .d (.str ⟨#[]⟩), .d (.int .i64 0), .nils]]⟩) (fun m => m) (fun m => m ≤ l.length ∧ findK nm (kl l) = findK nm (kl (l.take m))) l.length ⟨Nat.le_refl _, by rw [List.take_length]⟩ (fun m hm Q' hn0 he0 hr0 => ?_) (le_of)
  obtain ⟨hm1, hm2⟩ := hm
  refine Z355 ?_;refine Z93 ?_;refine Z5 ?_
  refine gC ?_ ?_ <;> intro hb3
  ·
   have hm3 : ((m : Nat) : Int) - 1 ≥ 0 := by simpa using hb3
   obtain ⟨z, rfl⟩ : ∃ z, m = z + 1 := ⟨m - 1, by omega⟩
   rw [show (((z + 1 : Nat) : Int) - 1) = (z : Int) from by omega]
   obtain ⟨c, hc⟩ : ∃ c, l[z]? = some c := ⟨_, gE (by omega)⟩
   have hks2 := kl_step hc
   obtain ⟨cn, cop, cnm, cnu, cks⟩ := c
   have hxd := cD_get hc
   rw [show cD (cn, .mk cop cnm cnu cks) = .agg [.str cn, .int .i64 cop, .str cnm, .int .i64 cnu, .sl (cks.map Tr.d)] from by unfold cD; rw [Tr.d_mk]; rfl] at hxd
   refine gK (tN (gS (G_block (gS ?_))))
   refine G_draw 8 [0, 1, 2, 3, 4, 5, 6, 7] rfl rfl (by kernel_rfl) ?_
   refine Z256 ?_;refine Z256 ?_
   refine sq rfl (qI u49 sz59) ?_
   refine sq rfl (qF u59 rfl sz9) ?_
   refine Z306 ?_
   refine sq rfl (qF u27 rfl sz9) ?_
   refine Z306 ?_
   refine sq rfl q_streq ?_
   refine GQ_nil (by kernel_rfl) (tN ?_)
   refine gC ?_ ?_ <;> intro hb4
   ·
    refine Z420 ?_;refine Z269 ?_
    refine vq rfl (q_fieldp_agg u59 rfl sz27) ?_
    refine vq rfl (qG (ds := [.int .i64 cop, .str cnm, .int .i64 cnu, .sl (cks.map Tr.d)]) (by exact sz27) u27 rfl) ?_
    refine Z19 ?_;refine Z322 ?_;refine Z107 ?_
    refine bR (bR (tR ?_))
    refine Z50 ?_
    exact ⟨by rw [show valNR l op nm num ks xs ss = (.mk cop cnm cnu cks, true) from by rw [valNR, if_neg (by rw [← hw, hb1]; decide), if_pos hb2, findR, hm2, hks2, findK, if_pos (by simpa using hb4)]]; dsimp only; rw [Tr.d_mk], rfl⟩
   refine Z77 ?_;refine Z0 ?_;refine Z214 ?_;refine Z331 ?_
   refine hn0 _ z ⟨by omega, by rw [hm2, hks2, findK, if_neg (by simpa using hb4)]⟩ (by omega) le_of
  have hm0 : m = 0 := by
   have h : ¬ ((m : Nat) : Int) - 1 ≥ 0 := by simpa using hb3
   omega
  refine Z342 ?_
  refine blk_exit (bN (tN (gS (gR ?_))))
  refine Z392 ?_;refine Z438 ?_
  exact ⟨by rw [show valNR l op nm num ks xs ss = (z0, false) from by rw [valNR, if_neg (by rw [← hw, hb1]; decide), if_pos hb2, findR, hm2, hm0]; rfl]; dsimp only; rw [z0_d], rfl⟩
 refine Z354 ?_
 refine gC ?_ ?_ <;> intro hb5
 ·
  obtain ⟨k0, x, hks, hxs, q0⟩ := h5 hb5
  obtain ⟨⟨xop, xnm, xnu, xks⟩, xb⟩ := x
  dsimp only at q0
  rw [Tr.d_mk] at q0
  obtain ⟨op0, nm0, nu0, ks0, ha0⟩ := k0.d_agg
  have hx0 : (ks.map Tr.d)[0]? = some (.agg [.int .i64 op0, .str nm0, .int .i64 nu0, .sl (ks0.map Tr.d)]) := by rw [hks, ← ha0]; rfl
  have hU := (unaryR nm (.mk xop xnm xnu xks)).1.d_eta
  refine Z51 ?_;refine Z115 ?_;refine Z14 ?_;refine Z385 ?_
  refine gL (xs := [.tmp 51, .tmp 52]) rfl ((ha0 ▸ q0)) ?_
  refine Z430 ?_;refine Z372 ?_;refine Z115 ?_;refine Z335 ?_;refine Z5 ?_
  refine gC ?_ ?_ <;> intro hb6
  ·
   refine Z3 ?_;refine Z336 ?_;refine Z55 ?_
   refine gL (xs := [.tmp 58, .tmp 59]) rfl ((hU ▸ Tr.d_mk xop xnm xnu xks ▸ c189 (.mk xop xnm xnu xks) nm)) ?_
   refine Z334 ?_;refine Z19 ?_;refine Z322 ?_;refine Z50 ?_
   exact ⟨by rw [show valNR l op nm num ks xs ss = unaryR nm (.mk xop xnm xnu xks) from by rw [valNR, if_neg (by rw [← hw, hb1]; decide), if_neg (by rw [hb2]; decide), if_pos hb5, hxs, if_pos (show (x0 [(Tr.mk xop xnm xnu xks, xb)] 0).2 = true from hb6)]; rfl]; rw [hU], rfl⟩
  refine Z82 ?_;refine Z392 ?_;refine Z438 ?_
  exact ⟨by rw [show valNR l op nm num ks xs ss = (z0, false) from by rw [valNR, if_neg (by rw [← hw, hb1]; decide), if_neg (by rw [hb2]; decide), if_pos hb5, hxs, if_neg (show ¬ (x0 [(Tr.mk xop xnm xnu xks, xb)] 0).2 = true from by show ¬ xb = true; rw [show xb = false from hb6]; decide)]]; dsimp only; rw [z0_d], rfl⟩
 refine Z51 ?_;refine Z115 ?_;refine Z400 ?_
 refine gC ?_ ?_ <;> intro hb7
 ·
  obtain ⟨k0, k1, x, y, hks, hxs, q0, q1⟩ := h6 hb7
  refine Z44 ?_;refine Z336 ?_;refine Z54 ?_;refine Z0 ?_;refine Z65 ?_
  refine sg rfl (fun hg => sP 69 rfl hg (qL u9)) ?_
  refine sg rfl (fun hg => sP 70 rfl hg q_streq) ?_
  refine Z333 ?_
  refine gC ?_ ?_ <;> intro hb8
  ·
   have hU := (shortR nm x y).1.d_eta
   refine Z358 ?_;refine Z0 ?_
   refine gL (xs := [.tmp 73, .tmp 74]) rfl ((hU ▸ hks ▸ c190x l op nm num k0 k1 x y q0 q1)) ?_
   refine Z334 ?_;refine Z19 ?_;refine Z396 ?_;refine Z50 ?_
   exact ⟨by rw [show valNR l op nm num ks xs ss = shortR nm x y from by rw [valNR, if_neg (by rw [← hw, hb1]; decide), if_neg (by rw [hb2]; decide), if_neg (by rw [hb5]; decide), if_pos hb7, hxs, if_pos (show (decide (nm = andB) || decide (nm = orB)) = true from hb8)]; rfl]; rw [hU], rfl⟩
  obtain ⟨⟨xop, xnm, xnu, xks⟩, xb⟩ := x
  dsimp only at q0
  rw [Tr.d_mk] at q0
  obtain ⟨⟨yop, ynm, ynu, yks⟩, yb⟩ := y
  dsimp only at q1
  rw [Tr.d_mk] at q1
  obtain ⟨op0, nm0, nu0, ks0, ha0⟩ := k0.d_agg
  have hx0 : (ks.map Tr.d)[0]? = some (.agg [.int .i64 op0, .str nm0, .int .i64 nu0, .sl (ks0.map Tr.d)]) := by rw [hks, ← ha0]; rfl
  obtain ⟨op1, nm1, nu1, ks1, ha1⟩ := k1.d_agg
  have hx1 : (ks.map Tr.d)[1]? = some (.agg [.int .i64 op1, .str nm1, .int .i64 nu1, .sl (ks1.map Tr.d)]) := by rw [hks, ← ha1]; rfl
  have hU := (binR nm (.mk xop xnm xnu xks) (.mk yop ynm ynu yks)).1.d_eta
  refine Z46 ?_;refine Z385 ?_
  refine gL (xs := [.tmp 82, .tmp 83]) rfl ((ha0 ▸ q0)) ?_
  refine Z430 ?_;refine Z372 ?_;refine Z115 ?_;refine Z14 ?_;refine Z385 ?_
  refine gL (xs := [.tmp 91, .tmp 92]) rfl ((ha1 ▸ q1)) ?_
  refine Z430 ?_;refine Z372 ?_;refine Z115 ?_;refine Z402 ?_;refine Z18 ?_;refine Z369 ?_
  refine gC ?_ ?_ <;> intro hb9
  ·
   refine Z3 ?_;refine Z336 ?_;refine Z55 ?_;refine Z55 ?_
   refine gL (xs := [.tmp 101, .tmp 102, .tmp 103]) rfl ((hU ▸ c191 nm xop xnu yop ynu xnm ynm xks yks)) ?_
   refine Z334 ?_;refine Z19 ?_;refine Z322 ?_;refine Z50 ?_
   exact ⟨by rw [show valNR l op nm num ks xs ss = binR nm (.mk xop xnm xnu xks) (.mk yop ynm ynu yks) from by rw [valNR, if_neg (by rw [← hw, hb1]; decide), if_neg (by rw [hb2]; decide), if_neg (by rw [hb5]; decide), if_pos hb7, hxs, if_neg (by rw [show (decide (nm = andB) || decide (nm = orB)) = false from hb8]; decide), if_pos (show ((x0 [(Tr.mk xop xnm xnu xks, xb), (Tr.mk yop ynm ynu yks, yb)] 0).2 && (x0 [(Tr.mk xop xnm xnu xks, xb), (Tr.mk yop ynm ynu yks, yb)] 1).2) = true from hb9)]; rfl]; rw [hU], rfl⟩
  refine Z82 ?_;refine Z392 ?_;refine Z438 ?_
  exact ⟨by rw [show valNR l op nm num ks xs ss = (z0, false) from by rw [valNR, if_neg (by rw [← hw, hb1]; decide), if_neg (by rw [hb2]; decide), if_neg (by rw [hb5]; decide), if_pos hb7, hxs, if_neg (by rw [show (decide (nm = andB) || decide (nm = orB)) = false from hb8]; decide), if_neg (by rw [show ((x0 [(Tr.mk xop xnm xnu xks, xb), (Tr.mk yop ynm ynu yks, yb)] 0).2 && (x0 [(Tr.mk xop xnm xnu xks, xb), (Tr.mk yop ynm ynu yks, yb)] 1).2) = false from hb9]; decide)]]; dsimp only; rw [z0_d], rfl⟩
 refine Z354 ?_
 refine gC ?_ ?_ <;> intro hb10
 ·
  obtain ⟨k0, k1, k2, x, y, u, hks, hxs, q0, q1, q2, hxn⟩ := h19 hb10
  obtain ⟨⟨xop, xnm, xnu, xks⟩, xb⟩ := x
  dsimp only at q0
  rw [Tr.d_mk] at q0
  obtain ⟨⟨yop, ynm, ynu, yks⟩, yb⟩ := y
  dsimp only at q1
  rw [Tr.d_mk] at q1
  obtain ⟨⟨uop, unm, unu, uks⟩, ub⟩ := u
  dsimp only at q2
  rw [Tr.d_mk] at q2
  obtain ⟨op0, nm0, nu0, ks0, ha0⟩ := k0.d_agg
  have hx0 : (ks.map Tr.d)[0]? = some (.agg [.int .i64 op0, .str nm0, .int .i64 nu0, .sl (ks0.map Tr.d)]) := by rw [hks, ← ha0]; rfl
  obtain ⟨op1, nm1, nu1, ks1, ha1⟩ := k1.d_agg
  have hx1 : (ks.map Tr.d)[1]? = some (.agg [.int .i64 op1, .str nm1, .int .i64 nu1, .sl (ks1.map Tr.d)]) := by rw [hks, ← ha1]; rfl
  obtain ⟨op2, nm2, nu2, ks2, ha2⟩ := k2.d_agg
  have hx2 : (ks.map Tr.d)[2]? = some (.agg [.int .i64 op2, .str nm2, .int .i64 nu2, .sl (ks2.map Tr.d)]) := by rw [hks, ← ha2]; rfl
  refine Z3 ?_;refine Z385 ?_
  refine gL (xs := [.tmp 113, .tmp 114]) rfl ((ha0 ▸ q0)) ?_
  refine Z430 ?_;refine Z372 ?_;refine Z115 ?_;refine Z402 ?_;refine Z197 ?_
  refine sg rfl (fun hg => sP 120 rfl hg (qO u3)) ?_
  refine sg rfl (fun hg => sP 121 rfl hg q_eql) ?_
  refine Z369 ?_
  refine gC ?_ ?_ <;> intro hb11
  ·
   have hnn : xnu = 0 ∨ xnu = 1 := by
    have h := Bool.and_eq_true_iff.1 hb11
    exact hxn h.1 (eq_of_beq h.2)
   refine Z51 ?_
   rcases hnn with rfl | rfl
   ·
    refine Z14 ?_;refine Z326 ?_;refine Z206 ?_;refine Z70 ?_
    refine vq rfl (q_sub (hw := (show IntKind.i64.wrap (2 - 0) = 2 from by decide))) ?_
    refine Z343 ?_;refine Z0 ?_
    refine gL (xs := [.tmp 130, .tmp 131]) rfl ((ha2 ▸ q2)) ?_
    refine Z334 ?_;refine Z19 ?_;refine Z322 ?_;refine Z50 ?_
    exact ⟨by rw [show valNR l op nm num ks xs ss = (Tr.mk uop unm unu uks, ub) from by rw [valNR, if_neg (by rw [← hw, hb1]; decide), if_neg (by rw [hb2]; decide), if_neg (by rw [hb5]; decide), if_neg (by rw [hb7]; decide), if_pos hb10, hxs, if_pos (show ((x0 [(Tr.mk xop xnm 0 xks, xb), (Tr.mk yop ynm ynu yks, yb), (Tr.mk uop unm unu uks, ub)] 0).2 && (x0 [(Tr.mk xop xnm 0 xks, xb), (Tr.mk yop ynm ynu yks, yb), (Tr.mk uop unm unu uks, ub)] 0).1.op == 2) = true from hb11)]; rfl]; dsimp only; rw [Tr.d_mk], rfl⟩
   refine Z14 ?_;refine Z326 ?_;refine Z206 ?_;refine Z70 ?_
   refine vq rfl (q_sub (hw := (show IntKind.i64.wrap (2 - 1) = 1 from by decide))) ?_
   refine Z343 ?_;refine Z0 ?_
   refine gL (xs := [.tmp 130, .tmp 131]) rfl ((ha1 ▸ q1)) ?_
   refine Z334 ?_;refine Z19 ?_;refine Z322 ?_;refine Z50 ?_
   exact ⟨by rw [show valNR l op nm num ks xs ss = (Tr.mk yop ynm ynu yks, yb) from by rw [valNR, if_neg (by rw [← hw, hb1]; decide), if_neg (by rw [hb2]; decide), if_neg (by rw [hb5]; decide), if_neg (by rw [hb7]; decide), if_pos hb10, hxs, if_pos (show ((x0 [(Tr.mk xop xnm 1 xks, xb), (Tr.mk yop ynm ynu yks, yb), (Tr.mk uop unm unu uks, ub)] 0).2 && (x0 [(Tr.mk xop xnm 1 xks, xb), (Tr.mk yop ynm ynu yks, yb), (Tr.mk uop unm unu uks, ub)] 0).1.op == 2) = true from hb11)]; rfl]; dsimp only; rw [Tr.d_mk], rfl⟩
  refine Z82 ?_;refine Z392 ?_;refine Z438 ?_
  exact ⟨by rw [show valNR l op nm num ks xs ss = (z0, false) from by rw [valNR, if_neg (by rw [← hw, hb1]; decide), if_neg (by rw [hb2]; decide), if_neg (by rw [hb5]; decide), if_neg (by rw [hb7]; decide), if_pos hb10, hxs, if_neg (by rw [show ((x0 [(Tr.mk xop xnm xnu xks, xb), (Tr.mk yop ynm ynu yks, yb), (Tr.mk uop unm unu uks, ub)] 0).2 && (x0 [(Tr.mk xop xnm xnu xks, xb), (Tr.mk yop ynm ynu yks, yb), (Tr.mk uop unm unu uks, ub)] 0).1.op == 2) = false from hb11]; decide)]]; dsimp only; rw [z0_d], rfl⟩
 refine Z354 ?_
 refine gC ?_ ?_ <;> intro hb12
 ·
  obtain ⟨k0, r, hks, hss, q0, hgd⟩ := h14 hb12
  obtain ⟨op0, nm0, nu0, ks0, ha0⟩ := k0.d_agg
  have hx0 : (ks.map Tr.d)[0]? = some (.agg [.int .i64 op0, .str nm0, .int .i64 nu0, .sl (ks0.map Tr.d)]) := by rw [hks, ← ha0]; rfl
  refine Z3 ?_;refine Z385 ?_
  refine gL (xs := [.tmp 141, .tmp 142]) rfl ((ha0 ▸ q0)) ?_
  refine Z340 ?_;refine Z101 ?_;refine Z47 ?_;refine Z372 ?_;refine Z115 ?_;refine Z402 ?_;refine Z65 ?_
  refine sg rfl (fun hg => sP 148 rfl hg (qL u9)) ?_
  refine sg rfl (fun hg => sP 149 rfl hg q_streq) ?_
  refine Z369 ?_
  refine gC ?_ ?_ <;> intro hb13
  ·
   have hg := hgd (Bool.and_eq_true_iff.1 hb13).1
   refine Z3 ?_;refine Z85 ?_
   refine gL (xs := [.tmp 152]) rfl (c194 r.1.1 r.1.2.1 r.1.2.2 hg) ?_
   refine gL (xs := [.tmp 153]) rfl (c193 _) ?_
   refine Z19 ?_;refine Z322 ?_;refine Z50 ?_
   exact ⟨by rw [show valNR l op nm num ks xs ss = (intT (sizeS r.1.1 r.1.2.1 r.1.2.2), true) from by rw [valNR, if_neg (by rw [← hw, hb1]; decide), if_neg (by rw [hb2]; decide), if_neg (by rw [hb5]; decide), if_neg (by rw [hb7]; decide), if_neg (by rw [hb10]; decide), if_pos hb12, hss, if_pos (show ((s0 [r]).2 && decide (nm = sizeB)) = true from hb13)]; rfl]; dsimp only; rw [intT_d], rfl⟩
  refine Z82 ?_;refine Z392 ?_;refine Z438 ?_
  exact ⟨by rw [show valNR l op nm num ks xs ss = (z0, false) from by rw [valNR, if_neg (by rw [← hw, hb1]; decide), if_neg (by rw [hb2]; decide), if_neg (by rw [hb5]; decide), if_neg (by rw [hb7]; decide), if_neg (by rw [hb10]; decide), if_pos hb12, hss, if_neg (by rw [show ((s0 [r]).2 && decide (nm = sizeB)) = false from hb13]; decide)]]; dsimp only; rw [z0_d], rfl⟩
 refine Z82 ?_;refine Z392 ?_;refine Z438 ?_
 exact ⟨by rw [show valNR l op nm num ks xs ss = (z0, false) from by rw [valNR, if_neg (by rw [← hw, hb1]; decide), if_neg (by rw [hb2]; decide), if_neg (by rw [hb5]; decide), if_neg (by rw [hb7]; decide), if_neg (by rw [hb10]; decide), if_neg (by rw [hb12]; decide)]]; dsimp only; rw [z0_d], rfl⟩
end
section
theorem v0_x0 (xs : List (Tr × Bool)) (i : Nat) : v0 (xs.map optR) i = optR (x0 xs i) := by
 unfold v0 x0
 rw [List.getD_eq_getElem?_getD, List.getD_eq_getElem?_getD, List.getElem?_map]
 cases xs[i]? <;> rfl
theorem unary_eq (nm : ByteArray) (x : Tr × Bool) : optR (if x.2 = true then unaryR nm x.1 else (z0, false)) = unaryV nm (optR x) := by
 obtain ⟨⟨op, n, num, ks⟩, b⟩ := x
 cases b
 · rfl
 · rw [if_pos rfl, show optR (Tr.mk op n num ks, true) = some (.mk op n num ks) from rfl]
   unfold unaryR unaryV
   dsimp only
   split
   · rfl
   · split <;> rfl
theorem short_eq (nm : ByteArray) (x y : Tr × Bool) (h : (decide (nm = andB) || decide (nm = orB)) = true) : optR (shortR nm x y) = binV nm (optR x) (optR y) := by
 unfold binV
 rw [if_pos h, isV_optR, isV_optR]
 unfold shortR
 obtain ⟨tx, bx⟩ := x
 obtain ⟨ty, bY⟩ := y
 cases bx
 · rfl
 · simp only [Bool.not_true, Bool.false_or, Bool.true_and, bne]
   split
   · rfl
   · rw [nuV_optR (x := (tx, true)) rfl]
     rw [show ((decide (nm = orB)) == (tx.nu == 1)) = ((tx.nu == 1) == decide (nm = orB)) from Bool.beq_comm]
     split
     · rfl
     · cases bY
       · rfl
       · cases h2 : ty.op == 2 <;> simp [optR, h2]
variable {a b : Int}
theorem fits_add (ha : wf64 a) (hb : wf64 b) : ((decide (b ≤ 0) || decide (a ≤ W (maxI - b))) && (decide (b ≥ 0) || decide (a ≥ W (minI - b)))) = (decide (b ≥ 0) == decide (W (a + b) ≥ a)) := by
 unfold wf64 at ha hb
 unfold W IntKind.wrap maxI minI
 simp only [IntKind.signed, IntKind.bits, Bool.true_and]
 rw [Bool.eq_iff_iff]
 simp only [Bool.and_eq_true, Bool.or_eq_true, decide_eq_true_eq, beq_iff_eq, decide_eq_decide, ge_iff_le]
 omega
theorem fits_sub (ha : wf64 a) (hb : wf64 b) : ((decide (b ≥ 0) || decide (a ≤ W (maxI + b))) && (decide (b ≤ 0) || decide (a ≥ W (minI + b)))) = (decide (b ≥ 0) == decide (W (a - b) ≤ a)) := by
 unfold wf64 at ha hb
 unfold W IntKind.wrap maxI minI
 simp only [IntKind.signed, IntKind.bits, Bool.true_and]
 rw [Bool.eq_iff_iff]
 simp only [Bool.and_eq_true, Bool.or_eq_true, decide_eq_true_eq, beq_iff_eq, decide_eq_decide, ge_iff_le]
 omega
theorem fits_mul (a b : Int) : mulV a b = optR (intT (if (a == 0 || b == 0) = true then (0, true) else if mulBad a b = true then (0, false) else (W (a * b), W ((W (a * b)).tdiv b) == a) : Int × Bool).1, (if (a == 0 || b == 0) = true then (0, true) else if mulBad a b = true then (0, false) else (W (a * b), W ((W (a * b)).tdiv b) == a) : Int × Bool).2) := by
 unfold mulV fitsV optR mulBad
 cases h0 : (a == 0 || b == 0) with
 | true =>
  have : a * b = 0 := by
   rw [Bool.or_eq_true, beq_iff_eq, beq_iff_eq] at h0
   rcases h0 with h | h <;> rw [h] <;> simp
  rw [this]
  rfl
 | false =>
  simp only [Bool.false_or, Bool.false_eq_true, if_false]
  rw [show ((a != -1 || b != minI) && (b != -1 || a != minI)) = !(a == minI && b == -1 || b == minI && a == -1) from by
   simp only [bne]
   cases a == -1 <;> cases b == minI <;> cases b == -1 <;> cases a == minI <;> rfl]
  cases (a == minI && b == -1 || b == minI && a == -1) with
  | true => rfl
  | false => rfl
theorem fits_div (a b : Int) : (!divB a b) = quoBad a b := by
 unfold divB quoBad
 simp only [bne]
 cases a == minI <;> cases b == -1 <;> cases b == 0 <;> rfl
def okI (x : Int × Bool) : Option Tr := if x.2 = true then some (intT x.1) else none
theorem tabs (nm : ByteArray) {a b : Int} (ha : wf64 a) (hb : wf64 b) :
 (∃ o, tabGet intTab nm = some o ∧ tabGet cmpTab nm = none ∧ o.f a b = okI (ariR nm a b) ∧ cmpR nm a b = (false, false) ∧ nm ≠ eqB ∧ nm ≠ neB) ∨
 (∃ o, tabGet intTab nm = none ∧ tabGet cmpTab nm = some o ∧ cmpR nm a b = (o.f a b, true)) ∨
 (tabGet intTab nm = none ∧ tabGet cmpTab nm = none ∧ ariR nm a b = (0, false) ∧ cmpR nm a b = (false, false) ∧ nm ≠ eqB ∧ nm ≠ neB) := by
 by_cases h1 : nm = ⟨#[43]⟩
 · subst h1; exact .inl ⟨_, rfl, rfl, by show addV a b = _; unfold addV; rw [fits_add ha hb]; rfl, rfl, by decide, by decide⟩
 by_cases h2 : nm = ⟨#[45]⟩
 · subst h2; exact .inl ⟨_, rfl, rfl, by show subV a b = _; unfold subV; rw [fits_sub ha hb]; rfl, rfl, by decide, by decide⟩
 by_cases h3 : nm = ⟨#[42]⟩
 · subst h3; exact .inl ⟨_, rfl, rfl, by show mulV a b = _; rw [fits_mul]; rfl, rfl, by decide, by decide⟩
 by_cases h4 : nm = ⟨#[47]⟩
 · subst h4; exact .inl ⟨_, rfl, rfl, by
    show quoV a b = _; unfold quoV; rw [fits_div]
    show _ = okI (if quoBad a b = true then (0, false) else (W (a.tdiv b), true))
    split <;> rfl, rfl, by decide, by decide⟩
 by_cases h5 : nm = ⟨#[37]⟩
 · subst h5; exact .inl ⟨_, rfl, rfl, by
    show remV a b = _; unfold remV; rw [fits_div]
    show _ = okI (if quoBad a b = true then (0, false) else (a.tmod b, true))
    split <;> rfl, rfl, by decide, by decide⟩
 by_cases h6 : nm = ⟨#[61, 61]⟩
 · subst h6; exact .inr (.inl ⟨_, rfl, rfl, rfl⟩)
 by_cases h7 : nm = ⟨#[33, 61]⟩
 · subst h7; exact .inr (.inl ⟨_, rfl, rfl, rfl⟩)
 by_cases h8 : nm = ⟨#[60]⟩
 · subst h8; exact .inr (.inl ⟨_, rfl, rfl, rfl⟩)
 by_cases h9 : nm = ⟨#[60, 61]⟩
 · subst h9; exact .inr (.inl ⟨_, rfl, rfl, rfl⟩)
 by_cases h10 : nm = ⟨#[62]⟩
 · subst h10; exact .inr (.inl ⟨_, rfl, rfl, rfl⟩)
 by_cases h11 : nm = ⟨#[62, 61]⟩
 · subst h11; exact .inr (.inl ⟨_, rfl, rfl, rfl⟩)
 refine .inr (.inr ⟨?_, ?_, ?_, ?_, h6, h7⟩)
 · unfold tabGet intTab; simp [Ne.symm, h1, h2, h3, h4, h5, eq_comm]
 · unfold tabGet cmpTab; simp [eq_comm, h6, h7, h8, h9, h10, h11]
 · unfold ariR; simp [h1, h2, h3, h4, h5]
 · unfold cmpR; simp [h6, h7, h8, h9, h10, h11]
theorem bin_eq (nm : ByteArray) (x y : Tr × Bool) (h : (decide (nm = andB) || decide (nm = orB)) = false) (hx : x.2 = true → ValOk x.1) (hy : y.2 = true → ValOk y.1) :
 optR (if (x.2 && y.2) = true then binR nm x.1 y.1 else (z0, false)) = binV nm (optR x) (optR y) := by
 unfold binV
 rw [if_neg (show ¬ (decide (nm = andB) || decide (nm = orB)) = true from by rw [h]; decide)]
 obtain ⟨tx, bx⟩ := x
 obtain ⟨ty, bY⟩ := y
 have hnone : ∀ a b : Option Tr, (a = none ∨ b = none) → (match tabGet intTab nm with
  | some o => if (isV a 1 && isV b 1) = true then o.f (nuV a) (nuV b) else cmpV nm a b
  | none => cmpV nm a b) = none := fun a b hab => by
  have hc : cmpV nm a b = none := by
   unfold cmpV
   split
   · rfl
   · rcases hab with rfl | rfl
     · rfl
     · cases a <;> simp [isV]
  split
  · rw [hc, if_neg]
    rcases hab with rfl | rfl
    · simp [isV]
    · cases a <;> simp [isV]
  · exact hc
 cases bx
 · exact (hnone _ _ (.inl rfl)).symm
 cases bY
 · exact (hnone _ _ (.inr rfl)).symm
 rw [if_pos (show (((tx, true) : Tr × Bool).2 && ((ty, true) : Tr × Bool).2) = true from rfl), show optR (tx, true) = some tx from rfl, show optR (ty, true) = some ty from rfl]
 rcases hx rfl with ⟨n, hn, e⟩ | ⟨p, e⟩ <;> replace e : tx = _ := e <;> subst e <;> rcases hy rfl with ⟨m, hm, e⟩ | ⟨q, e⟩ <;> replace e : ty = _ := e <;> subst e
 · rw [show isV (some (intT n)) 1 = true from rfl, show isV (some (intT m)) 1 = true from rfl, show nuV (some (intT n)) = n from rfl, show nuV (some (intT m)) = m from rfl, show binR nm (intT n) (intT m) = if (cmpR nm n m).2 = true then (boolT (cmpR nm n m).1, true) else (intT (ariR nm n m).1, (ariR nm n m).2) from rfl]
   have hc : cmpV nm (some (intT n)) (some (intT m)) = match tabGet cmpTab nm with | none => none | some o => some (boolT (o.f n m)) := by
    unfold cmpV
    rfl
   rcases tabs nm hn hm with ⟨o, t1, t2, t3, t4, _⟩ | ⟨o, t1, t2, t3⟩ | ⟨t1, t2, t3, t4, _⟩
   · rw [t1, t4]
     show optR (if false = true then _ else _) = if (true && true) = true then _ else _
     rw [if_neg (by decide)]
     show _ = o.f n m
     rw [t3]
     rfl
   · rw [t1, t3, hc, t2]
     rfl
   · rw [t1, t3, t4, hc, t2]
     rfl
 · rw [show binR nm (intT n) (boolT q) = (z0, false) from rfl]
   have hc : cmpV nm (some (intT n)) (some (boolT q)) = none := by
    unfold cmpV
    split
    · rfl
    · rfl
   split
   · exact hc.symm
   · exact hc.symm
 · rw [show binR nm (boolT p) (intT m) = (z0, false) from rfl]
   have hc : cmpV nm (some (boolT p)) (some (intT m)) = none := by
    unfold cmpV
    split
    · rfl
    · rfl
   split
   · exact hc.symm
   · exact hc.symm
 · have e1 : (boolT p).nu = if p = true then 1 else 0 := rfl
   have e2 : (boolT q).nu = if q = true then 1 else 0 := rfl
   have hb : binR nm (boolT p) (boolT q) = if (!decide (nm = eqB) && !decide (nm = neB)) = true then (z0, false) else if (cmpR nm (boolT p).nu (boolT q).nu).2 = true then (boolT (cmpR nm (boolT p).nu (boolT q).nu).1, true) else (intT (ariR nm (boolT p).nu (boolT q).nu).1, (ariR nm (boolT p).nu (boolT q).nu).2) := rfl
   have hc : cmpV nm (some (boolT p)) (some (boolT q)) = match tabGet cmpTab nm with | none => none | some o => if (decide (nm = eqB) || decide (nm = neB)) = true then some (boolT (o.f (boolT p).nu (boolT q).nu)) else none := by
    unfold cmpV
    rfl
   have hp : wf64 (boolT p).nu := by rw [e1]; unfold wf64; split <;> omega
   have hq : wf64 (boolT q).nu := by rw [e2]; unfold wf64; split <;> omega
   rw [hb]
   generalize (boolT p).nu = n at hc hp ⊢
   generalize (boolT q).nu = m at hc hq ⊢
   have hv : (match tabGet intTab nm with
    | some o => if (isV (some (boolT p)) 1 && isV (some (boolT q)) 1) = true then o.f (nuV (some (boolT p))) (nuV (some (boolT q))) else cmpV nm (some (boolT p)) (some (boolT q))
    | none => cmpV nm (some (boolT p)) (some (boolT q))) = cmpV nm (some (boolT p)) (some (boolT q)) := by
    split
    · rfl
    · rfl
   refine Eq.trans ?_ hv.symm
   rw [hc]
   rcases tabs nm hp hq with ⟨o, t1, t2, t3, t4, t5, t6⟩ | ⟨o, t1, t2, t3⟩ | ⟨t1, t2, t3, t4, t5, t6⟩
   · rw [t2, decide_eq_false t5, decide_eq_false t6]
     rfl
   · rw [t2, t3]
     cases decide (nm = eqB) <;> cases decide (nm = neB) <;> rfl
   · rw [t2, decide_eq_false t5, decide_eq_false t6]
     rfl
theorem valNR_eq (l : List (ByteArray × Tr)) (op : Int) (nm : ByteArray) (num : Int) (ks : List Tr) (xs : List (Tr × Bool)) (ss : List SP) (hx : ∀ i, (x0 xs i).2 = true → ValOk (x0 xs i).1) :
 optR (valNR l op nm num ks xs ss) = valN (kl l) op nm num ks (xs.map optR) ss := by
 unfold valNR valN
 rw [v0_x0, v0_x0, v0_x0]
 split
 · rfl
 split
 · unfold findR
   split <;> rename_i h <;> rw [h] <;> rfl
 split
 · exact unary_eq nm _
 split
 · split
   · rename_i h; exact short_eq nm _ _ h
   · rename_i h; exact bin_eq nm _ _ (by simpa using h) (hx 0) (hx 1)
 split
 · rw [isV_optR]
   cases h2 : ((x0 xs 0).2 && (x0 xs 0).1.op == 2) with
   | false => rfl
   | true =>
    rw [nuV_optR (Bool.and_eq_true_iff.1 h2).1]
    rfl
 split
 · split
   · rfl
   · rfl
 · rfl
theorem of_good (h : (ofS a b).2 = 0) : Good (ofS a b).1.1 (ofS a b).1.2.1 (ofS a b).1.2.2 := by
 cases h1 : withinB a with
 | false => rw [of_far (.inl h1)] at h; cases h
 | true =>
  cases h2 : withinB b with
  | false => rw [of_far (.inr h2)] at h; cases h
  | true =>
   by_cases hle : a ≤ b
   · rw [(of_form h1 h2 hle).1]
     exact (of_form h1 h2 hle).2
   · rw [of_empty h1 h2 (by omega)]
     exact .inl ⟨rfl, rfl, rfl⟩
theorem by_good {lo hi st n : Int} (hg : Good lo hi st) (h : (byS lo hi st n).2 = 0) : Good (byS lo hi st n).1.1 (byS lo hi st n).1.2.1 (byS lo hi st n).1.2.2 := by
 by_cases h0 : n = 0
 · rw [by_zero hg h0] at h; cases h
 cases hw : withinB n with
 | false => rw [by_out hg h0 hw] at h; cases h
 | true =>
  rcases hg with ⟨rfl, rfl, rfl⟩ | ⟨a, d, c, hg⟩
  · rw [empty_by, if_neg h0, if_neg (by rw [hw]; decide)]
    exact .inl ⟨rfl, rfl, rfl⟩
  · exact (by_form hg hw h0).2
theorem ct_good {lo hi st n : Int} (hg : Good lo hi st) (h : (countS lo hi st n).2 = 0) : Good (countS lo hi st n).1.1 (countS lo hi st n).1.2.1 (countS lo hi st n).1.2.2 := by
 by_cases h0 : n = 0
 · rw [ct_zero hg h0]; exact .inl ⟨rfl, rfl, rfl⟩
 by_cases ho : n > sizeS lo hi st ∨ n < -sizeS lo hi st
 · rw [ct_out hg ho] at h; cases h
 · rcases hg with ⟨rfl, rfl, rfl⟩ | ⟨a, d, c, hg⟩
   · have : sizeS 1 0 1 = 0 := by decide
     omega
   · rw [hg.size] at ho
     exact (count_form hg (by omega) (by omega) h0).2
theorem span_good {op : Int} {vs : List (Option Tr)} {ss : List SP} (hs : (s0 ss).2 = true → Good (s0 ss).1.1 (s0 ss).1.2.1 (s0 ss).1.2.2) (h : (spanN op vs ss).2 = true) : Good (spanN op vs ss).1.1 (spanN op vs ss).1.2.1 (spanN op vs ss).1.2.2 := by
 unfold spanN at h ⊢
 split at h
 · rename_i h1
   rw [if_pos h1]
   split at h
   · cases h
   · rename_i h2
     rw [if_neg h2]
     exact of_good (by simpa [okSP] using h)
 · rename_i h1
   rw [if_neg h1]
   split at h
   · rename_i h2
     rw [if_pos h2]
     split at h
     · cases h
     · rename_i h3
       rw [if_neg h3]
       have hg := hs (by cases hq : (s0 ss).2 with | true => rfl | false => rw [hq] at h3; simp at h3)
       split at h
       · rename_i h4
         rw [if_pos h4]
         exact ct_good hg (by simpa [okSP] using h)
       · rename_i h4
         rw [if_neg h4]
         exact by_good hg (by simpa [okSP] using h)
   · cases h
theorem c108n (l : List (ByteArray × Tr)) (hl : COk l) (hK : KOk (kl l)) : ∀ n (t : Tr), t.size ≤ n → t.Ok → t.shaped = true →
 (∃ x : Tr × Bool, optR x = t.value (kl l) ∧ Pf Tryz.prog 108 [t.d, .sl (l.map cD)] (.tup [.d (x).1.d, .d (.bool (x).2)])) ∧ Pf Tryz.prog 192 [t.d, .sl (l.map cD)] (.tup [.d (.agg [.int .i64 (t.span (kl l)).1.1, .int .i64 (t.span (kl l)).1.2.1, .int .i64 (t.span (kl l)).1.2.2]), .d (.bool (t.span (kl l)).2)]) ∧ ((t.span (kl l)).2 = true → Good (t.span (kl l)).1.1 (t.span (kl l)).1.2.1 (t.span (kl l)).1.2.2) := by
 intro n
 induction n with
 | zero => intro t h; exact absurd t.size_pos (by omega)
 | succ n ih =>
  intro t hsz hok hsh
  obtain ⟨op, nm, num, ks⟩ := t
  have hkd : ∀ k ∈ ks, (∃ x : Tr × Bool, optR x = k.value (kl l) ∧ Pf Tryz.prog 108 [k.d, .sl (l.map cD)] (.tup [.d (x).1.d, .d (.bool (x).2)])) ∧ Pf Tryz.prog 192 [k.d, .sl (l.map cD)] (.tup [.d (.agg [.int .i64 (k.span (kl l)).1.1, .int .i64 (k.span (kl l)).1.2.1, .int .i64 (k.span (kl l)).1.2.2]), .d (.bool (k.span (kl l)).2)]) ∧ ((k.span (kl l)).2 = true → Good (k.span (kl l)).1.1 (k.span (kl l)).1.2.1 (k.span (kl l)).1.2.2) := fun k hk => by
   have h1 := Tr.size_mem hk
   rw [Tr.size] at hsz
   exact Y16
  obtain ⟨f, hf⟩ : ∃ f : Tr → Tr × Bool, ∀ k ∈ ks, optR (f k) = k.value (kl l) ∧ Pf Tryz.prog 108 [k.d, .sl (l.map cD)] (.tup [.d ((f k)).1.d, .d (.bool ((f k)).2)]) := by
   classical
   refine ⟨fun k => if h : k ∈ ks then Classical.choose (hkd k h).1 else (z0, false), fun k hk => ?_⟩
   dsimp only
   rw [dif_pos hk]
   exact Classical.choose_spec (hkd k hk).1
  have hvs : Tr.values (kl l) ks = (ks.map f).map optR := by
   rw [values_get, List.map_map]
   exact List.map_congr_left fun k hk => (hf k hk).1.symm
  have hval : ∀ k ∈ ks, (f k).2 = true → ValOk (f k).1 := fun k hk h => by
   refine value_ok (kl l) hK _ k (Nat.le_refl _) (Tr.kids_ok hok k hk) ((Tr.shaped_mk hsh).2 k hk) _ ?_
   rw [← (hf k hk).1]
   unfold optR
   rw [if_pos h]
  have hx : ∀ i, (x0 (ks.map f) i).2 = true → ValOk (x0 (ks.map f) i).1 := fun i h => by
   unfold x0 at h ⊢
   rw [List.getD_eq_getElem?_getD, List.getElem?_map] at h ⊢
   cases hk : ks[i]? with
   | none => rw [hk] at h; cases h
   | some k =>
    rw [hk] at h
    exact hval k (mG hk) h
  have hs0 : (s0 (Tr.spans (kl l) ks)).2 = true → Good (s0 (Tr.spans (kl l) ks)).1.1 (s0 (Tr.spans (kl l) ks)).1.2.1 (s0 (Tr.spans (kl l) ks)).1.2.2 := fun h => by
   cases ks with
   | nil => rw [Tr.spans] at h; cases h
   | cons k r => rw [Tr.spans] at h ⊢; exact (hkd k (by simp)).2.2 h
  rw [Tr.d_mk, Tr.span, Tr.value]
  refine ⟨⟨valNR l op nm num ks (ks.map f) (Tr.spans (kl l) ks), ?_, c108x l op nm num ks _ _ hl (fun h => ?_) (fun h => ?_) (fun h => ?_) (fun h => ?_)⟩, ?_, span_good hs0⟩
  · rw [valNR_eq _ _ _ _ _ _ _ hx, hvs]
  · obtain rfl := eq_of_beq h
    obtain ⟨k0, rfl⟩ := list1 (len5 hsh)
    exact ⟨k0, _, rfl, rfl, (hf k0 (by simp)).2⟩
  · obtain rfl := eq_of_beq h
    obtain ⟨k0, k1, rfl⟩ := list2 (len6 hsh)
    exact ⟨k0, k1, _, _, rfl, rfl, (hf k0 (by simp)).2, (hf k1 (by simp)).2⟩
  · obtain rfl := eq_of_beq h
    obtain ⟨k0, k1, k2, rfl⟩ := list3 (len19 hsh)
    exact ⟨k0, k1, k2, _, _, _, rfl, rfl, (hf k0 (by simp)).2, (hf k1 (by simp)).2, (hf k2 (by simp)).2, fun h1 h2 => (hval k0 (by simp) h1).num h2⟩
  · obtain rfl := eq_of_beq h
    obtain ⟨k0, rfl⟩ := list1 (len14 hsh)
    exact ⟨k0, _, rfl, rfl, (hkd k0 (by simp)).2.1, (hkd k0 (by simp)).2.2⟩
  · rw [hvs]
    refine c192x l op nm num ks (ks.map f) _ (fun h => ?_)
    rw [Bool.or_eq_true, Bool.or_eq_true, beq_iff_eq, beq_iff_eq, beq_iff_eq] at h
    have hlen : ks.length = 2 := by
     rcases h with (rfl | rfl) | rfl
     · exact len7 hsh
     · exact len8 hsh
     · exact len9 hsh
    obtain ⟨k0, k1, rfl⟩ := list2 hlen
    exact ⟨k0, k1, _, _, _, _, rfl, rfl, rfl, (hf k0 (by simp)).2, (hf k1 (by simp)).2, (hkd k0 (by simp)).2.1, (hkd k0 (by simp)).2.2⟩
def KOkT (l : KL) : Prop := ∀ x ∈ l, ∀ t, x.2 = some t → t.Ok
theorem KOkT.hide {l : KL} (h : KOkT l) (nm : ByteArray) : KOkT (hideK nm l) := fun x hx t ht => by
 rcases List.mem_cons.1 hx with rfl | hx
 · cases ht
 · exact h x hx t ht
theorem KOkT.hideV {l : KL} (h : KOkT l) (k : Tr) : KOkT (hideV k l) := by
 unfold Go.Proofs.YtklkbfpjimeaoaaGreat.hideV
 split
 · exact h.hide _
 · exact h
theorem KOkT.bind : ∀ (ks : List Tr) {l : KL}, KOkT l → KOkT (bindK ks l)
 | [], l, h => h
 | k :: r, l, h => by
  show KOkT (bindK r (hideK k.nm l))
  exact KOkT.bind r (h.hide _)
theorem findK_okT {nm : ByteArray} : ∀ {l : KL}, KOkT l → ∀ v, findK nm l = some v → v.Ok
 | [], _, v, h => by cases h
 | x :: r, hl, v, h => by
  rw [findK] at h
  split at h
  · exact hl x (by simp) v h
  · exact findK_okT (fun y hy => hl y (by simp [hy])) v h
theorem puts_okT (op num : Int) (all : List Tr) (l : KL) (hl : KOkT l) : ∀ (ks : List Tr) (i : Nat) (inner : KL), KOkT inner → (∀ k ∈ ks, k.Ok ∧ ∀ K, KOkT K → (k.put K).Ok) → ∀ y ∈ Tr.puts op num all l i inner ks, y.Ok := by
 intro ks
 induction ks with
 | nil => intro i inner _ _ y hy; rw [Tr.puts] at hy; cases hy
 | cons k r ih =>
  intro i inner hi hk y hy
  have h1 : (stepT op num all l i inner k).1.Ok ∧ KOkT (stepT op num all l i inner k).2 := by
   unfold stepT
   split
   · exact ⟨(hk k (by simp)).1, hi.hideV k⟩
   · split
     · exact ⟨(hk k (by simp)).2 _ (KOkT.bind _ hi), hl.hideV k⟩
     · exact ⟨(hk k (by simp)).2 _ hi, hi.hideV k⟩
  rw [puts_cons] at hy
  rcases List.mem_cons.1 hy with rfl | hy
  · exact h1.1
  · exact ih _ _ h1.2 (fun x hx => hk x (by simp [hx])) y hy
theorem put_okT : ∀ n (t : Tr), t.size ≤ n → t.Ok → ∀ K, KOkT K → (t.put K).Ok := by
 intro n
 induction n with
 | zero => intro t h; exact absurd t.size_pos (by omega)
 | succ n ih =>
  intro t hsz hok K hK
  obtain ⟨op, nm, num, ks⟩ := t
  rw [Tr.put]
  split
  · split
    · rename_i v hv; exact findK_okT hK v hv
    · exact hok
  · split
    · exact hok
    · have hok' := hok
      cases hok' with | mk h1 h2 h3 h4 h5 =>
      refine .mk h1 h2 h3 (by rw [puts_len]; exact h4) (puts_okT op num ks K hK ks 0 K hK fun k hk => ⟨h5 k hk, fun K' hK' => ih k (by have := Tr.size_mem hk; rw [Tr.size] at hsz; omega) (h5 k hk) K' hK'⟩)
end
end Go.Proofs.YtklkbfpjimeaoaaGreat
