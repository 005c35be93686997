import Derived.Test.YtklkbfpjimeaoaaGreatM13
/- Contracts of functions. Conditions: none. -/
set_option linter.unusedSimpArgs false
set_option linter.unusedVariables false
set_option maxRecDepth 20000
namespace Go.Proofs.YtklkbfpjimeaoaaGreat
open Go
open E
structure Hd (A : Prop) : Prop where
 o : A
variable {A B : Prop}
theorem Z0 (h : A) (g : Hd A → B := by intro zz; refine vq rfl qM ?_; exact zz.o) : B := g ⟨h⟩
theorem Z1 (h : A) (g : Hd A → B := by intro zz; refine vq rfl qA ?_; exact zz.o) : B := g ⟨h⟩
theorem Z2 (h : A) (g : Hd A → B := by intro zz; refine sgx rfl ?_ ?_; (focus first | exact hsp | (rw [hsp]; rfl) | simp [hsp] | simp_all); exact zz.o) : B := g ⟨h⟩
theorem Z3 (h : A) (g : Hd A → B := by intro zz; refine gS (gR ?_); exact zz.o) : B := g ⟨h⟩
theorem Z4 (h : A) (g : Hd A → B := by intro zz; refine fin1 (by simp) ?_; exact zz.o) : B := g ⟨h⟩
theorem Z5 (h : A) (g : Hd A → B := by intro zz; refine gN (tN ?_); exact zz.o) : B := g ⟨h⟩
theorem Z6 (h : A) (g : Hd A → B := by intro zz; refine vq rfl (qG (by exact sz27) u27 rfl) ?_; exact zz.o) : B := g ⟨h⟩
theorem Z7 (h : A) (g : Hd A → B := by intro zz; refine gN (tN (gS (gR ?_))); exact zz.o) : B := g ⟨h⟩
theorem Z8 (h : A) (g : Hd A → B := by intro zz; refine gN (tN (gT ?_)); exact zz.o) : B := g ⟨h⟩
theorem Z9 (h : A) (g : Hd A → B := by intro zz; refine gF 0 [] (.agg [.int .i64 op, .str name, .int .i64 num, .sl (ks.map Tr.d)]) rfl ?_; exact zz.o) : B := g ⟨h⟩
theorem Z10 (h : A) (g : Hd A → B := by intro zz; refine gN (tN (gT (bR (tR ?_)))); exact zz.o) : B := g ⟨h⟩
theorem Z11 (h : A) (g : Hd A → B := by intro zz; refine gN (tN (gS (gS (gR ?_)))); exact zz.o) : B := g ⟨h⟩
theorem Z12 (h : A) (g : Hd A → B := by intro zz; refine sgx rfl ?_ ?_; (focus first | exact hno | (rw [hno]; rfl) | simp [hno] | simp_all); exact zz.o) : B := g ⟨h⟩
theorem Z13 (h : A) (g : Hd A → B := by intro zz; refine vq rfl q_and ?_; exact zz.o) : B := g ⟨h⟩
theorem Z14 (h : A) (g : Hd A → B := by intro zz; refine gR ?_; exact zz.o) : B := g ⟨h⟩
theorem Z15 (h : A) (g : Hd A → B := by intro zz; refine vq rfl (qF u27 rfl sz3) ?_; exact zz.o) : B := g ⟨h⟩
theorem Z16 (h : A) (g : Hd A → B := by intro zz; refine vq rfl (qL u3) ?_; exact zz.o) : B := g ⟨h⟩
theorem Z17 (h : A) (g : Hd A → B := by intro zz; refine vq rfl q_eql ?_; exact zz.o) : B := g ⟨h⟩
theorem Z18 (h : A) (g : Hd A → B := by intro zz; refine sg rfl (fun hg => qM) ?_; exact zz.o) : B := g ⟨h⟩
theorem Z19 (h : A) (g : Hd A → B := by intro zz; refine sa rfl (dS sz27) ?_; exact zz.o) : B := g ⟨h⟩
theorem Z20 (h : A) (g : Hd A → B := by intro zz; refine gN (tN (gT (tR ?_))); exact zz.o) : B := g ⟨h⟩
theorem Z21 (h : A) (g : Hd A → B := by intro zz; refine sg rfl (fun hg => qF u27 rfl sz3) ?_; exact zz.o) : B := g ⟨h⟩
theorem Z22 (h : A) (g : Hd A → B := by intro zz; refine vq rfl (qF u27 rfl sz22) ?_; exact zz.o) : B := g ⟨h⟩
theorem Z23 (h : A) (g : Hd A → B := by intro zz; refine vq rfl (qL u22) ?_; exact zz.o) : B := g ⟨h⟩
theorem Z24 (h : A) (g : Hd A → B := by intro zz; refine sv rfl y_box ?_; exact zz.o) : B := g ⟨h⟩
theorem Z25 (h : A) (g : Hd A → B := by intro zz; refine vq rfl q_add ?_; exact zz.o) : B := g ⟨h⟩
theorem Z26 (h : A) (g : Hd A → B := by intro zz; refine gK (tN (gS (G_block (gS (gR ?_))))); exact zz.o) : B := g ⟨h⟩
theorem Z27 (h : A) (g : Hd A → B := by intro zz; refine vq rfl qE ?_; exact zz.o) : B := g ⟨h⟩
theorem Z28 (h : A) (g : Hd A → B := by intro zz; refine vq rfl q_or ?_; exact zz.o) : B := g ⟨h⟩
theorem Z29 (h : A) (g : Hd A → B := by intro zz; refine sv rfl (y_alloc zr27) ?_; exact zz.o) : B := g ⟨h⟩
theorem Z30 (h : A) (g : Hd A → B := by intro zz; refine cP [] ?_; exact zz.o) : B := g ⟨h⟩
theorem Z31 (h : A) (g : Hd A → B := by intro zz; refine sg rfl (fun hg => qG (by exact sz27) u27 rfl) ?_; exact zz.o) : B := g ⟨h⟩
theorem Z32 (h : A) (g : Hd A → B := by intro zz; refine sv rfl (y_append u49 inf59 (hk := by first | exact cD_cells _ | (intro x hx; simp at hx; subst hx; simp [D.cells])) (hlen := by simp [lim]; omega) (hB := by simp [lim]; omega)) ?_; exact zz.o) : B := g ⟨h⟩
theorem Z33 (h : A) (g : Hd A → B := by intro zz; refine gF 0 [] (.agg [.str q.nm, .bool q.iter, .bool q.priv, .sl (q.formals.map Fm.d), .int .i64 q.result.op, .str q.result.nm, .int .i64 q.result.nu, .sl (q.result.kids.map Tr.d), .sl (q.wh.map Tr.d), .sl (q.body.map Tr.d)]) rfl ?_; exact zz.o) : B := g ⟨h⟩
theorem Z34 (h : A) (g : Hd A → B := by intro zz; refine vq rfl q_lss ?_; exact zz.o) : B := g ⟨h⟩
theorem Z35 (h : A) (g : Hd A → B := by intro zz; refine gN (tN (G_block ?_)); exact zz.o) : B := g ⟨h⟩
theorem Z36 (h : A) (g : Hd A → B := by intro zz; refine sgx rfl ?_ ?_; (focus first | exact by rw [hwe]; rfl | (rw [by rw [hwe]; rfl]; rfl) | simp [by rw [hwe]; rfl] | simp_all); exact zz.o) : B := g ⟨h⟩
theorem Z37 (h : A) (g : Hd A → B := by intro zz; refine G_exit (thn_exit ?_); exact zz.o) : B := g ⟨h⟩
theorem Z38 (h : A) (g : Hd A → B := by intro zz; refine blk_exit (tN (gS (gR ?_))); exact zz.o) : B := g ⟨h⟩
theorem Z39 (h : A) (g : Hd A → B := by intro zz; refine vq rfl (qL u9) ?_; exact zz.o) : B := g ⟨h⟩
theorem Z40 (h : A) (g : Hd A → B := by intro zz; refine vq rfl (qI u22 sz27) ?_; exact zz.o) : B := g ⟨h⟩
theorem Z41 (h : A) (g : Hd A → B := by intro zz; refine vq rfl (qF u27 rfl sz9) ?_; exact zz.o) : B := g ⟨h⟩
theorem Z42 (h : A) (g : Hd A → B := by intro zz; refine gN (tN (gS ?_)); exact zz.o) : B := g ⟨h⟩
theorem Z43 (h : A) (g : Hd A → B := by intro zz; refine sg rfl (fun hg => q_fieldAgg [.int .i64 f.ty.op, .str f.ty.nm, .int .i64 f.ty.nu, .sl (f.ty.kids.map Tr.d)] u102 rfl sz27) ?_; exact zz.o) : B := g ⟨h⟩
theorem Z44 (h : A) (g : Hd A → B := by intro zz; refine gS (gS (gR ?_)); exact zz.o) : B := g ⟨h⟩
theorem Z45 (h : A) (g : Hd A → B := by intro zz; refine vq rfl (q_len u22) ?_; exact zz.o) : B := g ⟨h⟩
theorem Z46 (h : A) (g : Hd A → B := by intro zz; refine gK (tN (gS (gR ?_))); exact zz.o) : B := g ⟨h⟩
theorem Z47 (h : A) (g : Hd A → B := by intro zz; refine sa rfl (dS sz199) ?_; exact zz.o) : B := g ⟨h⟩
theorem Z48 (h : A) (g : Hd A → B := by intro zz; refine gN ?_; exact zz.o) : B := g ⟨h⟩
theorem Z49 (h : A) (g : Hd A → B := by intro zz; refine sg rfl (fun hg => qF u27 rfl sz22) ?_; exact zz.o) : B := g ⟨h⟩
theorem Z50 (h : A) (g : Hd A → B := by intro zz; refine fincd sz27 u27 (by simp) ?_; exact zz.o) : B := g ⟨h⟩
theorem Z51 (h : A) (g : Hd A → B := by intro zz; refine gS ?_; exact zz.o) : B := g ⟨h⟩
theorem Z52 (h : A) (g : Hd A → B := by intro zz; refine vq rfl q_not ?_; exact zz.o) : B := g ⟨h⟩
theorem Z53 (h : A) (g : Hd A → B := by intro zz; refine fincd sz199 u199 (by simp) ?_; exact zz.o) : B := g ⟨h⟩
theorem Z54 (h : A) (g : Hd A → B := by intro zz; refine vq rfl q_streq ?_; exact zz.o) : B := g ⟨h⟩
theorem Z55 (h : A) (g : Hd A → B := by intro zz; refine sv rfl (y_load_agg sz27 u27 rfl) ?_; exact zz.o) : B := g ⟨h⟩
theorem Z56 (h : A) (g : Hd A → B := by intro zz; refine vq rfl q_neq ?_; exact zz.o) : B := g ⟨h⟩
theorem Z57 (h : A) (g : Hd A → B := by intro zz; refine sa rfl (d_insert u127 u3) ?_; exact zz.o) : B := g ⟨h⟩
theorem Z58 (h : A) (g : Hd A → B := by intro zz; refine vq rfl (q_fieldAgg [.int .i64 f.ty.op, .str f.ty.nm, .int .i64 f.ty.nu, .sl (f.ty.kids.map Tr.d)] u102 rfl sz27) ?_; exact zz.o) : B := g ⟨h⟩
theorem Z59 (h : A) (g : Hd A → B := by intro zz; refine gK (tN (gS (gS (gR ?_)))); exact zz.o) : B := g ⟨h⟩
theorem Z60 (h : A) (g : Hd A → B := by intro zz; refine sv rfl (y_appendA (xs := []) (ys := l.map cD) u49 inf59 (hk := by exact cD_cells l) (hlen := by simp [lim]; omega) (hB := by simp [lim]; omega)) ?_; exact zz.o) : B := g ⟨h⟩
theorem Z61 (h : A) (g : Hd A → B := by intro zz; refine vq rfl (q_buildS pl27 zr27) ?_; exact zz.o) : B := g ⟨h⟩
theorem Z62 (h : A) (g : Hd A → B := by intro zz; refine vq rfl ((q_buildP pl189 zr189)) ?_; exact zz.o) : B := g ⟨h⟩
theorem Z63 (h : A) (g : Hd A → B := by intro zz; refine sv rfl y_assign_take ?_; exact zz.o) : B := g ⟨h⟩
theorem Z64 (h : A) (g : Hd A → B := by intro zz; refine g_keepo [8, 1, 2, 3] ?_; exact zz.o) : B := g ⟨h⟩
theorem Z65 (h : A) (g : Hd A → B := by intro zz; refine sg rfl (fun hg => qF u27 rfl sz9) ?_; exact zz.o) : B := g ⟨h⟩
theorem Z66 (h : A) (g : Hd A → B := by intro zz; refine sv rfl (y_append u22 inf27 (hk := by first | exact Tr.ds_cells _ | (intro x hx; simp at hx; subst hx; simp [D.cells])) (hlen := by simp [lim]; omega) (hB := by simp [lim]; omega)) ?_; exact zz.o) : B := g ⟨h⟩
theorem Z67 (h : A) (g : Hd A → B := by intro zz; refine gK (tN (gS ?_)); exact zz.o) : B := g ⟨h⟩
theorem Z68 (h : A) (g : Hd A → B := by intro zz; refine gP [0, 1, 2, 4, 5, 6, 7, 8, 9, 10, 11, 12, 13] ?_; exact zz.o) : B := g ⟨h⟩
theorem Z69 (h : A) (g : Hd A → B := by intro zz; refine vq rfl (qG (by exact sz199) u199 rfl) ?_; exact zz.o) : B := g ⟨h⟩
theorem Z70 (h : A) (g : Hd A → B := by intro zz; refine sv rfl (y_load_leaf u3) ?_; exact zz.o) : B := g ⟨h⟩
theorem Z71 (h : A) (g : Hd A → B := by intro zz; refine find2 (by simp) ?_; exact zz.o) : B := g ⟨h⟩
theorem Z72 (h : A) (g : Hd A → B := by intro zz; refine vq rfl (q_buildS pl199 zr199) ?_; exact zz.o) : B := g ⟨h⟩
theorem Z73 (h : A) (g : Hd A → B := by intro zz; refine he0 _ _ ?_; exact zz.o) : B := g ⟨h⟩
theorem Z74 (h : A) (g : Hd A → B := by intro zz; refine cS 5 (fun _ _ _ _ _ => vq rfl qM (gN ⟨rfl, rfl⟩)) ?_; exact zz.o) : B := g ⟨h⟩
theorem Z75 (h : A) (g : Hd A → B := by intro zz; refine gF 0 [] (.agg [.str f.intent, .str f.nm, .int .i64 f.ty.op, .str f.ty.nm, .int .i64 f.ty.nu, .sl (f.ty.kids.map Tr.d)]) rfl ?_; exact zz.o) : B := g ⟨h⟩
theorem Z76 (h : A) (g : Hd A → B := by intro zz; refine gF 0 [] (.agg [.int .i64 lo, .int .i64 hi, .int .i64 st]) rfl ?_; exact zz.o) : B := g ⟨h⟩
theorem Z77 (h : A) (g : Hd A → B := by intro zz; refine gK (bN (tN (gR ?_))); exact zz.o) : B := g ⟨h⟩
theorem Z78 (h : A) (g : Hd A → B := by intro zz; refine vq rfl (qF u199 rfl sz3) ?_; exact zz.o) : B := g ⟨h⟩
theorem Z79 (h : A) (g : Hd A → B := by intro zz; refine cS 1 (fun _ _ _ _ _ => vq rfl qM (gN ⟨rfl, rfl⟩)) ?_; exact zz.o) : B := g ⟨h⟩
theorem Z80 (h : A) (g : Hd A → B := by intro zz; refine gF 0 [] (.agg [.sl (p.globals.map Tr.d), .sl (p.procs.map Pc.d)]) rfl ?_; exact zz.o) : B := g ⟨h⟩
theorem Z81 (h : A) (g : Hd A → B := by intro zz; refine ck_pre [] ?_; exact zz.o) : B := g ⟨h⟩
theorem Z82 (h : A) (g : Hd A → B := by intro zz; refine gK (bN (tN (gS (gR ?_)))); exact zz.o) : B := g ⟨h⟩
theorem Z83 (h : A) (g : Hd A → B := by intro zz; refine gN (tN (gT (tR (bR (tR ?_))))); exact zz.o) : B := g ⟨h⟩
theorem Z84 (h : A) (g : Hd A → B := by intro zz; refine gF 0 [] (.agg [.int .i64 kop, .str knm, .int .i64 knu, .sl (kks.map Tr.d)]) rfl ?_; exact zz.o) : B := g ⟨h⟩
theorem Z85 (h : A) (g : Hd A → B := by intro zz; refine sv rfl (y_load_agg sz199 u199 rfl) ?_; exact zz.o) : B := g ⟨h⟩
theorem Z86 (h : A) (g : Hd A → B := by intro zz; refine sv rfl (y_appendA (xs := (b.map Tr.d ++ [D.agg [.int .i64 q.result.op, .str q.result.nm, .int .i64 q.result.nu, .sl (q.result.kids.map Tr.d)]]) ++ q.wh.map Tr.d) (ys := q.body.map Tr.d) u22 inf27 (hk := by exact Tr.ds_cells _) (hlen := by simp [lim]; omega) (hB := by simp [lim]; omega)) ?_; exact zz.o) : B := g ⟨h⟩
theorem Z87 (h : A) (g : Hd A → B := by intro zz; refine cS 12 (fun _ _ _ _ _ => vq rfl qA (gN ⟨rfl, rfl⟩)) ?_; exact zz.o) : B := g ⟨h⟩
theorem Z88 (h : A) (g : Hd A → B := by intro zz; refine gP [0, 1, 4, 5, 6, 7, 8, 9, 10, 11, 12] ?_; exact zz.o) : B := g ⟨h⟩
theorem Z89 (h : A) (g : Hd A → B := by intro zz; refine cS 3 (fun _ _ _ _ _ => vq rfl qM (gN ⟨rfl, rfl⟩)) ?_; exact zz.o) : B := g ⟨h⟩
theorem Z90 (h : A) (g : Hd A → B := by intro zz; refine sv rfl (y_append u22 inf27 (hk := by intro x hx; simp at hx; subst hx; rfl) (hlen := by simp [lim]; omega) (hB := by simp [lim]; omega)) ?_; exact zz.o) : B := g ⟨h⟩
theorem Z91 (h : A) (g : Hd A → B := by intro zz; refine bR (tR ?_); exact zz.o) : B := g ⟨h⟩
theorem Z92 (h : A) (g : Hd A → B := by intro zz; refine gP [0, 1, 2, 3] ?_; exact zz.o) : B := g ⟨h⟩
theorem Z93 (h : A) (g : Hd A → B := by intro zz; refine vq rfl q_geq ?_; exact zz.o) : B := g ⟨h⟩
theorem Z94 (h : A) (g : Hd A → B := by intro zz; refine vq rfl q_gtr ?_; exact zz.o) : B := g ⟨h⟩
theorem Z95 (h : A) (g : Hd A → B := by intro zz; refine gN (bN (tN (gR ?_))); exact zz.o) : B := g ⟨h⟩
theorem Z96 (h : A) (g : Hd A → B := by intro zz; refine gP [0, 1, 2, 3, 4, 5, 7, 55, 64, 70, 117] ?_; exact zz.o) : B := g ⟨h⟩
theorem Z97 (h : A) (g : Hd A → B := by intro zz; refine sv rfl (y_fieldAt 3 u27 rfl sz22) ?_; exact zz.o) : B := g ⟨h⟩
theorem Z98 (h : A) (g : Hd A → B := by intro zz; refine gP [0, 1, 2, 4, 5, 6, 7, 8] ?_; exact zz.o) : B := g ⟨h⟩
theorem Z99 (h : A) (g : Hd A → B := by intro zz; refine sv rfl (y_appendA (xs := b.map Tr.d ++ [D.agg [.int .i64 q.result.op, .str q.result.nm, .int .i64 q.result.nu, .sl (q.result.kids.map Tr.d)]]) (ys := q.wh.map Tr.d) u22 inf27 (hk := by exact Tr.ds_cells _) (hlen := by simp [lim]; omega) (hB := by simp [lim]; omega)) ?_; exact zz.o) : B := g ⟨h⟩
theorem Z100 (h : A) (g : Hd A → B := by intro zz; refine cS 2 (fun _ _ _ _ _ => vq rfl (qL u3) (gN ⟨rfl, rfl⟩)) ?_; exact zz.o) : B := g ⟨h⟩
theorem Z101 (h : A) (g : Hd A → B := by intro zz; refine sv rfl (y_alloc zr199) ?_; exact zz.o) : B := g ⟨h⟩
theorem Z102 (h : A) (g : Hd A → B := by intro zz; refine findc sz27 u27 (by simp) ?_; exact zz.o) : B := g ⟨h⟩
theorem Z103 (h : A) (g : Hd A → B := by intro zz; refine ck_st 3 (fun _ _ _ _ _ => vq rfl (qG (by exact sz27) u27 rfl) (gN ⟨rfl, rfl⟩)) ?_; exact zz.o) : B := g ⟨h⟩
theorem Z104 (h : A) (g : Hd A → B := by intro zz; refine vq rfl (qF u81 rfl sz22) ?_; exact zz.o) : B := g ⟨h⟩
theorem Z105 (h : A) (g : Hd A → B := by intro zz; refine vq rfl (q_buildS pl231 zr231) ?_; exact zz.o) : B := g ⟨h⟩
theorem Z106 (h : A) (g : Hd A → B := by intro zz; refine ck_st 1 (fun _ _ _ _ _ => sv rfl (y_fieldAt 3 u27 rfl sz22) (gN ⟨rfl, rfl⟩)) ?_; exact zz.o) : B := g ⟨h⟩
theorem Z107 (h : A) (g : Hd A → B := by intro zz; refine hr0 _ ?_; exact zz.o) : B := g ⟨h⟩
theorem Z108 (h : A) (g : Hd A → B := by intro zz; refine GA_done (by kernel_rfl) ?_; exact zz.o) : B := g ⟨h⟩
theorem Z109 (h : A) (g : Hd A → B := by intro zz; refine cg_done ?_; exact zz.o) : B := g ⟨h⟩
theorem Z110 (h : A) (g : Hd A → B := by intro zz; refine gK (tN (gS (gS ?_))); exact zz.o) : B := g ⟨h⟩
theorem Z111 (h : A) (g : Hd A → B := by intro zz; refine gP [0, 1, 2, 4, 5, 6, 7] ?_; exact zz.o) : B := g ⟨h⟩
theorem Z112 (h : A) (g : Hd A → B := by intro zz; refine vq rfl (qF u25 rfl sz23) ?_; exact zz.o) : B := g ⟨h⟩
theorem Z113 (h : A) (g : Hd A → B := by intro zz; refine gP [0, 1, 2, 4, 5, 6, 7, 8, 9, 10, 11, 12] ?_; exact zz.o) : B := g ⟨h⟩
theorem Z114 (h : A) (g : Hd A → B := by intro zz; refine cP [2] ?_; exact zz.o) : B := g ⟨h⟩
theorem Z115 (h : A) (g : Hd A → B := by intro zz; refine gP [0, 1, 2, 4, 5, 6, 7, 8, 9, 10, 11, 12, 13, 14, 15, 16, 18, 19] ?_; exact zz.o) : B := g ⟨h⟩
theorem Z116 (h : A) (g : Hd A → B := by intro zz; refine sa rfl (d_insert u232 u9) ?_; exact zz.o) : B := g ⟨h⟩
theorem Z117 (h : A) (g : Hd A → B := by intro zz; refine sgo rfl hsp y_move ?_; exact zz.o) : B := g ⟨h⟩
theorem Z118 (h : A) (g : Hd A → B := by intro zz; refine cP [3] ?_; exact zz.o) : B := g ⟨h⟩
theorem Z119 (h : A) (g : Hd A → B := by intro zz; refine sv rfl y_move_take ?_; exact zz.o) : B := g ⟨h⟩
theorem Z120 (h : A) (g : Hd A → B := by intro zz; refine sg rfl (fun hg => q_fieldAgg [.int .i64 q.result.op, .str q.result.nm, .int .i64 q.result.nu, .sl (q.result.kids.map Tr.d)] u81 rfl sz27) ?_; exact zz.o) : B := g ⟨h⟩
theorem Z121 (h : A) (g : Hd A → B := by intro zz; refine sg rfl (fun hg => qF u81 rfl sz22) ?_; exact zz.o) : B := g ⟨h⟩
theorem Z122 (h : A) (g : Hd A → B := by intro zz; refine cS 2 (fun _ _ _ _ _ => vq rfl qM (gN ⟨rfl, rfl⟩)) ?_; exact zz.o) : B := g ⟨h⟩
theorem Z123 (h : A) (g : Hd A → B := by intro zz; refine cS 9 (fun _ _ _ _ _ => vq rfl qA (gN ⟨rfl, rfl⟩)) ?_; exact zz.o) : B := g ⟨h⟩
theorem Z124 (h : A) (g : Hd A → B := by intro zz; refine cS 2 (fun _ _ _ _ _ => vq rfl (qF u27 rfl sz9) (gN ⟨rfl, rfl⟩)) ?_; exact zz.o) : B := g ⟨h⟩
theorem Z125 (h : A) (g : Hd A → B := by intro zz; refine cP [4] ?_; exact zz.o) : B := g ⟨h⟩
theorem Z126 (h : A) (g : Hd A → B := by intro zz; refine gP [0, 1, 2, 3, 4] ?_; exact zz.o) : B := g ⟨h⟩
theorem Z127 (h : A) (g : Hd A → B := by intro zz; refine gK (tN ?_); exact zz.o) : B := g ⟨h⟩
theorem Z128 (h : A) (g : Hd A → B := by intro zz; refine gP [0, 1, 2, 4, 5, 6, 7, 8, 9, 10, 11, 12, 13, 14, 16, 55] ?_; exact zz.o) : B := g ⟨h⟩
theorem Z129 (h : A) (g : Hd A → B := by intro zz; refine vq rfl (qG (by exact sz81) u81 rfl) ?_; exact zz.o) : B := g ⟨h⟩
theorem Z130 (h : A) (g : Hd A → B := by intro zz; refine sv rfl (y_buildSlice (xs := [.const (.string ⟨#[101]⟩)]) u63 inf9) ?_; exact zz.o) : B := g ⟨h⟩
theorem Z131 (h : A) (g : Hd A → B := by intro zz; refine vq rfl (q_lenstr u9) ?_; exact zz.o) : B := g ⟨h⟩
theorem Z132 (h : A) (g : Hd A → B := by intro zz; refine cS 4 (fun _ _ _ _ _ => vq rfl (qL u3) (gN ⟨rfl, rfl⟩)) ?_; exact zz.o) : B := g ⟨h⟩
theorem Z133 (h : A) (g : Hd A → B := by intro zz; refine cS 6 (fun _ _ _ _ _ => vq rfl (qL u3) (gN ⟨rfl, rfl⟩)) ?_; exact zz.o) : B := g ⟨h⟩
theorem Z134 (h : A) (g : Hd A → B := by intro zz; refine cS 3 (fun _ _ _ _ _ => vq rfl (qL u9) (gN ⟨rfl, rfl⟩)) ?_; exact zz.o) : B := g ⟨h⟩
theorem Z135 (h : A) (g : Hd A → B := by intro zz; refine gL (xs := [.tmp 16, .tmp 19]) rfl ((hka ▸ c21n k.size k (Nat.le_refl _) (h5 k hmem) (most - c) (by omega) (by omega))) ?_; exact zz.o) : B := g ⟨h⟩
theorem Z136 (h : A) (g : Hd A → B := by intro zz; refine cP [1] ?_; exact zz.o) : B := g ⟨h⟩
theorem Z137 (h : A) (g : Hd A → B := by intro zz; refine vq rfl (qF u81 rfl sz79) ?_; exact zz.o) : B := g ⟨h⟩
theorem Z138 (h : A) (g : Hd A → B := by intro zz; refine cS 10 (fun _ _ _ _ _ => gL (xs := [.tmp 110, .tmp 114]) rfl (cmpTab_ok hct anu bnu) (gN ⟨rfl, rfl⟩)) ?_; exact zz.o) : B := g ⟨h⟩
theorem Z139 (h : A) (g : Hd A → B := by intro zz; refine gN (tN (G_block (gS (gR ?_)))); exact zz.o) : B := g ⟨h⟩
theorem Z140 (h : A) (g : Hd A → B := by intro zz; refine cS 6 (fun _ _ _ _ _ => vq rfl qE (gN ⟨rfl, rfl⟩)) ?_; exact zz.o) : B := g ⟨h⟩
theorem Z141 (h : A) (g : Hd A → B := by intro zz; refine cS 7 (fun _ _ _ _ _ => vq rfl qE (gN ⟨rfl, rfl⟩)) ?_; exact zz.o) : B := g ⟨h⟩
theorem Z142 (h : A) (g : Hd A → B := by intro zz; refine cS 8 (fun _ _ _ _ _ => vq rfl qA (gN ⟨rfl, rfl⟩)) ?_; exact zz.o) : B := g ⟨h⟩
theorem Z143 (h : A) (g : Hd A → B := by intro zz; refine sv rfl (y_buildSlice (xs := []) u49 inf59) ?_; exact zz.o) : B := g ⟨h⟩
theorem Z144 (h : A) (g : Hd A → B := by intro zz; refine vq rfl (qG (by exact sz25) u25 rfl) ?_; exact zz.o) : B := g ⟨h⟩
theorem Z145 (h : A) (g : Hd A → B := by intro zz; refine sv rfl (y_buildSlice (xs := [.tmp 46]) u49 inf59) ?_; exact zz.o) : B := g ⟨h⟩
theorem Z146 (h : A) (g : Hd A → B := by intro zz; refine gN (tN (gS (gS ?_))); exact zz.o) : B := g ⟨h⟩
theorem Z147 (h : A) (g : Hd A → B := by intro zz; refine find3 (by simp) ?_; exact zz.o) : B := g ⟨h⟩
theorem Z148 (h : A) (g : Hd A → B := by intro zz; refine vq rfl (qL u23) ?_; exact zz.o) : B := g ⟨h⟩
theorem Z149 (h : A) (g : Hd A → B := by intro zz; refine cS 4 (fun _ _ _ _ _ => vq rfl (qF u27 rfl sz3) (gN ⟨rfl, rfl⟩)) ?_; exact zz.o) : B := g ⟨h⟩
theorem Z150 (h : A) (g : Hd A → B := by intro zz; refine cS 8 (fun _ _ _ _ _ => vq rfl (qF u27 rfl sz3) (gN ⟨rfl, rfl⟩)) ?_; exact zz.o) : B := g ⟨h⟩
theorem Z151 (h : A) (g : Hd A → B := by intro zz; refine sgo rfl hsp (y_fieldp_leaf u27 rfl sz3) ?_; exact zz.o) : B := g ⟨h⟩
theorem Z152 (h : A) (g : Hd A → B := by intro zz; refine vq rfl (qF u102 rfl sz9) ?_; exact zz.o) : B := g ⟨h⟩
theorem Z153 (h : A) (g : Hd A → B := by intro zz; refine vq rfl (qF u25 rfl sz22) ?_; exact zz.o) : B := g ⟨h⟩
theorem Z154 (h : A) (g : Hd A → B := by intro zz; refine cS 4 (fun _ _ _ _ _ => vq rfl ((q_lookup2 (zd := .nilF) u253 u9 zr251)) (gN ⟨rfl, rfl⟩)) ?_; exact zz.o) : B := g ⟨h⟩
theorem Z155 (h : A) (g : Hd A → B := by intro zz; refine tN (G_exit (thn_exit (blk_exit (tN ?_)))); exact zz.o) : B := g ⟨h⟩
theorem Z156 (h : A) (g : Hd A → B := by intro zz; refine vq rfl (q_len u23) ?_; exact zz.o) : B := g ⟨h⟩
theorem Z157 (h : A) (g : Hd A → B := by intro zz; refine vq rfl (qG (by exact sz102) u102 rfl) ?_; exact zz.o) : B := g ⟨h⟩
theorem Z158 (h : A) (g : Hd A → B := by intro zz; refine g_callg (xs := [.tmp 98, .const (.string ⟨#[101, 101]⟩)]) rfl (fun hg => (Tr.d_mk op name num ks ▸ c239 (.mk op name num ks) ⟨#[101, 101]⟩ hok)) ?_; exact zz.o) : B := g ⟨h⟩
theorem Z159 (h : A) (g : Hd A → B := by intro zz; refine cS 3 (fun _ _ _ _ _ => vq rfl q_nilCheck (gN ⟨rfl, rfl⟩)) ?_; exact zz.o) : B := g ⟨h⟩
theorem Z160 (h : A) (g : Hd A → B := by intro zz; refine cS 7 (fun _ _ _ _ _ => vq rfl q_nilCheck (gN ⟨rfl, rfl⟩)) ?_; exact zz.o) : B := g ⟨h⟩
theorem Z161 (h : A) (g : Hd A → B := by intro zz; refine sa rfl (d_store_take sz22) ?_; exact zz.o) : B := g ⟨h⟩
theorem Z162 (h : A) (g : Hd A → B := by intro zz; refine cP [6] ?_; exact zz.o) : B := g ⟨h⟩
theorem Z163 (h : A) (g : Hd A → B := by intro zz; refine cS 2 (fun _ _ _ _ _ => vq rfl (qL u139) (gN ⟨rfl, rfl⟩)) ?_; exact zz.o) : B := g ⟨h⟩
theorem Z164 (h : A) (g : Hd A → B := by intro zz; refine cS 6 (fun _ _ _ _ _ => vq rfl (qL u139) (gN ⟨rfl, rfl⟩)) ?_; exact zz.o) : B := g ⟨h⟩
theorem Z165 (h : A) (g : Hd A → B := by intro zz; refine gP [0, 1, 2, 3, 4, 8, 91, 222] ?_; exact zz.o) : B := g ⟨h⟩
theorem Z166 (h : A) (g : Hd A → B := by intro zz; refine sv rfl (y_load_leaf u141) ?_; exact zz.o) : B := g ⟨h⟩
theorem Z167 (h : A) (g : Hd A → B := by intro zz; refine cS 5 (fun _ _ _ _ _ => vq rfl (qL u3) (gN ⟨rfl, rfl⟩)) ?_; exact zz.o) : B := g ⟨h⟩
theorem Z168 (h : A) (g : Hd A → B := by intro zz; refine cS 9 (fun _ _ _ _ _ => vq rfl (qL u3) (gN ⟨rfl, rfl⟩)) ?_; exact zz.o) : B := g ⟨h⟩
theorem Z169 (h : A) (g : Hd A → B := by intro zz; refine sgo rfl hsp (y_indexAddr u22 sz27) ?_; exact zz.o) : B := g ⟨h⟩
theorem Z170 (h : A) (g : Hd A → B := by intro zz; refine vq rfl (q_len u79) ?_; exact zz.o) : B := g ⟨h⟩
theorem Z171 (h : A) (g : Hd A → B := by intro zz; refine sv rfl (y_load_take u22) ?_; exact zz.o) : B := g ⟨h⟩
theorem Z172 (h : A) (g : Hd A → B := by intro zz; refine cP [0] ?_; exact zz.o) : B := g ⟨h⟩
theorem Z173 (h : A) (g : Hd A → B := by intro zz; refine cS 11 (fun _ _ _ _ _ => gL (xs := [.tmp 115]) rfl (c242 _) (gN ⟨rfl, rfl⟩)) ?_; exact zz.o) : B := g ⟨h⟩
theorem Z174 (h : A) (g : Hd A → B := by intro zz; refine cS 1 (fun _ _ _ _ _ => vq rfl (qG (by exact sz27) u27 rfl) (gN ⟨rfl, rfl⟩)) ?_; exact zz.o) : B := g ⟨h⟩
theorem Z175 (h : A) (g : Hd A → B := by intro zz; refine cS 7 (fun _ _ _ _ _ => vq rfl qM (gN ⟨rfl, rfl⟩)) ?_; exact zz.o) : B := g ⟨h⟩
theorem Z176 (h : A) (g : Hd A → B := by intro zz; refine sg rfl (fun hg => sP 7 rfl hg (qL u3)) ?_; exact zz.o) : B := g ⟨h⟩
theorem Z177 (h : A) (g : Hd A → B := by intro zz; refine vq rfl (q_add (hw := rfl)) ?_; exact zz.o) : B := g ⟨h⟩
theorem Z178 (h : A) (g : Hd A → B := by intro zz; refine gN (tN (gR ?_)); exact zz.o) : B := g ⟨h⟩
theorem Z179 (h : A) (g : Hd A → B := by intro zz; refine sa rfl (dS sz59) ?_; exact zz.o) : B := g ⟨h⟩
theorem Z180 (h : A) (g : Hd A → B := by intro zz; refine gP [0, 1, 2, 4, 5, 6, 7, 8, 9] ?_; exact zz.o) : B := g ⟨h⟩
theorem Z181 (h : A) (g : Hd A → B := by intro zz; refine gP [0, 1, 2, 6, 7, 8] ?_; exact zz.o) : B := g ⟨h⟩
theorem Z182 (h : A) (g : Hd A → B := by intro zz; refine vq rfl (qI u79 sz102) ?_; exact zz.o) : B := g ⟨h⟩
theorem Z183 (h : A) (g : Hd A → B := by intro zz; refine sg rfl (fun hg => sP 6 rfl hg q_leq) ?_; exact zz.o) : B := g ⟨h⟩
theorem Z184 (h : A) (g : Hd A → B := by intro zz; refine cP [10, 10, 0, 1, 2, 3, 4, 5, 6, 7, 8, 9, 10] ?_; exact zz.o) : B := g ⟨h⟩
theorem Z185 (h : A) (g : Hd A → B := by intro zz; refine vq rfl (qL u79) ?_; exact zz.o) : B := g ⟨h⟩
theorem Z186 (h : A) (g : Hd A → B := by intro zz; refine sgo rfl hsp (y_loadp_leaf u3) ?_; exact zz.o) : B := g ⟨h⟩
theorem Z187 (h : A) (g : Hd A → B := by intro zz; refine vq rfl (q_buildS pl168 zr168) ?_; exact zz.o) : B := g ⟨h⟩
theorem Z188 (h : A) (g : Hd A → B := by intro zz; refine gL (xs := [.tmp 95]) rfl ((Tr.d_mk op name num ks ▸ c177 (.mk op name num ks))) ?_; exact zz.o) : B := g ⟨h⟩
theorem Z189 (h : A) (g : Hd A → B := by intro zz; refine vq rfl (qI u23 sz81) ?_; exact zz.o) : B := g ⟨h⟩
theorem Z190 (h : A) (g : Hd A → B := by intro zz; refine vq rfl ((q_neg (hr := rfl))) ?_; exact zz.o) : B := g ⟨h⟩
theorem Z191 (h : A) (g : Hd A → B := by intro zz; refine sg rfl (fun hg => qF u199 rfl sz3) ?_; exact zz.o) : B := g ⟨h⟩
theorem Z192 (h : A) (g : Hd A → B := by intro zz; refine cS 1 (fun _ _ _ _ _ => vq rfl (qF u199 rfl sz3) (gN ⟨rfl, rfl⟩)) ?_; exact zz.o) : B := g ⟨h⟩
theorem Z193 (h : A) (g : Hd A → B := by intro zz; refine cS 3 (fun _ _ _ _ _ => vq rfl (qF u199 rfl sz3) (gN ⟨rfl, rfl⟩)) ?_; exact zz.o) : B := g ⟨h⟩
theorem Z194 (h : A) (g : Hd A → B := by intro zz; refine cS 1 (fun _ _ _ _ _ => gL (xs := []) rfl (c245) (gN ⟨rfl, rfl⟩)) ?_; exact zz.o) : B := g ⟨h⟩
theorem Z195 (h : A) (g : Hd A → B := by intro zz; refine cS 5 (fun _ _ _ _ _ => vq rfl (qF u27 rfl sz3) (gN ⟨rfl, rfl⟩)) ?_; exact zz.o) : B := g ⟨h⟩
theorem Z196 (h : A) (g : Hd A → B := by intro zz; refine sa rfl (dS sz22) ?_; exact zz.o) : B := g ⟨h⟩
theorem Z197 (h : A) (g : Hd A → B := by intro zz; refine sg rfl (fun hg => q_fieldAddr u27 rfl sz3) ?_; exact zz.o) : B := g ⟨h⟩
theorem Z198 (h : A) (g : Hd A → B := by intro zz; refine gP [0, 1, 2, 4, 5, 6, 7, 8, 9, 10, 11, 13] ?_; exact zz.o) : B := g ⟨h⟩
theorem Z199 (h : A) (g : Hd A → B := by intro zz; refine sa rfl (dS sz25) ?_; exact zz.o) : B := g ⟨h⟩
theorem Z200 (h : A) (g : Hd A → B := by intro zz; refine gP [0, 1, 2, 3, 4, 5, 6, 8] ?_; exact zz.o) : B := g ⟨h⟩
theorem Z201 (h : A) (g : Hd A → B := by intro zz; refine vq rfl (q_buildS pl59 zr59) ?_; exact zz.o) : B := g ⟨h⟩
theorem Z202 (h : A) (g : Hd A → B := by intro zz; refine cP [6, 7, 0, 1, 2, 3, 4, 5, 6, 7] ?_; exact zz.o) : B := g ⟨h⟩
theorem Z203 (h : A) (g : Hd A → B := by intro zz; refine gF 0 [] (.agg [.int .i64 op, .str nm, .int .i64 num, .sl (ks.map Tr.d)]) rfl ?_; exact zz.o) : B := g ⟨h⟩
theorem Z204 (h : A) (g : Hd A → B := by intro zz; refine cP [7] ?_; exact zz.o) : B := g ⟨h⟩
theorem Z205 (h : A) (g : Hd A → B := by intro zz; refine gK ?_; exact zz.o) : B := g ⟨h⟩
theorem Z206 (h : A) (g : Hd A → B := by intro zz; refine sv rfl (y_fieldAt 2 u27 rfl sz3) ?_; exact zz.o) : B := g ⟨h⟩
theorem Z207 (h : A) (g : Hd A → B := by intro zz; refine sgo rfl hsp (y_fieldp_leaf u27 rfl sz22) ?_; exact zz.o) : B := g ⟨h⟩
theorem Z208 (h : A) (g : Hd A → B := by intro zz; refine sv rfl (y_alloc zr81) ?_; exact zz.o) : B := g ⟨h⟩
theorem Z209 (h : A) (g : Hd A → B := by intro zz; refine sg rfl (fun hg => sP 44 rfl hg (qL u9)) ?_; exact zz.o) : B := g ⟨h⟩
theorem Z210 (h : A) (g : Hd A → B := by intro zz; refine sg rfl (fun hg => sP 45 rfl hg q_strne) ?_; exact zz.o) : B := g ⟨h⟩
theorem Z211 (h : A) (g : Hd A → B := by intro zz; refine sg rfl (fun hg => sP 22 rfl hg (qL u3)) ?_; exact zz.o) : B := g ⟨h⟩
theorem Z212 (h : A) (g : Hd A → B := by intro zz; refine sv rfl (Yld_pure rfl (oR rfl) q_max) ?_; exact zz.o) : B := g ⟨h⟩
theorem Z213 (h : A) (g : Hd A → B := by intro zz; refine cS 4 (fun _ _ _ _ _ => vq rfl q_nilCheck (gN ⟨rfl, rfl⟩)) ?_; exact zz.o) : B := g ⟨h⟩
theorem Z214 (h : A) (g : Hd A → B := by intro zz; refine vq rfl q_sub ?_; exact zz.o) : B := g ⟨h⟩
theorem Z215 (h : A) (g : Hd A → B := by intro zz; refine cP [5] ?_; exact zz.o) : B := g ⟨h⟩
theorem Z216 (h : A) (g : Hd A → B := by intro zz; refine vq rfl ((q_ptreql u139)) ?_; exact zz.o) : B := g ⟨h⟩
theorem Z217 (h : A) (g : Hd A → B := by intro zz; refine fincd sz59 u59 (by simp) ?_; exact zz.o) : B := g ⟨h⟩
theorem Z218 (h : A) (g : Hd A → B := by intro zz; refine fincd sz25 u25 (by simp) ?_; exact zz.o) : B := g ⟨h⟩
theorem Z219 (h : A) (g : Hd A → B := by intro zz; refine sg rfl (fun hg => sP 27 rfl hg q_eql) ?_; exact zz.o) : B := g ⟨h⟩
theorem Z220 (h : A) (g : Hd A → B := by intro zz; refine vq rfl (q_bits (show _ = pure (Value.int .i64 (andI _ _)) from rfl)) ?_; exact zz.o) : B := g ⟨h⟩
theorem Z221 (h : A) (g : Hd A → B := by intro zz; refine ck_st 5 (fun _ _ _ _ _ => vq rfl qM (gN ⟨rfl, rfl⟩)) ?_; exact zz.o) : B := g ⟨h⟩
theorem Z222 (h : A) (g : Hd A → B := by intro zz; refine ck_st 4 (fun _ _ _ _ _ => vq rfl qM (gN ⟨rfl, rfl⟩)) ?_; exact zz.o) : B := g ⟨h⟩
theorem Z223 (h : A) (g : Hd A → B := by intro zz; refine sa rfl (dS sz3) ?_; exact zz.o) : B := g ⟨h⟩
theorem Z224 (h : A) (g : Hd A → B := by intro zz; refine g_cg0 [106, 107, 108, 109, 110, 111, 112, 113, 114, 115, 116, 4] ?_; exact zz.o) : B := g ⟨h⟩
theorem Z225 (h : A) (g : Hd A → B := by intro zz; refine cS 8 (fun _ _ _ _ _ => vq rfl qM (gN ⟨rfl, rfl⟩)) ?_; exact zz.o) : B := g ⟨h⟩
theorem Z226 (h : A) (g : Hd A → B := by intro zz; refine cS 4 (fun _ _ _ _ _ => vq rfl qM (gN ⟨rfl, rfl⟩)) ?_; exact zz.o) : B := g ⟨h⟩
theorem Z227 (h : A) (g : Hd A → B := by intro zz; refine gP [0, 1, 4, 5, 6, 8, 9, 10, 11, 12, 13, 14] ?_; exact zz.o) : B := g ⟨h⟩
theorem Z228 (h : A) (g : Hd A → B := by intro zz; refine sa rfl (dS sz81) ?_; exact zz.o) : B := g ⟨h⟩
theorem Z229 (h : A) (g : Hd A → B := by intro zz; refine gP [0, 1, 2, 4, 5, 6, 7, 9, 10] ?_; exact zz.o) : B := g ⟨h⟩
theorem Z230 (h : A) (g : Hd A → B := by intro zz; refine ck_st 7 (fun _ _ _ _ _ => vq rfl (qG (by exact sz27) u27 rfl) (gN ⟨rfl, rfl⟩)) ?_; exact zz.o) : B := g ⟨h⟩
theorem Z231 (h : A) (g : Hd A → B := by intro zz; refine sgo rfl hsp (y_loadp_leaf u22) ?_; exact zz.o) : B := g ⟨h⟩
theorem Z232 (h : A) (g : Hd A → B := by intro zz; refine ck_pre [0] ?_; exact zz.o) : B := g ⟨h⟩
theorem Z233 (h : A) (g : Hd A → B := by intro zz; refine gP [0, 1, 2] ?_; exact zz.o) : B := g ⟨h⟩
theorem Z234 (h : A) (g : Hd A → B := by intro zz; refine sg rfl (fun hg => sP 17 rfl hg (qL u3)) ?_; exact zz.o) : B := g ⟨h⟩
theorem Z235 (h : A) (g : Hd A → B := by intro zz; refine vq rfl (q_buildS pl189 zr189) ?_; exact zz.o) : B := g ⟨h⟩
theorem Z236 (h : A) (g : Hd A → B := by intro zz; refine sg rfl (fun hg => sP 9 rfl hg (qL u3)) ?_; exact zz.o) : B := g ⟨h⟩
theorem Z237 (h : A) (g : Hd A → B := by intro zz; refine gN (tN (gT (tR (tR ?_)))); exact zz.o) : B := g ⟨h⟩
theorem Z238 (h : A) (g : Hd A → B := by intro zz; refine blk_exit (tN (gS (gS (gR ?_)))); exact zz.o) : B := g ⟨h⟩
theorem Z239 (h : A) (g : Hd A → B := by intro zz; refine gL (xs := [.tmp 68]) rfl ((Tr.d_mk op name num ks ▸ c289 (.mk op name num ks) hok)) ?_; exact zz.o) : B := g ⟨h⟩
theorem Z240 (h : A) (g : Hd A → B := by intro zz; refine sa rfl (dS sz260) ?_; exact zz.o) : B := g ⟨h⟩
theorem Z241 (h : A) (g : Hd A → B := by intro zz; refine vq rfl q_nilCheck ?_; exact zz.o) : B := g ⟨h⟩
theorem Z242 (h : A) (g : Hd A → B := by intro zz; refine tN (gS ?_); exact zz.o) : B := g ⟨h⟩
theorem Z243 (h : A) (g : Hd A → B := by intro zz; refine cP [5, 0, 0, 1, 2, 3, 4, 5] ?_; exact zz.o) : B := g ⟨h⟩
theorem Z244 (h : A) (g : Hd A → B := by intro zz; refine vq rfl (q_buildS pl25 zr25) ?_; exact zz.o) : B := g ⟨h⟩
theorem Z245 (h : A) (g : Hd A → B := by intro zz; refine sg rfl (fun hg => sP 8 rfl hg q_eql) ?_; exact zz.o) : B := g ⟨h⟩
theorem Z246 (h : A) (g : Hd A → B := by intro zz; refine vq rfl (q_sub (hw := rfl)) ?_; exact zz.o) : B := g ⟨h⟩
theorem Z247 (h : A) (g : Hd A → B := by intro zz; refine sv rfl (y_buildSlice (xs := [.tmp 19]) u22 inf27) ?_; exact zz.o) : B := g ⟨h⟩
theorem Z248 (h : A) (g : Hd A → B := by intro zz; refine gK (bN (tN ?_)); exact zz.o) : B := g ⟨h⟩
theorem Z249 (h : A) (g : Hd A → B := by intro zz; refine cS 1 (fun _ _ _ _ _ => vq rfl (qF u27 rfl sz22) (gN ⟨rfl, rfl⟩)) ?_; exact zz.o) : B := g ⟨h⟩
theorem Z250 (h : A) (g : Hd A → B := by intro zz; refine sa rfl (d_insert u253 u9) ?_; exact zz.o) : B := g ⟨h⟩
theorem Z251 (h : A) (g : Hd A → B := by intro zz; refine ck_st 6 (fun _ _ _ _ _ => vq rfl (qI u22 sz27) (gN ⟨rfl, rfl⟩)) ?_; exact zz.o) : B := g ⟨h⟩
theorem Z252 (h : A) (g : Hd A → B := by intro zz; refine cS 1 (fun _ _ _ _ _ => vq rfl (qF u27 rfl sz3) (gN ⟨rfl, rfl⟩)) ?_; exact zz.o) : B := g ⟨h⟩
theorem Z253 (h : A) (g : Hd A → B := by intro zz; refine sg rfl (fun hg => sP 43 rfl hg (qF u27 rfl sz9)) ?_; exact zz.o) : B := g ⟨h⟩
theorem Z254 (h : A) (g : Hd A → B := by intro zz; refine vq rfl ((q_lookup2 (zd := .agg [.sl [], .bool false, .nilF]) u127 u3 zr189)) ?_; exact zz.o) : B := g ⟨h⟩
theorem Z255 (h : A) (g : Hd A → B := by intro zz; refine vq rfl (q_makeFunc (xs := []) (ys := [.tmp 1])) ?_; exact zz.o) : B := g ⟨h⟩
theorem Z256 (h : A) (g : Hd A → B := by intro zz; refine sq rfl qM ?_; exact zz.o) : B := g ⟨h⟩
theorem Z257 (h : A) (g : Hd A → B := by intro zz; refine vq rfl (qF u260 rfl sz3) ?_; exact zz.o) : B := g ⟨h⟩
theorem Z258 (h : A) (g : Hd A → B := by intro zz; refine he1 _ _ ?_; exact zz.o) : B := g ⟨h⟩
theorem Z259 (h : A) (g : Hd A → B := by intro zz; refine hr _ ?_; exact zz.o) : B := g ⟨h⟩
theorem Z260 (h : A) (g : Hd A → B := by intro zz; refine gN (tN (gS (G_block (gS (gR ?_))))); exact zz.o) : B := g ⟨h⟩
theorem Z261 (h : A) (g : Hd A → B := by intro zz; refine ga1 6 ?_; exact zz.o) : B := g ⟨h⟩
theorem Z262 (h : A) (g : Hd A → B := by intro zz; refine ck_st 4 (fun _ _ _ _ _ => vq rfl (qL u22) (gN ⟨rfl, rfl⟩)) ?_; exact zz.o) : B := g ⟨h⟩
theorem Z263 (h : A) (g : Hd A → B := by intro zz; refine sg rfl (fun hg => q_fieldAddr u189 rfl sz63) ?_; exact zz.o) : B := g ⟨h⟩
theorem Z264 (h : A) (g : Hd A → B := by intro zz; refine sv rfl (y_alloc zr102) ?_; exact zz.o) : B := g ⟨h⟩
theorem Z265 (h : A) (g : Hd A → B := by intro zz; refine g_cg0 [81, 82, 83, 84, 80, 85, 86, 12, 13] ?_; exact zz.o) : B := g ⟨h⟩
theorem Z266 (h : A) (g : Hd A → B := by intro zz; refine sv rfl (y_buildSlice (xs := []) u22 inf27) ?_; exact zz.o) : B := g ⟨h⟩
theorem Z267 (h : A) (g : Hd A → B := by intro zz; refine gP [0, 1, 2, 3, 4, 5] ?_; exact zz.o) : B := g ⟨h⟩
theorem Z268 (h : A) (g : Hd A → B := by intro zz; refine sv rfl (y_alloc zr25) ?_; exact zz.o) : B := g ⟨h⟩
theorem Z269 (h : A) (g : Hd A → B := by intro zz; refine vq rfl (qI u49 sz59) ?_; exact zz.o) : B := g ⟨h⟩
theorem Z270 (h : A) (g : Hd A → B := by intro zz; refine ga1 5 ?_; exact zz.o) : B := g ⟨h⟩
theorem Z271 (h : A) (g : Hd A → B := by intro zz; refine sg rfl (fun hg => sP 26 rfl hg (qL u3)) ?_; exact zz.o) : B := g ⟨h⟩
theorem Z272 (h : A) (g : Hd A → B := by intro zz; refine sg rfl (fun hg => sP 35 rfl hg (qL u3)) ?_; exact zz.o) : B := g ⟨h⟩
theorem Z273 (h : A) (g : Hd A → B := by intro zz; refine findc sz260 u260 (by simp) ?_; exact zz.o) : B := g ⟨h⟩
theorem Z274 (h : A) (g : Hd A → B := by intro zz; refine cP [9] ?_; exact zz.o) : B := g ⟨h⟩
theorem Z275 (h : A) (g : Hd A → B := by intro zz; refine gP [0, 1, 2, 4, 5, 6, 7, 8, 9, 10, 11] ?_; exact zz.o) : B := g ⟨h⟩
theorem Z276 (h : A) (g : Hd A → B := by intro zz; refine findc sz199 u199 (by simp) ?_; exact zz.o) : B := g ⟨h⟩
theorem Z277 (h : A) (g : Hd A → B := by intro zz; refine sg rfl (fun hg => sP 10 rfl hg q_neq) ?_; exact zz.o) : B := g ⟨h⟩
theorem Z278 (h : A) (g : Hd A → B := by intro zz; refine sa rfl (d_insert u249 u9) ?_; exact zz.o) : B := g ⟨h⟩
theorem Z279 (h : A) (g : Hd A → B := by intro zz; refine tN (gT ?_); exact zz.o) : B := g ⟨h⟩
theorem Z280 (h : A) (g : Hd A → B := by intro zz; refine tN (gT (bR (tR ?_))); exact zz.o) : B := g ⟨h⟩
theorem Z281 (h : A) (g : Hd A → B := by intro zz; refine sa rfl (dS sz102) ?_; exact zz.o) : B := g ⟨h⟩
theorem Z282 (h : A) (g : Hd A → B := by intro zz; refine gN (bN (tN ?_)); exact zz.o) : B := g ⟨h⟩
theorem Z283 (h : A) (g : Hd A → B := by intro zz; refine ck_pre [7, 6, 6, 0, 2, 3, 4, 5, 6] ?_; exact zz.o) : B := g ⟨h⟩
theorem Z284 (h : A) (g : Hd A → B := by intro zz; refine sg rfl (fun hg => qF u102 rfl sz9) ?_; exact zz.o) : B := g ⟨h⟩
theorem Z285 (h : A) (g : Hd A → B := by intro zz; refine vq rfl (qF u81 rfl sz9) ?_; exact zz.o) : B := g ⟨h⟩
theorem Z286 (h : A) (g : Hd A → B := by intro zz; refine sg rfl (fun hg => qF u81 rfl sz79) ?_; exact zz.o) : B := g ⟨h⟩
theorem Z287 (h : A) (g : Hd A → B := by intro zz; refine gP [0, 2, 3, 4, 5, 6, 14, 20, 23] ?_; exact zz.o) : B := g ⟨h⟩
theorem Z288 (h : A) (g : Hd A → B := by intro zz; refine sg rfl (fun hg => qF u81 rfl sz4) ?_; exact zz.o) : B := g ⟨h⟩
theorem Z289 (h : A) (g : Hd A → B := by intro zz; refine sv rfl (y_fieldAt 1 u25 rfl sz23) ?_; exact zz.o) : B := g ⟨h⟩
theorem Z290 (h : A) (g : Hd A → B := by intro zz; refine sv rfl (y_fieldAt 0 u27 rfl sz3) ?_; exact zz.o) : B := g ⟨h⟩
theorem Z291 (h : A) (g : Hd A → B := by intro zz; refine gN (tN (gT (tR (tR (bR (tR ?_)))))); exact zz.o) : B := g ⟨h⟩
theorem Z292 (h : A) (g : Hd A → B := by intro zz; refine sv rfl (y_load_agg sz81 u81 rfl) ?_; exact zz.o) : B := g ⟨h⟩
theorem Z293 (h : A) (g : Hd A → B := by intro zz; refine sv rfl (y_alloc zr59) ?_; exact zz.o) : B := g ⟨h⟩
theorem Z294 (h : A) (g : Hd A → B := by intro zz; refine gP [0, 1, 4, 5, 6, 7, 8, 9, 10] ?_; exact zz.o) : B := g ⟨h⟩
theorem Z295 (h : A) (g : Hd A → B := by intro zz; refine gL (xs := [.tmp 40]) rfl (q168) ?_; exact zz.o) : B := g ⟨h⟩
theorem Z296 (h : A) (g : Hd A → B := by intro zz; refine gL (xs := [.tmp 15]) rfl (hcx) ?_; exact zz.o) : B := g ⟨h⟩
theorem Z297 (h : A) (g : Hd A → B := by intro zz; refine ck_pre [2] ?_; exact zz.o) : B := g ⟨h⟩
theorem Z298 (h : A) (g : Hd A → B := by intro zz; refine cP [25] ?_; exact zz.o) : B := g ⟨h⟩
theorem Z299 (h : A) (g : Hd A → B := by intro zz; refine sgo rfl hyes y_move ?_; exact zz.o) : B := g ⟨h⟩
theorem Z300 (h : A) (g : Hd A → B := by intro zz; refine cP [0, 2] ?_; exact zz.o) : B := g ⟨h⟩
theorem Z301 (h : A) (g : Hd A → B := by intro zz; refine vq rfl q_leq ?_; exact zz.o) : B := g ⟨h⟩
theorem Z302 (h : A) (g : Hd A → B := by intro zz; refine sgo rfl hsp y_eql ?_; exact zz.o) : B := g ⟨h⟩
theorem Z303 (h : A) (g : Hd A → B := by intro zz; refine vq rfl (q_mul (hw := rfl)) ?_; exact zz.o) : B := g ⟨h⟩
theorem Z304 (h : A) (g : Hd A → B := by intro zz; refine sgo rfl hsp y_or ?_; exact zz.o) : B := g ⟨h⟩
theorem Z305 (h : A) (g : Hd A → B := by intro zz; refine bN (tN ?_); exact zz.o) : B := g ⟨h⟩
theorem Z306 (h : A) (g : Hd A → B := by intro zz; refine sq rfl (qL u9) ?_; exact zz.o) : B := g ⟨h⟩
theorem Z307 (h : A) (g : Hd A → B := by intro zz; refine vq rfl q_strne ?_; exact zz.o) : B := g ⟨h⟩
theorem Z308 (h : A) (g : Hd A → B := by intro zz; refine cP [0, 4, 8] ?_; exact zz.o) : B := g ⟨h⟩
theorem Z309 (h : A) (g : Hd A → B := by intro zz; refine tN (gT (tR ?_)); exact zz.o) : B := g ⟨h⟩
theorem Z310 (h : A) (g : Hd A → B := by intro zz; refine bN (tN (gR ?_)); exact zz.o) : B := g ⟨h⟩
theorem Z311 (h : A) (g : Hd A → B := by intro zz; refine gS (gS ?_); exact zz.o) : B := g ⟨h⟩
theorem Z312 (h : A) (g : Hd A → B := by intro zz; refine he2 _ _ ?_; exact zz.o) : B := g ⟨h⟩
theorem Z313 (h : A) (g : Hd A → B := by intro zz; refine ga1 4 ?_; exact zz.o) : B := g ⟨h⟩
theorem Z314 (h : A) (g : Hd A → B := by intro zz; refine ga1 2 ?_; exact zz.o) : B := g ⟨h⟩
theorem Z315 (h : A) (g : Hd A → B := by intro zz; refine ga1 7 ?_; exact zz.o) : B := g ⟨h⟩
theorem Z316 (h : A) (g : Hd A → B := by intro zz; refine tN ?_; exact zz.o) : B := g ⟨h⟩
theorem Z317 (h : A) (g : Hd A → B := by intro zz; refine Z1 ?_; refine Z8 ?_; exact zz.o) : B := g ⟨h⟩
theorem Z318 (h : A) (g : Hd A → B := by intro zz; refine Z3 ?_; refine Z1 ?_; exact zz.o) : B := g ⟨h⟩
theorem Z319 (h : A) (g : Hd A → B := by intro zz; refine Z1 ?_; refine Z5 ?_; exact zz.o) : B := g ⟨h⟩
theorem Z320 (h : A) (g : Hd A → B := by intro zz; refine Z317 ?_; refine Z4 ?_; exact zz.o) : B := g ⟨h⟩
theorem Z321 (h : A) (g : Hd A → B := by intro zz; refine Z0 ?_; refine Z0 ?_; exact zz.o) : B := g ⟨h⟩
theorem Z322 (h : A) (g : Hd A → B := by intro zz; refine Z1 ?_; refine Z10 ?_; exact zz.o) : B := g ⟨h⟩
theorem Z323 (h : A) (g : Hd A → B := by intro zz; refine Z15 ?_; refine Z16 ?_; exact zz.o) : B := g ⟨h⟩
theorem Z324 (h : A) (g : Hd A → B := by intro zz; refine Z1 ?_; refine Z7 ?_; exact zz.o) : B := g ⟨h⟩
theorem Z325 (h : A) (g : Hd A → B := by intro zz; refine Z3 ?_; refine Z24 ?_; exact zz.o) : B := g ⟨h⟩
theorem Z326 (h : A) (g : Hd A → B := by intro zz; refine Z22 ?_; refine Z23 ?_; exact zz.o) : B := g ⟨h⟩
theorem Z327 (h : A) (g : Hd A → B := by intro zz; refine Z1 ?_; refine Z20 ?_; exact zz.o) : B := g ⟨h⟩
theorem Z328 (h : A) (g : Hd A → B := by intro zz; refine Z1 ?_; refine Z11 ?_; exact zz.o) : B := g ⟨h⟩
theorem Z329 (h : A) (g : Hd A → B := by intro zz; refine Z2 ?_; refine Z2 ?_; exact zz.o) : B := g ⟨h⟩
theorem Z330 (h : A) (g : Hd A → B := by intro zz; refine Z17 ?_; refine Z319 ?_; exact zz.o) : B := g ⟨h⟩
theorem Z331 (h : A) (g : Hd A → B := by intro zz; refine Z1 ?_; refine Z48 ?_; exact zz.o) : B := g ⟨h⟩
theorem Z332 (h : A) (g : Hd A → B := by intro zz; refine Z0 ?_; refine Z18 ?_; exact zz.o) : B := g ⟨h⟩
theorem Z333 (h : A) (g : Hd A → B := by intro zz; refine Z28 ?_; refine Z5 ?_; exact zz.o) : B := g ⟨h⟩
theorem Z334 (h : A) (g : Hd A → B := by intro zz; refine Z27 ?_; refine Z27 ?_; exact zz.o) : B := g ⟨h⟩
theorem Z335 (h : A) (g : Hd A → B := by intro zz; refine Z14 ?_; refine Z0 ?_; exact zz.o) : B := g ⟨h⟩
theorem Z336 (h : A) (g : Hd A → B := by intro zz; refine Z41 ?_; refine Z39 ?_; exact zz.o) : B := g ⟨h⟩
theorem Z337 (h : A) (g : Hd A → B := by intro zz; refine Z0 ?_; refine Z21 ?_; exact zz.o) : B := g ⟨h⟩
theorem Z338 (h : A) (g : Hd A → B := by intro zz; refine Z25 ?_; refine Z331 ?_; exact zz.o) : B := g ⟨h⟩
theorem Z339 (h : A) (g : Hd A → B := by intro zz; refine Z318 ?_; refine Z7 ?_; exact zz.o) : B := g ⟨h⟩
theorem Z340 (h : A) (g : Hd A → B := by intro zz; refine Z0 ?_; refine Z334 ?_; exact zz.o) : B := g ⟨h⟩
theorem Z341 (h : A) (g : Hd A → B := by intro zz; refine Z25 ?_; refine Z0 ?_; exact zz.o) : B := g ⟨h⟩
theorem Z342 (h : A) (g : Hd A → B := by intro zz; refine Z37 ?_; refine Z73 ?_; exact zz.o) : B := g ⟨h⟩
theorem Z343 (h : A) (g : Hd A → B := by intro zz; refine Z40 ?_; refine Z6 ?_; exact zz.o) : B := g ⟨h⟩
theorem Z344 (h : A) (g : Hd A → B := by intro zz; refine Z341 ?_; refine Z48 ?_; exact zz.o) : B := g ⟨h⟩
theorem Z345 (h : A) (g : Hd A → B := by intro zz; refine Z325 ?_; refine Z9 ?_; exact zz.o) : B := g ⟨h⟩
theorem Z346 (h : A) (g : Hd A → B := by intro zz; refine Z34 ?_; refine Z5 ?_; exact zz.o) : B := g ⟨h⟩
theorem Z347 (h : A) (g : Hd A → B := by intro zz; refine Z342 ?_; refine Z38 ?_; exact zz.o) : B := g ⟨h⟩
theorem Z348 (h : A) (g : Hd A → B := by intro zz; refine Z29 ?_; refine Z19 ?_; exact zz.o) : B := g ⟨h⟩
theorem Z349 (h : A) (g : Hd A → B := by intro zz; refine Z0 ?_; refine Z338 ?_; exact zz.o) : B := g ⟨h⟩
theorem Z350 (h : A) (g : Hd A → B := by intro zz; refine Z56 ?_; refine Z5 ?_; exact zz.o) : B := g ⟨h⟩
theorem Z351 (h : A) (g : Hd A → B := by intro zz; refine Z13 ?_; refine Z322 ?_; exact zz.o) : B := g ⟨h⟩
theorem Z352 (h : A) (g : Hd A → B := by intro zz; refine Z3 ?_; refine Z0 ?_; exact zz.o) : B := g ⟨h⟩
theorem Z353 (h : A) (g : Hd A → B := by intro zz; refine Z13 ?_; refine Z0 ?_; exact zz.o) : B := g ⟨h⟩
theorem Z354 (h : A) (g : Hd A → B := by intro zz; refine Z3 ?_; refine Z330 ?_; exact zz.o) : B := g ⟨h⟩
theorem Z355 (h : A) (g : Hd A → B := by intro zz; refine Z44 ?_; refine Z0 ?_; exact zz.o) : B := g ⟨h⟩
theorem Z356 (h : A) (g : Hd A → B := by intro zz; refine Z57 ?_; refine Z64 ?_; exact zz.o) : B := g ⟨h⟩
theorem Z357 (h : A) (g : Hd A → B := by intro zz; refine Z1 ?_; refine Z35 ?_; exact zz.o) : B := g ⟨h⟩
theorem Z358 (h : A) (g : Hd A → B := by intro zz; refine Z3 ?_; refine Z6 ?_; exact zz.o) : B := g ⟨h⟩
theorem Z359 (h : A) (g : Hd A → B := by intro zz; refine Z329 ?_; refine Z329 ?_; exact zz.o) : B := g ⟨h⟩
theorem Z360 (h : A) (g : Hd A → B := by intro zz; refine Z13 ?_; refine Z320 ?_; exact zz.o) : B := g ⟨h⟩
theorem Z361 (h : A) (g : Hd A → B := by intro zz; refine Z0 ?_; refine Z35 ?_; exact zz.o) : B := g ⟨h⟩
theorem Z362 (h : A) (g : Hd A → B := by intro zz; refine Z3 ?_; refine Z34 ?_; exact zz.o) : B := g ⟨h⟩
theorem Z363 (h : A) (g : Hd A → B := by intro zz; refine Z362 ?_; refine Z42 ?_; exact zz.o) : B := g ⟨h⟩
theorem Z364 (h : A) (g : Hd A → B := by intro zz; refine Z323 ?_; refine Z17 ?_; exact zz.o) : B := g ⟨h⟩
theorem Z365 (h : A) (g : Hd A → B := by intro zz; refine Z327 ?_; refine Z4 ?_; exact zz.o) : B := g ⟨h⟩
theorem Z366 (h : A) (g : Hd A → B := by intro zz; refine Z1 ?_; refine Z322 ?_; exact zz.o) : B := g ⟨h⟩
theorem Z367 (h : A) (g : Hd A → B := by intro zz; refine Z54 ?_; refine Z319 ?_; exact zz.o) : B := g ⟨h⟩
theorem Z368 (h : A) (g : Hd A → B := by intro zz; refine Z107 ?_; refine Z91 ?_; exact zz.o) : B := g ⟨h⟩
theorem Z369 (h : A) (g : Hd A → B := by intro zz; refine Z13 ?_; refine Z5 ?_; exact zz.o) : B := g ⟨h⟩
theorem Z370 (h : A) (g : Hd A → B := by intro zz; refine Z62 ?_; refine Z356 ?_; exact zz.o) : B := g ⟨h⟩
theorem Z371 (h : A) (g : Hd A → B := by intro zz; refine Z326 ?_; refine Z45 ?_; exact zz.o) : B := g ⟨h⟩
theorem Z372 (h : A) (g : Hd A → B := by intro zz; refine Z1 ?_; refine Z42 ?_; exact zz.o) : B := g ⟨h⟩
theorem Z373 (h : A) (g : Hd A → B := by intro zz; refine Z328 ?_; refine Z0 ?_; exact zz.o) : B := g ⟨h⟩
theorem Z374 (h : A) (g : Hd A → B := by intro zz; refine Z318 ?_; refine Z20 ?_; exact zz.o) : B := g ⟨h⟩
theorem Z375 (h : A) (g : Hd A → B := by intro zz; refine Z374 ?_; refine Z4 ?_; exact zz.o) : B := g ⟨h⟩
theorem Z376 (h : A) (g : Hd A → B := by intro zz; refine Z78 ?_; refine Z16 ?_; exact zz.o) : B := g ⟨h⟩
theorem Z377 (h : A) (g : Hd A → B := by intro zz; refine Z12 ?_; refine Z12 ?_; exact zz.o) : B := g ⟨h⟩
theorem Z378 (h : A) (g : Hd A → B := by intro zz; refine Z324 ?_; refine Z0 ?_; exact zz.o) : B := g ⟨h⟩
theorem Z379 (h : A) (g : Hd A → B := by intro zz; refine Z326 ?_; refine Z343 ?_; exact zz.o) : B := g ⟨h⟩
theorem Z380 (h : A) (g : Hd A → B := by intro zz; refine Z318 ?_; refine Z11 ?_; exact zz.o) : B := g ⟨h⟩
theorem Z381 (h : A) (g : Hd A → B := by intro zz; refine Z52 ?_; refine Z5 ?_; exact zz.o) : B := g ⟨h⟩
theorem Z382 (h : A) (g : Hd A → B := by intro zz; refine Z0 ?_; refine Z31 ?_; exact zz.o) : B := g ⟨h⟩
theorem Z383 (h : A) (g : Hd A → B := by intro zz; refine Z26 ?_; refine Z0 ?_; exact zz.o) : B := g ⟨h⟩
theorem Z384 (h : A) (g : Hd A → B := by intro zz; refine Z72 ?_; refine Z47 ?_; exact zz.o) : B := g ⟨h⟩
theorem Z385 (h : A) (g : Hd A → B := by intro zz; refine Z379 ?_; refine Z0 ?_; exact zz.o) : B := g ⟨h⟩
theorem Z386 (h : A) (g : Hd A → B := by intro zz; refine Z326 ?_; refine Z0 ?_; exact zz.o) : B := g ⟨h⟩
theorem Z387 (h : A) (g : Hd A → B := by intro zz; refine Z339 ?_; refine Z0 ?_; exact zz.o) : B := g ⟨h⟩
theorem Z388 (h : A) (g : Hd A → B := by intro zz; refine Z14 ?_; refine Z365 ?_; exact zz.o) : B := g ⟨h⟩
theorem Z389 (h : A) (g : Hd A → B := by intro zz; refine Z340 ?_; refine Z1 ?_; exact zz.o) : B := g ⟨h⟩
theorem Z390 (h : A) (g : Hd A → B := by intro zz; refine Z345 ?_; refine Z324 ?_; exact zz.o) : B := g ⟨h⟩
theorem Z391 (h : A) (g : Hd A → B := by intro zz; refine Z0 ?_; refine Z49 ?_; exact zz.o) : B := g ⟨h⟩
theorem Z392 (h : A) (g : Hd A → B := by intro zz; refine Z61 ?_; refine Z19 ?_; exact zz.o) : B := g ⟨h⟩
theorem Z393 (h : A) (g : Hd A → B := by intro zz; refine Z380 ?_; refine Z0 ?_; exact zz.o) : B := g ⟨h⟩
theorem Z394 (h : A) (g : Hd A → B := by intro zz; refine Z368 ?_; refine Z4 ?_; exact zz.o) : B := g ⟨h⟩
theorem Z395 (h : A) (g : Hd A → B := by intro zz; refine Z366 ?_; refine Z71 ?_; exact zz.o) : B := g ⟨h⟩
theorem Z396 (h : A) (g : Hd A → B := by intro zz; refine Z1 ?_; refine Z83 ?_; exact zz.o) : B := g ⟨h⟩
theorem Z397 (h : A) (g : Hd A → B := by intro zz; refine Z327 ?_; refine Z53 ?_; exact zz.o) : B := g ⟨h⟩
theorem Z398 (h : A) (g : Hd A → B := by intro zz; refine Z104 ?_; refine Z23 ?_; exact zz.o) : B := g ⟨h⟩
theorem Z399 (h : A) (g : Hd A → B := by intro zz; refine Z339 ?_; refine Z321 ?_; exact zz.o) : B := g ⟨h⟩
theorem Z400 (h : A) (g : Hd A → B := by intro zz; refine Z14 ?_; refine Z330 ?_; exact zz.o) : B := g ⟨h⟩
theorem Z401 (h : A) (g : Hd A → B := by intro zz; refine Z14 ?_; refine Z6 ?_; exact zz.o) : B := g ⟨h⟩
theorem Z402 (h : A) (g : Hd A → B := by intro zz; refine Z14 ?_; refine Z321 ?_; exact zz.o) : B := g ⟨h⟩
theorem Z403 (h : A) (g : Hd A → B := by intro zz; refine Z112 ?_; refine Z148 ?_; exact zz.o) : B := g ⟨h⟩
theorem Z404 (h : A) (g : Hd A → B := by intro zz; refine Z345 ?_; refine Z328 ?_; exact zz.o) : B := g ⟨h⟩
theorem Z405 (h : A) (g : Hd A → B := by intro zz; refine Z51 ?_; refine Z92 ?_; exact zz.o) : B := g ⟨h⟩
theorem Z406 (h : A) (g : Hd A → B := by intro zz; refine Z105 ?_; refine Z116 ?_; exact zz.o) : B := g ⟨h⟩
theorem Z407 (h : A) (g : Hd A → B := by intro zz; refine Z17 ?_; refine Z5 ?_; exact zz.o) : B := g ⟨h⟩
theorem Z408 (h : A) (g : Hd A → B := by intro zz; refine Z364 ?_; refine Z5 ?_; exact zz.o) : B := g ⟨h⟩
theorem Z409 (h : A) (g : Hd A → B := by intro zz; refine Z366 ?_; refine Z147 ?_; exact zz.o) : B := g ⟨h⟩
theorem Z410 (h : A) (g : Hd A → B := by intro zz; refine Z3 ?_; refine Z367 ?_; exact zz.o) : B := g ⟨h⟩
theorem Z411 (h : A) (g : Hd A → B := by intro zz; refine Z318 ?_; refine Z10 ?_; exact zz.o) : B := g ⟨h⟩
theorem Z412 (h : A) (g : Hd A → B := by intro zz; refine Z55 ?_; refine Z19 ?_; exact zz.o) : B := g ⟨h⟩
theorem Z413 (h : A) (g : Hd A → B := by intro zz; refine Z327 ?_; refine Z50 ?_; exact zz.o) : B := g ⟨h⟩
theorem Z414 (h : A) (g : Hd A → B := by intro zz; refine Z77 ?_; refine Z344 ?_; exact zz.o) : B := g ⟨h⟩
theorem Z415 (h : A) (g : Hd A → B := by intro zz; refine Z28 ?_; refine Z320 ?_; exact zz.o) : B := g ⟨h⟩
theorem Z416 (h : A) (g : Hd A → B := by intro zz; refine Z343 ?_; refine Z348 ?_; exact zz.o) : B := g ⟨h⟩
theorem Z417 (h : A) (g : Hd A → B := by intro zz; refine Z14 ?_; refine Z344 ?_; exact zz.o) : B := g ⟨h⟩
theorem Z418 (h : A) (g : Hd A → B := by intro zz; refine Z59 ?_; refine Z0 ?_; exact zz.o) : B := g ⟨h⟩
theorem Z419 (h : A) (g : Hd A → B := by intro zz; refine Z347 ?_; refine Z320 ?_; exact zz.o) : B := g ⟨h⟩
theorem Z420 (h : A) (g : Hd A → B := by intro zz; refine Z3 ?_; refine Z321 ?_; exact zz.o) : B := g ⟨h⟩
theorem Z421 (h : A) (g : Hd A → B := by intro zz; refine Z1 ?_; refine Z146 ?_; exact zz.o) : B := g ⟨h⟩
theorem Z422 (h : A) (g : Hd A → B := by intro zz; refine Z28 ?_; refine Z0 ?_; exact zz.o) : B := g ⟨h⟩
theorem Z423 (h : A) (g : Hd A → B := by intro zz; refine Z52 ?_; refine Z0 ?_; exact zz.o) : B := g ⟨h⟩
theorem Z424 (h : A) (g : Hd A → B := by intro zz; refine Z325 ?_; refine Z76 ?_; exact zz.o) : B := g ⟨h⟩
theorem Z425 (h : A) (g : Hd A → B := by intro zz; refine Z68 ?_; refine Z14 ?_; exact zz.o) : B := g ⟨h⟩
theorem Z426 (h : A) (g : Hd A → B := by intro zz; refine Z335 ?_; refine Z338 ?_; exact zz.o) : B := g ⟨h⟩
theorem Z427 (h : A) (g : Hd A → B := by intro zz; refine Z77 ?_; refine Z349 ?_; exact zz.o) : B := g ⟨h⟩
theorem Z428 (h : A) (g : Hd A → B := by intro zz; refine Z371 ?_; refine Z346 ?_; exact zz.o) : B := g ⟨h⟩
theorem Z429 (h : A) (g : Hd A → B := by intro zz; refine Z318 ?_; refine Z409 ?_; exact zz.o) : B := g ⟨h⟩
theorem Z430 (h : A) (g : Hd A → B := by intro zz; refine Z340 ?_; refine Z348 ?_; exact zz.o) : B := g ⟨h⟩
theorem Z431 (h : A) (g : Hd A → B := by intro zz; refine Z137 ?_; refine Z185 ?_; exact zz.o) : B := g ⟨h⟩
theorem Z432 (h : A) (g : Hd A → B := by intro zz; refine Z45 ?_; refine Z361 ?_; exact zz.o) : B := g ⟨h⟩
theorem Z433 (h : A) (g : Hd A → B := by intro zz; refine Z324 ?_; refine Z321 ?_; exact zz.o) : B := g ⟨h⟩
theorem Z434 (h : A) (g : Hd A → B := by intro zz; refine Z46 ?_; refine Z0 ?_; exact zz.o) : B := g ⟨h⟩
theorem Z435 (h : A) (g : Hd A → B := by intro zz; refine Z359 ?_; refine Z359 ?_; exact zz.o) : B := g ⟨h⟩
theorem Z436 (h : A) (g : Hd A → B := by intro zz; refine Z13 ?_; refine Z319 ?_; exact zz.o) : B := g ⟨h⟩
theorem Z437 (h : A) (g : Hd A → B := by intro zz; refine Z30 ?_; refine Z79 ?_; exact zz.o) : B := g ⟨h⟩
theorem Z438 (h : A) (g : Hd A → B := by intro zz; refine Z317 ?_; refine Z50 ?_; exact zz.o) : B := g ⟨h⟩
theorem Z439 (h : A) (g : Hd A → B := by intro zz; refine Z37 ?_; refine Z258 ?_; exact zz.o) : B := g ⟨h⟩
theorem Z440 (h : A) (g : Hd A → B := by intro zz; refine Z373 ?_; refine Z350 ?_; exact zz.o) : B := g ⟨h⟩
theorem Z441 (h : A) (g : Hd A → B := by intro zz; refine Z88 ?_; refine Z14 ?_; exact zz.o) : B := g ⟨h⟩
theorem Z442 (h : A) (g : Hd A → B := by intro zz; refine Z152 ?_; refine Z39 ?_; exact zz.o) : B := g ⟨h⟩
theorem Z443 (h : A) (g : Hd A → B := by intro zz; refine Z153 ?_; refine Z23 ?_; exact zz.o) : B := g ⟨h⟩
theorem Y0 (g : A := by exact ⟨by (first | rw [right1] | rw [right2] | rw [right5] | rw [right6] | rw [right7] | rw [right8] | rw [right9] | rw [right10] | rw [right12] | rw [right14] | rw [right16] | rw [right17] | rw [right18] | rw [right19] | rw [right31] | rw [right51] | rw [right52] | rw [right53] | rw [right54] | rw [right55] | rw [right56] | rw [right57] | rw [right58] | rw [right59] | rw [right60] | rw [right61] | rw [right62] | rw [right63] | rw [right64] | rw [right65] | rw [right66] | rw [right67] | rw [right3] | rw [right4] | rw [right30] | rw [right50] | rw [right13] | rw [right15] | rw [right11]) <;> first | rfl | (rw [List.length_map]; rfl) | rw [List.length_map], rfl⟩) : A := g
theorem Y1 (g : A := by exact ⟨by rw [binV, if_neg (by rw [show (decide (nm = andB) || decide (nm = orB)) = false from hb0]; decide), hti]; dsimp only; rw [if_neg (by simpa using hb8), cmpV, hct]; dsimp only; rw [if_pos hcc, hna, hnb]; try rfl, rfl⟩) : A := g
theorem Y2 (g : A := by exact ⟨by rw [binV, if_neg (by rw [show (decide (nm = andB) || decide (nm = orB)) = false from hb0]; decide), hti]; dsimp only; rw [cmpV, hct]; dsimp only; rw [if_pos hcc, hna, hnb]; try rfl, rfl⟩) : A := g
theorem Y3 (g : A := by exact ⟨by rw [kidsB, zipIdx_all (p := fun i (k : Tr) => kindOk ((s[i]!).toNat : Nat) k.op) (fun i hi x hx => hz2 i (by have : i < ks.length := hi; omega) x hx)]; simp [Tr.kids, hle], rfl⟩) : A := g
theorem Y4 (g : A := by exact ⟨by subst hge; rw [hz4, List.drop_length]; show _ = PV.tup [.d (.sl ((contB acc (Tr.block [] c)).1.map Tr.d)), .d (.int .i64 (contB acc (Tr.block [] c)).2)]; rw [contB_end], rfl⟩) : A := g
theorem Y5 (g : A := by exact ⟨by unfold formE; rw [if_neg (by rw [show (decide ((p.procs.length : Int) > 100) || p.procs.any manyB) = false from by rw [hp0, hm0']; rfl]; decide), hle]; rfl, rfl⟩) : A := g
theorem Y6 (g : A := by exact ⟨by rw [nameB, zipIdx_all (p := fun i (c : UInt8) => charOk i (c.toNat : Nat)) (fun i hi x hx => hz2 i (by rw [bytes_len] at hi; omega) x hx)]; simp; omega, rfl⟩) : A := g
theorem Y7 (g : A := by exact fin1 (by simp) ⟨idxL_found hz2 hx hb1, rfl⟩) : A := g
theorem Y8 (g : A := by exact fin1 (by simp) ⟨idxL_none (hge ▸ hz2), rfl⟩) : A := g
theorem Y9 (g : A := by exact ⟨by unfold foldT; rw [if_neg (by rw [hfe]; decide), hz4]; dsimp only; rw [hy3, procsF_drop hq, contP_err he, if_pos he]; rfl, rfl⟩) : A := g
theorem Y10 (g : A := by exact ⟨by simp only [cmpR, mulBad, quoBad, minI, hb0, hb1, hb2, hb3, hb4, hb5, Bool.false_eq_true, if_true, if_false] <;> rfl, rfl⟩) : A := g
theorem Y11 (g : A := by exact ⟨by simp only [ariR, mulBad, quoBad, minI, hb0, hb1, hb2, hb5, hb7, hb8, Bool.false_eq_true, if_true, if_false] <;> rfl, rfl⟩) : A := g
theorem Y12 (g : A := by exact ⟨by simp only [ariR, mulBad, quoBad, minI, hb0, hb1, hb2, hb3, hb4, Bool.false_eq_true, if_true, if_false] <;> rfl, rfl⟩) : A := g
theorem Y13 (g : A := by exact ⟨by simp only [ariR, mulBad, quoBad, minI, hb0, hb1, hb2, hb5, hb6, Bool.false_eq_true, if_true, if_false] <;> rfl, rfl⟩) : A := g
theorem Y14 (g : A := by exact ⟨by rw [nameB, zipIdx_not (p := fun i (c : UInt8) => charOk i (c.toNat : Nat)) hc hch, Bool.and_false], rfl⟩) : A := g
theorem Y15 (g : A := by exact absurd hb3 (by decide)) : A := g
theorem Y16 (g : A := by exact ih k (by omega) (Tr.kids_ok hok k hk) ((Tr.shaped_mk hsh).2 k hk)) : A := g
theorem Y17 (g : A := by exact absurd hb0 (by decide)) : A := g
theorem Y18 (g : A := by exact ⟨by rw [rule157, if_pos hn]; simp only [Tr.kids_mk] at hb1 ⊢; simp at hb1; simp [hb1], rfl⟩) : A := g
theorem Y19 (g : A := by exact ⟨by (simp only [Tr.op_mk, Tr.nu_mk, Tr.kids_mk, loopsB, List.length_map, W] <;> rfl), rfl⟩) : A := g
theorem Y20 (g : A := by exact ⟨by rw [Tr.put, if_neg (by rw [hb0]; decide), if_neg (by rw [hb3]; decide), Tr.d_mk], rfl⟩) : A := g
theorem Y21 (g : A := by exact ⟨by unfold foldT; rw [if_neg (by rw [hfe]; decide), hz4]; dsimp only; rw [hy3]; rfl, rfl⟩) : A := g
theorem Y22 (g : A := by exact absurd hb2 (by decide)) : A := g
theorem Y23 (g : A := by exact ⟨by rw [idxL_any], rfl⟩) : A := g
theorem Y24 (g : A := by exact ⟨by simp [isExprB, Bool.and_assoc], rfl⟩) : A := g
end Go.Proofs.YtklkbfpjimeaoaaGreat
