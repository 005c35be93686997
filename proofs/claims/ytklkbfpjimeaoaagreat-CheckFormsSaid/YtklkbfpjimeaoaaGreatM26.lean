import Derived.Test.YtklkbfpjimeaoaaGreatM25
/- Contracts of functions. Conditions: none. -/
set_option linter.unusedSimpArgs false
set_option linter.unusedVariables false
set_option maxRecDepth 20000
namespace Go.Proofs.YtklkbfpjimeaoaaGreat
open Go Go.Proofs.YtklkbfpjimeaoaaGreat.E
def tyB : ByteArray := ⟨#[116, 121, 112, 101]⟩
def inB : ByteArray := ⟨#[105, 110]⟩
def constB : ByteArray := ⟨#[99, 111, 110, 115, 116]⟩
def paramB : ByteArray := ⟨#[112, 97, 114, 97, 109]⟩
def fmB (f : Fm) : Bool :=
 if (!nameB f.nm) = true then false
 else if decide (f.intent = tyB) = true then ((f.ty.op == 0 && decide (f.ty.nm = ⟨#[]⟩)) && f.ty.nu == 0) && (f.ty.kids.length : Int) == 0
 else if (((decide (f.intent = ⟨#[]⟩) || decide (f.intent = inB)) || decide (f.intent = constB)) || decide (f.intent = paramB)) = true then typedB f.ty && !decide (f.ty.nm = voidB)
 else false
def expW (t : Tr) : Bool := !isExprB t.op || !t.shaped
def stmW (t : Tr) : Bool := !isStmtB t.op || !t.shaped
def varW (t : Tr) : Bool := t.op != 50 || !t.shaped
def pcB (q : Pc) : Bool :=
 if (((!nameB q.nm || !typedB q.result) || decide ((q.wh.length : Int) > 1)) || q.formals.any fun f => !fmB f) = true then false
 else if q.wh.any expW = true then false
 else !(q.body.any stmW)
def fmTrees (l : List Fm) : List Tr := (l.filter fun f => !decide (f.intent = tyB)).map Fm.ty
def pcTrees (q : Pc) : List Tr := fmTrees q.formals ++ [q.result] ++ q.wh ++ q.body
def Pg.trees (p : Pg) : List Tr := p.globals ++ p.procs.flatMap pcTrees
def manyB (q : Pc) : Bool := decide ((q.formals.length : Int) > 20)
def formE (p : Pg) : Int :=
 if (decide ((p.procs.length : Int) > 100) || p.procs.any manyB) = true then 5
 else if (limitsE p.trees != 0) = true then limitsE p.trees
 else if p.globals.any varW = true then 2
 else if p.procs.any (fun q => !pcB q) = true then 2
 else 0
theorem sizes_append (a b : List Tr) : Tr.sizes (a ++ b) = Tr.sizes a + Tr.sizes b := by
 induction a with
 | nil => simp [Tr.sizes]
 | cons x r ih => rw [List.cons_append, Tr.sizes, Tr.sizes, ih]; omega
theorem fmTrees_size : ∀ l : List Fm, Tr.sizes (fmTrees l) + l.length ≤ fmT l ∧ (fmTrees l).length ≤ l.length
 | [] => by simp [fmTrees, Tr.sizes, fmT]
 | f :: r => by
  have ih := fmTrees_size r
  unfold fmTrees at ih ⊢
  rw [List.filter_cons]
  split
  · rw [List.map_cons, Tr.sizes, fmT, List.length_cons, List.length_cons]; omega
  · rw [fmT, List.length_cons]; omega
theorem pcTrees_size (q : Pc) : Tr.sizes (pcTrees q) ≤ pcT q := by
 unfold pcTrees pcT
 have := fmTrees_size q.formals
 rw [sizes_append, sizes_append, sizes_append]
 have h1 : Tr.sizes [q.result] = q.result.size := by simp [Tr.sizes]
 omega
theorem pcsTrees_size : ∀ l : List Pc, Tr.sizes (l.flatMap pcTrees) + l.length ≤ pcsT l
 | [] => by simp [Tr.sizes, pcsT]
 | q :: r => by
  have ih := pcsTrees_size r
  have := pcTrees_size q
  rw [List.flatMap_cons, sizes_append, pcsT, List.length_cons]
  omega
theorem Pg.trees_size (p : Pg) : Tr.sizes p.trees + p.procs.length ≤ p.total := by
 unfold Pg.trees Pg.total
 have := pcsTrees_size p.procs
 rw [sizes_append]
 omega
theorem pcTrees_ok {q : Pc} (h : q.Ok) : ∀ t ∈ pcTrees q, t.Ok := fun t ht => by
 unfold pcTrees at ht
 rcases List.mem_append.1 ht with ht | ht
 · rcases List.mem_append.1 ht with ht | ht
   · rcases List.mem_append.1 ht with ht | ht
     · unfold fmTrees at ht
       obtain ⟨f, hf, rfl⟩ := List.mem_map.1 ht
       exact (h.f f (List.mem_filter.1 hf).1).t
     · rw [List.mem_singleton.1 ht]; exact h.r
   · exact h.w.2 t ht
 · exact h.b.2 t ht
theorem Pg.trees_ok {p : Pg} (h : p.Ok) : ∀ t ∈ p.trees, t.Ok := fun t ht => by
 unfold Pg.trees at ht
 rcases List.mem_append.1 ht with ht | ht
 · exact h.g.2 t ht
 · obtain ⟨q, hq, hqt⟩ := List.mem_flatMap.1 ht
   exact pcTrees_ok (h.p q hq) t hqt
theorem take_flat {l : List Pc} {z : Nat} {q : Pc} (h : l[z]? = some q) : (l.take (z + 1)).flatMap pcTrees = (l.take z).flatMap pcTrees ++ pcTrees q := by
 rw [List.take_add_one, h, List.flatMap_append]
 simp
theorem fmTrees_step {l : List Fm} {z : Nat} {f : Fm} (h : l[z]? = some f) : fmTrees (l.take (z + 1)) = fmTrees (l.take z) ++ (if (!decide (f.intent = tyB)) = true then [f.ty] else []) := by
 unfold fmTrees
 rw [List.take_add_one, h, List.filter_append, List.map_append]
 congr 1
 rw [Option.toList_some, List.filter_cons, List.filter_nil]
 split <;> rfl
theorem pcsT_get : ∀ {l : List Pc} {z : Nat} {q : Pc}, l[z]? = some q → Tr.sizes ((l.take z).flatMap pcTrees) + z + pcT q + 1 ≤ pcsT l
 | x :: r, 0, q, h => by injection h with h; subst h; simp [pcsT, Tr.sizes]; omega
 | x :: r, z + 1, q, h => by
  have h1 := pcsT_get (l := r) (z := z) (q := q) (by simpa using h)
  have h2 := pcTrees_size x
  rw [List.take_succ_cons, List.flatMap_cons, sizes_append, pcsT]
  omega
theorem c51 (l : List Tr) (hlim : l.length ≤ 1000000) : Pf Tryz.prog 51 [.sl (l.map Tr.d)] (.osl 4 (l.map Tr.d)) := by
 cases l with
 | nil =>
  refine pf_body (rvs := [.tmp 2]) [(0, .d (.sl []))] Tryz.func51 Tryz.ntmps51 Tryz.results51 (fun S0 O0 w0 m0 hm0 => ?_)
  refine Z202 ?_;refine Z2 ?_
  refine g_sleqU u22 rfl (fun b => ?_)
  refine Z5 ?_
  refine zgC ?_ ?_ <;> intro hb0
  ·
   refine Z151 ?_
   refine GOps_le (s' := ⟨[(2, .osl 4 [])], []⟩) (le_of) ?_
   refine Z25 ?_
   refine fino (by simp) ?_
   exact ⟨rfl, rfl⟩
  refine Z82 ?_
  refine sv rfl (y_buildSlice (xs := []) u22 inf27) ?_
  refine Z2 ?_
  refine sv rfl (y_append0 u22 inf27) ?_
  refine Z84 ?_;refine Z11 ?_
  refine fino (by simp) ?_
  exact ⟨rfl, rfl⟩
 | cons c r =>
  rw [List.map_cons]
  refine pf_body (rvs := [.tmp 2]) [(0, .d (.sl (c.d :: r.map Tr.d)))] Tryz.func51 Tryz.ntmps51 Tryz.results51 (fun S0 O0 w0 m0 hm0 => ?_)
  refine Z202 ?_;refine Z2 ?_
  refine vq rfl ((q_sleql u22)) ?_
  refine Z5 ?_
  refine zgC ?_ ?_ <;> intro hb0
  · exact absurd hb0 (by decide)
  refine Z82 ?_
  refine sv rfl (y_buildSlice (xs := []) u22 inf27) ?_
  refine Z2 ?_
  refine sv rfl (y_append u22 inf27 (xs := []) (hne := by simp) (hk := Tr.ds_cells (c :: r)) (hlen := by simp [lim] at hlim ⊢; omega) (hB := by simp [lim] at hlim ⊢; omega)) ?_
  refine Z84 ?_;refine Z11 ?_
  refine fino (by simp) ?_
  exact ⟨rfl, rfl⟩
theorem c84 (q : Pc) : Pf Tryz.prog 84 [q.d] (.d (.bool (manyB q))) := by
 refine pf_body (rvs := [.tmp 2]) [(0, .d (.agg [.str q.nm, .bool q.iter, .bool q.priv, .sl (q.formals.map Fm.d), .int .i64 q.result.op, .str q.result.nm, .int .i64 q.result.nu, .sl (q.result.kids.map Tr.d), .sl (q.wh.map Tr.d), .sl (q.body.map Tr.d)]))] Tryz.func84 Tryz.ntmps84 Tryz.results84 (fun S0 O0 w0 m0 hm0 => ?_)
 refine Z152 ?_;refine Z22 ?_;refine Z147 ?_;refine Z88 ?_;refine Z103 ?_;refine Z115 ?_;refine Z69 ?_;refine Z145 ?_
 exact ⟨by unfold manyB; simp, rfl⟩
theorem fmB_no {f : Fm} (h0 : (!nameB f.nm) = false) (h1 : decide (f.intent = tyB) = false) (h : (((decide (f.intent = ⟨#[]⟩) || decide (f.intent = inB)) || decide (f.intent = constB)) || decide (f.intent = paramB)) = true) : fmB f = (typedB f.ty && !decide (f.ty.nm = voidB)) := by
 unfold fmB; rw [if_neg (by rw [h0]; decide), if_neg (by rw [h1]; decide), if_pos h]
set_option maxHeartbeats 4000000 in
theorem c170 (f : Fm) : Pf Tryz.prog 170 [f.d] (.d (.bool (fmB f))) := by
 refine pf_body (rvs := [.tmp 2]) [(0, .d (.agg [.str f.intent, .str f.nm, .int .i64 f.ty.op, .str f.ty.nm, .int .i64 f.ty.nu, .sl (f.ty.kids.map Tr.d)]))] Tryz.func170 Tryz.ntmps170 Tryz.results170 (fun S0 O0 w0 m0 hm0 => ?_)
 refine Z4 ?_
 have q168 := c168 f.ty
 rw [t_eta] at q168
 refine Z27 ?_;refine Z53 ?_;refine Z164 ?_;refine Z101 ?_;refine Z38 ?_
 refine gL (xs := [.tmp 4]) rfl (c167 f.nm) ?_
 refine Z43 ?_;refine Z5 ?_
 refine zgC ?_ ?_ <;> intro hb0
 ·
  refine Z189 ?_
  exact ⟨by unfold fmB; rw [if_pos hb0], rfl⟩
 refine Z58 ?_;refine Z101 ?_;refine Z38 ?_;refine Z122 ?_;refine Z182 ?_
 refine zgC ?_ ?_ <;> intro hb1
 ·
  refine Z4 ?_;refine Z31 ?_;refine Z149 ?_;refine Z18 ?_;refine Z2 ?_;refine Z29 ?_
  refine sg rfl (fun hg => sP 16 rfl hg (qF u27 rfl sz9)) ?_
  refine sg rfl (fun hg => sP 17 rfl hg (qL u9)) ?_
  refine sg rfl (fun hg => sP 18 rfl hg q_streq) ?_
  refine Z160 ?_;refine Z29 ?_
  refine sg rfl (fun hg => sP 22 rfl hg (qF u27 rfl sz3)) ?_
  refine sg rfl (fun hg => sP 23 rfl hg (qL u3)) ?_
  refine sg rfl (fun hg => sP 24 rfl hg q_eql) ?_
  refine Z160 ?_;refine Z29 ?_
  refine sg rfl (fun hg => sP 28 rfl hg (qF u27 rfl sz22)) ?_
  refine sg rfl (fun hg => sP 29 rfl hg (qL u22)) ?_
  refine sg rfl (fun hg => sP 30 rfl hg (q_len u22)) ?_
  refine sg rfl (fun hg => sP 31 rfl hg q_eql) ?_
  refine Z154 ?_;refine Z3 ?_
  exact ⟨by unfold fmB; rw [if_neg (by rw [show (!nameB f.nm) = false from hb0]; decide), if_pos (show decide (f.intent = tyB) = true from hb1)]; simp, rfl⟩
 refine Z39 ?_;refine Z182 ?_
 refine zgC ?_ ?_ <;> intro hb2
 ·
  refine Z76 ?_
  refine zgC ?_ ?_ <;> intro hb3
  ·
   refine Z44 ?_
   refine gP [0, 1, 2, 8, 34] ?_
   refine Z19 ?_;refine Z31 ?_;refine Z7 ?_;refine Z133 ?_;refine Z2 ?_;refine Z29 ?_;refine Z112 ?_;refine Z94 ?_;refine Z95 ?_;refine Z154 ?_;refine Z3 ?_
   exact ⟨by rw [fmB_no hb0 hb1 (by rw [show decide (f.intent = ⟨#[]⟩) = true from hb2]; simp)]; rfl, rfl⟩
  exact absurd (hb2.symm.trans hb3) (by decide)
 refine Z44 ?_
 refine gP [0, 1, 2, 8, 34] ?_
 refine Z19 ?_;refine Z182 ?_
 refine zgC ?_ ?_ <;> intro hb4
 ·
  refine Z76 ?_
  refine zgC ?_ ?_ <;> intro hb5
  ·
   refine Z4 ?_;refine Z31 ?_;refine Z7 ?_;refine Z133 ?_;refine Z2 ?_;refine Z29 ?_;refine Z112 ?_;refine Z94 ?_;refine Z95 ?_;refine Z154 ?_;refine Z3 ?_
   exact ⟨by rw [fmB_no hb0 hb1 (by rw [show decide (f.intent = inB) = true from hb4]; simp)]; rfl, rfl⟩
  exact absurd (hb4.symm.trans hb5) (by decide)
 refine Z4 ?_;refine Z182 ?_
 refine zgC ?_ ?_ <;> intro hb6
 ·
  refine Z76 ?_
  refine zgC ?_ ?_ <;> intro hb7
  ·
   refine Z4 ?_;refine Z31 ?_;refine Z7 ?_;refine Z133 ?_;refine Z2 ?_;refine Z29 ?_;refine Z112 ?_;refine Z94 ?_;refine Z95 ?_;refine Z154 ?_;refine Z3 ?_
   exact ⟨by rw [fmB_no hb0 hb1 (by rw [show decide (f.intent = constB) = true from hb6]; simp)]; rfl, rfl⟩
  exact absurd (hb6.symm.trans hb7) (by decide)
 refine Z19 ?_;refine Z182 ?_
 refine zgC ?_ ?_ <;> intro hb8
 ·
  refine Z4 ?_;refine Z31 ?_;refine Z7 ?_;refine Z133 ?_;refine Z2 ?_;refine Z29 ?_;refine Z112 ?_;refine Z94 ?_;refine Z95 ?_;refine Z154 ?_;refine Z3 ?_
  exact ⟨by rw [fmB_no hb0 hb1 (by rw [show decide (f.intent = paramB) = true from hb8]; simp)]; rfl, rfl⟩
 refine Z117 ?_;refine Z145 ?_
 exact ⟨by unfold fmB; rw [if_neg (by rw [show (!nameB f.nm) = false from hb0]; decide), if_neg (by rw [show decide (f.intent = tyB) = false from hb1]; decide), if_neg (by rw [show decide (f.intent = ⟨#[]⟩) = false from hb2, show decide (f.intent = inB) = false from hb4, show decide (f.intent = constB) = false from hb6, show decide (f.intent = paramB) = false from hb8]; decide)], rfl⟩
theorem c169 (f : Fm) : Pf Tryz.prog 169 [f.d] (.d (.bool (!fmB f))) := by
 refine pf_body (rvs := [.tmp 2]) [(0, .d (.agg [.str f.intent, .str f.nm, .int .i64 f.ty.op, .str f.ty.nm, .int .i64 f.ty.nu, .sl (f.ty.kids.map Tr.d)]))] Tryz.func169 Tryz.ntmps169 Tryz.results169 (fun S0 O0 w0 m0 hm0 => ?_)
 refine Z152 ?_;refine Z53 ?_;refine Z147 ?_;refine Z107 ?_
 refine gL (xs := [.tmp 3]) rfl (c170 f) ?_
 refine Z43 ?_;refine Z145 ?_
 exact ⟨rfl, rfl⟩
theorem c87 (t : Tr) (hok : t.Ok) : Pf Tryz.prog 87 [t.d, .ptr (.map shapesM)] (.d (.bool (varW t))) := by
 obtain ⟨op, name, num, ks⟩ := t
 rw [Tr.d_mk]
 try simp only [Tr.op_mk, Tr.nm_mk, Tr.nu_mk, Tr.kids_mk]
 refine pf_body (rvs := [.tmp 3]) [(0, .d (.agg [.int .i64 op, .str name, .int .i64 num, .sl (ks.map Tr.d)])), (1, .d (.ptr (.map shapesM)))] Tryz.func87 Tryz.ntmps87 Tryz.results87 (fun S0 O0 w0 m0 hm0 => ?_)
 refine Z4 ?_
 have q88 := c88n _ (.mk op name num ks) (Nat.le_refl _) hok
 rw [Tr.d_mk] at q88
 refine Z27 ?_;refine Z6 ?_;refine Z147 ?_;refine Z149 ?_;refine Z73 ?_;refine Z179 ?_
 refine sg rfl (fun hg => qL u127) ?_
 refine g_callg (xs := [.tmp 8, .tmp 9]) rfl (fun hg => q88) ?_
 refine sg rfl (fun hg => sP 10 rfl hg q_not) ?_
 refine Z209 ?_
 exact ⟨by unfold varW; rfl, rfl⟩
theorem c171 (t : Tr) (hok : t.Ok) : Pf Tryz.prog 171 [t.d, .ptr (.map shapesM)] (.d (.bool (expW t))) := by
 obtain ⟨op, name, num, ks⟩ := t
 rw [Tr.d_mk]
 try simp only [Tr.op_mk, Tr.nm_mk, Tr.nu_mk, Tr.kids_mk]
 refine pf_body (rvs := [.tmp 3]) [(0, .d (.agg [.int .i64 op, .str name, .int .i64 num, .sl (ks.map Tr.d)])), (1, .d (.ptr (.map shapesM)))] Tryz.func171 Tryz.ntmps171 Tryz.results171 (fun S0 O0 w0 m0 hm0 => ?_)
 refine Z4 ?_
 have q88 := c88n _ (.mk op name num ks) (Nat.le_refl _) hok
 rw [Tr.d_mk] at q88
 refine Z27 ?_;refine Z6 ?_;refine Z147 ?_;refine Z149 ?_
 refine gL (xs := [.tmp 5]) rfl (c74 op) ?_
 refine Z43 ?_;refine Z179 ?_
 refine sg rfl (fun hg => qL u127) ?_
 refine g_callg (xs := [.tmp 9, .tmp 10]) rfl (fun hg => q88) ?_
 refine sg rfl (fun hg => sP 11 rfl hg q_not) ?_
 refine Z209 ?_
 exact ⟨by unfold expW; rfl, rfl⟩
theorem c172 (t : Tr) (hok : t.Ok) : Pf Tryz.prog 172 [t.d, .ptr (.map shapesM)] (.d (.bool (stmW t))) := by
 obtain ⟨op, name, num, ks⟩ := t
 rw [Tr.d_mk]
 try simp only [Tr.op_mk, Tr.nm_mk, Tr.nu_mk, Tr.kids_mk]
 refine pf_body (rvs := [.tmp 3]) [(0, .d (.agg [.int .i64 op, .str name, .int .i64 num, .sl (ks.map Tr.d)])), (1, .d (.ptr (.map shapesM)))] Tryz.func172 Tryz.ntmps172 Tryz.results172 (fun S0 O0 w0 m0 hm0 => ?_)
 refine Z4 ?_
 have q88 := c88n _ (.mk op name num ks) (Nat.le_refl _) hok
 rw [Tr.d_mk] at q88
 refine Z27 ?_;refine Z6 ?_;refine Z147 ?_;refine Z149 ?_
 refine gL (xs := [.tmp 5]) rfl (c95 op) ?_
 refine Z43 ?_;refine Z179 ?_
 refine sg rfl (fun hg => qL u127) ?_
 refine g_callg (xs := [.tmp 9, .tmp 10]) rfl (fun hg => q88) ?_
 refine sg rfl (fun hg => sP 11 rfl hg q_not) ?_
 refine Z209 ?_
 exact ⟨by unfold stmW; rfl, rfl⟩
set_option maxHeartbeats 4000000 in
theorem c90 (q : Pc) (hok : q.Ok) : Pf Tryz.prog 90 [q.d, .map shapesM] (.d (.bool (pcB q))) := by
 refine pf_body (rvs := [.tmp 4]) [(0, .d (.agg [.str q.nm, .bool q.iter, .bool q.priv, .sl (q.formals.map Fm.d), .int .i64 q.result.op, .str q.result.nm, .int .i64 q.result.nu, .sl (q.result.kids.map Tr.d), .sl (q.wh.map Tr.d), .sl (q.body.map Tr.d)])), (1, .d (.map shapesM))] Tryz.func90 Tryz.ntmps90 Tryz.results90 (fun S0 O0 w0 m0 hm0 => ?_)
 refine Z4 ?_
 have q168 := c168 q.result
 rw [t_eta] at q168
 refine Z27 ?_;refine Z22 ?_;refine Z27 ?_
 refine gF 0 [] (.map shapesM) rfl ?_
 refine Z164 ?_
 refine vq rfl (qF u81 rfl sz9) ?_
 refine Z38 ?_
 refine gL (xs := [.tmp 6]) rfl (c167 q.nm) ?_
 refine Z43 ?_;refine Z2 ?_
 refine sg rfl (fun hg => q_fieldAgg [.int .i64 q.result.op, .str q.result.nm, .int .i64 q.result.nu, .sl (q.result.kids.map Tr.d)] u81 rfl sz27) ?_
 refine sg rfl (fun hg => sP 10 rfl hg (qG (by exact sz27) u27 rfl)) ?_
 refine g_callg (xs := [.tmp 11]) rfl (fun hg => q168) ?_
 refine sg rfl (fun hg => sP 12 rfl hg q_not) ?_
 refine Z204 ?_;refine Z91 ?_
 refine sg rfl (fun hg => sP 16 rfl hg (qL u22)) ?_
 refine sg rfl (fun hg => sP 17 rfl hg (q_len u22)) ?_
 refine sg rfl (fun hg => sP 18 rfl hg q_gtr) ?_
 refine Z204 ?_
 refine sg rfl (fun hg => qF u81 rfl sz79) ?_
 refine sg rfl (fun hg => sP 22 rfl hg (qL u79)) ?_
 refine g_callg (xs := [.tmp 23, .func 169]) rfl (fun hg => c70 q.formals 169 [] [] (fun f => !fmB f) hok.fl (fun f hf => c169 f)) ?_
 refine Z156 ?_
 refine zgC ?_ ?_ <;> intro hb0
 ·
  have hg0 : (((!nameB q.nm || !typedB q.result) || decide ((q.wh.length : Int) > 1)) || q.formals.any fun f => !fmB f) = true := by simpa using hb0
  refine Z44 ?_;refine Z62 ?_;refine Z184 ?_
  exact ⟨by unfold pcB; rw [if_pos hg0], rfl⟩
 have hg0 : (((!nameB q.nm || !typedB q.result) || decide ((q.wh.length : Int) > 1)) || q.formals.any fun f => !fmB f) = false := by simpa using hb0
 refine Z96 ?_;refine Z62 ?_;refine Z19 ?_;refine Z207 ?_
 refine vq rfl (q_makeFunc (xs := []) (ys := [.tmp 3])) ?_
 refine gL (xs := [.tmp 27, .tmp 28]) rfl (c52 q.wh 171 [] [.ptr (.map shapesM)] expW hok.w.1 (fun x hx => c171 x (hok.w.2 x hx))) ?_
 refine Z5 ?_
 refine zgC ?_ ?_ <;> intro hb1
 ·
  refine Z189 ?_
  exact ⟨by unfold pcB; rw [if_neg (by rw [hg0]; decide), if_pos hb1], rfl⟩
 refine Z82 ?_;refine Z207 ?_
 refine vq rfl (q_makeFunc (xs := []) (ys := [.tmp 3])) ?_
 refine gL (xs := [.tmp 31, .tmp 32]) rfl (c52 q.body 172 [] [.ptr (.map shapesM)] stmW hok.b.1 (fun x hx => c172 x (hok.b.2 x hx))) ?_
 refine Z43 ?_;refine Z145 ?_
 exact ⟨by unfold pcB; rw [if_neg (by rw [hg0]; decide), if_neg (by rw [show q.wh.any expW = false from hb1]; decide)], rfl⟩
theorem c89 (q : Pc) (hok : q.Ok) : Pf Tryz.prog 89 [q.d, .ptr (.map shapesM)] (.d (.bool (!pcB q))) := by
 refine pf_body (rvs := [.tmp 3]) [(0, .d (.agg [.str q.nm, .bool q.iter, .bool q.priv, .sl (q.formals.map Fm.d), .int .i64 q.result.op, .str q.result.nm, .int .i64 q.result.nu, .sl (q.result.kids.map Tr.d), .sl (q.wh.map Tr.d), .sl (q.body.map Tr.d)])), (1, .d (.ptr (.map shapesM)))] Tryz.func89 Tryz.ntmps89 Tryz.results89 (fun S0 O0 w0 m0 hm0 => ?_)
 refine Z152 ?_;refine Z22 ?_;refine Z147 ?_;refine Z97 ?_
 refine vq rfl (qL u127) ?_
 refine gL (xs := [.tmp 4, .tmp 5]) rfl (c90 q hok) ?_
 refine Z43 ?_;refine Z145 ?_
 exact ⟨rfl, rfl⟩
set_option maxHeartbeats 16000000 in
theorem c22 (p : Pg) (hok : p.Ok) (hT : p.total ≤ 1000000) : Pf Tryz.prog 22 [.agg [.sl (p.globals.map Tr.d), .sl (p.procs.map Pc.d)]] (.d (.int .i64 (formE p))) := by
 refine pf_body (rvs := [.tmp 2]) [(0, .d (.agg [.sl (p.globals.map Tr.d), .sl (p.procs.map Pc.d)]))] Tryz.func22 Tryz.ntmps22 Tryz.results22 (fun S0 O0 w0 m0 hm0 => ?_)
 refine Z4 ?_
 have hts := p.trees_size
 have hgs := Tr.len_sizes p.globals
 have htt : p.total = Tr.sizes p.globals + pcsT p.procs := rfl
 refine Z27 ?_;refine Z80 ?_;refine Z164 ?_;refine Z206 ?_;refine Z104 ?_;refine Z69 ?_;refine Z2 ?_
 refine sg rfl (fun hg => qF u25 rfl sz23) ?_
 refine sg rfl (fun hg => sP 15 rfl hg (qL u23)) ?_
 refine g_callg (xs := [.tmp 16, .func 84]) rfl (fun hg => c63g p.procs 84 [] [] manyB hok.pl (fun q _ => c84 q)) ?_
 refine Z156 ?_
 refine zgC ?_ ?_ <;> intro hb0
 ·
  rw [List.length_map] at hb0
  refine Z189 ?_
  exact ⟨by unfold formE; rw [if_pos hb0], rfl⟩
 rw [List.length_map] at hb0
 refine Z82 ?_;refine Z114 ?_;refine Z26 ?_
 refine gL (xs := [.tmp 20]) rfl (c51 p.globals (by omega)) ?_
 refine Z84 ?_;refine Z16 ?_;refine Z206 ?_;refine Z104 ?_;refine Z191 ?_
 refine g_loop (α := Nat × List Tr) (fun z => ⟨[(25, .d (.int .i64 (z.1 : Nat))), (24, .d (.int .i64 ((p.procs.map Pc.d).length : Nat))), (23, .d (.sl (p.procs.map Pc.d))), (1, .d (.ptr (.agg [.sl (p.globals.map Tr.d), .sl (p.procs.map Pc.d)]))), (3, .osl 4 (z.2.map Tr.d))], []⟩) (fun z => p.procs.length - z.1) (fun z => z.1 ≤ p.procs.length ∧ z.2 = p.globals ++ (p.procs.take z.1).flatMap pcTrees) (0, p.globals) ⟨Nat.zero_le _, by simp⟩ (fun z hz Q' hn0 he0 hr0 => ?_) (le_of)
 obtain ⟨z, acc⟩ := z
 obtain ⟨hz1, hz2⟩ := hz
 replace hz1 : z ≤ p.procs.length := hz1
 replace hz2 : acc = p.globals ++ (p.procs.take z).flatMap pcTrees := hz2
 refine Z193 ?_
 refine zgC ?_ ?_ <;> intro hb1
 ·
  have hlt : z < p.procs.length := by simpa using hb1
  obtain ⟨q, hq⟩ : ∃ q, p.procs[z]? = some q := ⟨_, gE hlt⟩
  have hqd := pc_get hq
  have hqo := hok.p q (mG hq)
  have hpg := pcsT_get hq
  have hqt : pcT q = fmT q.formals + q.result.size + Tr.sizes q.wh + Tr.sizes q.body := rfl
  have hfs := fmTrees_size q.formals
  have hwl := Tr.len_sizes q.wh
  have hbl := Tr.len_sizes q.body
  have hal : acc.length ≤ 1000000 := by
   have h1 := Tr.len_sizes acc
   have h2 : Tr.sizes acc = Tr.sizes p.globals + Tr.sizes ((p.procs.take z).flatMap pcTrees) := by rw [hz2, sizes_append]
   omega
  refine Z17 ?_;refine Z123 ?_;refine Z97 ?_
  refine sv rfl (y_alloc zr81) ?_
  refine sa rfl (dS sz81) ?_
  refine Z22 ?_;refine Z16 ?_;refine Z88 ?_;refine Z103 ?_;refine Z115 ?_;refine Z191 ?_
  refine g_loop (α := Nat × List Tr) (fun y => ⟨[(32, .d (.int .i64 (y.1 : Nat))), (31, .d (.int .i64 ((q.formals.map Fm.d).length : Nat))), (30, .d (.sl (q.formals.map Fm.d))), (5, .d (.ptr (.agg [.str q.nm, .bool q.iter, .bool q.priv, .sl (q.formals.map Fm.d), .int .i64 q.result.op, .str q.result.nm, .int .i64 q.result.nu, .sl (q.result.kids.map Tr.d), .sl (q.wh.map Tr.d), .sl (q.body.map Tr.d)]))), (25, .d (.int .i64 (z : Nat))), (24, .d (.int .i64 ((p.procs.map Pc.d).length : Nat))), (23, .d (.sl (p.procs.map Pc.d))), (1, .d (.ptr (.agg [.sl (p.globals.map Tr.d), .sl (p.procs.map Pc.d)]))), (3, .osl 4 (y.2.map Tr.d))], []⟩) (fun y => q.formals.length - y.1) (fun y => y.1 ≤ q.formals.length ∧ y.2 = acc ++ fmTrees (q.formals.take y.1) ∧ y.2.length ≤ 1000000 + y.1) (0, acc) ⟨Nat.zero_le _, by simp [fmTrees], hal⟩ (fun y hy Q' hn1 he1 hr1 => ?_) (le_of)
  obtain ⟨y, b⟩ := y
  obtain ⟨hy1, hy2, hy3⟩ := hy
  replace hy1 : y ≤ q.formals.length := hy1
  replace hy2 : b = acc ++ fmTrees (q.formals.take y) := hy2
  replace hy3 : b.length ≤ 1000000 + y := hy3
  refine Z193 ?_
  refine zgC ?_ ?_ <;> intro hb2
  ·
   have hlt2 : y < q.formals.length := by simpa using hb2
   obtain ⟨f, hf⟩ : ∃ f, q.formals[y]? = some f := ⟨_, gE hlt2⟩
   have hfd := fm_get hf
   have hstep0 := fmTrees_step hf
   refine Z17 ?_;refine Z121 ?_;refine Z107 ?_
   refine sv rfl (y_alloc zr102) ?_
   refine sa rfl (dS sz102) ?_
   refine Z53 ?_;refine Z9 ?_;refine Z101 ?_;refine Z38 ?_
   refine vq rfl q_strne ?_
   refine Z5 ?_
   refine zgC ?_ ?_ <;> intro hb3
   ·
    have hnt : (!decide (f.intent = tyB)) = true := hb3
    have hstep : fmTrees (q.formals.take (y + 1)) = fmTrees (q.formals.take y) ++ [f.ty] := by rw [hstep0, if_pos hnt]
    refine Z19 ?_;refine Z116 ?_;refine Z31 ?_;refine Z7 ?_
    refine sv rfl (y_buildSlice (xs := [.tmp 41]) u22 inf27) ?_
    refine Z48 ?_
    rw [show b.map Tr.d ++ [D.agg [.int .i64 f.ty.op, .str f.ty.nm, .int .i64 f.ty.nu, .sl (f.ty.kids.map Tr.d)]] = (b ++ [f.ty]).map Tr.d from by rw [← t_eta]; simp]
    refine Z84 ?_;refine Z99 ?_;refine Z172 ?_
    refine hn1 _ (y + 1, b ++ [f.ty]) ⟨by show y + 1 ≤ q.formals.length; omega, by show b ++ [f.ty] = _; rw [hy2, hstep, List.append_assoc], by show (b ++ [_]).length ≤ 1000000 + (y + 1); rw [List.length_append, List.length_singleton]; omega⟩ (by show q.formals.length - (y + 1) < q.formals.length - y; omega) le_of
   have hnt : (!decide (f.intent = tyB)) = false := hb3
   have hstep : fmTrees (q.formals.take (y + 1)) = fmTrees (q.formals.take y) := by rw [hstep0, if_neg (by rw [hnt]; decide), List.append_nil]
   refine Z59 ?_;refine Z172 ?_
   refine hn1 _ (y + 1, b) ⟨by show y + 1 ≤ q.formals.length; omega, by show b = _; rw [hy2, hstep], by show b.length ≤ 1000000 + (y + 1); omega⟩ (by show q.formals.length - (y + 1) < q.formals.length - y; omega) le_of
  have hge2 : y = q.formals.length := by
   have : ¬ (y : Int) < (q.formals.map Fm.d).length := by simpa using hb2
   rw [List.length_map] at this
   omega
  have hacc : ((b.map Tr.d ++ [D.agg [.int .i64 q.result.op, .str q.result.nm, .int .i64 q.result.nu, .sl (q.result.kids.map Tr.d)]]) ++ q.wh.map Tr.d) ++ q.body.map Tr.d = (((b ++ [q.result]) ++ q.wh) ++ q.body).map Tr.d := by rw [← t_eta]; simp
  refine Z36 ?_;refine Z140 ?_
  refine blk_exit (tN ?_)
  refine G_drawB 12 rfl (by kernel_rfl) (fun S1 O1 w1 m1 hm1 hm2 => ?_)
  have hB1 : ∀ i, i < m1.length → (List.range m1.length).contains i = true := fun i hi => by simpa using hi
  refine bq 1 hB1 rfl (q_fieldAgg [.int .i64 q.result.op, .str q.result.nm, .int .i64 q.result.nu, .sl (q.result.kids.map Tr.d)] u81 rfl sz27) ?_
  refine bq 2 hB1 rfl (qG (by exact sz27) u27 rfl) ?_
  refine bq 5 hB1 rfl (qF u81 rfl sz22) ?_
  refine bq 6 hB1 rfl (qL u22) ?_
  refine bq 8 hB1 rfl (qF u81 rfl sz22) ?_
  refine bq 9 hB1 rfl (qL u22) ?_
  refine GB_go ?_
  refine ga2 0 3 ?_ ?_
  ·
   refine Z116 ?_
   refine gN ⟨rfl, ?_⟩
   refine ga1 3 ?_
   refine sv rfl (y_buildSlice (xs := [.tmp 47]) u22 inf27) ?_
   refine gN ⟨rfl, ?_⟩
   refine ga1 4 ?_
   refine Z48 ?_
   refine gN ⟨rfl, ?_⟩
   refine Z141 ?_;refine Z51 ?_
   refine gN ⟨rfl, ?_⟩
   refine ga1 10 ?_
   refine Z47 ?_
   rw [hacc]
   refine gN ⟨rfl, ?_⟩
   refine ga1 11 ?_
   refine Z84 ?_
   refine gN ⟨rfl, ?_⟩
   refine Z118 ?_
   refine bN (tN (gR ?_))
   refine Z172 ?_
   refine hn0 _ (z + 1, ((b ++ [q.result]) ++ q.wh) ++ q.body) ⟨by show z + 1 ≤ p.procs.length; omega, by show ((b ++ [q.result]) ++ q.wh) ++ q.body = _; rw [hy2, hge2, List.take_length, hz2, take_flat hq, pcTrees]; simp [List.append_assoc]⟩ (by show p.procs.length - (z + 1) < p.procs.length - z; omega) le_of
  refine sv rfl (y_buildSlice (xs := [.tmp 47]) u22 inf27) ?_
  refine gN ⟨rfl, ?_⟩
  refine ga1 0 ?_
  refine Z116 ?_
  refine gN ⟨rfl, ?_⟩
  refine ga1 4 ?_
  refine Z48 ?_
  refine gN ⟨rfl, ?_⟩
  refine Z141 ?_;refine Z51 ?_
  refine gN ⟨rfl, ?_⟩
  refine ga1 10 ?_
  refine Z47 ?_
  rw [hacc]
  refine gN ⟨rfl, ?_⟩
  refine ga1 11 ?_
  refine Z84 ?_
  refine gN ⟨rfl, ?_⟩
  refine Z118 ?_
  refine bN (tN (gR ?_))
  refine Z172 ?_
  refine hn0 _ (z + 1, ((b ++ [q.result]) ++ q.wh) ++ q.body) ⟨by show z + 1 ≤ p.procs.length; omega, by show ((b ++ [q.result]) ++ q.wh) ++ q.body = _; rw [hy2, hge2, List.take_length, hz2, take_flat hq, pcTrees]; simp [List.append_assoc]⟩ (by show p.procs.length - (z + 1) < p.procs.length - z; omega) le_of
 have hge : z = p.procs.length := by
  have : ¬ (z : Int) < (p.procs.map Pc.d).length := by simpa using hb1
  rw [List.length_map] at this
  omega
 obtain rfl : acc = p.trees := by rw [hz2, hge, List.take_length]; rfl
 have q85 := c85 p.trees (Pg.trees_ok hok) (by omega)
 refine Z167 ?_;refine Z134 ?_;refine Z2 ?_
 refine gL (xs := [.tmp 57]) rfl (q85) ?_
 refine Z147 ?_;refine Z2 ?_;refine Z73 ?_;refine Z5 ?_
 refine zgC ?_ ?_ <;> intro hb4
 ·
  refine Z188 ?_;refine Z0 ?_;refine Z153 ?_
  exact ⟨by unfold formE; rw [if_neg (by rw [show (decide ((p.procs.length : Int) > 100) || p.procs.any manyB) = false from hb0]; decide), if_pos hb4], rfl⟩
 refine Z82 ?_
 refine gL (xs := []) rfl (c86) ?_
 refine sv rfl (y_allocM zr127) ?_
 refine sa rfl (dS sz127) ?_
 refine gF 0 [] (.map shapesM) rfl ?_
 refine Z16 ?_;refine Z114 ?_;refine Z26 ?_
 refine vq rfl (q_makeFunc (xs := []) (ys := [.tmp 9])) ?_
 refine gL (xs := [.tmp 64, .tmp 65]) rfl (c52 p.globals 87 [] [.ptr (.map shapesM)] varW hok.g.1 (fun x hx => c87 x (hok.g.2 x hx))) ?_
 refine Z5 ?_
 refine zgC ?_ ?_ <;> intro hb5
 ·
  refine Z189 ?_
  exact ⟨by unfold formE; rw [if_neg (by rw [show (decide ((p.procs.length : Int) > 100) || p.procs.any manyB) = false from hb0]; decide), if_neg (by rw [show (limitsE p.trees != 0) = false from hb4]; decide), if_pos hb5], rfl⟩
 refine Z58 ?_;refine Z206 ?_
 refine vq rfl (q_makeFunc (xs := []) (ys := [.tmp 9])) ?_
 refine gL (xs := [.tmp 68, .tmp 69]) rfl (c63g p.procs 89 [] [.ptr (.map shapesM)] (fun q => !pcB q) hok.pl (fun q hq => c89 q (hok.p q hq))) ?_
 refine Z5 ?_
 refine zgC ?_ ?_ <;> intro hb6
 ·
  refine Z189 ?_
  exact ⟨by unfold formE; rw [if_neg (by rw [show (decide ((p.procs.length : Int) > 100) || p.procs.any manyB) = false from hb0]; decide), if_neg (by rw [show (limitsE p.trees != 0) = false from hb4]; decide), if_neg (by rw [show p.globals.any varW = false from hb5]; decide), if_pos hb6], rfl⟩
 refine Z82 ?_;refine Z145 ?_
 exact ⟨by unfold formE; rw [if_neg (by rw [show (decide ((p.procs.length : Int) > 100) || p.procs.any manyB) = false from hb0]; decide), if_neg (by rw [show (limitsE p.trees != 0) = false from hb4]; decide), if_neg (by rw [show p.globals.any varW = false from hb5]; decide), if_neg (by rw [show (p.procs.any fun q => !pcB q) = false from hb6]; decide)], rfl⟩
end Go.Proofs.YtklkbfpjimeaoaaGreat
