import Derived.Test.YtklkbfpjimeaoaaGreatM21
/- Contracts of functions. Conditions: none. -/
set_option linter.unusedSimpArgs false
set_option linter.unusedVariables false
set_option maxRecDepth 20000
namespace Go.Proofs.YtklkbfpjimeaoaaGreat
open Go Go.Proofs.YtklkbfpjimeaoaaGreat.E
section
structure Fm where
 intent : ByteArray
 nm : ByteArray
 ty : Tr
structure Pc where
 nm : ByteArray
 iter : Bool
 priv : Bool
 formals : List Fm
 result : Tr
 wh : List Tr
 body : List Tr
structure Pg where
 globals : List Tr
 procs : List Pc
def Tr.cs (t : Tr) : List D := [.int .i64 t.op, .str t.nm, .int .i64 t.nu, .sl (t.kids.map Tr.d)]
def Fm.d (f : Fm) : D := .agg [.str f.intent, .str f.nm, .int .i64 f.ty.op, .str f.ty.nm, .int .i64 f.ty.nu, .sl (f.ty.kids.map Tr.d)]
def Pc.d (q : Pc) : D := .agg [.str q.nm, .bool q.iter, .bool q.priv, .sl (q.formals.map Fm.d), .int .i64 q.result.op, .str q.result.nm, .int .i64 q.result.nu, .sl (q.result.kids.map Tr.d), .sl (q.wh.map Tr.d), .sl (q.body.map Tr.d)]
def Pg.d (p : Pg) : D := .agg [.sl (p.globals.map Tr.d), .sl (p.procs.map Pc.d)]
theorem fm_cells (l : List Fm) : ∀ x ∈ l.map Fm.d, x.cells.length = 6 := fun x hx => by
 obtain ⟨t, _, rfl⟩ := List.mem_map.1 hx; rfl
theorem pc_cells (l : List Pc) : ∀ x ∈ l.map Pc.d, x.cells.length = 10 := fun x hx => by
 obtain ⟨t, _, rfl⟩ := List.mem_map.1 hx; rfl
variable {z : Nat}
theorem fm_get {l : List Fm} {f : Fm} (h : l[z]? = some f) : (l.map Fm.d)[z]? = some (.agg [.str f.intent, .str f.nm, .int .i64 f.ty.op, .str f.ty.nm, .int .i64 f.ty.nu, .sl (f.ty.kids.map Tr.d)]) := by
 rw [List.getElem?_map, h]; rfl
theorem pc_get {l : List Pc} {q : Pc} (h : l[z]? = some q) : (l.map Pc.d)[z]? = some (.agg [.str q.nm, .bool q.iter, .bool q.priv, .sl (q.formals.map Fm.d), .int .i64 q.result.op, .str q.result.nm, .int .i64 q.result.nu, .sl (q.result.kids.map Tr.d), .sl (q.wh.map Tr.d), .sl (q.body.map Tr.d)]) := by
 rw [List.getElem?_map, h]; rfl
def TsOk (l : List Tr) : Prop := l.length ≤ 140737488355328 ∧ ∀ t ∈ l, t.Ok
structure Fm.Ok (f : Fm) : Prop where
 i : f.intent.size ≤ 140737488355328
 n : f.nm.size ≤ 140737488355328
 t : f.ty.Ok
structure Pc.Ok (q : Pc) : Prop where
 n : q.nm.size ≤ 140737488355328
 fl : q.formals.length ≤ 140737488355328
 f : ∀ f ∈ q.formals, f.Ok
 r : q.result.Ok
 w : TsOk q.wh
 b : TsOk q.body
structure Pg.Ok (p : Pg) : Prop where
 g : TsOk p.globals
 pl : p.procs.length ≤ 140737488355328
 p : ∀ q ∈ p.procs, q.Ok
theorem cnts_bdx (ks : List Tr) (n m : Int) (h : 0 ≤ m) : n ≤ Tr.cnts ks n m ∧ Tr.cnts ks n m ≤ max n (m + 1) := by
 by_cases hn : n ≤ m + 1
 · have := Tr.cnts_bd ks n m h hn
   omega
 · rw [Tr.cnts_stop ks (by omega)]
   omega
def fmW (m : Int) : Int → List Fm → Int
 | n, [] => n
 | n, f :: r => fmW m (Tr.cnts [f.ty] (n + 1) m) r
def pcW (m : Int) (n : Int) (q : Pc) : Int := Tr.cnts q.body (Tr.cnts q.wh (Tr.cnts [q.result] (fmW m n q.formals) m) m) m
def pcsW (m : Int) : Int → List Pc → Int
 | n, [] => n
 | n, q :: r => if n + 1 > m then n + 1 else pcsW m (pcW m (n + 1) q) r
def Pg.weight (p : Pg) (m : Int) : Int := pcsW m (Tr.cnts p.globals 0 m) p.procs
theorem fmW_bd (m : Int) (h : 0 ≤ m) : ∀ (l : List Fm) (n : Int), n ≤ fmW m n l ∧ fmW m n l ≤ max n m + l.length
 | [], n => by rw [fmW]; simp; omega
 | f :: r, n => by
  rw [fmW]
  have h1 := cnts_bdx [f.ty] (n + 1) m h
  have h2 := fmW_bd m h r (Tr.cnts [f.ty] (n + 1) m)
  rw [List.length_cons]
  omega
def Fm.long (f : Fm) : Bool := (decide ((f.intent.size : Int) > 300) || decide ((f.nm.size : Int) > 300)) || f.ty.long
def Pc.long (q : Pc) : Bool := (((decide ((q.nm.size : Int) > 300) || q.result.long) || q.wh.any Tr.long) || q.body.any Tr.long) || q.formals.any Fm.long
def Pg.few (p : Pg) (m : Int) : Bool := if (decide (p.weight m > m) || p.globals.any Tr.long) = true then false else !(p.procs.any Pc.long)
def fmT : List Fm → Nat
 | [] => 0
 | f :: r => 1 + f.ty.size + fmT r
def pcT (q : Pc) : Nat := fmT q.formals + q.result.size + Tr.sizes q.wh + Tr.sizes q.body
def pcsT : List Pc → Nat
 | [] => 0
 | q :: r => 1 + pcT q + pcsT r
def Pg.total (p : Pg) : Nat := Tr.sizes p.globals + pcsT p.procs
theorem cnts_eqx (ks : List Tr) (n m : Int) (h : 0 ≤ m) (h3 : Tr.cnts ks n m ≤ m) : Tr.cnts ks n m = n + Tr.sizes ks := by
 have h1 := (cnts_bdx ks n m h).1
 exact Tr.cnts_eq ks n m h (by omega) h3
theorem fmW_eq (m : Int) (h : 0 ≤ m) : ∀ (l : List Fm) (n : Int), fmW m n l ≤ m → fmW m n l = n + fmT l
 | [], n, _ => by rw [fmW, fmT]; simp
 | f :: r, n, h3 => by
  rw [fmW] at h3 ⊢
  have h1 := (fmW_bd m h r (Tr.cnts [f.ty] (n + 1) m)).1
  have h2 := cnts_eqx [f.ty] (n + 1) m h (by omega)
  rw [fmW_eq m h r _ h3, h2, fmT]
  simp only [Tr.sizes]
  omega
theorem pcW_eq (m : Int) (h : 0 ≤ m) (n : Int) (q : Pc) (h3 : pcW m n q ≤ m) : pcW m n q = n + pcT q := by
 unfold pcW at h3 ⊢
 have h1 := (cnts_bdx q.body (Tr.cnts q.wh (Tr.cnts [q.result] (fmW m n q.formals) m) m) m h).1
 have h2 := (cnts_bdx q.wh (Tr.cnts [q.result] (fmW m n q.formals) m) m h).1
 have h4 := (cnts_bdx [q.result] (fmW m n q.formals) m h).1
 rw [cnts_eqx q.body _ m h h3, cnts_eqx q.wh _ m h (by omega), cnts_eqx [q.result] _ m h (by omega), fmW_eq m h _ _ (by omega), pcT]
 simp only [Tr.sizes]
 omega
theorem pcW_bd (m : Int) (h : 0 ≤ m) (n : Int) (q : Pc) : n ≤ pcW m n q ∧ pcW m n q ≤ max n m + q.formals.length + 1 := by
 unfold pcW
 have h1 := cnts_bdx q.body (Tr.cnts q.wh (Tr.cnts [q.result] (fmW m n q.formals) m) m) m h
 have h2 := cnts_bdx q.wh (Tr.cnts [q.result] (fmW m n q.formals) m) m h
 have h4 := cnts_bdx [q.result] (fmW m n q.formals) m h
 have h5 := fmW_bd m h q.formals n
 omega
theorem pcsW_le (m : Int) (h : 0 ≤ m) : ∀ (l : List Pc) (n : Int), n ≤ pcsW m n l
 | [], n => by rw [pcsW]; omega
 | q :: r, n => by
  rw [pcsW]
  split
  · omega
  · have h1 := (pcW_bd m h (n + 1) q).1
    have h2 := pcsW_le m h r (pcW m (n + 1) q)
    omega
theorem pcsW_eq (m : Int) (h : 0 ≤ m) : ∀ (l : List Pc) (n : Int), pcsW m n l ≤ m → pcsW m n l = n + pcsT l
 | [], n, _ => by rw [pcsW, pcsT]; simp
 | q :: r, n, h3 => by
  rw [pcsW] at h3 ⊢
  split at h3
  · omega
  · rename_i h4
    rw [if_neg h4]
    have h1 := pcsW_le m h r (pcW m (n + 1) q)
    rw [pcsW_eq m h r _ h3, pcW_eq m h (n + 1) q (by omega), pcsT]
    omega
theorem Pg.few_total {p : Pg} {m : Int} (h : 0 ≤ m) (hf : p.few m = true) : (p.total : Int) ≤ m ∧ p.globals.any Tr.long = false ∧ p.procs.any Pc.long = false := by
 unfold Pg.few at hf
 split at hf
 · cases hf
 · rename_i h1
   have h1' : (decide (p.weight m > m) || p.globals.any Tr.long) = false := by simpa using h1
   rw [Bool.or_eq_false_iff, decide_eq_false_iff_not] at h1'
   refine ⟨?_, h1'.2, by simpa using hf⟩
   have h2 : p.weight m ≤ m := by omega
   unfold Pg.weight at h2
   have h3 := pcsW_le m h p.procs (Tr.cnts p.globals 0 m)
   rw [pcsW_eq m h _ _ h2, cnts_eqx p.globals 0 m h (by omega)] at h2
   unfold Pg.total
   omega
theorem pcsW_drop {l : List Pc} {q : Pc} (h : l[z]? = some q) (m n : Int) : pcsW m n (l.drop z) = if n + 1 > m then n + 1 else pcsW m (pcW m (n + 1) q) (l.drop (z + 1)) := by
 obtain ⟨hlt, rfl⟩ := List.getElem?_eq_some_iff.1 h
 rw [List.drop_eq_getElem_cons hlt, pcsW]
theorem fmW_drop {l : List Fm} {f : Fm} (h : l[z]? = some f) (m n : Int) : fmW m n (l.drop z) = fmW m (Tr.cnts [f.ty] (n + 1) m) (l.drop (z + 1)) := by
 obtain ⟨hlt, rfl⟩ := List.getElem?_eq_some_iff.1 h
 rw [List.drop_eq_getElem_cons hlt, fmW]
theorem c138 (ts : List Fm) (g : FuncId) (fa fc : List D) (p : Fm → Bool) (hlim : ts.length ≤ 140737488355328)
 (hcb : ∀ x ∈ ts, Pf Tryz.prog g (fa ++ [x.d] ++ fc) (.d (.bool (p x)))) : Pf Tryz.prog 138 [.sl (ts.map Fm.d), .fn (.func g) fa fc] (.d (.int .i64 (idxL p ts))) := by
 refine pf_body (rvs := [.tmp 4]) [(0, .d (.sl (ts.map Fm.d))), (1, .d (.fn (.func g) fa fc))] Tryz.func138 Tryz.ntmps138 Tryz.results138 (fun S0 O0 w0 m0 hm0 => ?_)
 refine Z272 ?_;refine Z163 ?_;refine Z246 ?_
 refine g_loop (α := Nat) (fun z => ⟨[(8, .d (.int .i64 (z : Nat))), (7, .d (.int .i64 ((ts.map Fm.d).length : Nat))), (6, .d (.sl (ts.map Fm.d))), (1, .d (.fn (.func g) fa fc)), (0, .d (.sl (ts.map Fm.d)))], []⟩) (fun z => ts.length - z) (fun z => z ≤ ts.length ∧ ∀ i, i < z → ∀ x, ts[i]? = some x → p x = false) 0 ⟨Nat.zero_le _, by simp⟩ (fun z hz Q' hn0 he0 hr0 => ?_) (le_of)
 obtain ⟨hz1, hz2⟩ := hz
 refine Z248 ?_
 refine gC ?_ ?_ <;> intro hb0
 ·
  have hlt : z < ts.length := by simpa using hb0
  obtain ⟨x, hx⟩ : ∃ x, ts[z]? = some x := ⟨_, gE hlt⟩
  have hmem := mG hx
  have hxd := fm_get hx
  have hcx := hcb x hmem
  unfold Fm.d at hcx
  refine Z268 ?_;refine Z230 ?_;refine Z231 ?_;refine Z0 ?_;refine Z191 ?_;refine Z122 ?_;refine Z211 ?_;refine Z10 ?_
  refine gC ?_ ?_ <;> intro hb1
  ·
   refine Z254 ?_;refine Z242 ?_;refine Z276 ?_
   exact Y2
  refine Z284 ?_
  refine hn0 _ (z + 1) ⟨by omega, idxL_step hz2 hx hb1⟩ (by omega) le_of
 have hge : z = ts.length := by
  have : ¬ (z : Int) < (ts.map Fm.d).length := by simpa using hb0
  rw [List.length_map] at this
  omega
 refine Z259 ?_;refine Z228 ?_
 exact Y3
theorem c70 (ts : List Fm) (g : FuncId) (fa fc : List D) (p : Fm → Bool) (hlim : ts.length ≤ 140737488355328)
 (hcb : ∀ x ∈ ts, Pf Tryz.prog g (fa ++ [x.d] ++ fc) (.d (.bool (p x)))) : Pf Tryz.prog 70 [.sl (ts.map Fm.d), .fn (.func g) fa fc] (.d (.bool (ts.any p))) := by
 refine pf_body (rvs := [.tmp 4]) [(0, .d (.sl (ts.map Fm.d))), (1, .d (.fn (.func g) fa fc))] Tryz.func70 Tryz.ntmps70 Tryz.results70 (fun S0 O0 w0 m0 hm0 => ?_)
 refine Z274 ?_
 refine gL (xs := [.tmp 5, .tmp 6]) rfl (c138 ts g fa fc p hlim hcb) ?_
 refine Z99 ?_;refine Z229 ?_
 exact Y5
theorem c123g (ts : List Pc) (g : FuncId) (fa fc : List D) (p : Pc → Bool) (hlim : ts.length ≤ 140737488355328)
 (hcb : ∀ x ∈ ts, Pf Tryz.prog g (fa ++ [x.d] ++ fc) (.d (.bool (p x)))) : Pf Tryz.prog 123 [.sl (ts.map Pc.d), .fn (.func g) fa fc] (.d (.int .i64 (idxL p ts))) := by
 refine pf_body (rvs := [.tmp 4]) [(0, .d (.sl (ts.map Pc.d))), (1, .d (.fn (.func g) fa fc))] Tryz.func123 Tryz.ntmps123 Tryz.results123 (fun S0 O0 w0 m0 hm0 => ?_)
 refine Z272 ?_;refine Z164 ?_;refine Z246 ?_
 refine g_loop (α := Nat) (fun z => ⟨[(8, .d (.int .i64 (z : Nat))), (7, .d (.int .i64 ((ts.map Pc.d).length : Nat))), (6, .d (.sl (ts.map Pc.d))), (1, .d (.fn (.func g) fa fc)), (0, .d (.sl (ts.map Pc.d)))], []⟩) (fun z => ts.length - z) (fun z => z ≤ ts.length ∧ ∀ i, i < z → ∀ x, ts[i]? = some x → p x = false) 0 ⟨Nat.zero_le _, by simp⟩ (fun z hz Q' hn0 he0 hr0 => ?_) (le_of)
 obtain ⟨hz1, hz2⟩ := hz
 refine Z248 ?_
 refine gC ?_ ?_ <;> intro hb0
 ·
  have hlt : z < ts.length := by simpa using hb0
  obtain ⟨x, hx⟩ : ∃ x, ts[z]? = some x := ⟨_, gE hlt⟩
  have hmem := mG hx
  have hxd := pc_get hx
  have hcx := hcb x hmem
  unfold Pc.d at hcx
  refine Z268 ?_;refine Z230 ?_;refine Z231 ?_;refine Z0 ?_;refine Z194 ?_;refine Z126 ?_;refine Z211 ?_;refine Z10 ?_
  refine gC ?_ ?_ <;> intro hb1
  ·
   refine Z254 ?_;refine Z242 ?_;refine Z276 ?_
   exact Y2
  refine Z284 ?_
  refine hn0 _ (z + 1) ⟨by omega, idxL_step hz2 hx hb1⟩ (by omega) le_of
 have hge : z = ts.length := by
  have : ¬ (z : Int) < (ts.map Pc.d).length := by simpa using hb0
  rw [List.length_map] at this
  omega
 refine Z259 ?_;refine Z228 ?_
 exact Y3
theorem c63g (ts : List Pc) (g : FuncId) (fa fc : List D) (p : Pc → Bool) (hlim : ts.length ≤ 140737488355328)
 (hcb : ∀ x ∈ ts, Pf Tryz.prog g (fa ++ [x.d] ++ fc) (.d (.bool (p x)))) : Pf Tryz.prog 63 [.sl (ts.map Pc.d), .fn (.func g) fa fc] (.d (.bool (ts.any p))) := by
 refine pf_body (rvs := [.tmp 4]) [(0, .d (.sl (ts.map Pc.d))), (1, .d (.fn (.func g) fa fc))] Tryz.func63 Tryz.ntmps63 Tryz.results63 (fun S0 O0 w0 m0 hm0 => ?_)
 refine Z274 ?_
 refine gL (xs := [.tmp 5, .tmp 6]) rfl (c123g ts g fa fc p hlim hcb) ?_
 refine Z99 ?_;refine Z229 ?_
 exact Y5
theorem t_eta (t : Tr) : t.d = .agg [.int .i64 t.op, .str t.nm, .int .i64 t.nu, .sl (t.kids.map Tr.d)] := t.d_eta
theorem c71 (f : Fm) (hok : f.Ok) : Pf Tryz.prog 71 [f.d] (.d (.bool f.long)) := by
 refine pf_body (rvs := [.tmp 2]) [(0, .d (.agg [.str f.intent, .str f.nm, .int .i64 f.ty.op, .str f.ty.nm, .int .i64 f.ty.nu, .sl (f.ty.kids.map Tr.d)]))] Tryz.func71 Tryz.ntmps71 Tryz.results71 (fun S0 O0 w0 m0 hm0 => ?_)
 refine Z3 ?_
 have q68 := c68n _ f.ty (Nat.le_refl _) hok.t
 rw [t_eta] at q68
 refine Z13 ?_;refine Z51 ?_;refine Z230 ?_;refine Z159 ?_;refine Z49 ?_;refine Z156 ?_;refine Z109 ?_;refine Z0 ?_
 refine sg rfl (fun hg => qF u102 rfl sz9) ?_
 refine sg rfl (fun hg => sP 8 rfl hg (qL u9)) ?_
 refine sg rfl (fun hg => sP 9 rfl hg (q_lenstr u9)) ?_
 refine sg rfl (fun hg => sP 10 rfl hg q_gtr) ?_
 refine Z22 ?_;refine Z0 ?_
 refine sg rfl (fun hg => q_fieldp_agg u102 rfl sz27) ?_
 refine sg rfl (fun hg => sP 14 rfl hg (qG (by exact sz27) u27 rfl)) ?_
 refine g_callg (xs := [.tmp 15]) rfl (fun hg => q68) ?_
 refine Z275 ?_
 exact ⟨by unfold Fm.long; rfl, rfl⟩
set_option maxHeartbeats 4000000 in
theorem c69 (q : Pc) (hok : q.Ok) : Pf Tryz.prog 69 [q.d] (.d (.bool q.long)) := by
 refine pf_body (rvs := [.tmp 2]) [(0, .d (.agg [.str q.nm, .bool q.iter, .bool q.priv, .sl (q.formals.map Fm.d), .int .i64 q.result.op, .str q.result.nm, .int .i64 q.result.nu, .sl (q.result.kids.map Tr.d), .sl (q.wh.map Tr.d), .sl (q.body.map Tr.d)]))] Tryz.func69 Tryz.ntmps69 Tryz.results69 (fun S0 O0 w0 m0 hm0 => ?_)
 refine Z3 ?_
 have q68 := c68n _ q.result (Nat.le_refl _) hok.r
 rw [t_eta] at q68
 have qw := c52 q.wh 68 [] [] Tr.long hok.w.1 (fun x hx => c68n _ x (Nat.le_refl _) (hok.w.2 x hx))
 have qb := c52 q.body 68 [] [] Tr.long hok.b.1 (fun x hx => c68n _ x (Nat.le_refl _) (hok.b.2 x hx))
 have qf := c70 q.formals 71 [] [] Fm.long hok.fl (fun x hx => c71 x (hok.f x hx))
 refine Z13 ?_;refine Z16 ?_;refine Z230 ?_
 refine vq rfl (qF u81 rfl sz9) ?_
 refine Z49 ?_;refine Z156 ?_;refine Z109 ?_;refine Z0 ?_
 refine sg rfl (fun hg => q_fieldp_agg u81 rfl sz27) ?_
 refine sg rfl (fun hg => sP 8 rfl hg (qG (by exact sz27) u27 rfl)) ?_
 refine g_callg (xs := [.tmp 9]) rfl (fun hg => q68) ?_
 refine Z22 ?_;refine Z0 ?_;refine Z129 ?_;refine Z193 ?_
 refine g_callg (xs := [.tmp 14, .func 68]) rfl (fun hg => qw) ?_
 refine Z22 ?_;refine Z0 ?_;refine Z129 ?_
 refine sg rfl (fun hg => sP 18 rfl hg (qL u22)) ?_
 refine g_callg (xs := [.tmp 19, .func 68]) rfl (fun hg => qb) ?_
 refine Z22 ?_;refine Z0 ?_;refine Z200 ?_
 refine sg rfl (fun hg => sP 23 rfl hg (qL u79)) ?_
 refine g_callg (xs := [.tmp 24, .func 71]) rfl (fun hg => qf) ?_
 refine Z275 ?_
 exact ⟨by unfold Pc.long; rfl, rfl⟩
theorem c137g (ks : List Tr) (n most : Int) (h4 : ks.length ≤ 140737488355328) (h5 : ∀ k ∈ ks, k.Ok) (hm0' : 0 ≤ most) (hm1' : most ≤ 1000000) (hn0 : 0 ≤ n) (hn1 : n ≤ 1000000000000000) : Gm Tryz.prog 137 [.d (.sl (ks.map Tr.d)), .ref 0 0, .d (.ptr (.int .i64 most))] [[.d (.int .i64 n)]] (.tup []) [[.d (.int .i64 (Tr.cnts ks n most))]] := by
 refine gm_body (rvs := []) 1 [(0, .d (.sl (ks.map Tr.d))), (1, .ref 0 0), (2, .d (.ptr (.int .i64 most)))] Tryz.func137 Tryz.ntmps137 Tryz.results137 (fun S0 O0 w0 m0 hm0 => ?_)
 refine Z254 ?_;refine Z273 ?_
 refine g_loop (α := Nat × Int) (fun z => ⟨[(8, .d (.int .i64 (z.1 : Nat))), (7, .d (.int .i64 ((ks.map Tr.d).length : Nat))), (6, .d (.sl (ks.map Tr.d))), (1, .ref 0 0), (2, .d (.ptr (.int .i64 most)))], [[.d (.int .i64 z.2)]]⟩) (fun z => ks.length - z.1) (fun z => z.1 ≤ ks.length ∧ 0 ≤ z.2 ∧ z.2 ≤ 1000000000000000 ∧ Tr.cnts (ks.drop z.1) z.2 most = Tr.cnts ks n most) (0, n) ⟨Nat.zero_le _, hn0, hn1, rfl⟩ (fun z hz Q' hn0 he0 hr0 => ?_) (le_of)
 obtain ⟨z, c⟩ := z
 obtain ⟨hz1, hc1, hc2, hc3⟩ := hz
 replace hz1 : z ≤ ks.length := hz1
 replace hc1 : 0 ≤ c := hc1
 replace hc2 : c ≤ 1000000000000000 := hc2
 replace hc3 : Tr.cnts (ks.drop z) c most = Tr.cnts ks n most := hc3
 refine Z248 ?_
 refine gC ?_ ?_ <;> intro hb0
 ·
  have hlt : z < ks.length := by simpa using hb0
  obtain ⟨k, hk⟩ : ∃ k, ks[z]? = some k := ⟨_, gE hlt⟩
  have hmem := mG hk
  have hxd := Tr.ds_get hk
  have hxa := hxd
  obtain ⟨kop, knm, knu, kks, hka⟩ := k.d_agg
  rw [hka] at hxa
  refine Z25 ?_;refine Z258 ?_;refine Z269 ?_
  refine gF 1 [[.d (.int .i64 c)]] (.agg [.int .i64 kop, .str knm, .int .i64 knu, .sl (kks.map Tr.d)]) rfl ?_
  refine Z5 ?_;refine Z54 ?_;refine Z17 ?_
  refine vq rfl q_leq ?_
  refine Z10 ?_
  refine gC ?_ ?_ <;> intro hb1
  ·
   have hnn : ¬ c > most := by simpa using hb1
   have hbd := Tr.cnt_bd k (most - c) (by omega)
   refine G_drawB 8 rfl (by kernel_rfl) (fun S1 O1 w1 m1 hm1 hm2 => ?_)
   have hB1 : ∀ i, i < m1.length → (List.range m1.length).contains i = true := fun i hi => by simpa using hi
   refine bq 1 hB1 rfl (qG (by exact sz27) u27 rfl) ?_
   refine bq 2 hB1 rfl (qL u3) ?_
   refine GB_go ?_
   refine ga2 0 3 ?_ ?_
   ·
    refine Z54 ?_
    refine gN ⟨rfl, ?_⟩
    refine ga1 3 ?_
    refine Z54 ?_
    refine gN ⟨rfl, ?_⟩
    refine ga1 4 ?_
    refine vq rfl q_sub ?_
    refine gN ⟨rfl, ?_⟩
    refine ga1 5 ?_
    refine Z81 ?_
    refine gN ⟨rfl, ?_⟩
    refine ga1 6 ?_
    refine Z26 ?_
    refine gN ⟨rfl, ?_⟩
    refine Z227 ?_;refine Z148 ?_
    refine gN ⟨rfl, ?_⟩
    refine Z145 ?_;refine Z225 ?_
    refine gP [0, 1, 2, 5, 6, 7, 8] ?_
    refine Z285 ?_
    refine hn0 _ (z + 1, c + k.cnt (most - c)) ⟨by show z + 1 ≤ ks.length; omega, by show 0 ≤ c + k.cnt (most - c); omega, by show c + k.cnt (most - c) ≤ 1000000000000000; omega, by show Tr.cnts (ks.drop (z + 1)) (c + k.cnt (most - c)) most = _; rw [← Tr.cnts_drop hk c most hnn]; exact hc3⟩ (by show ks.length - (z + 1) < ks.length - z; omega) le_of
   refine Z54 ?_
   refine gN ⟨rfl, ?_⟩
   refine ga2 0 4 ?_ ?_
   ·
    refine Z54 ?_
    refine gN ⟨rfl, ?_⟩
    refine ga1 4 ?_
    refine vq rfl q_sub ?_
    refine gN ⟨rfl, ?_⟩
    refine ga1 5 ?_
    refine Z81 ?_
    refine gN ⟨rfl, ?_⟩
    refine ga1 6 ?_
    refine Z26 ?_
    refine gN ⟨rfl, ?_⟩
    refine Z227 ?_;refine Z148 ?_
    refine gN ⟨rfl, ?_⟩
    refine Z145 ?_;refine Z225 ?_
    refine gP [0, 1, 2, 5, 6, 7, 8] ?_
    refine Z285 ?_
    refine hn0 _ (z + 1, c + k.cnt (most - c)) ⟨by show z + 1 ≤ ks.length; omega, by show 0 ≤ c + k.cnt (most - c); omega, by show c + k.cnt (most - c) ≤ 1000000000000000; omega, by show Tr.cnts (ks.drop (z + 1)) (c + k.cnt (most - c)) most = _; rw [← Tr.cnts_drop hk c most hnn]; exact hc3⟩ (by show ks.length - (z + 1) < ks.length - z; omega) le_of
   refine vq rfl q_sub ?_
   refine gN ⟨rfl, ?_⟩
   refine ga2 0 5 ?_ ?_
   ·
    refine Z54 ?_
    refine gN ⟨rfl, ?_⟩
    refine ga1 5 ?_
    refine Z81 ?_
    refine gN ⟨rfl, ?_⟩
    refine ga1 6 ?_
    refine Z26 ?_
    refine gN ⟨rfl, ?_⟩
    refine Z227 ?_;refine Z148 ?_
    refine gN ⟨rfl, ?_⟩
    refine Z145 ?_;refine Z225 ?_
    refine gP [0, 1, 2, 5, 6, 7, 8] ?_
    refine Z285 ?_
    refine hn0 _ (z + 1, c + k.cnt (most - c)) ⟨by show z + 1 ≤ ks.length; omega, by show 0 ≤ c + k.cnt (most - c); omega, by show c + k.cnt (most - c) ≤ 1000000000000000; omega, by show Tr.cnts (ks.drop (z + 1)) (c + k.cnt (most - c)) most = _; rw [← Tr.cnts_drop hk c most hnn]; exact hc3⟩ (by show ks.length - (z + 1) < ks.length - z; omega) le_of
   refine Z81 ?_
   refine gN ⟨rfl, ?_⟩
   refine ga1 0 ?_
   refine Z54 ?_
   refine gN ⟨rfl, ?_⟩
   refine ga1 6 ?_
   refine Z26 ?_
   refine gN ⟨rfl, ?_⟩
   refine Z227 ?_;refine Z148 ?_
   refine gN ⟨rfl, ?_⟩
   refine Z145 ?_;refine Z225 ?_
   refine gP [0, 1, 2, 5, 6, 7, 8] ?_
   refine Z285 ?_
   refine hn0 _ (z + 1, c + k.cnt (most - c)) ⟨by show z + 1 ≤ ks.length; omega, by show 0 ≤ c + k.cnt (most - c); omega, by show c + k.cnt (most - c) ≤ 1000000000000000; omega, by show Tr.cnts (ks.drop (z + 1)) (c + k.cnt (most - c)) most = _; rw [← Tr.cnts_drop hk c most hnn]; exact hc3⟩ (by show ks.length - (z + 1) < ks.length - z; omega) le_of
  have hnn : c > most := by simpa using hb1
  refine Z284 ?_
  refine hn0 _ (z + 1, c) ⟨by show z + 1 ≤ ks.length; omega, hc1, hc2, by show Tr.cnts (ks.drop (z + 1)) c most = _; rw [← hc3, Tr.cnts_stop _ hnn, Tr.cnts_stop _ hnn]⟩ (by show ks.length - (z + 1) < ks.length - z; omega) le_of
 have hge : z = ks.length := by
  have : ¬ (z : Int) < (ks.map Tr.d).length := by simpa using hb0
  rw [List.length_map] at this
  omega
 refine Z252 ?_
 refine blk_exit ?_
 exact ⟨by simp, .inl ⟨[], [[.d (.int .i64 c)]], .nil, Nat.le_refl _, MSub.cons (CSub.cons (.inl rfl) rfl .nil) .nil, rfl, rfl, by rw [← hc3, hge, List.drop_length, Tr.cnts]⟩⟩
set_option maxHeartbeats 16000000 in
theorem c67g (p : Pg) (most : Int) (hok : p.Ok) (hm0' : 0 ≤ most) (hm1' : most ≤ 1000000) : Pf Tryz.prog 67 [.agg [.sl (p.globals.map Tr.d), .sl (p.procs.map Pc.d)], .int .i64 most] (.d (.int .i64 (p.weight most))) := by
 refine pf_body (rvs := [.tmp 4]) [(0, .d (.agg [.sl (p.globals.map Tr.d), .sl (p.procs.map Pc.d)])), (1, .d (.int .i64 most))] Tryz.func67 Tryz.ntmps67 Tryz.results67 (fun S0 O0 w0 m0 hm0 => ?_)
 refine Z232 ?_;refine Z62 ?_;refine Z13 ?_
 refine gF 0 [] (.int .i64 most) rfl ?_
 refine Z230 ?_
 refine sv rfl (y_alloc zr3) ?_
 refine Z148 ?_;refine Z5 ?_
 refine vq rfl (q_makeFunc (xs := []) (ys := [.tmp 5, .tmp 3])) ?_
 refine Z230 ?_
 have hg0 := cnts_bdx p.globals 0 most hm0'
 refine Z0 ?_;refine Z160 ?_;refine Z33 ?_
 refine g_callm [0] (xs := [.tmp 14]) rfl (c137g p.globals (0) most hok.g.1 hok.g.2 hm0' hm1' (by omega) (by omega)) ?_
 refine Z11 ?_;refine Z183 ?_;refine Z208 ?_;refine Z164 ?_;refine Z246 ?_
 refine g_loop (α := Nat × Int) (fun z => ⟨[(19, .d (.int .i64 (z.1 : Nat))), (18, .d (.int .i64 ((p.procs.map Pc.d).length : Nat))), (17, .d (.sl (p.procs.map Pc.d))), (5, .ref 0 0), (6, .fn (.func 137) [] [.ref 0 0, .d (.ptr (.int .i64 most))]), (3, .d (.ptr (.int .i64 most)))], [[.d (.int .i64 z.2)]]⟩) (fun z => p.procs.length - z.1) (fun z => z.1 ≤ p.procs.length ∧ 0 ≤ z.2 ∧ z.2 ≤ 200000000000000 ∧ pcsW most z.2 (p.procs.drop z.1) = p.weight most) (0, Tr.cnts p.globals 0 most) ⟨Nat.zero_le _, by show 0 ≤ Tr.cnts p.globals 0 most; omega, by show Tr.cnts p.globals 0 most ≤ 200000000000000; omega, rfl⟩ (fun z hz Q' hn0 he0 hr0 => ?_) (le_of)
 have hpl := hok.pl
 obtain ⟨z, n⟩ := z
 obtain ⟨hz1, hz2, hz3, hz4⟩ := hz
 replace hz1 : z ≤ p.procs.length := hz1
 replace hz2 : 0 ≤ n := hz2
 replace hz3 : n ≤ 200000000000000 := hz3
 replace hz4 : pcsW most n (p.procs.drop z) = p.weight most := hz4
 refine Z248 ?_
 refine gC ?_ ?_ <;> intro hb0
 ·
  have hlt : z < p.procs.length := by simpa using hb0
  obtain ⟨q, hq⟩ : ∃ q, p.procs[z]? = some q := ⟨_, gE hlt⟩
  have hqd := pc_get hq
  have hqo := hok.p q (mG hq)
  rw [pcsW_drop hq] at hz4
  have hwr : IntKind.i64.wrap (n + 1) = n + 1 := wrap_i64 (by omega) (by omega)
  refine Z25 ?_;refine Z194 ?_;refine Z126 ?_;refine Z192 ?_;refine Z202 ?_
  refine gF 1 [[.d (.int .i64 n)]] (.agg [.str q.nm, .bool q.iter, .bool q.priv, .sl (q.formals.map Fm.d), .int .i64 q.result.op, .str q.result.nm, .int .i64 q.result.nu, .sl (q.result.kids.map Tr.d), .sl (q.wh.map Tr.d), .sl (q.body.map Tr.d)]) rfl ?_
  refine Z11 ?_;refine Z54 ?_
  refine vq rfl (q_add (hw := hwr)) ?_
  refine Z148 ?_;refine Z5 ?_;refine Z54 ?_;refine Z17 ?_;refine Z109 ?_;refine Z10 ?_
  refine gC ?_ ?_ <;> intro hb1
  ·
   have hgt : n + 1 > most := by simpa using hb1
   refine G_exit (thn_exit (blk_other (by decide) (thn_exit ?_)))
   refine Z67 ?_;refine Z36 ?_;refine Z54 ?_;refine Z229 ?_
   exact ⟨by rw [← hz4, if_pos hgt], rfl⟩
  have hgt : ¬ n + 1 > most := by simpa using hb1
  rw [if_neg hgt] at hz4
  have hpb := pcW_bd most hm0' (n + 1) q
  have hfl := hqo.fl
  refine Z103 ?_
  refine vq rfl (qF u81 rfl sz79) ?_
  refine vq rfl (qL u79) ?_
  refine Z163 ?_;refine Z246 ?_
  refine g_loop (α := Nat × Int) (fun y => ⟨[(31, .d (.int .i64 (y.1 : Nat))), (30, .d (.int .i64 ((q.formals.map Fm.d).length : Nat))), (29, .d (.sl (q.formals.map Fm.d))), (8, .d (.ptr (.agg [.str q.nm, .bool q.iter, .bool q.priv, .sl (q.formals.map Fm.d), .int .i64 q.result.op, .str q.result.nm, .int .i64 q.result.nu, .sl (q.result.kids.map Tr.d), .sl (q.wh.map Tr.d), .sl (q.body.map Tr.d)]))), (19, .d (.int .i64 (z : Nat))), (18, .d (.int .i64 ((p.procs.map Pc.d).length : Nat))), (17, .d (.sl (p.procs.map Pc.d))), (5, .ref 0 0), (6, .fn (.func 137) [] [.ref 0 0, .d (.ptr (.int .i64 most))]), (3, .d (.ptr (.int .i64 most)))], [[.d (.int .i64 y.2)]]⟩) (fun y => q.formals.length - y.1) (fun y => y.1 ≤ q.formals.length ∧ 0 ≤ y.2 ∧ y.2 ≤ 300000000000000 ∧ fmW most y.2 (q.formals.drop y.1) = fmW most (n + 1) q.formals) (0, n + 1) ⟨Nat.zero_le _, by show 0 ≤ n + 1; omega, by show n + 1 ≤ 300000000000000; omega, rfl⟩ (fun y hy Q' hn1 he1 hr1 => ?_) (le_of)
  obtain ⟨y, c⟩ := y
  obtain ⟨hy1, hy2, hy3, hy4⟩ := hy
  replace hy1 : y ≤ q.formals.length := hy1
  replace hy2 : 0 ≤ c := hy2
  replace hy3 : c ≤ 300000000000000 := hy3
  replace hy4 : fmW most c (q.formals.drop y) = fmW most (n + 1) q.formals := hy4
  have hfb := fmW_bd most hm0' q.formals (n + 1)
  have hfb2 := fmW_bd most hm0' (q.formals.drop y) c
  rw [hy4] at hfb2
  refine Z248 ?_
  refine gC ?_ ?_ <;> intro hb2
  ·
   have hlt2 : y < q.formals.length := by simpa using hb2
   obtain ⟨f, hf⟩ : ∃ f, q.formals[y]? = some f := ⟨_, gE hlt2⟩
   have hfd := fm_get hf
   have hfo := hqo.f f (mG hf)
   rw [fmW_drop hf] at hy4
   have hcb := cnts_bdx [f.ty] (c + 1) most hm0'
   have hfb3 := fmW_bd most hm0' (q.formals.drop (y + 1)) (Tr.cnts [f.ty] (c + 1) most)
   rw [hy4] at hfb3
   have hwr2 : IntKind.i64.wrap (c + 1) = c + 1 := wrap_i64 (by omega) (by omega)
   refine Z25 ?_;refine Z191 ?_;refine Z122 ?_;refine Z205 ?_;refine Z220 ?_
   refine gF 1 [[.d (.int .i64 c)]] (.agg [.str f.intent, .str f.nm, .int .i64 f.ty.op, .str f.ty.nm, .int .i64 f.ty.nu, .sl (f.ty.kids.map Tr.d)]) rfl ?_
   refine Z5 ?_;refine Z54 ?_
   refine vq rfl (q_add (hw := hwr2)) ?_
   refine Z148 ?_;refine Z162 ?_;refine Z0 ?_;refine Z45 ?_;refine Z8 ?_
   refine sv rfl (y_buildSlice (xs := [.tmp 39]) u22 inf27) ?_
   rw [show [D.agg [.int .i64 f.ty.op, .str f.ty.nm, .int .i64 f.ty.nu, .sl (f.ty.kids.map Tr.d)]] = [f.ty].map Tr.d from by rw [List.map_singleton, t_eta]]
   refine g_callm [0] (xs := [.tmp 40]) rfl (c137g [f.ty] (c + 1) most (by simp) (by intro x hx; rw [List.mem_singleton.1 hx]; exact hfo.t) hm0' hm1' (by omega) (by omega)) ?_
   refine Z137 ?_;refine Z239 ?_
   refine hn1 _ (y + 1, Tr.cnts [f.ty] (c + 1) most) ⟨by show y + 1 ≤ q.formals.length; omega, by show 0 ≤ Tr.cnts [f.ty] (c + 1) most; omega, by show Tr.cnts [f.ty] (c + 1) most ≤ 300000000000000; omega, hy4⟩ (by show q.formals.length - (y + 1) < q.formals.length - y; omega) le_of
  have hge2 : y = q.formals.length := by
   have : ¬ (y : Int) < (q.formals.map Fm.d).length := by simpa using hb2
   rw [List.length_map] at this
   omega
  rw [hge2, List.drop_length, fmW] at hy4
  subst hy4
  have hr0 := cnts_bdx [q.result] (fmW most (n + 1) q.formals) most hm0'
  have hr1 := cnts_bdx q.wh (Tr.cnts [q.result] (fmW most (n + 1) q.formals) most) most hm0'
  refine Z39 ?_
  refine he1 _ _ ?_
  refine Z36 ?_;refine Z0 ?_
  refine vq rfl (q_fieldAgg [.int .i64 q.result.op, .str q.result.nm, .int .i64 q.result.nu, .sl (q.result.kids.map Tr.d)] u81 rfl sz27) ?_
  refine Z8 ?_
  refine sv rfl (y_buildSlice (xs := [.tmp 45]) u22 inf27) ?_
  rw [show [D.agg [.int .i64 q.result.op, .str q.result.nm, .int .i64 q.result.nu, .sl (q.result.kids.map Tr.d)]] = [q.result].map Tr.d from by rw [List.map_singleton, t_eta]]
  refine g_callm [0] (xs := [.tmp 46]) rfl (c137g [q.result] (fmW most (n + 1) q.formals) most (by simp) (by intro x hx; rw [List.mem_singleton.1 hx]; exact hqo.r) hm0' hm1' (by omega) (by omega)) ?_
  refine Z5 ?_;refine Z0 ?_;refine Z161 ?_;refine Z33 ?_
  refine g_callm [0] (xs := [.tmp 50]) rfl (c137g q.wh (Tr.cnts [q.result] (fmW most (n + 1) q.formals) most) most hqo.w.1 hqo.w.2 hm0' hm1' (by omega) (by omega)) ?_
  refine Z162 ?_;refine Z0 ?_;refine Z161 ?_;refine Z33 ?_
  refine g_callm [0] (xs := [.tmp 54]) rfl (c137g q.body (Tr.cnts q.wh (Tr.cnts [q.result] (fmW most (n + 1) q.formals) most) most) most hqo.b.1 hqo.b.2 hm0' hm1' (by omega) (by omega)) ?_
  refine Z137 ?_;refine Z239 ?_
  refine hn0 _ (z + 1, pcW most (n + 1) q) ⟨by show z + 1 ≤ p.procs.length; omega, by show 0 ≤ pcW most (n + 1) q; omega, by show pcW most (n + 1) q ≤ 200000000000000; omega, hz4⟩ (by show p.procs.length - (z + 1) < p.procs.length - z; omega) le_of
 have hge : z = p.procs.length := by
  have : ¬ (z : Int) < (p.procs.map Pc.d).length := by simpa using hb0
  rw [List.length_map] at this
  omega
 refine Z259 ?_;refine Z54 ?_;refine Z229 ?_
 exact ⟨by rw [← hz4, hge, List.drop_length, pcsW], rfl⟩
set_option maxHeartbeats 1000000 in
theorem c14g (p : Pg) (most : Int) (hok : p.Ok) (hm0' : 0 ≤ most) (hm1' : most ≤ 1000000) : Pf Tryz.prog 14 [.agg [.sl (p.globals.map Tr.d), .sl (p.procs.map Pc.d)], .int .i64 most] (.d (.bool (p.few most))) := by
 refine pf_body (rvs := [.tmp 4]) [(0, .d (.agg [.sl (p.globals.map Tr.d), .sl (p.procs.map Pc.d)])), (1, .d (.int .i64 most))] Tryz.func14 Tryz.ntmps14 Tryz.results14 (fun S0 O0 w0 m0 hm0 => ?_)
 refine Z232 ?_;refine Z62 ?_;refine Z233 ?_;refine Z149 ?_;refine Z0 ?_
 refine gL (xs := [.tmp 5, .tmp 6]) rfl (c67g p most hok hm0' hm1') ?_
 refine Z0 ?_;refine Z109 ?_;refine Z0 ?_
 refine sg rfl (fun hg => qF u25 rfl sz22) ?_
 refine sg rfl (fun hg => sP 11 rfl hg (qL u22)) ?_
 refine g_callg (xs := [.tmp 12, .func 68]) rfl (fun hg => c52 p.globals 68 [] [] Tr.long hok.g.1 (fun x hx => c68n _ x (Nat.le_refl _) (hok.g.2 x hx))) ?_
 refine Z251 ?_
 refine gC ?_ ?_ <;> intro hb0
 ·
  refine Z53 ?_
  refine gP [0, 1, 2, 4] ?_
  refine Z282 ?_
  exact ⟨by unfold Pg.few; rw [if_pos hb0], rfl⟩
 refine Z58 ?_
 refine gP [0, 1, 2, 4] ?_
 refine Z14 ?_;refine Z183 ?_;refine Z208 ?_
 refine gL (xs := [.tmp 16, .func 69]) rfl (c63g p.procs 69 [] [] Pc.long hok.pl (fun x hx => c69 x (hok.p x hx))) ?_
 refine Z41 ?_;refine Z229 ?_
 exact ⟨by unfold Pg.few; rw [if_neg (by rw [show (decide (p.weight most > most) || p.globals.any Tr.long) = false from hb0]; decide)], rfl⟩
end
section
theorem okBlk {ks : List Tr} (h1 : ks.length ≤ 140737488355328) (h2 : ∀ k ∈ ks, k.Ok) : (Tr.mk 66 ⟨#[]⟩ 0 ks).Ok := .mk (by decide) (by decide) (by decide) h1 h2
theorem block_okx (ks : List Tr) : ∀ l : KL, KOk l → (∀ t ∈ ks, (t.Ok ∧ t.shaped = true) ∧ ∀ l : KL, KOk l → (t.fold l).1.Ok) → (Tr.block ks l).1.length ≤ ks.length ∧ ∀ t ∈ (Tr.block ks l).1, t.Ok := by
 induction ks with
 | nil => intro l _ _; rw [Tr.block]; exact ⟨Nat.le_refl _, by simp⟩
 | cons t r ih =>
  intro l hl hA
  have hr : ∀ t ∈ r, (t.Ok ∧ t.shaped = true) ∧ ∀ l : KL, KOk l → (t.fold l).1.Ok := fun x hx => hA x (by simp [hx])
  rw [Tr.block]
  split
  · rename_i h1
    cases hs : staticV l t with
    | none => exact ⟨Nat.zero_le _, by simp⟩
    | some v =>
     obtain ⟨⟨hok, hsh⟩, _⟩ := hA t (by simp)
     obtain ⟨op, nm, num, kks⟩ := t
     obtain rfl : op = 50 := by
      unfold isVarP at h1
      rw [Bool.and_eq_true] at h1
      simpa [Tr.op] using h1.1
     have h2 := ih ((nm, some v) :: l) (hl.cons nm (static_ok hl hok hsh hs)) hr
     exact ⟨Nat.le_trans h2.1 (by simp), h2.2⟩
  · split
    · exact ⟨Nat.zero_le _, by simp⟩
    · split
      · exact ⟨Nat.zero_le _, by simp⟩
      · have h2 := ih (hideV t l) (hl.hideV t) hr
        refine ⟨by simpa using h2.1, fun x hx => ?_⟩
        rcases List.mem_cons.1 hx with rfl | hx
        · exact (hA t (by simp)).2 l hl
        · exact h2.2 x hx
theorem bodies_okx (l : KL) : ∀ (ks ps : List Tr), (∀ k ∈ ks, (k.op == 66) = true → (k.kblock l).1.length ≤ 140737488355328 ∧ ∀ t ∈ (k.kblock l).1, t.Ok) → (∀ p ∈ ps, p.Ok) → (Tr.bodies ks l ps).1.length ≤ ks.length ∧ ∀ t ∈ (Tr.bodies ks l ps).1, t.Ok
 | [], ps, _, _ => by rw [Tr.bodies]; exact ⟨Nat.le_refl _, by simp⟩
 | k :: r, ps, hk, hp => by
  have hh : (ps.headD z0).Ok := by
   cases ps with
   | nil => exact z0_ok
   | cons p q => exact hp p (by simp)
  have ht : ∀ p ∈ ps.tail, p.Ok := fun p h => hp p (List.mem_of_mem_tail h)
  have h2 := bodies_okx l r ps.tail (fun x hx => hk x (by simp [hx])) ht
  rw [Tr.bodies]
  split
  · refine ⟨by simpa using h2.1, fun x hx => ?_⟩
    rcases List.mem_cons.1 hx with rfl | hx
    · exact hh
    · exact h2.2 x hx
  · rename_i h66
    split
    · exact ⟨Nat.zero_le _, by simp⟩
    · refine ⟨by simpa using h2.1, fun x hx => ?_⟩
      rcases List.mem_cons.1 hx with rfl | hx
      · have := hk k (by simp) (by simpa using h66)
        exact okBlk this.1 this.2
      · exact h2.2 x hx
theorem fold_ok : ∀ (n : Nat) (t : Tr), t.size ≤ n → t.Ok → t.shaped = true → isStmtB t.op = true → ∀ l : KL, KOk l → (t.fold l).1.Ok := by
 intro n
 induction n with
 | zero => intro t h; exact absurd t.size_pos (by omega)
 | succ n ih =>
  intro t hsz hok hsh hst l hl
  have hpok := put_okT _ t (Nat.le_refl _) hok l hl.okT
  obtain ⟨op, nm, num, ks⟩ := t
  obtain ⟨h4, h67⟩ := stmt_ne hst
  replace h4 : ¬ op = 4 := h4
  replace h67 : ¬ op = 67 := h67
  have hkok := Tr.kids_ok hok
  have hksh := (Tr.shaped_mk hsh).2
  have hkd : ∀ k ∈ ks, k.size ≤ n := fun k hk => by
   have := Tr.size_mem hk
   rw [Tr.size] at hsz
   omega
  have hkb : ∀ k ∈ ks, (k.op == 66) = true → ∀ l : KL, KOk l → (k.kblock l).1.length ≤ 140737488355328 ∧ ∀ t ∈ (k.kblock l).1, t.Ok := by
   intro k hk h66 l hl
   have h1 := hkok k hk
   have h2 := hksh k hk
   have h3 := hkd k hk
   obtain ⟨kop, knm, knu, kks⟩ := k
   obtain rfl : kop = 66 := by simpa [Tr.op] using h66
   rw [Tr.kblock]
   have h5 := block_okx kks l hl fun t ht => ⟨⟨Tr.kids_ok h1 t ht, (Tr.shaped_mk h2).2 t ht⟩, fun l hl => ih t (by
    have := Tr.size_mem ht
    rw [Tr.size] at h3
    omega) (Tr.kids_ok h1 t ht) ((Tr.shaped_mk h2).2 t ht) (stmt_kids h2 t ht) l hl⟩
   exact ⟨Nat.le_trans h5.1 (Tr.kids_len h1), h5.2⟩
  have hput : (Tr.mk op nm num ks).put l = .mk op nm num (Tr.puts op num ks l 0 l ks) := by rw [Tr.put, if_neg (by simpa using h4), if_neg (by simpa using h67)]
  rw [hput] at hpok
  have hps := Tr.kids_ok hpok
  rw [Tr.fold]
  split
  · rename_i hg
    split
    · rename_i hp
      split
      · exact z0_ok
      · rename_i he
        obtain rfl : op = 52 := by simpa using (Bool.and_eq_true_iff.1 hg).1
        obtain ⟨c0, r0, hks, hl3⟩ := if_facts hsh
        have hv0 : v0 (Tr.values l ks) 0 = c0.value l := by rw [hks]; rfl
        have hcm : c0 ∈ ks := by rw [hks]; simp
        have hb := (Bool.and_eq_true_iff.1 hg).2
        rw [hv0] at hb
        have hpt : part (Tr.values l ks) = 1 ∨ part (Tr.values l ks) = 2 := by
         unfold part
         rw [hv0]
         cases hv : c0.value l with
         | none => rw [hv] at hb; cases hb
         | some v =>
          rw [hv] at hb
          have := (value_ok l hl _ c0 (Nat.le_refl _) (hkok c0 hcm) (hksh c0 hcm) v hv).num (by simpa [isV] using hb)
          unfold nuV
          dsimp only
          omega
        obtain ⟨p, hpe, hp12⟩ : ∃ p : Nat, part (Tr.values l ks) = p ∧ (p = 1 ∨ p = 2) := by
         rcases hpt with h | h
         · exact ⟨1, h, .inl rfl⟩
         · exact ⟨2, h, .inr rfl⟩
        rw [hpe] at hp ⊢
        have hlt : p < ks.length := by simpa using hp
        have hk : ks[p]? = some ks[p] := gE hlt
        rw [show ((p : Int)).toNat = p from Int.toNat_natCast p, kblocks_get ks l p hk]
        have h6 := hkb _ (mG hk) (if_blocks hsh hk hp12) l hl
        exact okBlk h6.1 h6.2
    · exact okBlk (by simp) (by simp)
  · split
    · rename_i h66
      obtain rfl : op = 66 := by simpa using h66
      have h5 := block_okx ks l hl fun t ht => ⟨⟨hkok t ht, hksh t ht⟩, fun l hl => ih t (hkd t ht) (hkok t ht) (hksh t ht) (stmt_kids hsh t ht) l hl⟩
      exact okBlk (Nat.le_trans h5.1 (Tr.kids_len hok)) h5.2
    · have hi : KOk (if loopsB op num ks.length = true then bindK (ks.take num.toNat) l else l) := KOk.ite (KOk.bind _ hl) hl
      generalize (if loopsB op num ks.length = true then bindK (ks.take num.toNat) l else l) = inn at hi ⊢
      split
      · exact z0_ok
      · have h7 := bodies_okx _ ks (Tr.puts op num ks l 0 l ks) (fun k hk h66 => hkb k hk h66 _ hi) (fun p hp => hps p hp)
        cases hok with | mk h1 h2 h3 h4 h5 =>
        exact .mk h1 h2 h3 (Nat.le_trans h7.1 h4) h7.2
end
end Go.Proofs.YtklkbfpjimeaoaaGreat
