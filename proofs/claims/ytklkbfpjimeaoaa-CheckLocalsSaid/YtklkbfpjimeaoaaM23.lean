import Derived.Test.YtklkbfpjimeaoaaM22
import Derived.Test.YtklkbfpjimeaoaaM21
/- Contracts of functions. Conditions: none. -/
set_option linter.unusedSimpArgs false
set_option linter.unusedVariables false
set_option maxRecDepth 20000
namespace Go.Proofs.Ytklkbfpjimeaoaa
open Go Go.Proofs.Ytklkbfpjimeaoaa.E
section
structure Fm where
 intent : ByteArray
 nm : ByteArray
 ty : Tr
structure Pc where
 nm : ByteArray
 iter : Bool
 priv : Bool
 formals : List Fm
 result : Tr
 wh : List Tr
 body : List Tr
structure Pg where
 globals : List Tr
 procs : List Pc
def Tr.cs (t : Tr) : List D := [.int .i64 t.op, .str t.nm, .int .i64 t.nu, .sl (t.kids.map Tr.d)]
def Fm.d (f : Fm) : D := .agg [.str f.intent, .str f.nm, .int .i64 f.ty.op, .str f.ty.nm, .int .i64 f.ty.nu, .sl (f.ty.kids.map Tr.d)]
def Pc.d (q : Pc) : D := .agg [.str q.nm, .bool q.iter, .bool q.priv, .sl (q.formals.map Fm.d), .int .i64 q.result.op, .str q.result.nm, .int .i64 q.result.nu, .sl (q.result.kids.map Tr.d), .sl (q.wh.map Tr.d), .sl (q.body.map Tr.d)]
def Pg.d (p : Pg) : D := .agg [.sl (p.globals.map Tr.d), .sl (p.procs.map Pc.d)]
variable {z : Nat}
theorem fm_get {l : List Fm} {f : Fm} (h : l[z]? = some f) : (l.map Fm.d)[z]? = some (.agg [.str f.intent, .str f.nm, .int .i64 f.ty.op, .str f.ty.nm, .int .i64 f.ty.nu, .sl (f.ty.kids.map Tr.d)]) := by
 rw [List.getElem?_map, h]; rfl
theorem pc_get {l : List Pc} {q : Pc} (h : l[z]? = some q) : (l.map Pc.d)[z]? = some (.agg [.str q.nm, .bool q.iter, .bool q.priv, .sl (q.formals.map Fm.d), .int .i64 q.result.op, .str q.result.nm, .int .i64 q.result.nu, .sl (q.result.kids.map Tr.d), .sl (q.wh.map Tr.d), .sl (q.body.map Tr.d)]) := by
 rw [List.getElem?_map, h]; rfl
def TsOk (l : List Tr) : Prop := l.length ≤ 140737488355328 ∧ ∀ t ∈ l, t.Ok
structure Fm.Ok (f : Fm) : Prop where
 i : f.intent.size ≤ 140737488355328
 n : f.nm.size ≤ 140737488355328
 t : f.ty.Ok
structure Pc.Ok (q : Pc) : Prop where
 n : q.nm.size ≤ 140737488355328
 fl : q.formals.length ≤ 140737488355328
 f : ∀ f ∈ q.formals, f.Ok
 r : q.result.Ok
 w : TsOk q.wh
 b : TsOk q.body
structure Pg.Ok (p : Pg) : Prop where
 g : TsOk p.globals
 pl : p.procs.length ≤ 140737488355328
 p : ∀ q ∈ p.procs, q.Ok
theorem cnts_bdx (ks : List Tr) (n m : Int) (h : 0 ≤ m) : n ≤ Tr.cnts ks n m ∧ Tr.cnts ks n m ≤ max n (m + 1) := by
 by_cases hn : n ≤ m + 1
 · have := Tr.cnts_bd ks n m h hn
   omega
 · rw [Tr.cnts_stop ks (by omega)]
   omega
def fmW (m : Int) : Int → List Fm → Int
 | n, [] => n
 | n, f :: r => fmW m (Tr.cnts [f.ty] (n + 1) m) r
def pcW (m : Int) (n : Int) (q : Pc) : Int := Tr.cnts q.body (Tr.cnts q.wh (Tr.cnts [q.result] (fmW m n q.formals) m) m) m
def pcsW (m : Int) : Int → List Pc → Int
 | n, [] => n
 | n, q :: r => if n + 1 > m then n + 1 else pcsW m (pcW m (n + 1) q) r
def Pg.weight (p : Pg) (m : Int) : Int := pcsW m (Tr.cnts p.globals 0 m) p.procs
theorem fmW_bd (m : Int) (h : 0 ≤ m) : ∀ (l : List Fm) (n : Int), n ≤ fmW m n l ∧ fmW m n l ≤ max n m + l.length
 | [], n => by rw [fmW]; simp; omega
 | f :: r, n => by
  rw [fmW]
  have h1 := cnts_bdx [f.ty] (n + 1) m h
  have h2 := fmW_bd m h r (Tr.cnts [f.ty] (n + 1) m)
  rw [List.length_cons]
  omega
def Fm.long (f : Fm) : Bool := (decide ((f.intent.size : Int) > 300) || decide ((f.nm.size : Int) > 300)) || f.ty.long
def Pc.long (q : Pc) : Bool := (((decide ((q.nm.size : Int) > 300) || q.result.long) || q.wh.any Tr.long) || q.body.any Tr.long) || q.formals.any Fm.long
def Pg.few (p : Pg) (m : Int) : Bool := if (decide (p.weight m > m) || p.globals.any Tr.long) = true then false else !(p.procs.any Pc.long)
def fmT : List Fm → Nat
 | [] => 0
 | f :: r => 1 + f.ty.size + fmT r
def pcT (q : Pc) : Nat := fmT q.formals + q.result.size + Tr.sizes q.wh + Tr.sizes q.body
def pcsT : List Pc → Nat
 | [] => 0
 | q :: r => 1 + pcT q + pcsT r
def Pg.total (p : Pg) : Nat := Tr.sizes p.globals + pcsT p.procs
theorem cnts_eqx (ks : List Tr) (n m : Int) (h : 0 ≤ m) (h3 : Tr.cnts ks n m ≤ m) : Tr.cnts ks n m = n + Tr.sizes ks := by
 have h1 := (cnts_bdx ks n m h).1
 exact Tr.cnts_eq ks n m h (by omega) h3
theorem fmW_eq (m : Int) (h : 0 ≤ m) : ∀ (l : List Fm) (n : Int), fmW m n l ≤ m → fmW m n l = n + fmT l
 | [], n, _ => by rw [fmW, fmT]; simp
 | f :: r, n, h3 => by
  rw [fmW] at h3 ⊢
  have h1 := (fmW_bd m h r (Tr.cnts [f.ty] (n + 1) m)).1
  have h2 := cnts_eqx [f.ty] (n + 1) m h (by omega)
  rw [fmW_eq m h r _ h3, h2, fmT]
  simp only [Tr.sizes]
  omega
theorem pcW_eq (m : Int) (h : 0 ≤ m) (n : Int) (q : Pc) (h3 : pcW m n q ≤ m) : pcW m n q = n + pcT q := by
 unfold pcW at h3 ⊢
 have h1 := (cnts_bdx q.body (Tr.cnts q.wh (Tr.cnts [q.result] (fmW m n q.formals) m) m) m h).1
 have h2 := (cnts_bdx q.wh (Tr.cnts [q.result] (fmW m n q.formals) m) m h).1
 have h4 := (cnts_bdx [q.result] (fmW m n q.formals) m h).1
 rw [cnts_eqx q.body _ m h h3, cnts_eqx q.wh _ m h (by omega), cnts_eqx [q.result] _ m h (by omega), fmW_eq m h _ _ (by omega), pcT]
 simp only [Tr.sizes]
 omega
theorem pcW_bd (m : Int) (h : 0 ≤ m) (n : Int) (q : Pc) : n ≤ pcW m n q ∧ pcW m n q ≤ max n m + q.formals.length + 1 := by
 unfold pcW
 have h1 := cnts_bdx q.body (Tr.cnts q.wh (Tr.cnts [q.result] (fmW m n q.formals) m) m) m h
 have h2 := cnts_bdx q.wh (Tr.cnts [q.result] (fmW m n q.formals) m) m h
 have h4 := cnts_bdx [q.result] (fmW m n q.formals) m h
 have h5 := fmW_bd m h q.formals n
 omega
theorem pcsW_le (m : Int) (h : 0 ≤ m) : ∀ (l : List Pc) (n : Int), n ≤ pcsW m n l
 | [], n => by rw [pcsW]; omega
 | q :: r, n => by
  rw [pcsW]
  split
  · omega
  · have h1 := (pcW_bd m h (n + 1) q).1
    have h2 := pcsW_le m h r (pcW m (n + 1) q)
    omega
theorem pcsW_eq (m : Int) (h : 0 ≤ m) : ∀ (l : List Pc) (n : Int), pcsW m n l ≤ m → pcsW m n l = n + pcsT l
 | [], n, _ => by rw [pcsW, pcsT]; simp
 | q :: r, n, h3 => by
  rw [pcsW] at h3 ⊢
  split at h3
  · omega
  · rename_i h4
    rw [if_neg h4]
    have h1 := pcsW_le m h r (pcW m (n + 1) q)
    rw [pcsW_eq m h r _ h3, pcW_eq m h (n + 1) q (by omega), pcsT]
    omega
theorem Pg.few_total {p : Pg} {m : Int} (h : 0 ≤ m) (hf : p.few m = true) : (p.total : Int) ≤ m ∧ p.globals.any Tr.long = false ∧ p.procs.any Pc.long = false := by
 unfold Pg.few at hf
 split at hf
 · cases hf
 · rename_i h1
   have h1' : (decide (p.weight m > m) || p.globals.any Tr.long) = false := by simpa using h1
   rw [Bool.or_eq_false_iff, decide_eq_false_iff_not] at h1'
   refine ⟨?_, h1'.2, by simpa using hf⟩
   have h2 : p.weight m ≤ m := by omega
   unfold Pg.weight at h2
   have h3 := pcsW_le m h p.procs (Tr.cnts p.globals 0 m)
   rw [pcsW_eq m h _ _ h2, cnts_eqx p.globals 0 m h (by omega)] at h2
   unfold Pg.total
   omega
theorem pcsW_drop {l : List Pc} {q : Pc} (h : l[z]? = some q) (m n : Int) : pcsW m n (l.drop z) = if n + 1 > m then n + 1 else pcsW m (pcW m (n + 1) q) (l.drop (z + 1)) := by
 obtain ⟨hlt, rfl⟩ := List.getElem?_eq_some_iff.1 h
 rw [List.drop_eq_getElem_cons hlt, pcsW]
theorem fmW_drop {l : List Fm} {f : Fm} (h : l[z]? = some f) (m n : Int) : fmW m n (l.drop z) = fmW m (Tr.cnts [f.ty] (n + 1) m) (l.drop (z + 1)) := by
 obtain ⟨hlt, rfl⟩ := List.getElem?_eq_some_iff.1 h
 rw [List.drop_eq_getElem_cons hlt, fmW]
theorem c138 (ts : List Fm) (g : FuncId) (fa fc : List D) (p : Fm → Bool) (hlim : ts.length ≤ 140737488355328)
 (hcb : ∀ x ∈ ts, Pf Try.prog g (fa ++ [x.d] ++ fc) (.d (.bool (p x)))) : Pf Try.prog 44 [.sl (ts.map Fm.d), .fn (.func g) fa fc] (.d (.int .i64 (idxL p ts))) := by
 refine pf_body (rvs := [.tmp 4]) [(0, .d (.sl (ts.map Fm.d))), (1, .d (.fn (.func g) fa fc))] Try.func44 Try.ntmps44 Try.results44 (fun S0 O0 w0 m0 hm0 => ?_)
 refine Z5 ?_;refine Z96 ?_;refine Z1 ?_
 refine vq rfl (q_len u55) ?_
 refine Z105 ?_
 refine g_loop (α := Nat) (fun z => ⟨[(8, .d (.int .i64 (z : Nat))), (7, .d (.int .i64 ((ts.map Fm.d).length : Nat))), (6, .d (.sl (ts.map Fm.d))), (1, .d (.fn (.func g) fa fc)), (0, .d (.sl (ts.map Fm.d)))], []⟩) (fun z => ts.length - z) (fun z => z ≤ ts.length ∧ ∀ i, i < z → ∀ x, ts[i]? = some x → p x = false) 0 ⟨Nat.zero_le _, by simp⟩ (fun z hz Q' hn0 he0 hr0 => ?_) (le_of)
 obtain ⟨hz1, hz2⟩ := hz
 refine Z107 ?_
 refine zgC ?_ ?_ <;> intro hb0
 ·
  have hlt : z < ts.length := by simpa using hb0
  obtain ⟨x, hx⟩ : ∃ x, ts[z]? = some x := ⟨_, gE hlt⟩
  have hmem := mG hx
  have hxd := fm_get hx
  have hcx := hcb x hmem
  unfold Fm.d at hcx
  refine Z25 ?_;refine Z1 ?_;refine Z90 ?_;refine Z108 ?_
  refine vq rfl (qI u55 sz60) ?_
  first | refine sv rfl (y_load_agg sz60 u60 rfl) ?_ | refine vq rfl (qG (by exact sz60) u60 rfl) ?_
  refine gL (xs := [.tmp 15]) rfl (hcx) ?_
  refine Z12 ?_
  refine zgC ?_ ?_ <;> intro hb1
  ·
   refine Z101 ?_;refine Z103 ?_;refine Z70 ?_;refine Z67 ?_
   exact Y5
  refine Z71 ?_;refine Z94 ?_
  refine hn0 _ (z + 1) ⟨by omega, idxL_step hz2 hx hb1⟩ (by omega) le_of
 have hge : z = ts.length := by
  have : ¬ (z : Int) < (ts.map Fm.d).length := by simpa using hb0
  rw [List.length_map] at this
  omega
 refine Z118 ?_;refine Z83 ?_
 exact Y6
theorem c70 (ts : List Fm) (g : FuncId) (fa fc : List D) (p : Fm → Bool) (hlim : ts.length ≤ 140737488355328)
 (hcb : ∀ x ∈ ts, Pf Try.prog g (fa ++ [x.d] ++ fc) (.d (.bool (p x)))) : Pf Try.prog 24 [.sl (ts.map Fm.d), .fn (.func g) fa fc] (.d (.bool (ts.any p))) := by
 refine pf_body (rvs := [.tmp 4]) [(0, .d (.sl (ts.map Fm.d))), (1, .d (.fn (.func g) fa fc))] Try.func24 Try.ntmps24 Try.results24 (fun S0 O0 w0 m0 hm0 => ?_)
 refine Z100 ?_;refine Z1 ?_
 refine gL (xs := [.tmp 5, .tmp 6]) rfl (c138 ts g fa fc p hlim hcb) ?_
 refine Z58 ?_;refine Z85 ?_
 exact ⟨by rw [idxL_any], rfl⟩
theorem c123g (ts : List Pc) (g : FuncId) (fa fc : List D) (p : Pc → Bool) (hlim : ts.length ≤ 140737488355328)
 (hcb : ∀ x ∈ ts, Pf Try.prog g (fa ++ [x.d] ++ fc) (.d (.bool (p x)))) : Pf Try.prog 43 [.sl (ts.map Pc.d), .fn (.func g) fa fc] (.d (.int .i64 (idxL p ts))) := by
 refine pf_body (rvs := [.tmp 4]) [(0, .d (.sl (ts.map Pc.d))), (1, .d (.fn (.func g) fa fc))] Try.func43 Try.ntmps43 Try.results43 (fun S0 O0 w0 m0 hm0 => ?_)
 refine Z5 ?_;refine Z96 ?_;refine Z1 ?_
 refine vq rfl (q_len u23) ?_
 refine Z105 ?_
 refine g_loop (α := Nat) (fun z => ⟨[(8, .d (.int .i64 (z : Nat))), (7, .d (.int .i64 ((ts.map Pc.d).length : Nat))), (6, .d (.sl (ts.map Pc.d))), (1, .d (.fn (.func g) fa fc)), (0, .d (.sl (ts.map Pc.d)))], []⟩) (fun z => ts.length - z) (fun z => z ≤ ts.length ∧ ∀ i, i < z → ∀ x, ts[i]? = some x → p x = false) 0 ⟨Nat.zero_le _, by simp⟩ (fun z hz Q' hn0 he0 hr0 => ?_) (le_of)
 obtain ⟨hz1, hz2⟩ := hz
 refine Z107 ?_
 refine zgC ?_ ?_ <;> intro hb0
 ·
  have hlt : z < ts.length := by simpa using hb0
  obtain ⟨x, hx⟩ : ∃ x, ts[z]? = some x := ⟨_, gE hlt⟩
  have hmem := mG hx
  have hxd := pc_get hx
  have hcx := hcb x hmem
  unfold Pc.d at hcx
  refine Z25 ?_;refine Z1 ?_;refine Z90 ?_;refine Z108 ?_
  refine vq rfl (qI u23 sz57) ?_
  first | refine sv rfl (y_load_agg sz57 u57 rfl) ?_ | refine vq rfl (qG (by exact sz57) u57 rfl) ?_
  refine gL (xs := [.tmp 15]) rfl (hcx) ?_
  refine Z12 ?_
  refine zgC ?_ ?_ <;> intro hb1
  ·
   refine Z101 ?_;refine Z103 ?_;refine Z70 ?_;refine Z67 ?_
   exact Y5
  refine Z71 ?_;refine Z94 ?_
  refine hn0 _ (z + 1) ⟨by omega, idxL_step hz2 hx hb1⟩ (by omega) le_of
 have hge : z = ts.length := by
  have : ¬ (z : Int) < (ts.map Pc.d).length := by simpa using hb0
  rw [List.length_map] at this
  omega
 refine Z118 ?_;refine Z83 ?_
 exact Y6
theorem c63g (ts : List Pc) (g : FuncId) (fa fc : List D) (p : Pc → Bool) (hlim : ts.length ≤ 140737488355328)
 (hcb : ∀ x ∈ ts, Pf Try.prog g (fa ++ [x.d] ++ fc) (.d (.bool (p x)))) : Pf Try.prog 22 [.sl (ts.map Pc.d), .fn (.func g) fa fc] (.d (.bool (ts.any p))) := by
 refine pf_body (rvs := [.tmp 4]) [(0, .d (.sl (ts.map Pc.d))), (1, .d (.fn (.func g) fa fc))] Try.func22 Try.ntmps22 Try.results22 (fun S0 O0 w0 m0 hm0 => ?_)
 refine Z100 ?_;refine Z1 ?_
 refine gL (xs := [.tmp 5, .tmp 6]) rfl (c123g ts g fa fc p hlim hcb) ?_
 refine Z58 ?_;refine Z85 ?_
 exact ⟨by rw [idxL_any], rfl⟩
theorem t_eta (t : Tr) : t.d = .agg [.int .i64 t.op, .str t.nm, .int .i64 t.nu, .sl (t.kids.map Tr.d)] := t.d_eta
theorem c71 (f : Fm) (hok : f.Ok) : Pf Try.prog 25 [f.d] (.d (.bool f.long)) := by
 refine pf_body (rvs := [.tmp 2]) [(0, .d (.agg [.str f.intent, .str f.nm, .int .i64 f.ty.op, .str f.ty.nm, .int .i64 f.ty.nu, .sl (f.ty.kids.map Tr.d)]))] Try.func25 Try.ntmps25 Try.results25 (fun S0 O0 w0 m0 hm0 => ?_)
 refine Z5 ?_
 have q68 := c68n _ f.ty (Nat.le_refl _) hok.t
 rw [t_eta] at q68
 refine Z19 ?_
 refine gF 0 [] (.agg [.str f.intent, .str f.nm, .int .i64 f.ty.op, .str f.ty.nm, .int .i64 f.ty.nu, .sl (f.ty.kids.map Tr.d)]) rfl ?_
 refine Z84 ?_
 first | refine sv rfl (y_fieldAt 0 u60 rfl sz9) ?_ | refine vq rfl (q_fieldAddr u60 rfl sz9) ?_ | refine vq rfl (qF u60 rfl sz9) ?_
 first | refine sv rfl (y_load_leaf u9) ?_ | refine vq rfl (qL u9) ?_
 refine Z56 ?_;refine Z63 ?_;refine Z1 ?_
 first | refine sg rfl (fun hg => q_fieldAddr u60 rfl sz9) ?_ | refine sg rfl (fun hg => qF u60 rfl sz9) ?_
 first | refine sg rfl (fun hg => sP 8 rfl hg (qO u9)) ?_ | refine sg rfl (fun hg => sP 8 rfl hg (qL u9)) ?_
 refine sg rfl (fun hg => sP 9 rfl hg (q_lenstr u9)) ?_
 refine sg rfl (fun hg => sP 10 rfl hg q_gtr) ?_
 refine Z16 ?_;refine Z1 ?_
 first | refine sg rfl (fun hg => q_fieldAddr u60 rfl sz27) ?_ | refine sg rfl (fun hg => q_fieldp_agg u60 rfl sz27) ?_
 first | refine sg rfl (fun hg => sP 14 rfl hg (q_load_agg sz27 u27 rfl)) ?_ | refine sg rfl (fun hg => sP 14 rfl hg (qG (by exact sz27) u27 rfl)) ?_
 refine g_callg (xs := [.tmp 15]) rfl (fun hg => q68) ?_
 refine Z16 ?_;refine Z85 ?_
 exact ⟨by unfold Fm.long; rfl, rfl⟩
set_option maxHeartbeats 4000000 in
theorem c69 (q : Pc) (hok : q.Ok) : Pf Try.prog 23 [q.d] (.d (.bool q.long)) := by
 refine pf_body (rvs := [.tmp 2]) [(0, .d (.agg [.str q.nm, .bool q.iter, .bool q.priv, .sl (q.formals.map Fm.d), .int .i64 q.result.op, .str q.result.nm, .int .i64 q.result.nu, .sl (q.result.kids.map Tr.d), .sl (q.wh.map Tr.d), .sl (q.body.map Tr.d)]))] Try.func23 Try.ntmps23 Try.results23 (fun S0 O0 w0 m0 hm0 => ?_)
 refine Z5 ?_
 have q68 := c68n _ q.result (Nat.le_refl _) hok.r
 rw [t_eta] at q68
 have qw := c52 q.wh 21 [] [] Tr.long hok.w.1 (fun x hx => c68n _ x (Nat.le_refl _) (hok.w.2 x hx))
 have qb := c52 q.body 21 [] [] Tr.long hok.b.1 (fun x hx => c68n _ x (Nat.le_refl _) (hok.b.2 x hx))
 have qf := c70 q.formals 25 [] [] Fm.long hok.fl (fun x hx => c71 x (hok.f x hx))
 refine Z19 ?_
 refine gF 0 [] (.agg [.str q.nm, .bool q.iter, .bool q.priv, .sl (q.formals.map Fm.d), .int .i64 q.result.op, .str q.result.nm, .int .i64 q.result.nu, .sl (q.result.kids.map Tr.d), .sl (q.wh.map Tr.d), .sl (q.body.map Tr.d)]) rfl ?_
 refine Z84 ?_
 first | refine sv rfl (y_fieldAt 0 u57 rfl sz9) ?_ | refine vq rfl (q_fieldAddr u57 rfl sz9) ?_ | refine vq rfl (qF u57 rfl sz9) ?_
 first | refine sv rfl (y_load_leaf u9) ?_ | refine vq rfl (qL u9) ?_
 refine Z56 ?_;refine Z63 ?_;refine Z1 ?_
 first | refine sg rfl (fun hg => q_fieldAddr u57 rfl sz27) ?_ | refine sg rfl (fun hg => q_fieldp_agg u57 rfl sz27) ?_
 first | refine sg rfl (fun hg => sP 8 rfl hg (q_load_agg sz27 u27 rfl)) ?_ | refine sg rfl (fun hg => sP 8 rfl hg (qG (by exact sz27) u27 rfl)) ?_
 refine g_callg (xs := [.tmp 9]) rfl (fun hg => q68) ?_
 refine Z16 ?_;refine Z1 ?_
 first | refine sg rfl (fun hg => q_fieldAddr u57 rfl sz22) ?_ | refine sg rfl (fun hg => qF u57 rfl sz22) ?_
 first | refine sg rfl (fun hg => sP 13 rfl hg (qO u22)) ?_ | refine sg rfl (fun hg => sP 13 rfl hg (qL u22)) ?_
 refine g_callg (xs := [.tmp 14, .func 21]) rfl (fun hg => qw) ?_
 refine Z16 ?_;refine Z1 ?_
 first | refine sg rfl (fun hg => q_fieldAddr u57 rfl sz22) ?_ | refine sg rfl (fun hg => qF u57 rfl sz22) ?_
 first | refine sg rfl (fun hg => sP 18 rfl hg (qO u22)) ?_ | refine sg rfl (fun hg => sP 18 rfl hg (qL u22)) ?_
 refine g_callg (xs := [.tmp 19, .func 21]) rfl (fun hg => qb) ?_
 refine Z16 ?_;refine Z1 ?_
 first | refine sg rfl (fun hg => q_fieldAddr u57 rfl sz55) ?_ | refine sg rfl (fun hg => qF u57 rfl sz55) ?_
 first | refine sg rfl (fun hg => sP 23 rfl hg (qO u55)) ?_ | refine sg rfl (fun hg => sP 23 rfl hg (qL u55)) ?_
 refine g_callg (xs := [.tmp 24, .func 25]) rfl (fun hg => qf) ?_
 refine Z16 ?_;refine Z85 ?_
 exact ⟨by unfold Pc.long; rfl, rfl⟩
theorem c137g (ks : List Tr) (n most : Int) (h4 : ks.length ≤ 140737488355328) (h5 : ∀ k ∈ ks, k.Ok) (hm0' : 0 ≤ most) (hm1' : most ≤ 1000000) (hn0 : 0 ≤ n) (hn1 : n ≤ 1000000000000000) : Gm Try.prog 41 [.d (.sl (ks.map Tr.d)), .ref 0 0, .d (.ptr (.int .i64 most))] [[.d (.int .i64 n)]] (.tup []) [[.d (.int .i64 (Tr.cnts ks n most))]] := by
 refine gm_body (rvs := []) 1 [(0, .d (.sl (ks.map Tr.d))), (1, .ref 0 0), (2, .d (.ptr (.int .i64 most)))] Try.func41 Try.ntmps41 Try.results41 (fun S0 O0 w0 m0 hm0 => ?_)
 refine Z101 ?_;refine Z39 ?_;refine Z105 ?_
 refine g_loop (α := Nat × Int) (fun z => ⟨[(8, .d (.int .i64 (z.1 : Nat))), (7, .d (.int .i64 ((ks.map Tr.d).length : Nat))), (6, .d (.sl (ks.map Tr.d))), (1, .ref 0 0), (2, .d (.ptr (.int .i64 most)))], [[.d (.int .i64 z.2)]]⟩) (fun z => ks.length - z.1) (fun z => z.1 ≤ ks.length ∧ 0 ≤ z.2 ∧ z.2 ≤ 1000000000000000 ∧ Tr.cnts (ks.drop z.1) z.2 most = Tr.cnts ks n most) (0, n) ⟨Nat.zero_le _, hn0, hn1, rfl⟩ (fun z hz Q' hn0 he0 hr0 => ?_) (le_of)
 obtain ⟨z, c⟩ := z
 obtain ⟨hz1, hc1, hc2, hc3⟩ := hz
 replace hz1 : z ≤ ks.length := hz1
 replace hc1 : 0 ≤ c := hc1
 replace hc2 : c ≤ 1000000000000000 := hc2
 replace hc3 : Tr.cnts (ks.drop z) c most = Tr.cnts ks n most := hc3
 refine Z107 ?_
 refine zgC ?_ ?_ <;> intro hb0
 ·
  have hlt : z < ks.length := by simpa using hb0
  obtain ⟨k, hk⟩ : ∃ k, ks[z]? = some k := ⟨_, gE hlt⟩
  have hmem := mG hk
  have hxd := Tr.ds_get hk
  have hxa := hxd
  obtain ⟨kop, knm, knu, kks, hka⟩ := k.d_agg
  rw [hka] at hxa
  refine Z25 ?_;refine Z68 ?_
  first | refine sv rfl (y_load_agg sz27 u27 rfl) ?_ | refine vq rfl (qG (by exact sz27) u27 rfl) ?_
  refine Z62 ?_
  first | refine sa rfl (dS sz27) ?_ | refine sa rfl (d_store_take sz27) ?_
  refine gF 1 [[.d (.int .i64 c)]] (.agg [.int .i64 kop, .str knm, .int .i64 knu, .sl (kks.map Tr.d)]) rfl ?_
  refine Z7 ?_
  first | refine sv rfl (y_load_leaf u3) ?_ | refine vq rfl (qL u3) ?_
  first | refine sv rfl (y_load_leaf u3) ?_ | refine vq rfl (qL u3) ?_
  refine vq rfl q_leq ?_
  refine Z12 ?_
  refine zgC ?_ ?_ <;> intro hb1
  ·
   have hnn : ¬ c > most := by simpa using hb1
   have hbd := Tr.cnt_bd k (most - c) (by omega)
   refine G_drawB 8 rfl (by kernel_rfl) (fun S1 O1 w1 m1 hm1 hm2 => ?_)
   have hB1 : ∀ i, i < m1.length → (List.range m1.length).contains i = true := fun i hi => by simpa using hi
   first | refine bq 1 hB1 rfl (q_load_agg sz27 u27 rfl) ?_ | refine bq 1 hB1 rfl (qG (by exact sz27) u27 rfl) ?_
   first | refine bq 2 hB1 rfl (qO u3) ?_ | refine bq 2 hB1 rfl (qL u3) ?_
   refine GB_go ?_
   refine ga2 0 3 ?_ ?_
   ·
    first | refine sv rfl (y_load_leaf u3) ?_ | refine vq rfl (qL u3) ?_
    refine gN ⟨rfl, ?_⟩
    refine ga1 3 ?_
    first | refine sv rfl (y_load_leaf u3) ?_ | refine vq rfl (qL u3) ?_
    refine gN ⟨rfl, ?_⟩
    refine ga1 4 ?_
    refine vq rfl q_sub ?_
    refine gN ⟨rfl, ?_⟩
    refine ga1 5 ?_
    refine Z38 ?_
    refine gN ⟨rfl, ?_⟩
    refine ga1 6 ?_
    refine Z15 ?_
    refine gN ⟨rfl, ?_⟩
    refine ga1 7 ?_
    first | refine sa rfl (dS sz3) ?_ | refine sa rfl (d_store_take sz3) ?_
    refine gN ⟨rfl, ?_⟩
    refine GA_done (by kernel_rfl) ?_
    refine bN (tN ?_)
    refine gP [0, 1, 2, 5, 6, 7, 8] ?_
    refine Z22 ?_;refine Z94 ?_
    refine hn0 _ (z + 1, c + k.cnt (most - c)) ⟨by show z + 1 ≤ ks.length; omega, by show 0 ≤ c + k.cnt (most - c); omega, by show c + k.cnt (most - c) ≤ 1000000000000000; omega, by show Tr.cnts (ks.drop (z + 1)) (c + k.cnt (most - c)) most = _; rw [← Tr.cnts_drop hk c most hnn]; exact hc3⟩ (by show ks.length - (z + 1) < ks.length - z; omega) le_of
   first | refine sv rfl (y_load_leaf u3) ?_ | refine vq rfl (qL u3) ?_
   refine gN ⟨rfl, ?_⟩
   refine ga2 0 4 ?_ ?_
   ·
    first | refine sv rfl (y_load_leaf u3) ?_ | refine vq rfl (qL u3) ?_
    refine gN ⟨rfl, ?_⟩
    refine ga1 4 ?_
    refine vq rfl q_sub ?_
    refine gN ⟨rfl, ?_⟩
    refine ga1 5 ?_
    refine Z38 ?_
    refine gN ⟨rfl, ?_⟩
    refine ga1 6 ?_
    refine Z15 ?_
    refine gN ⟨rfl, ?_⟩
    refine ga1 7 ?_
    first | refine sa rfl (dS sz3) ?_ | refine sa rfl (d_store_take sz3) ?_
    refine gN ⟨rfl, ?_⟩
    refine GA_done (by kernel_rfl) ?_
    refine bN (tN ?_)
    refine gP [0, 1, 2, 5, 6, 7, 8] ?_
    refine Z22 ?_;refine Z94 ?_
    refine hn0 _ (z + 1, c + k.cnt (most - c)) ⟨by show z + 1 ≤ ks.length; omega, by show 0 ≤ c + k.cnt (most - c); omega, by show c + k.cnt (most - c) ≤ 1000000000000000; omega, by show Tr.cnts (ks.drop (z + 1)) (c + k.cnt (most - c)) most = _; rw [← Tr.cnts_drop hk c most hnn]; exact hc3⟩ (by show ks.length - (z + 1) < ks.length - z; omega) le_of
   refine vq rfl q_sub ?_
   refine gN ⟨rfl, ?_⟩
   refine ga2 0 5 ?_ ?_
   ·
    first | refine sv rfl (y_load_leaf u3) ?_ | refine vq rfl (qL u3) ?_
    refine gN ⟨rfl, ?_⟩
    refine ga1 5 ?_
    refine Z38 ?_
    refine gN ⟨rfl, ?_⟩
    refine ga1 6 ?_
    refine Z15 ?_
    refine gN ⟨rfl, ?_⟩
    refine ga1 7 ?_
    first | refine sa rfl (dS sz3) ?_ | refine sa rfl (d_store_take sz3) ?_
    refine gN ⟨rfl, ?_⟩
    refine GA_done (by kernel_rfl) ?_
    refine bN (tN ?_)
    refine gP [0, 1, 2, 5, 6, 7, 8] ?_
    refine Z22 ?_;refine Z94 ?_
    refine hn0 _ (z + 1, c + k.cnt (most - c)) ⟨by show z + 1 ≤ ks.length; omega, by show 0 ≤ c + k.cnt (most - c); omega, by show c + k.cnt (most - c) ≤ 1000000000000000; omega, by show Tr.cnts (ks.drop (z + 1)) (c + k.cnt (most - c)) most = _; rw [← Tr.cnts_drop hk c most hnn]; exact hc3⟩ (by show ks.length - (z + 1) < ks.length - z; omega) le_of
   refine Z38 ?_
   refine gN ⟨rfl, ?_⟩
   refine ga1 0 ?_
   first | refine sv rfl (y_load_leaf u3) ?_ | refine vq rfl (qL u3) ?_
   refine gN ⟨rfl, ?_⟩
   refine ga1 6 ?_
   refine Z15 ?_
   refine gN ⟨rfl, ?_⟩
   refine ga1 7 ?_
   first | refine sa rfl (dS sz3) ?_ | refine sa rfl (d_store_take sz3) ?_
   refine gN ⟨rfl, ?_⟩
   refine GA_done (by kernel_rfl) ?_
   refine bN (tN ?_)
   refine gP [0, 1, 2, 5, 6, 7, 8] ?_
   refine Z22 ?_;refine Z94 ?_
   refine hn0 _ (z + 1, c + k.cnt (most - c)) ⟨by show z + 1 ≤ ks.length; omega, by show 0 ≤ c + k.cnt (most - c); omega, by show c + k.cnt (most - c) ≤ 1000000000000000; omega, by show Tr.cnts (ks.drop (z + 1)) (c + k.cnt (most - c)) most = _; rw [← Tr.cnts_drop hk c most hnn]; exact hc3⟩ (by show ks.length - (z + 1) < ks.length - z; omega) le_of
  have hnn : c > most := by simpa using hb1
  refine Z71 ?_;refine Z94 ?_
  refine hn0 _ (z + 1, c) ⟨by show z + 1 ≤ ks.length; omega, hc1, hc2, by show Tr.cnts (ks.drop (z + 1)) c most = _; rw [← hc3, Tr.cnts_stop _ hnn, Tr.cnts_stop _ hnn]⟩ (by show ks.length - (z + 1) < ks.length - z; omega) le_of
 have hge : z = ks.length := by
  have : ¬ (z : Int) < (ks.map Tr.d).length := by simpa using hb0
  rw [List.length_map] at this
  omega
 refine Z109 ?_
 refine blk_exit ?_
 exact ⟨by simp, .inl ⟨[], [[.d (.int .i64 c)]], .nil, Nat.le_refl _, MSub.cons (CSub.cons (.inl rfl) rfl .nil) .nil, rfl, rfl, by rw [← hc3, hge, List.drop_length, Tr.cnts]⟩⟩
set_option maxHeartbeats 16000000 in
theorem c67g (p : Pg) (most : Int) (hok : p.Ok) (hm0' : 0 ≤ most) (hm1' : most ≤ 1000000) : Pf Try.prog 19 [.agg [.sl (p.globals.map Tr.d), .sl (p.procs.map Pc.d)], .int .i64 most] (.d (.int .i64 (p.weight most))) := by
 refine pf_body (rvs := [.tmp 4]) [(0, .d (.agg [.sl (p.globals.map Tr.d), .sl (p.procs.map Pc.d)])), (1, .d (.int .i64 most))] Try.func19 Try.ntmps19 Try.results19 (fun S0 O0 w0 m0 hm0 => ?_)
 refine Z91 ?_
 refine gF 0 [] (.agg [.sl (p.globals.map Tr.d), .sl (p.procs.map Pc.d)]) rfl ?_
 refine Z19 ?_
 refine gF 0 [] (.int .i64 most) rfl ?_
 refine Z84 ?_
 refine sv rfl (y_alloc zr3) ?_
 refine sa rfl (dS sz3) ?_
 refine Z7 ?_
 refine vq rfl (q_makeFunc (xs := []) (ys := [.tmp 5, .tmp 3])) ?_
 refine Z84 ?_
 have hg0 := cnts_bdx p.globals 0 most hm0'
 refine Z1 ?_
 first | refine sv rfl (y_fieldAt 0 u25 rfl sz22) ?_ | refine vq rfl (q_fieldAddr u25 rfl sz22) ?_ | refine vq rfl (qF u25 rfl sz22) ?_
 first | refine sv rfl (y_load_leaf u22) ?_ | refine vq rfl (qL u22) ?_
 refine g_callm [0] (xs := [.tmp 14]) rfl (c137g p.globals (0) most hok.g.1 hok.g.2 hm0' hm1' (by omega) (by omega)) ?_
 refine Z13 ?_
 first | refine sv rfl (y_fieldAt 1 u25 rfl sz23) ?_ | refine vq rfl (q_fieldAddr u25 rfl sz23) ?_ | refine vq rfl (qF u25 rfl sz23) ?_
 first | refine sv rfl (y_load_leaf u23) ?_ | refine vq rfl (qL u23) ?_
 refine vq rfl (q_len u23) ?_
 refine Z105 ?_
 refine g_loop (α := Nat × Int) (fun z => ⟨[(19, .d (.int .i64 (z.1 : Nat))), (18, .d (.int .i64 ((p.procs.map Pc.d).length : Nat))), (17, .d (.sl (p.procs.map Pc.d))), (5, .ref 0 0), (6, .fn (.func 41) [] [.ref 0 0, .d (.ptr (.int .i64 most))]), (3, .d (.ptr (.int .i64 most)))], [[.d (.int .i64 z.2)]]⟩) (fun z => p.procs.length - z.1) (fun z => z.1 ≤ p.procs.length ∧ 0 ≤ z.2 ∧ z.2 ≤ 200000000000000 ∧ pcsW most z.2 (p.procs.drop z.1) = p.weight most) (0, Tr.cnts p.globals 0 most) ⟨Nat.zero_le _, by show 0 ≤ Tr.cnts p.globals 0 most; omega, by show Tr.cnts p.globals 0 most ≤ 200000000000000; omega, rfl⟩ (fun z hz Q' hn0 he0 hr0 => ?_) (le_of)
 have hpl := hok.pl
 obtain ⟨z, n⟩ := z
 obtain ⟨hz1, hz2, hz3, hz4⟩ := hz
 replace hz1 : z ≤ p.procs.length := hz1
 replace hz2 : 0 ≤ n := hz2
 replace hz3 : n ≤ 200000000000000 := hz3
 replace hz4 : pcsW most n (p.procs.drop z) = p.weight most := hz4
 refine Z107 ?_
 refine zgC ?_ ?_ <;> intro hb0
 ·
  have hlt : z < p.procs.length := by simpa using hb0
  obtain ⟨q, hq⟩ : ∃ q, p.procs[z]? = some q := ⟨_, gE hlt⟩
  have hqd := pc_get hq
  have hqo := hok.p q (mG hq)
  rw [pcsW_drop hq] at hz4
  have hwr : IntKind.i64.wrap (n + 1) = n + 1 := wrap_i64 (by omega) (by omega)
  refine Z25 ?_
  refine vq rfl (qI u23 sz57) ?_
  first | refine sv rfl (y_load_agg sz57 u57 rfl) ?_ | refine vq rfl (qG (by exact sz57) u57 rfl) ?_
  refine sv rfl (y_alloc zr57) ?_
  first | refine sa rfl (dS sz57) ?_ | refine sa rfl (d_store_take sz57) ?_
  refine gF 1 [[.d (.int .i64 n)]] (.agg [.str q.nm, .bool q.iter, .bool q.priv, .sl (q.formals.map Fm.d), .int .i64 q.result.op, .str q.result.nm, .int .i64 q.result.nu, .sl (q.result.kids.map Tr.d), .sl (q.wh.map Tr.d), .sl (q.body.map Tr.d)]) rfl ?_
  refine Z13 ?_
  first | refine sv rfl (y_load_leaf u3) ?_ | refine vq rfl (qL u3) ?_
  refine vq rfl (q_add (hw := hwr)) ?_
  first | refine sa rfl (dS sz3) ?_ | refine sa rfl (d_store_take sz3) ?_
  refine Z7 ?_
  first | refine sv rfl (y_load_leaf u3) ?_ | refine vq rfl (qL u3) ?_
  first | refine sv rfl (y_load_leaf u3) ?_ | refine vq rfl (qL u3) ?_
  refine Z63 ?_;refine Z12 ?_
  refine zgC ?_ ?_ <;> intro hb1
  ·
   have hgt : n + 1 > most := by simpa using hb1
   refine G_exit (thn_exit (blk_other (by decide) (thn_exit ?_)))
   refine Z51 ?_;refine Z31 ?_
   first | refine sv rfl (y_load_leaf u3) ?_ | refine vq rfl (qL u3) ?_
   refine Z85 ?_
   exact ⟨by rw [← hz4, if_pos hgt], rfl⟩
  have hgt : ¬ n + 1 > most := by simpa using hb1
  rw [if_neg hgt] at hz4
  have hpb := pcW_bd most hm0' (n + 1) q
  have hfl := hqo.fl
  refine gK (tN (zgS (zgS (gR ?_))))
  first | refine sv rfl (y_fieldAt 3 u57 rfl sz55) ?_ | refine vq rfl (q_fieldAddr u57 rfl sz55) ?_ | refine vq rfl (qF u57 rfl sz55) ?_
  first | refine sv rfl (y_load_leaf u55) ?_ | refine vq rfl (qL u55) ?_
  refine vq rfl (q_len u55) ?_
  refine Z105 ?_
  refine g_loop (α := Nat × Int) (fun y => ⟨[(31, .d (.int .i64 (y.1 : Nat))), (30, .d (.int .i64 ((q.formals.map Fm.d).length : Nat))), (29, .d (.sl (q.formals.map Fm.d))), (8, .d (.ptr (.agg [.str q.nm, .bool q.iter, .bool q.priv, .sl (q.formals.map Fm.d), .int .i64 q.result.op, .str q.result.nm, .int .i64 q.result.nu, .sl (q.result.kids.map Tr.d), .sl (q.wh.map Tr.d), .sl (q.body.map Tr.d)]))), (19, .d (.int .i64 (z : Nat))), (18, .d (.int .i64 ((p.procs.map Pc.d).length : Nat))), (17, .d (.sl (p.procs.map Pc.d))), (5, .ref 0 0), (6, .fn (.func 41) [] [.ref 0 0, .d (.ptr (.int .i64 most))]), (3, .d (.ptr (.int .i64 most)))], [[.d (.int .i64 y.2)]]⟩) (fun y => q.formals.length - y.1) (fun y => y.1 ≤ q.formals.length ∧ 0 ≤ y.2 ∧ y.2 ≤ 300000000000000 ∧ fmW most y.2 (q.formals.drop y.1) = fmW most (n + 1) q.formals) (0, n + 1) ⟨Nat.zero_le _, by show 0 ≤ n + 1; omega, by show n + 1 ≤ 300000000000000; omega, rfl⟩ (fun y hy Q' hn1 he1 hr1 => ?_) (le_of)
  obtain ⟨y, c⟩ := y
  obtain ⟨hy1, hy2, hy3, hy4⟩ := hy
  replace hy1 : y ≤ q.formals.length := hy1
  replace hy2 : 0 ≤ c := hy2
  replace hy3 : c ≤ 300000000000000 := hy3
  replace hy4 : fmW most c (q.formals.drop y) = fmW most (n + 1) q.formals := hy4
  have hfb := fmW_bd most hm0' q.formals (n + 1)
  have hfb2 := fmW_bd most hm0' (q.formals.drop y) c
  rw [hy4] at hfb2
  refine Z107 ?_
  refine zgC ?_ ?_ <;> intro hb2
  ·
   have hlt2 : y < q.formals.length := by simpa using hb2
   obtain ⟨f, hf⟩ : ∃ f, q.formals[y]? = some f := ⟨_, gE hlt2⟩
   have hfd := fm_get hf
   have hfo := hqo.f f (mG hf)
   rw [fmW_drop hf] at hy4
   have hcb := cnts_bdx [f.ty] (c + 1) most hm0'
   have hfb3 := fmW_bd most hm0' (q.formals.drop (y + 1)) (Tr.cnts [f.ty] (c + 1) most)
   rw [hy4] at hfb3
   have hwr2 : IntKind.i64.wrap (c + 1) = c + 1 := wrap_i64 (by omega) (by omega)
   refine Z25 ?_
   refine vq rfl (qI u55 sz60) ?_
   first | refine sv rfl (y_load_agg sz60 u60 rfl) ?_ | refine vq rfl (qG (by exact sz60) u60 rfl) ?_
   refine sv rfl (y_alloc zr60) ?_
   first | refine sa rfl (dS sz60) ?_ | refine sa rfl (d_store_take sz60) ?_
   refine gF 1 [[.d (.int .i64 c)]] (.agg [.str f.intent, .str f.nm, .int .i64 f.ty.op, .str f.ty.nm, .int .i64 f.ty.nu, .sl (f.ty.kids.map Tr.d)]) rfl ?_
   refine Z7 ?_
   first | refine sv rfl (y_load_leaf u3) ?_ | refine vq rfl (qL u3) ?_
   refine vq rfl (q_add (hw := hwr2)) ?_
   first | refine sa rfl (dS sz3) ?_ | refine sa rfl (d_store_take sz3) ?_
   refine gN (tN (gR ?_))
   refine Z1 ?_
   refine vq rfl (q_fieldAgg [.int .i64 f.ty.op, .str f.ty.nm, .int .i64 f.ty.nu, .sl (f.ty.kids.map Tr.d)] u60 rfl sz27) ?_
   first | refine sv rfl (y_load_agg sz27 u27 rfl) ?_ | refine vq rfl (qG (by exact sz27) u27 rfl) ?_
   refine sv rfl (y_buildSlice (xs := [.tmp 39]) u22 inf27) ?_
   rw [show [D.agg [.int .i64 f.ty.op, .str f.ty.nm, .int .i64 f.ty.nu, .sl (f.ty.kids.map Tr.d)]] = [f.ty].map Tr.d from by rw [List.map_singleton, t_eta]]
   refine g_callm [0] (xs := [.tmp 40]) rfl (c137g [f.ty] (c + 1) most (by simp) (by intro x hx; rw [List.mem_singleton.1 hx]; exact hfo.t) hm0' hm1' (by omega) (by omega)) ?_
   refine gN (bN (tN (gR ?_)))
   refine Z94 ?_
   refine hn1 _ (y + 1, Tr.cnts [f.ty] (c + 1) most) ⟨by show y + 1 ≤ q.formals.length; omega, by show 0 ≤ Tr.cnts [f.ty] (c + 1) most; omega, by show Tr.cnts [f.ty] (c + 1) most ≤ 300000000000000; omega, hy4⟩ (by show q.formals.length - (y + 1) < q.formals.length - y; omega) le_of
  have hge2 : y = q.formals.length := by
   have : ¬ (y : Int) < (q.formals.map Fm.d).length := by simpa using hb2
   rw [List.length_map] at this
   omega
  rw [hge2, List.drop_length, fmW] at hy4
  subst hy4
  have hr0 := cnts_bdx [q.result] (fmW most (n + 1) q.formals) most hm0'
  have hr1 := cnts_bdx q.wh (Tr.cnts [q.result] (fmW most (n + 1) q.formals) most) most hm0'
  refine Z42 ?_
  refine he1 _ _ ?_
  refine Z31 ?_;refine Z1 ?_
  refine vq rfl (q_fieldAgg [.int .i64 q.result.op, .str q.result.nm, .int .i64 q.result.nu, .sl (q.result.kids.map Tr.d)] u57 rfl sz27) ?_
  first | refine sv rfl (y_load_agg sz27 u27 rfl) ?_ | refine vq rfl (qG (by exact sz27) u27 rfl) ?_
  refine sv rfl (y_buildSlice (xs := [.tmp 45]) u22 inf27) ?_
  rw [show [D.agg [.int .i64 q.result.op, .str q.result.nm, .int .i64 q.result.nu, .sl (q.result.kids.map Tr.d)]] = [q.result].map Tr.d from by rw [List.map_singleton, t_eta]]
  refine g_callm [0] (xs := [.tmp 46]) rfl (c137g [q.result] (fmW most (n + 1) q.formals) most (by simp) (by intro x hx; rw [List.mem_singleton.1 hx]; exact hqo.r) hm0' hm1' (by omega) (by omega)) ?_
  refine Z7 ?_;refine Z1 ?_
  first | refine sv rfl (y_fieldAt 8 u57 rfl sz22) ?_ | refine vq rfl (q_fieldAddr u57 rfl sz22) ?_ | refine vq rfl (qF u57 rfl sz22) ?_
  first | refine sv rfl (y_load_leaf u22) ?_ | refine vq rfl (qL u22) ?_
  refine g_callm [0] (xs := [.tmp 50]) rfl (c137g q.wh (Tr.cnts [q.result] (fmW most (n + 1) q.formals) most) most hqo.w.1 hqo.w.2 hm0' hm1' (by omega) (by omega)) ?_
  refine gN (tN (gR ?_))
  refine Z1 ?_
  first | refine sv rfl (y_fieldAt 9 u57 rfl sz22) ?_ | refine vq rfl (q_fieldAddr u57 rfl sz22) ?_ | refine vq rfl (qF u57 rfl sz22) ?_
  first | refine sv rfl (y_load_leaf u22) ?_ | refine vq rfl (qL u22) ?_
  refine g_callm [0] (xs := [.tmp 54]) rfl (c137g q.body (Tr.cnts q.wh (Tr.cnts [q.result] (fmW most (n + 1) q.formals) most) most) most hqo.b.1 hqo.b.2 hm0' hm1' (by omega) (by omega)) ?_
  refine gN (bN (tN (gR ?_)))
  refine Z94 ?_
  refine hn0 _ (z + 1, pcW most (n + 1) q) ⟨by show z + 1 ≤ p.procs.length; omega, by show 0 ≤ pcW most (n + 1) q; omega, by show pcW most (n + 1) q ≤ 200000000000000; omega, hz4⟩ (by show p.procs.length - (z + 1) < p.procs.length - z; omega) le_of
 have hge : z = p.procs.length := by
  have : ¬ (z : Int) < (p.procs.map Pc.d).length := by simpa using hb0
  rw [List.length_map] at this
  omega
 refine Z118 ?_
 first | refine sv rfl (y_load_leaf u3) ?_ | refine vq rfl (qL u3) ?_
 refine Z85 ?_
 exact ⟨by rw [← hz4, hge, List.drop_length, pcsW], rfl⟩
set_option maxHeartbeats 1000000 in
theorem c14g (p : Pg) (most : Int) (hok : p.Ok) (hm0' : 0 ≤ most) (hm1' : most ≤ 1000000) : Pf Try.prog 5 [.agg [.sl (p.globals.map Tr.d), .sl (p.procs.map Pc.d)], .int .i64 most] (.d (.bool (p.few most))) := by
 refine pf_body (rvs := [.tmp 4]) [(0, .d (.agg [.sl (p.globals.map Tr.d), .sl (p.procs.map Pc.d)])), (1, .d (.int .i64 most))] Try.func5 Try.ntmps5 Try.results5 (fun S0 O0 w0 m0 hm0 => ?_)
 refine Z91 ?_
 refine gF 0 [] (.agg [.sl (p.globals.map Tr.d), .sl (p.procs.map Pc.d)]) rfl ?_
 refine Z96 ?_
 first | refine sv rfl (y_load_agg sz25 u25 rfl) ?_ | refine vq rfl (qG (by exact sz25) u25 rfl) ?_
 refine Z1 ?_
 refine gL (xs := [.tmp 5, .tmp 6]) rfl (c67g p most hok hm0' hm1') ?_
 refine Z1 ?_;refine Z63 ?_;refine Z1 ?_
 first | refine sg rfl (fun hg => q_fieldAddr u25 rfl sz22) ?_ | refine sg rfl (fun hg => qF u25 rfl sz22) ?_
 first | refine sg rfl (fun hg => sP 11 rfl hg (qO u22)) ?_ | refine sg rfl (fun hg => sP 11 rfl hg (qL u22)) ?_
 refine g_callg (xs := [.tmp 12, .func 21]) rfl (fun hg => c52 p.globals 21 [] [] Tr.long hok.g.1 (fun x hx => c68n _ x (Nat.le_refl _) (hok.g.2 x hx))) ?_
 refine Z111 ?_
 refine zgC ?_ ?_ <;> intro hb0
 ·
  refine Z49 ?_
  refine gP [0, 1, 2, 4] ?_
  refine Z22 ?_;refine Z102 ?_
  exact ⟨by unfold Pg.few; rw [if_pos hb0], rfl⟩
 refine Z66 ?_
 refine gP [0, 1, 2, 4] ?_
 refine Z22 ?_
 first | refine sv rfl (y_fieldAt 1 u25 rfl sz23) ?_ | refine vq rfl (q_fieldAddr u25 rfl sz23) ?_ | refine vq rfl (qF u25 rfl sz23) ?_
 first | refine sv rfl (y_load_leaf u23) ?_ | refine vq rfl (qL u23) ?_
 refine gL (xs := [.tmp 16, .func 23]) rfl (c63g p.procs 23 [] [] Pc.long hok.pl (fun x hx => c69 x (hok.p x hx))) ?_
 refine Z47 ?_;refine Z85 ?_
 exact ⟨by unfold Pg.few; rw [if_neg (by rw [show (decide (p.weight most > most) || p.globals.any Tr.long) = false from hb0]; decide)], rfl⟩
end
section
theorem c1_4 : Try.prog.cellsOf 4 = 1 := by kernel_rfl
theorem c1_23 : Try.prog.cellsOf 23 = 1 := by kernel_rfl
theorem c1_79 : Try.prog.cellsOf 55 = 1 := by kernel_rfl
theorem c1_25 : Try.prog.cellsOf 25 = 2 := by kernel_rfl
theorem c1_81 : Try.prog.cellsOf 57 = 10 := by kernel_rfl
theorem c1_102 : Try.prog.cellsOf 60 = 6 := by kernel_rfl
theorem list6 : ∀ (ds : List D), ds.length = 6 → ∃ d0 d1 d2 d3 d4 d5, ds = [d0, d1, d2, d3, d4, d5]
 | [d0, d1, d2, d3, d4, d5], _ => ⟨d0, d1, d2, d3, d4, d5, rfl⟩
theorem list10 : ∀ (ds : List D), ds.length = 10 → ∃ d0 d1 d2 d3 d4 d5 d6 d7 d8 d9, ds = [d0, d1, d2, d3, d4, d5, d6, d7, d8, d9]
 | [d0, d1, d2, d3, d4, d5, d6, d7, d8, d9], _ => ⟨d0, d1, d2, d3, d4, d5, d6, d7, d8, d9, rfl⟩
theorem list2d : ∀ (ds : List D), ds.length = 2 → ∃ d0 d1, ds = [d0, d1]
 | [d0, d1], _ => ⟨d0, d1, rfl⟩
theorem node_cells {d0 d1 d2 d3 : D} {t : Tr} (h : D.agg [d0, d1, d2, d3] = t.d) : d0 = .int .i64 t.op ∧ d1 = .str t.nm ∧ d2 = .int .i64 t.nu ∧ d3 = .sl (t.kids.map Tr.d) := by
 rw [t.d_eta] at h
 injection h with h
 injection h with h0 h
 injection h with h1 h
 injection h with h2 h
 injection h with h3 _
 exact ⟨h0, h1, h2, h3⟩
theorem nodes_of {ds : List D} (h : DT Try.prog 22 ds) : ∃ ts : List Tr, ds = [.sl (ts.map Tr.d)] ∧ TsOk ts := by
 obtain ⟨ts, h1, h2, h3⟩ := (tree_of h).2 rfl
 exact ⟨ts, h1, h2, h3⟩
theorem mkformal_of {ds : List D} (h : DT Try.prog 60 ds) : ∃ f : Fm, f.Ok ∧ D.mk Try.prog 60 ds = f.d := by
 obtain ⟨hl, hf⟩ := h.struct_of u60
 rw [c1_102] at hl
 obtain ⟨d0, d1, d2, d3, d4, d5, rfl⟩ := list6 ds hl
 have h0 : DT Try.prog 9 ((List.drop 0 [d0, d1, d2, d3, d4, d5]).take (Try.prog.cellsOf 9)) := hf 0 _ rfl
 have h1 : DT Try.prog 9 ((List.drop 1 [d0, d1, d2, d3, d4, d5]).take (Try.prog.cellsOf 9)) := hf 1 _ rfl
 have h2 : DT Try.prog 27 ((List.drop 2 [d0, d1, d2, d3, d4, d5]).take (Try.prog.cellsOf 27)) := hf 2 _ rfl
 rw [c1_9] at h0 h1
 rw [c1_27] at h2
 obtain ⟨s0, e0, w0⟩ := h0.str_of u9
 obtain ⟨s1, e1, w1⟩ := h1.str_of u9
 obtain rfl := (List.cons.inj e0).1
 obtain rfl := (List.cons.inj e1).1
 obtain ⟨t, hok, ht⟩ := node_of h2
 obtain ⟨rfl, rfl, rfl, rfl⟩ := node_cells ht
 refine ⟨⟨s0, s1, t⟩, ⟨by unfold reachBytes at w0; show s0.size ≤ _; omega, by unfold reachBytes at w1; show s1.size ≤ _; omega, hok⟩, ?_⟩
 simp [D.mk, u60, Fm.d]
theorem formals_of {ds : List D} (h : DT Try.prog 55 ds) : ∃ l : List Fm, ds = [.sl (l.map Fm.d)] ∧ l.length ≤ 140737488355328 ∧ ∀ f ∈ l, f.Ok := by
 obtain ⟨dss, h1, h2, h3⟩ := h.sl_of u55
 obtain ⟨l, h4, h5, h6⟩ := list_of (f := Fm.d) (fun ds h => mkformal_of h) dss h3
 exact ⟨l, by rw [h1, h4], by unfold reachBytes at h2; omega, h5⟩
theorem mkproc_of {ds : List D} (h : DT Try.prog 57 ds) : ∃ q : Pc, q.Ok ∧ D.mk Try.prog 57 ds = q.d := by
 obtain ⟨hl, hf⟩ := h.struct_of u57
 rw [c1_81] at hl
 obtain ⟨d0, d1, d2, d3, d4, d5, d6, d7, d8, d9, rfl⟩ := list10 ds hl
 have h0 : DT Try.prog 9 ((List.drop 0 [d0, d1, d2, d3, d4, d5, d6, d7, d8, d9]).take (Try.prog.cellsOf 9)) := hf 0 _ rfl
 have h1 : DT Try.prog 4 ((List.drop 1 [d0, d1, d2, d3, d4, d5, d6, d7, d8, d9]).take (Try.prog.cellsOf 4)) := hf 1 _ rfl
 have h2 : DT Try.prog 4 ((List.drop 2 [d0, d1, d2, d3, d4, d5, d6, d7, d8, d9]).take (Try.prog.cellsOf 4)) := hf 2 _ rfl
 have h3 : DT Try.prog 55 ((List.drop 3 [d0, d1, d2, d3, d4, d5, d6, d7, d8, d9]).take (Try.prog.cellsOf 55)) := hf 3 _ rfl
 have h4 : DT Try.prog 27 ((List.drop 4 [d0, d1, d2, d3, d4, d5, d6, d7, d8, d9]).take (Try.prog.cellsOf 27)) := hf 4 _ rfl
 have h5 : DT Try.prog 22 ((List.drop 8 [d0, d1, d2, d3, d4, d5, d6, d7, d8, d9]).take (Try.prog.cellsOf 22)) := hf 5 _ rfl
 have h6 : DT Try.prog 22 ((List.drop 9 [d0, d1, d2, d3, d4, d5, d6, d7, d8, d9]).take (Try.prog.cellsOf 22)) := hf 6 _ rfl
 rw [c1_9] at h0
 rw [c1_4] at h1 h2
 rw [c1_79] at h3
 rw [c1_27] at h4
 rw [c1_22] at h5 h6
 obtain ⟨s0, e0, w0⟩ := h0.str_of u9
 obtain ⟨b1, e1⟩ := h1.bool_of u4
 obtain ⟨b2, e2⟩ := h2.bool_of u4
 obtain ⟨l3, e3, w3, k3⟩ := formals_of h3
 obtain ⟨t, hok, ht⟩ := node_of h4
 obtain ⟨l5, e5, k5⟩ := nodes_of h5
 obtain ⟨l6, e6, k6⟩ := nodes_of h6
 obtain rfl := (List.cons.inj e0).1
 obtain rfl := (List.cons.inj e1).1
 obtain rfl := (List.cons.inj e2).1
 obtain rfl := (List.cons.inj e3).1
 obtain rfl := (List.cons.inj e5).1
 obtain rfl := (List.cons.inj e6).1
 obtain ⟨rfl, rfl, rfl, rfl⟩ := node_cells ht
 refine ⟨⟨s0, b1, b2, l3, t, l5, l6⟩, ⟨by unfold reachBytes at w0; show s0.size ≤ _; omega, w3, k3, hok, k5, k6⟩, ?_⟩
 simp [D.mk, u57, Pc.d]
theorem prog_of {ds : List D} (h : DT Try.prog 25 ds) : ∃ p : Pg, p.Ok ∧ D.agg ds = .agg [.sl (p.globals.map Tr.d), .sl (p.procs.map Pc.d)] := by
 obtain ⟨hl, hf⟩ := h.struct_of u25
 rw [c1_25] at hl
 obtain ⟨d0, d1, rfl⟩ := list2d ds hl
 have h0 : DT Try.prog 22 ((List.drop 0 [d0, d1]).take (Try.prog.cellsOf 22)) := hf 0 _ rfl
 have h1 : DT Try.prog 23 ((List.drop 1 [d0, d1]).take (Try.prog.cellsOf 23)) := hf 1 _ rfl
 rw [c1_22] at h0
 rw [c1_23] at h1
 obtain ⟨l0, e0, k0⟩ := nodes_of h0
 obtain ⟨dss, h2, h3, h4⟩ := h1.sl_of u23
 obtain ⟨l1, h5, h6, h7⟩ := list_of (f := Pc.d) (fun ds h => mkproc_of h) dss h4
 rw [h5] at h2
 obtain rfl := (List.cons.inj e0).1
 obtain rfl := (List.cons.inj h2).1
 exact ⟨⟨l0, l1⟩, ⟨k0, by show l1.length ≤ _; unfold reachBytes at h3; omega, h6⟩, rfl⟩
end
end Go.Proofs.Ytklkbfpjimeaoaa
