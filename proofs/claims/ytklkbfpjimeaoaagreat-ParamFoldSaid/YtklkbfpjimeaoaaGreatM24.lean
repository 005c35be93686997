import Derived.Test.YtklkbfpjimeaoaaGreatM23
/- Contracts of functions. Conditions: none. -/
set_option linter.unusedSimpArgs false
set_option linter.unusedVariables false
set_option maxRecDepth 20000
namespace Go.Proofs.YtklkbfpjimeaoaaGreat
open Go Go.Proofs.YtklkbfpjimeaoaaGreat.E
section
def fmHide (l : KL) : List Fm → KL
 | [] => l
 | f :: r => fmHide (hideK f.nm l) r
def globF : List Tr → KL → Option (List Tr × KL)
 | [], c => some ([], c)
 | g :: r, c => if (andI g.nu 8 != 0) = true then (match staticV c g with
  | none => none
  | some v => globF r ((g.nm, some v) :: c))
  else match globF r (hideK g.nm c) with
   | none => none
   | some x => some (g.put c :: x.1, x.2)
def pcF (q : Pc) (c : KL) : Pc := ⟨q.nm, q.iter, q.priv, q.formals, q.result, q.wh.map fun t => t.put (fmHide c q.formals), (Tr.block q.body (fmHide c q.formals)).1⟩
def pcE (q : Pc) (c : KL) : Int := (Tr.block q.body (fmHide c q.formals)).2
def procsF : List Pc → KL → List Pc × Int
 | [], _ => ([], 0)
 | q :: r, c => if (pcE q c != 0) = true then ([], pcE q c) else if ((procsF r c).2 != 0) = true then ([], (procsF r c).2) else (pcF q c :: (procsF r c).1, 0)
def foldT (p : Pg) : Pg × Int :=
 if (formE p != 0) = true then (⟨[], []⟩, formE p)
 else match globF p.globals [] with
  | none => (⟨[], []⟩, 140)
  | some x => if ((procsF p.procs x.2).2 != 0) = true then (⟨[], []⟩, (procsF p.procs x.2).2) else (⟨x.1, (procsF p.procs x.2).1⟩, 0)
theorem fmHide_append : ∀ (a b : List Fm) (l : KL), fmHide l (a ++ b) = fmHide (fmHide l a) b
 | [], b, l => rfl
 | f :: r, b, l => by rw [List.cons_append, fmHide, fmHide, fmHide_append r b]
variable {z : Nat}
theorem fmHide_step {l : List Fm} {f : Fm} (h : l[z]? = some f) (c : KL) : fmHide c (l.take (z + 1)) = hideK f.nm (fmHide c (l.take z)) := by
 rw [List.take_add_one, h, fmHide_append]
 rfl
theorem KOk.fm : ∀ (l : List Fm) {c : KL}, KOk c → KOk (fmHide c l)
 | [], _, h => h
 | f :: r, _, h => by rw [fmHide]; exact KOk.fm r (h.hide _)
def contG (acc : List Tr) : Option (List Tr × KL) → Option (List Tr × KL)
 | none => none
 | some x => some (acc ++ x.1, x.2)
theorem contG_nil (x : Option (List Tr × KL)) : contG [] x = x := by cases x <;> rfl
variable {g : Tr}
theorem globF_drop {gs : List Tr} (h : gs[z]? = some g) (c : KL) : globF (gs.drop z) c = globF (g :: gs.drop (z + 1)) c := by
 obtain ⟨hlt, rfl⟩ := List.getElem?_eq_some_iff.1 h
 rw [List.drop_eq_getElem_cons hlt]
variable {c : KL}
theorem globF_param {r : List Tr} (h : (andI g.nu 8 != 0) = true) : globF (g :: r) c = match staticV c g with
      | none => none
      | some v => globF r ((g.nm, some v) :: c) := by
 rw [globF, if_pos h]
theorem contG_put {acc : List Tr} {r : List Tr} (h : (andI g.nu 8 != 0) = false) : contG acc (globF (g :: r) c) = contG (acc ++ [g.put c]) (globF r (hideK g.nm c)) := by
 rw [globF, if_neg (by rw [h]; decide)]
 cases globF r (hideK g.nm c) with
 | none => rfl
 | some x => simp [contG]
theorem procsF_err : ∀ (l : List Pc) (c : KL), ((procsF l c).2 != 0) = true → (procsF l c).1 = []
 | [], _, h => by rw [procsF] at h; exact absurd h (by decide)
 | q :: r, c, h => by
  rw [procsF] at h ⊢
  split at h
  · rename_i h1; rw [if_pos h1]
  · rename_i h1
    rw [if_neg h1]
    split at h
    · rename_i h2; rw [if_pos h2]
    · exact absurd h (by simp)
def contP (acc : List Pc) (x : List Pc × Int) : List Pc × Int := if (x.2 != 0) = true then ([], x.2) else (acc ++ x.1, 0)
theorem contP_nil (l : List Pc) (c : KL) : contP [] (procsF l c) = procsF l c := by
 unfold contP
 split
 · rename_i h; exact Prod.ext (procsF_err l c h).symm rfl
 · rename_i h
   refine Prod.ext rfl ?_
   have : (procsF l c).2 = 0 := by simpa using h
   exact this.symm
variable {q : Pc}
theorem procsF_drop {l : List Pc} (h : l[z]? = some q) (c : KL) : procsF (l.drop z) c = procsF (q :: l.drop (z + 1)) c := by
 obtain ⟨hlt, rfl⟩ := List.getElem?_eq_some_iff.1 h
 rw [List.drop_eq_getElem_cons hlt]
variable {acc : List Pc}
theorem contP_err {r : List Pc} (h : (pcE q c != 0) = true) : contP acc (procsF (q :: r) c) = ([], pcE q c) := by
 rw [procsF, if_pos h, contP, if_pos h]
theorem contP_step {r : List Pc} (h : (pcE q c != 0) = false) : contP acc (procsF (q :: r) c) = contP (acc ++ [pcF q c]) (procsF r c) := by
 rw [procsF, if_neg (by rw [h]; decide)]
 unfold contP
 cases h3 : ((procsF r c).2 != 0) with
 | true => rw [if_pos rfl, if_pos h3, if_pos rfl]
 | false => simp only [Bool.false_eq_true, if_false, bne_self_eq_false, List.append_assoc, List.singleton_append]
theorem contP_end : contP acc (procsF [] c) = (acc, 0) := by
 rw [procsF, contP, if_neg (by decide), List.append_nil]
theorem form_facts {p : Pg} (h : formE p = 0) : (∀ g ∈ p.globals, g.op = 50 ∧ g.shaped = true) ∧ ∀ q ∈ p.procs, (∀ t ∈ q.wh, isExprB t.op = true ∧ t.shaped = true) ∧ ∀ t ∈ q.body, isStmtB t.op = true ∧ t.shaped = true := by
 unfold formE at h
 split at h
 · cases h
 · split at h
   · rename_i h1; exact absurd h (by simpa using h1)
   · split at h
     · cases h
     · rename_i h2
       split at h
       · cases h
       · rename_i h3
         refine ⟨fun g hg => ?_, fun q hq => ?_⟩
         · have h4 : p.globals.any varW = false := by simpa using h2
           have h5 := List.any_eq_false.1 h4 g hg
           simpa [varW] using h5
         · have h4 : (p.procs.any fun q => !pcB q) = false := by simpa using h3
           have h5 : pcB q = true := by simpa using List.any_eq_false.1 h4 q hq
           unfold pcB at h5
           split at h5
           · cases h5
           · split at h5
             · cases h5
             · rename_i h6
               refine ⟨fun t ht => ?_, fun t ht => ?_⟩
               · have h7 : q.wh.any expW = false := by simpa using h6
                 have h8 := List.any_eq_false.1 h7 t ht
                 simpa [expW] using h8
               · have h7 : q.body.any stmW = false := by simpa using h5
                 have h8 := List.any_eq_false.1 h7 t ht
                 simpa [stmW] using h8
theorem pc_fit {p : Pg} (hok : p.Ok) (hT : p.total ≤ 1000000) (hf : formE p = 0) {q : Pc} (hq : q ∈ p.procs) : (∀ t ∈ q.body, SFit t) ∧ (∀ t ∈ q.wh, t.Lens) ∧ q.result.Lens ∧ (∀ f ∈ q.formals, f.ty.Lens) ∧ q.body.length ≤ 1000000 ∧ q.wh.length ≤ 1000000 ∧ q.formals.length ≤ 1000000 ∧ Tr.sizes q.body ≤ p.total := by
 have h1 : ∀ {l : List Pc}, q ∈ l → pcT q ≤ pcsT l := by
  intro l
  induction l with
  | nil => intro h; cases h
  | cons x r ih =>
   intro h
   rw [pcsT]
   rcases List.mem_cons.1 h with rfl | h
   · omega
   · have := ih h; omega
 have h2 := h1 hq
 have h3 : p.total = Tr.sizes p.globals + pcsT p.procs := rfl
 have h4 : pcT q = fmT q.formals + q.result.size + Tr.sizes q.wh + Tr.sizes q.body := rfl
 have h5 := Tr.len_sizes q.body
 have h6 := Tr.len_sizes q.wh
 have hfm : ∀ {l : List Fm} {f : Fm}, f ∈ l → f.ty.size ≤ fmT l := by
  intro l f
  induction l with
  | nil => intro h; cases h
  | cons x r ih =>
   intro h
   rw [fmT]
   rcases List.mem_cons.1 h with rfl | h
   · omega
   · have := ih h; omega
 have hfl : ∀ l : List Fm, l.length ≤ fmT l := by
  intro l
  induction l with
  | nil => simp [fmT]
  | cons x r ih => rw [fmT, List.length_cons]; omega
 have h7 := hfl q.formals
 refine ⟨fun t ht => ?_, fun t ht => ?_, Tr.lens_of _ _ (Nat.le_refl _) (by omega), fun f hf => Tr.lens_of _ _ (Nat.le_refl _) (by have := hfm hf; omega), by omega, by omega, by omega, by omega⟩
 · have := Tr.size_mem ht
   have hx := ((form_facts hf).2 q hq).2 t ht
   exact ⟨(hok.p q hq).b.2 t ht, hx.2, hx.1, Tr.lens_of _ _ (Nat.le_refl _) (by omega)⟩
 · have := Tr.size_mem ht
   exact Tr.lens_of _ _ (Nat.le_refl _) (by omega)
theorem fm_snoc {l : List Fm} {f : Fm} (h : l[z]? = some f) : (l.take z).map Fm.d ++ [D.agg [.str f.intent, .str f.nm, .int .i64 f.ty.op, .str f.ty.nm, .int .i64 f.ty.nu, .sl (f.ty.kids.map Tr.d)]] = (l.take (z + 1)).map Fm.d := by
 rw [List.take_add_one, h, List.map_append]; rfl
set_option maxHeartbeats 2000000 in
theorem c133 (i : Int) (op num : Int) (name : ByteArray) (ks : List Tr) (l : KL) (hlen : (Tr.mk op name num ks).Lens) (hL : KLens l) : Gm Tryz.prog 133 [.d (.int .i64 i), .d (.agg [.int .i64 op, .str name, .int .i64 num, .sl (ks.map Tr.d)]), .ref 0 0] [[.d (knD l)]] (.d ((Tr.mk op name num ks).put l).d) [[.d (knD l)]] := by
 refine gm_body (rvs := [.cell 5 27]) 1 [(0, .d (.int .i64 i)), (1, .d (.agg [.int .i64 op, .str name, .int .i64 num, .sl (ks.map Tr.d)])), (2, .ref 0 0)] Tryz.func133 Tryz.ntmps133 Tryz.results133 (fun S0 O0 w0 m0 hm0 => ?_)
 refine Z232 ?_
 refine gF 1 [[.d (knD l)]] (.agg [.int .i64 op, .str name, .int .i64 num, .sl (ks.map Tr.d)]) rfl ?_
 refine Z29 ?_;refine Z5 ?_
 have hXa := ((Tr.mk op name num ks).put l).d_eta
 have q110 := c110 (.mk op name num ks) hlen l hL
 rw [Tr.d_mk, hXa] at q110
 refine Z8 ?_;refine Z106 ?_
 refine gL (xs := [.tmp 6, .tmp 7]) rfl (q110) ?_
 refine Z21 ?_;refine Z7 ?_
 refine fincm [[.d (knD l)]] sz27 u27 (by simp) ?_
 exact ⟨by rw [hXa], rfl⟩
set_option maxHeartbeats 8000000 in
theorem c101w (ks : List Tr) (l : KL) (hlim : ks.length ≤ 1000000)
 (hcb : ∀ (i : Int) (t : Tr), t ∈ ks → Gm Tryz.prog 133 [.d (.int .i64 i), .d t.d, .ref 0 0] [[.d (knD l)]] (.d (t.put l).d) [[.d (knD l)]]) : Gm Tryz.prog 101 [.d (.sl (ks.map Tr.d)), .fn (.func 133) [] [.ref 0 0]] [[.d (knD l)]] (.d (.sl ((ks.map fun t => t.put l).map Tr.d))) [[.d (knD l)]] := by
 refine gm_body (rvs := [.tmp 4]) 1 [(0, .d (.sl (ks.map Tr.d))), (1, .fn (.func 133) [] [.ref 0 0])] Tryz.func101 Tryz.ntmps101 Tryz.results101 (fun S0 O0 w0 m0 hm0 => ?_)
 refine Z240 ?_;refine Z256 ?_;refine Z273 ?_
 refine g_loop (α := Nat) (fun z => ⟨[(10, .d (.int .i64 (z : Nat))), (9, .d (.int .i64 ((ks.map Tr.d).length : Nat))), (8, .d (.sl (ks.map Tr.d))), (5, .osl 4 (((ks.take z).map fun t => t.put l).map Tr.d)), (1, .fn (.func 133) [] [.ref 0 0])], [[.d (knD l)]]⟩) (fun z => ks.length - z) (fun z => z ≤ ks.length) 0 (Nat.zero_le _) (fun z hz Q' hn0 he0 hr0 => ?_) (le_of)
 have hll : (ks.take z).length = z := by rw [List.length_take]; omega
 refine Z248 ?_
 refine gC ?_ ?_ <;> intro hb0
 ·
  have hlt : z < ks.length := by simpa using hb0
  obtain ⟨k, hk⟩ : ∃ k, ks[z]? = some k := ⟨_, gE hlt⟩
  have hmem := mG hk
  have hxd := Tr.ds_get hk
  have hxa := hxd
  obtain ⟨kop, knm, knu, kks, hka⟩ := k.d_agg
  rw [hka] at hxa
  have hfa := (k.put l).d_eta
  refine Z268 ?_;refine Z258 ?_;refine Z29 ?_;refine Z1 ?_;refine Z21 ?_
  refine gF 1 [[.d (knD l)]] (.agg [.int .i64 kop, .str knm, .int .i64 knu, .sl (kks.map Tr.d)]) rfl ?_
  refine Z162 ?_;refine Z184 ?_;refine Z231 ?_;refine Z8 ?_
  refine g_callm [0] rfl (hfa ▸ hka ▸ hcb z k hmem) ?_
  refine Z176 ?_;refine Z83 ?_
  rw [← hfa, show ((ks.take z).map fun t => t.put l).map Tr.d ++ [(k.put l).d] = ((ks.take (z + 1)).map fun t => t.put l).map Tr.d from by rw [List.take_add_one, hk, List.map_append, List.map_append]; rfl]
  refine Z125 ?_;refine Z222 ?_;refine Z209 ?_;refine Z285 ?_
  refine hn0 _ (z + 1) (by omega) (by omega) le_of
 have hge : z = ks.length := by
  have : ¬ (z : Int) < (ks.map Tr.d).length := by simpa using hb0
  rw [List.length_map] at this
  omega
 refine Z259 ?_
 rw [hge, List.take_length]
 refine Z0 ?_;refine Z228 ?_
 refine finkm [[.d (knD l)]] (by simp) ?_
 exact ⟨rfl, rfl⟩
set_option maxHeartbeats 32000000 in
theorem c59 (p : Pg) (hok : p.Ok) (hT : p.total ≤ 1000000) : Pf Tryz.prog 59 [.agg [.sl (p.globals.map Tr.d), .sl (p.procs.map Pc.d)]] (.tup [.d (foldT p).1.d, .d (.int .i64 (foldT p).2)]) := by
 refine pf_body (rvs := [.cell 2 25, .tmp 3]) [(0, .d (.agg [.sl (p.globals.map Tr.d), .sl (p.procs.map Pc.d)]))] Tryz.func59 Tryz.ntmps59 Tryz.results59 (fun S0 O0 w0 m0 hm0 => ?_)
 refine Z3 ?_
 have hgs := Tr.len_sizes p.globals
 have htt : p.total = Tr.sizes p.globals + pcsT p.procs := rfl
 have hps := pcsTrees_size p.procs
 refine Z13 ?_;refine Z62 ?_
 refine sv rfl (y_alloc zr25) ?_
 refine Z233 ?_;refine Z149 ?_
 refine gL (xs := [.tmp 18]) rfl (c22 p hok hT) ?_
 refine Z277 ?_;refine Z261 ?_
 refine gC ?_ ?_ <;> intro hb0
 ·
  have hfe : (formE p != 0) = true := hb0
  refine Z3 ?_
  refine vq rfl (q_buildS pl25 zr25) ?_
  refine Z0 ?_;refine Z203 ?_;refine Z235 ?_
  refine fincd sz25 u25 (by simp) ?_
  exact ⟨by unfold foldT; rw [if_pos hfe]; rfl, rfl⟩
 have hfe : (formE p != 0) = false := hb0
 have hf0 : formE p = 0 := by simpa using hfe
 obtain ⟨hfg, hfp⟩ := form_facts hf0
 refine Z43 ?_;refine Z230 ?_
 refine sv rfl (y_alloc zr25) ?_
 refine Z11 ?_;refine Z160 ?_;refine Z33 ?_;refine Z273 ?_
 refine g_loop (α := Nat × List Tr × KL) (fun z => ⟨[(27, .d (.int .i64 (z.1 : Nat))), (26, .d (.int .i64 ((p.globals.map Tr.d).length : Nat))), (25, .d (.sl (p.globals.map Tr.d))), (1, .d (.ptr (.agg [.sl (p.globals.map Tr.d), .sl (p.procs.map Pc.d)]))), (2, .ref 0 0), (6, .ref 1 0), (5, .d (knD z.2.2))], [[.nils, .nils], [.osl 4 (z.2.1.map Tr.d), .nils]]⟩) (fun z => p.globals.length - z.1) (fun z => z.1 ≤ p.globals.length ∧ z.2.1.length ≤ z.1 ∧ KOk z.2.2 ∧ globF p.globals [] = contG z.2.1 (globF (p.globals.drop z.1) z.2.2)) (0, [], []) ⟨Nat.zero_le _, Nat.le_refl _, KOk_nil, by rw [List.drop_zero, contG_nil]⟩ (fun z hz Q' hn0 he0 hr0 => ?_) (le_of)
 obtain ⟨z, acc, c⟩ := z
 obtain ⟨hz1, hz2, hz3, hz4⟩ := hz
 replace hz1 : z ≤ p.globals.length := hz1
 replace hz2 : acc.length ≤ z := hz2
 replace hz3 : KOk c := hz3
 replace hz4 : globF p.globals [] = contG acc (globF (p.globals.drop z) c) := hz4
 refine Z248 ?_
 refine gC ?_ ?_ <;> intro hb1
 ·
  have hlt : z < p.globals.length := by simpa using hb1
  obtain ⟨k, hk⟩ : ∃ k, p.globals[z]? = some k := ⟨_, gE hlt⟩
  have hmem := mG hk
  obtain ⟨hk50, hksh⟩ := hfg k hmem
  have hkok := hok.g.2 k hmem
  have hkz := Tr.size_mem hmem
  have hkl := Tr.lens_of _ k (Nat.le_refl _) (by omega)
  obtain ⟨kop, knm, knu, kks⟩ := k
  obtain rfl : kop = 50 := hk50
  have hxa := Tr.ds_get hk
  rw [Tr.d_mk] at hxa
  have hXa := ((Tr.mk 50 knm knu kks).put c).d_eta
  have q110 := c110 (Tr.mk 50 knm knu kks) hkl c hz3.klens
  rw [Tr.d_mk, hXa] at q110
  refine Z25 ?_;refine Z258 ?_;refine Z269 ?_
  refine gF 2 [[.nils, .nils], [.osl 4 (acc.map Tr.d), .nils]] (.agg [.int .i64 50, .str knm, .int .i64 knu, .sl (kks.map Tr.d)]) rfl ?_
  refine Z11 ?_;refine Z238 ?_;refine Z143 ?_;refine Z261 ?_
  refine gC ?_ ?_ <;> intro hb2
  ·
   have hvp : (andI (Tr.mk 50 knm knu kks).nu 8 != 0) = true := hb2
   refine Z3 ?_;refine Z8 ?_;refine Z0 ?_
   refine gL (xs := [.tmp 35, .tmp 36]) rfl (c131 c hz3 knm knu kks hkok hksh) ?_
   refine Z1 ?_;refine Z136 ?_
   rcases hv : staticV c (Tr.mk 50 knm knu kks) with _ | v
   ·
    refine Z14 ?_
    rw [valD]
    refine Z0 ?_;refine Z141 ?_;refine Z10 ?_
    refine gC ?_ ?_ <;> intro hb3
    ·
     refine Z3 ?_
     refine vq rfl (q_buildS pl25 zr25) ?_
     refine Z203 ?_;refine Z1 ?_
     refine gN (tN (gT (tR (tR (bR (tR ?_))))))
     refine Z276 ?_
     refine fincd sz25 u25 (by simp) ?_
     exact ⟨by unfold foldT; rw [if_neg (by rw [hfe]; decide), hz4, globF_drop hk, globF_param hvp, hv]; rfl, rfl⟩
    exact absurd hb3 (by decide)
   refine Z14 ?_
   rw [valD, v.d_eta]
   have hvo := static_ok hz3 hkok hksh hv
   refine Z0 ?_;refine Z141 ?_;refine Z10 ?_
   refine gC ?_ ?_ <;> intro hb4
   · exact absurd hb4 (by decide)
   refine Z58 ?_
   rcases knD_or c with hkd | ⟨kd, hkd⟩ <;> rw [hkd]
   ·
    refine Z14 ?_;refine Z270 ?_;refine Z231 ?_;refine Z124 ?_;refine Z13 ?_
    refine gF 2 [[.nils, .nils], [.osl 4 (acc.map Tr.d), .nils]] (.agg [.str knm, .ptr (.agg [.int .i64 v.op, .str v.nm, .int .i64 v.nu, .sl (v.kids.map Tr.d)]), .nil]) rfl ?_
    rw [show D.ptr (.agg [.str knm, .ptr (.agg [.int .i64 v.op, .str v.nm, .int .i64 v.nu, .sl (v.kids.map Tr.d)]), .nil]) = knD ((knm, some v) :: c) from by rw [knD, valD, hkd, v.d_eta]]
    refine Z1 ?_
    refine gN (tN (G_exit (thn_exit (blk_exit (tN (gR ?_))))))
    refine Z239 ?_
    refine hn0 _ (z + 1, acc, (knm, some v) :: c) ⟨by show z + 1 ≤ p.globals.length; omega, by show acc.length ≤ z + 1; omega, hz3.cons knm hvo, by rw [hz4, globF_drop hk, globF_param hvp, hv]; rfl⟩ (by show p.globals.length - (z + 1) < p.globals.length - z; omega) le_of
   refine Z14 ?_;refine Z270 ?_;refine Z231 ?_;refine Z124 ?_;refine Z13 ?_
   refine gF 2 [[.nils, .nils], [.osl 4 (acc.map Tr.d), .nils]] (.agg [.str knm, .ptr (.agg [.int .i64 v.op, .str v.nm, .int .i64 v.nu, .sl (v.kids.map Tr.d)]), .ptr kd]) rfl ?_
   rw [show D.ptr (.agg [.str knm, .ptr (.agg [.int .i64 v.op, .str v.nm, .int .i64 v.nu, .sl (v.kids.map Tr.d)]), .ptr kd]) = knD ((knm, some v) :: c) from by rw [knD, valD, hkd, v.d_eta]]
   refine Z1 ?_
   refine gN (tN (G_exit (thn_exit (blk_exit (tN (gR ?_))))))
   refine Z239 ?_
   refine hn0 _ (z + 1, acc, (knm, some v) :: c) ⟨by show z + 1 ≤ p.globals.length; omega, by show acc.length ≤ z + 1; omega, hz3.cons knm hvo, by rw [hz4, globF_drop hk, globF_param hvp, hv]; rfl⟩ (by show p.globals.length - (z + 1) < p.globals.length - z; omega) le_of
  have hvp : (andI (Tr.mk 50 knm knu kks).nu 8 != 0) = false := hb2
  refine Z58 ?_
  refine g_ck [(1, 6), (6, 8)] [47, 48, 49, 50, 51, 52, 53, 54] (fun bq => [[.nils, .nils], cond (bq 8) [.osl 4 ((acc ++ [(Tr.mk 50 knm knu kks).put c]).map Tr.d), .nils] (cond (bq 1) [.d (.sl (acc.map Tr.d)), .nils] [.osl 4 (acc.map Tr.d), .nils])]) rfl ?_
  refine Z217 ?_
  refine ck_st 1 (fun _ _ _ _ _ => sv rfl (y_fieldAt 0 u25 rfl sz22) (gN ⟨rfl, rfl⟩)) ?_
  refine ck_pre [0] ?_
  refine ck_st 2 (fun bq rest hc1 hc2 hc3 => by
   have h9 := hc3.no 6 1 hc1
   have h11 := hc3.no 8 6 h9
   have e1 : upd bq 1 1 = true := rfl
   have e2 : upd bq 1 8 = false := h11
   simp only [hc1, h11, cond_false]
   refine sv rfl (y_load_take u22) ?_
   exact (gN ⟨rfl, by rw [e1, e2]; rfl⟩)) ?_
  refine Z217 ?_
  refine ck_st 3 (fun _ _ _ _ _ => vq rfl (qG (by exact sz27) u27 rfl) (gN ⟨rfl, rfl⟩)) ?_
  refine Z217 ?_
  refine ck_st 4 (fun _ _ _ _ _ => vq rfl qM (gN ⟨rfl, rfl⟩)) ?_
  refine ck_pre [2, 3] ?_
  refine ck_st 5 (fun _ _ _ _ _ => gL (xs := [.tmp 49, .tmp 50]) rfl (q110) (gN ⟨rfl, rfl⟩)) ?_
  refine ck_pre [4] ?_
  refine ck_st 6 (fun _ _ _ _ _ => sv rfl (y_buildSlice (xs := [.tmp 51]) u22 inf27) (gN ⟨rfl, rfl⟩)) ?_
  refine ck_pre [1, 5, 4] ?_
  refine ck_tk 7 48 (fun _ _ _ _ _ => sv rfl (y_append u22 inf27 (hk := by first | exact Tr.ds_cells _ | (intro x hx; simp at hx; subst hx; simp [D.cells])) (hlen := by simp [lim]; omega) (hB := by simp [lim]; omega)) (gN ⟨rfl, rfl⟩)) ?_
  rw [← hXa, acc_snoc]
  refine ck_pre [0, 2, 3, 4, 5] ?_
  refine ck_st 8 (fun _ _ _ _ _ => sv rfl (y_fieldAt 0 u25 rfl sz22) (gN ⟨rfl, rfl⟩)) ?_
  refine ck_pre [7, 6, 6, 0, 2, 3, 4, 5, 6] ?_
  refine ck_atk 9 53 (fun bq rest hc1 hc2 hc3 => by
   have h9 := hc2 6 dep_in
   have h1 := hc3 6 h9 1 dep_in
   have e1 : upd bq 8 8 = true := rfl
   simp only [hc1, h1, cond_true, cond_false]
   refine sa rfl (d_store_take sz22) ?_
   exact (gN ⟨rfl, by rw [e1]; rfl⟩)) ?_
  refine ck_done (mem'' := [[.nils, .nils], [.osl 4 ((acc ++ [(Tr.mk 50 knm knu kks).put c]).map Tr.d), .nils]]) ?_
  refine tN (gR ?_)
  refine Z0 ?_;refine Z270 ?_
  refine gL (xs := [.tmp 55, .tmp 57]) rfl (c132 c knm) ?_
  refine Z1 ?_;refine Z137 ?_;refine Z239 ?_
  refine hn0 _ (z + 1, acc ++ [(Tr.mk 50 knm knu kks).put c], hideK knm c) ⟨by show z + 1 ≤ p.globals.length; omega, by show (acc ++ [_]).length ≤ z + 1; rw [List.length_append, List.length_singleton]; omega, hz3.hide knm, by rw [hz4, globF_drop hk, contG_put hvp]; rfl⟩ (by show p.globals.length - (z + 1) < p.globals.length - z; omega) le_of
 have hge : z = p.globals.length := by
  have : ¬ (z : Int) < (p.globals.map Tr.d).length := by simpa using hb1
  rw [List.length_map] at this
  omega
 subst hge
 rw [List.drop_length] at hz4
 replace hz4 : globF p.globals [] = some (acc, c) := by rw [hz4]; show some (acc ++ [], c) = _; rw [List.append_nil]
 refine Z252 ?_
 refine blk_exit (tN (gS (gS (gR ?_))))
 generalize acc = gs at hz4 ⊢
 refine Z183 ?_;refine Z208 ?_;refine Z164 ?_;refine Z246 ?_
 refine g_loop (α := Nat × List Pc) (fun z => ⟨[(63, .d (.int .i64 (z.1 : Nat))), (1, .d (.ptr (.agg [.sl (p.globals.map Tr.d), .sl (p.procs.map Pc.d)]))), (2, .ref 0 0), (6, .ref 1 0), (5, .d (knD c)), (62, .d (.int .i64 ((p.procs.map Pc.d).length : Nat))), (61, .d (.sl (p.procs.map Pc.d)))], [[.nils, .nils], [.osl 4 (gs.map Tr.d), .osl 10 (z.2.map Pc.d)]]⟩) (fun z => p.procs.length - z.1) (fun z => z.1 ≤ p.procs.length ∧ z.2.length ≤ z.1 ∧ procsF p.procs c = contP z.2 (procsF (p.procs.drop z.1) c)) (0, []) ⟨Nat.zero_le _, Nat.le_refl _, by rw [List.drop_zero, contP_nil]⟩ (fun z hz Q' hn1 he1 hr1 => ?_) (le_of)
 obtain ⟨z, pacc⟩ := z
 obtain ⟨hy1, hy2, hy3⟩ := hz
 replace hy1 : z ≤ p.procs.length := hy1
 replace hy2 : pacc.length ≤ z := hy2
 replace hy3 : procsF p.procs c = contP pacc (procsF (p.procs.drop z) c) := hy3
 refine Z248 ?_
 refine gC ?_ ?_ <;> intro hb5
 ·
  have hlt : z < p.procs.length := by simpa using hb5
  obtain ⟨q, hq⟩ : ∃ q, p.procs[z]? = some q := ⟨_, gE hlt⟩
  have hqd := pc_get hq
  have hqm := mG hq
  obtain ⟨hfb, hfw, hfr, hff, hbl, hwl, hfl, _⟩ := pc_fit hok hT hf0 hqm
  have q100 := c100 q.result hfr
  rw [t_eta] at q100
  have hkl := KOk.fm q.formals hz3
  have q116 := c116 q.body hbl hfb (fmHide c q.formals) hkl
  have q101 := c101w q.wh (fmHide c q.formals) hwl (fun i t ht => by
   have h1 := hfw t ht
   obtain ⟨a, b, d, e⟩ := t
   rw [Tr.d_mk]
   exact c133 i a d b e (fmHide c q.formals) h1 hkl.klens)
  refine Z25 ?_;refine Z194 ?_;refine Z126 ?_;refine Z192 ?_;refine Z202 ?_
  refine gF 2 [[.nils, .nils], [.osl 4 (gs.map Tr.d), .osl 10 (pacc.map Pc.d)]] (.agg [.str q.nm, .bool q.iter, .bool q.priv, .sl (q.formals.map Fm.d), .int .i64 q.result.op, .str q.result.nm, .int .i64 q.result.nu, .sl (q.result.kids.map Tr.d), .sl (q.wh.map Tr.d), .sl (q.body.map Tr.d)]) rfl ?_
  refine Z5 ?_;refine Z0 ?_
  refine sv rfl (y_alloc zr141) ?_
  refine sa rfl (dS (hps := knD_cof c) sz141) ?_
  refine Z30 ?_
  refine g_cg [68, 69, 70, 71, 72, 73, 74, 75, 76, 77, 13] (fun bq => cond (bq 10) ([[.nils, .nils], [.osl 4 (gs.map Tr.d), .osl 10 (pacc.map Pc.d)], [.d (knD c)]] ++ [cond (bq 11) [.d (.str q.nm), .d (.bool q.iter), .d (.bool q.priv), .nils, .d (.int .i64 q.result.op), .d (.str q.result.nm), .d (.int .i64 q.result.nu), .d (.sl (q.result.kids.map Tr.d)), .nils, .nils] [.d (.str ⟨#[]⟩), .d (.bool false), .d (.bool false), .nils, .d (.int .i64 0), .d (.str ⟨#[]⟩), .d (.int .i64 0), .nils, .nils, .nils]]) [[.nils, .nils], [.osl 4 (gs.map Tr.d), .osl 10 (pacc.map Pc.d)], [.d (knD c)]]) rfl ?_
  refine Z15 ?_
  refine cS 1 (fun _ _ _ _ _ => vq rfl (qF u81 rfl sz9) (gN ⟨rfl, rfl⟩)) ?_
  refine Z168 ?_
  refine cS 2 (fun _ _ _ _ _ => vq rfl (qL u9) (gN ⟨rfl, rfl⟩)) ?_
  refine Z15 ?_
  refine cS 3 (fun _ _ _ _ _ => vq rfl (qF u81 rfl sz4) (gN ⟨rfl, rfl⟩)) ?_
  refine Z97 ?_
  refine cS 4 (fun _ _ _ _ _ => vq rfl (qL u4) (gN ⟨rfl, rfl⟩)) ?_
  refine Z15 ?_
  refine cS 5 (fun _ _ _ _ _ => vq rfl (qF u81 rfl sz4) (gN ⟨rfl, rfl⟩)) ?_
  refine Z77 ?_
  refine cS 6 (fun _ _ _ _ _ => vq rfl (qL u4) (gN ⟨rfl, rfl⟩)) ?_
  refine Z15 ?_
  refine cS 7 (fun _ _ _ _ _ => vq rfl (q_fieldAgg [.int .i64 q.result.op, .str q.result.nm, .int .i64 q.result.nu, .sl (q.result.kids.map Tr.d)] u81 rfl sz27) (gN ⟨rfl, rfl⟩)) ?_
  refine Z119 ?_
  refine cS 8 (fun _ _ _ _ _ => vq rfl (qG (by exact sz27) u27 rfl) (gN ⟨rfl, rfl⟩)) ?_
  refine Z169 ?_
  refine cS 9 (fun _ _ _ _ _ => gL (xs := [.tmp 75]) rfl (q100) (gN ⟨rfl, rfl⟩)) ?_
  refine cP [1, 3, 5, 8] ?_
  refine cS 10 (fun _ _ _ _ _ => vq rfl ((q_buildP pl81 zr81)) (gN ⟨rfl, rfl⟩)) ?_
  refine Z15 ?_
  refine cS 11 (fun bq rest hc1 hc2 hc3 => by
   have hs := hc3.no 11 10 hc1
   have e1 : upd bq 10 10 = true := rfl
   have e2 : upd bq 10 11 = false := hs
   simp only [hc1, cond_false]
   refine Z192 ?_
   exact (gN ⟨rfl, by rw [e1, e2]; rfl⟩)) ?_
  refine cP [10, 9, 8, 0, 1, 2, 3, 4, 5, 6, 7, 8, 9, 10] ?_
  refine cg_act 12 (fun bq rest hc1 hc2 hc3 => by
   have ha := hc2 10 dep_in
   have e1 : upd bq 11 10 = true := ha
   have e2 : upd bq 11 11 = true := rfl
   simp only [ha, hc1, cond_true, cond_false]
   refine Z202 ?_
   exact (gN ⟨rfl, by rw [e1, e2]; rfl⟩)) ?_
  refine cg_done (mem'' := [[.nils, .nils], [.osl 4 (gs.map Tr.d), .osl 10 (pacc.map Pc.d)], [.d (knD c)], [.d (.str q.nm), .d (.bool q.iter), .d (.bool q.priv), .nils, .d (.int .i64 q.result.op), .d (.str q.result.nm), .d (.int .i64 q.result.nu), .d (.sl (q.result.kids.map Tr.d)), .nils, .nils]]) ?_
  refine tN (gS (gS (gR ?_)))
  refine vq rfl (qF u81 rfl sz79) ?_
  refine vq rfl (qL u79) ?_
  refine Z163 ?_;refine Z246 ?_
  refine g_loop (α := Nat) (fun y => ⟨[(81, .d (.int .i64 (y : Nat))), (80, .d (.int .i64 ((q.formals.map Fm.d).length : Nat))), (79, .d (.sl (q.formals.map Fm.d))), (11, .d (.ptr (.agg [.str q.nm, .bool q.iter, .bool q.priv, .sl (q.formals.map Fm.d), .int .i64 q.result.op, .str q.result.nm, .int .i64 q.result.nu, .sl (q.result.kids.map Tr.d), .sl (q.wh.map Tr.d), .sl (q.body.map Tr.d)]))), (12, .ref 2 0), (13, .ref 3 0), (63, .d (.int .i64 (z : Nat))), (1, .d (.ptr (.agg [.sl (p.globals.map Tr.d), .sl (p.procs.map Pc.d)]))), (2, .ref 0 0), (6, .ref 1 0), (5, .d (knD c)), (62, .d (.int .i64 ((p.procs.map Pc.d).length : Nat))), (61, .d (.sl (p.procs.map Pc.d)))], [[.nils, .nils], [.osl 4 (gs.map Tr.d), .osl 10 (pacc.map Pc.d)], [.d (knD (fmHide c (q.formals.take y)))], [.d (.str q.nm), .d (.bool q.iter), .d (.bool q.priv), .osl 6 ((q.formals.take y).map Fm.d), .d (.int .i64 q.result.op), .d (.str q.result.nm), .d (.int .i64 q.result.nu), .d (.sl (q.result.kids.map Tr.d)), .nils, .nils]]⟩) (fun y => q.formals.length - y) (fun y => y ≤ q.formals.length) 0 (Nat.zero_le _) (fun y hy Q' hn2 he2 hr2 => ?_) (le_of)
  have hll : (q.formals.take y).length = y := by rw [List.length_take]; omega
  refine Z248 ?_
  refine gC ?_ ?_ <;> intro hb6
  ·
   have hlt2 : y < q.formals.length := by simpa using hb6
   obtain ⟨f, hf⟩ : ∃ f, q.formals[y]? = some f := ⟨_, gE hlt2⟩
   have hfd := fm_get hf
   have q100 := c100 f.ty (hff f (mG hf))
   rw [t_eta] at q100
   have hst := fmHide_step hf c
   refine Z25 ?_;refine Z191 ?_;refine Z122 ?_;refine Z205 ?_;refine Z220 ?_
   refine gF 4 [[.nils, .nils], [.osl 4 (gs.map Tr.d), .osl 10 (pacc.map Pc.d)], [.d (knD (fmHide c (q.formals.take y)))], [.d (.str q.nm), .d (.bool q.iter), .d (.bool q.priv), .osl 6 ((q.formals.take y).map Fm.d), .d (.int .i64 q.result.op), .d (.str q.result.nm), .d (.int .i64 q.result.nu), .d (.sl (q.result.kids.map Tr.d)), .nils, .nils]] (.agg [.str f.intent, .str f.nm, .int .i64 f.ty.op, .str f.ty.nm, .int .i64 f.ty.nu, .sl (f.ty.kids.map Tr.d)]) rfl ?_
   refine Z5 ?_;refine Z106 ?_;refine Z159 ?_;refine Z49 ?_
   refine gL (xs := [.tmp 85, .tmp 87]) rfl (c132 (fmHide c (q.formals.take y)) f.nm) ?_
   refine sa rfl (dS (hps := knD_cof _) sz141) ?_
   rw [← hst]
   refine Z10 ?_
   refine g_ck [(1, 11), (11, 13)] [89, 90, 91, 92, 93, 94, 95, 96, 97, 98, 99, 100, 101] (fun bq => [[.nils, .nils], [.osl 4 (gs.map Tr.d), .osl 10 (pacc.map Pc.d)], [.d (knD (fmHide c (q.formals.take (y + 1))))], cond (bq 13) [.d (.str q.nm), .d (.bool q.iter), .d (.bool q.priv), .osl 6 ((q.formals.take y).map Fm.d ++ [D.agg [.str f.intent, .str f.nm, .int .i64 f.ty.op, .str f.ty.nm, .int .i64 f.ty.nu, .sl (f.ty.kids.map Tr.d)]]), .d (.int .i64 q.result.op), .d (.str q.result.nm), .d (.int .i64 q.result.nu), .d (.sl (q.result.kids.map Tr.d)), .nils, .nils] (cond (bq 1) [.d (.str q.nm), .d (.bool q.iter), .d (.bool q.priv), .d (.sl ((q.formals.take y).map Fm.d)), .d (.int .i64 q.result.op), .d (.str q.result.nm), .d (.int .i64 q.result.nu), .d (.sl (q.result.kids.map Tr.d)), .nils, .nils] [.d (.str q.nm), .d (.bool q.iter), .d (.bool q.priv), .osl 6 ((q.formals.take y).map Fm.d), .d (.int .i64 q.result.op), .d (.str q.result.nm), .d (.int .i64 q.result.nu), .d (.sl (q.result.kids.map Tr.d)), .nils, .nils])]) rfl ?_
   refine Z217 ?_
   refine ck_st 1 (fun _ _ _ _ _ => sv rfl (y_fieldAt 3 u81 rfl sz79) (gN ⟨rfl, rfl⟩)) ?_
   refine ck_pre [0] ?_
   refine ck_st 2 (fun bq rest hc1 hc2 hc3 => by
    have h9 := hc3.no 11 1 hc1
    have h11 := hc3.no 13 11 h9
    have e1 : upd bq 1 1 = true := rfl
    have e2 : upd bq 1 13 = false := h11
    simp only [hc1, h11, cond_false]
    refine sv rfl (y_load_take u79) ?_
    exact (gN ⟨rfl, by rw [e1, e2]; rfl⟩)) ?_
   refine Z217 ?_
   refine ck_st 3 (fun _ _ _ _ _ => vq rfl (qF u102 rfl sz9) (gN ⟨rfl, rfl⟩)) ?_
   refine ck_pre [2] ?_
   refine ck_st 4 (fun _ _ _ _ _ => vq rfl (qL u9) (gN ⟨rfl, rfl⟩)) ?_
   refine Z217 ?_
   refine ck_st 5 (fun _ _ _ _ _ => vq rfl (qF u102 rfl sz9) (gN ⟨rfl, rfl⟩)) ?_
   refine ck_pre [4] ?_
   refine ck_st 6 (fun _ _ _ _ _ => vq rfl (qL u9) (gN ⟨rfl, rfl⟩)) ?_
   refine Z217 ?_
   refine ck_st 7 (fun _ _ _ _ _ => vq rfl (q_fieldAgg [.int .i64 f.ty.op, .str f.ty.nm, .int .i64 f.ty.nu, .sl (f.ty.kids.map Tr.d)] u102 rfl sz27) (gN ⟨rfl, rfl⟩)) ?_
   refine ck_pre [6] ?_
   refine ck_st 8 (fun _ _ _ _ _ => vq rfl (qG (by exact sz27) u27 rfl) (gN ⟨rfl, rfl⟩)) ?_
   refine ck_pre [7] ?_
   refine ck_st 9 (fun _ _ _ _ _ => gL (xs := [.tmp 96]) rfl (q100) (gN ⟨rfl, rfl⟩)) ?_
   refine ck_pre [3, 5, 8] ?_
   refine ck_st 10 (fun _ _ _ _ _ => vq rfl (q_buildS pl102 zr102) (gN ⟨rfl, rfl⟩)) ?_
   refine ck_pre [9] ?_
   refine ck_st 11 (fun _ _ _ _ _ => sv rfl (y_buildSlice (xs := [.tmp 98]) u79 inf102) (gN ⟨rfl, rfl⟩)) ?_
   refine ck_pre [1, 10, 8] ?_
   refine ck_tk 12 90 (fun _ _ _ _ _ => sv rfl (y_append u79 inf102 (hk := by first | exact fm_cells _ | (intro x hx; simp at hx; subst hx; rfl)) (hlen := by simp [lim]; omega) (hB := by simp [lim]; omega)) (gN ⟨rfl, rfl⟩)) ?_
   refine ck_pre [0, 2, 3, 4, 5, 6, 7, 8, 9, 10] ?_
   refine ck_st 13 (fun _ _ _ _ _ => sv rfl (y_fieldAt 3 u81 rfl sz79) (gN ⟨rfl, rfl⟩)) ?_
   refine ck_pre [12, 11, 11, 0, 2, 3, 4, 5, 6, 7, 8, 9, 10, 11] ?_
   refine ck_atk 14 100 (fun bq rest hc1 hc2 hc3 => by
    have h9 := hc2 11 dep_in
    have h1 := hc3 11 h9 1 dep_in
    have e1 : upd bq 13 13 = true := rfl
    simp only [hc1, h1, cond_true, cond_false]
    refine sa rfl (d_store_take sz79) ?_
    exact (gN ⟨rfl, by rw [e1]; rfl⟩)) ?_
   refine ck_done (mem'' := [[.nils, .nils], [.osl 4 (gs.map Tr.d), .osl 10 (pacc.map Pc.d)], [.d (knD (fmHide c (q.formals.take (y + 1))))], [.d (.str q.nm), .d (.bool q.iter), .d (.bool q.priv), .osl 6 ((q.formals.take y).map Fm.d ++ [D.agg [.str f.intent, .str f.nm, .int .i64 f.ty.op, .str f.ty.nm, .int .i64 f.ty.nu, .sl (f.ty.kids.map Tr.d)]]), .d (.int .i64 q.result.op), .d (.str q.result.nm), .d (.int .i64 q.result.nu), .d (.sl (q.result.kids.map Tr.d)), .nils, .nils]]) ?_
   refine bN (tN (gR ?_))
   rw [fm_snoc hf]
   refine Z239 ?_
   refine hn2 _ (y + 1) (by omega) (by omega) le_of
  have hge2 : y = q.formals.length := by
   have : ¬ (y : Int) < (q.formals.map Fm.d).length := by simpa using hb6
   rw [List.length_map] at this
   omega
  rw [hge2, List.take_length]
  refine Z39 ?_
  refine he2 _ _ ?_
  refine Z36 ?_;refine Z161 ?_;refine Z33 ?_;refine Z106 ?_
  refine gL (xs := [.tmp 105, .tmp 106]) rfl (q116) ?_
  refine Z271 ?_;refine Z1 ?_;refine Z256 ?_;refine Z261 ?_
  refine gC ?_ ?_ <;> intro hb7
  ·
   have he : (pcE q c != 0) = true := hb7
   refine Z3 ?_
   refine vq rfl (q_buildS pl25 zr25) ?_
   refine Z0 ?_;refine Z203 ?_;refine Z1 ?_;refine Z132 ?_
   refine hr1 _ ?_
   refine Z139 ?_
   refine fincd sz25 u25 (by simp) ?_
   exact ⟨by unfold foldT; rw [if_neg (by rw [hfe]; decide), hz4]; dsimp only; rw [hy3, procsF_drop hq, contP_err he, if_pos he]; rfl, rfl⟩
  have he : (pcE q c != 0) = false := hb7
  refine Z43 ?_;refine Z0 ?_
  refine sv rfl (y_fieldAt 9 u81 rfl sz22) ?_
  refine Z175 ?_;refine Z5 ?_;refine Z161 ?_;refine Z33 ?_
  refine vq rfl (q_makeFunc (xs := []) (ys := [.tmp 12])) ?_
  refine g_callm [2] rfl q101 ?_
  refine sv rfl (y_fieldAt 8 u81 rfl sz22) ?_
  refine Z175 ?_;refine Z162 ?_
  refine sv rfl (y_fieldAt 1 u25 rfl sz23) ?_
  refine sv rfl (y_load_take u23) ?_
  refine sv rfl (y_load_agg sz81 u81 rfl) ?_
  refine sv rfl (y_buildSlice (xs := [.tmp 123]) u23 inf81) ?_
  refine sv rfl (y_append u23 inf81 (hk := by first | exact pc_cells _ | (intro x hx; simp at hx; subst hx; rfl)) (hlen := by simp [lim]; omega) (hB := by simp [lim]; omega)) ?_
  rw [show pacc.map Pc.d ++ [D.agg [.str q.nm, .bool q.iter, .bool q.priv, .sl (q.formals.map Fm.d), .int .i64 q.result.op, .str q.result.nm, .int .i64 q.result.nu, .sl (q.result.kids.map Tr.d), .sl ((q.wh.map fun t => t.put (fmHide c q.formals)).map Tr.d), .sl ((Tr.block q.body (fmHide c q.formals)).1.map Tr.d)]] = (pacc ++ [pcF q c]).map Pc.d from by rw [List.map_append]; rfl]
  refine sv rfl (y_fieldAt 1 u25 rfl sz23) ?_
  refine sa rfl (d_store_take sz23) ?_
  refine Z137 ?_
  refine g_forget 3 [[.nils, .nils], [.osl 4 (gs.map Tr.d), .osl 10 ((pacc ++ [pcF q c]).map Pc.d)], [.d (knD (fmHide c q.formals))]] rfl ?_ (hrf := by (simp only [List.all_cons, List.all_nil, PV.refsBs, PV.refsB, Bool.and_true, Bool.and_self]) <;> rfl)
  refine g_forget 2 [[.nils, .nils], [.osl 4 (gs.map Tr.d), .osl 10 ((pacc ++ [pcF q c]).map Pc.d)]] rfl ?_ (hrf := by (simp only [List.all_cons, List.all_nil, PV.refsBs, PV.refsB, Bool.and_true, Bool.and_self]) <;> rfl)
  refine Z239 ?_
  refine hn1 _ (z + 1, pacc ++ [pcF q c]) ⟨by show z + 1 ≤ p.procs.length; omega, by show (pacc ++ [_]).length ≤ z + 1; rw [List.length_append, List.length_singleton]; omega, by rw [hy3, procsF_drop hq, contP_step he]⟩ (by show p.procs.length - (z + 1) < p.procs.length - z; omega) le_of
 have hge : z = p.procs.length := by
  have : ¬ (z : Int) < (p.procs.map Pc.d).length := by simpa using hb5
  rw [List.length_map] at this
  omega
 subst hge
 rw [List.drop_length, contP_end] at hy3
 refine Z39 ?_
 refine he1 _ _ ?_
 refine Z36 ?_
 refine sv rfl (y_load_agg sz25 u25 rfl) ?_
 refine Z203 ?_;refine Z228 ?_
 refine fincd sz25 u25 (by simp) ?_
 exact ⟨by unfold foldT; rw [if_neg (by rw [hfe]; decide), hz4]; dsimp only; rw [hy3]; rfl, rfl⟩
end
section
theorem globF_ok : ∀ (gs : List Tr) (c : KL) (x : List Tr × KL), (∀ g ∈ gs, g.Ok ∧ g.op = 50 ∧ g.shaped = true) → KOk c → globF gs c = some x → x.1.length ≤ gs.length ∧ (∀ t ∈ x.1, t.Ok) ∧ KOk x.2
 | [], c, x, _, hc, h => by
  rw [globF] at h
  injection h with h
  subst h
  exact ⟨Nat.le_refl _, by simp, hc⟩
 | g :: r, c, x, hg, hc, h => by
  have hr : ∀ g ∈ r, g.Ok ∧ g.op = 50 ∧ g.shaped = true := fun y hy => hg y (by simp [hy])
  obtain ⟨h1, h2, h3⟩ := hg g (by simp)
  rw [globF] at h
  split at h
  · cases hv : staticV c g with
    | none => rw [hv] at h; cases h
    | some v =>
     rw [hv] at h
     obtain ⟨op, nm, num, ks⟩ := g
     obtain rfl : op = 50 := h2
     have h4 := globF_ok r ((nm, some v) :: c) x hr (hc.cons nm (static_ok hc h1 h3 hv)) h
     exact ⟨Nat.le_trans h4.1 (by simp), h4.2⟩
  · cases hx : globF r (hideK g.nm c) with
    | none => rw [hx] at h; cases h
    | some y =>
     rw [hx] at h
     injection h with h
     subst h
     have h4 := globF_ok r (hideK g.nm c) y hr (hc.hide _) hx
     refine ⟨by simpa using h4.1, fun t ht => ?_, h4.2.2⟩
     rcases List.mem_cons.1 ht with rfl | ht
     · exact put_okT _ g (Nat.le_refl _) h1 c hc.okT
     · exact h4.2.1 t ht
theorem pcF_ok {q : Pc} {c : KL} (hok : q.Ok) (hc : KOk c) (hf : ∀ t ∈ q.body, SFit t) : (pcF q c).Ok := by
 have hl := KOk.fm q.formals hc
 have hb := block_okx q.body (fmHide c q.formals) hl fun t ht => ⟨⟨(hf t ht).1, (hf t ht).2.1⟩, fun l hl => fold_ok _ t (Nat.le_refl _) (hf t ht).1 (hf t ht).2.1 (hf t ht).2.2.1 l hl⟩
 refine ⟨hok.n, hok.fl, hok.f, hok.r, ⟨?_, fun t ht => ?_⟩, ⟨Nat.le_trans hb.1 hok.b.1, hb.2⟩⟩
 · show (q.wh.map fun t => t.put (fmHide c q.formals)).length ≤ _
   rw [List.length_map]; exact hok.w.1
 · obtain ⟨y, hy, rfl⟩ := List.mem_map.1 ht
   exact put_okT _ y (Nat.le_refl _) (hok.w.2 y hy) _ hl.okT
theorem procsF_ok {c : KL} (hc : KOk c) : ∀ (l : List Pc), (∀ q ∈ l, q.Ok ∧ ∀ t ∈ q.body, SFit t) → (procsF l c).1.length ≤ l.length ∧ ∀ q ∈ (procsF l c).1, q.Ok
 | [], _ => by rw [procsF]; exact ⟨Nat.le_refl _, by simp⟩
 | q :: r, h => by
  have h1 := procsF_ok hc r fun x hx => h x (by simp [hx])
  have h2 := h q (by simp)
  rw [procsF]
  split
  · exact ⟨Nat.zero_le _, by simp⟩
  · split
    · exact ⟨Nat.zero_le _, by simp⟩
    · refine ⟨by simpa using h1.1, fun x hx => ?_⟩
      rcases List.mem_cons.1 hx with rfl | hx
      · exact pcF_ok h2.1 hc h2.2
      · exact h1.2 x hx
theorem pg0_ok : (⟨[], []⟩ : Pg).Ok := ⟨⟨Nat.zero_le _, by simp⟩, Nat.zero_le _, by simp⟩
theorem foldT_ok {p : Pg} (hok : p.Ok) (hT : p.total ≤ 1000000) : (foldT p).1.Ok := by
 unfold foldT
 split
 · exact pg0_ok
 · rename_i h0
   have hf0 : formE p = 0 := by simpa using h0
   cases hx : globF p.globals [] with
   | none => exact pg0_ok
   | some x =>
    have h1 := globF_ok p.globals [] x (fun g hg => ⟨hok.g.2 g hg, (form_facts hf0).1 g hg⟩) KOk_nil hx
    dsimp only
    split
    · exact pg0_ok
    · have h2 := procsF_ok h1.2.2 p.procs fun q hq => ⟨hok.p q hq, (pc_fit hok hT hf0 hq).1⟩
      exact ⟨⟨Nat.le_trans h1.1 hok.g.1, h1.2.1⟩, Nat.le_trans h2.1 hok.pl, h2.2⟩
end
section
variable {t : Tr}
theorem sizes_mem {ks : List Tr} (h : t ∈ ks) : t.size ≤ Tr.sizes ks := by
 obtain ⟨z, hz⟩ := List.getElem?_of_mem h
 have := sizes_get hz
 omega
mutual
/-- A tree has a Var with IsParam. -/
def Tr.parB : Tr → Bool
 | .mk op _ num ks => isVarP op num || Tr.parsB ks
def Tr.parsB : List Tr → Bool
 | [] => false
 | k :: r => k.parB || Tr.parsB r
end
theorem Tr.parsB_any : ∀ ks : List Tr, Tr.parsB ks = ks.any Tr.parB
 | [] => rfl
 | k :: r => by rw [Tr.parsB, Tr.parsB_any r]; rfl
theorem Tr.parB_mk (op : Int) (nm : ByteArray) (num : Int) (ks : List Tr) : (Tr.mk op nm num ks).parB = (isVarP op num || ks.any Tr.parB) := by rw [Tr.parB, Tr.parsB_any]
def ifK (op : Int) (ks : List Tr) : Bool := match ks with
 | [] => false
 | k :: _ => op == 52 && ((evalT k []).2 == 0)
mutual
def Tr.knoB : Tr → Bool
 | .mk op _ _ ks => ifK op ks || Tr.knosB ks
def Tr.knosB : List Tr → Bool
 | [] => false
 | k :: r => k.knoB || Tr.knosB r
end
theorem Tr.knosB_any : ∀ ks : List Tr, Tr.knosB ks = ks.any Tr.knoB
 | [] => rfl
 | k :: r => by rw [Tr.knosB, Tr.knosB_any r]; rfl
theorem Tr.knoB_mk (op : Int) (nm : ByteArray) (num : Int) (ks : List Tr) : (Tr.mk op nm num ks).knoB = (ifK op ks || ks.any Tr.knoB) := by rw [Tr.knoB, Tr.knosB_any]
def Pg.some (p : Pg) (f : Tr → Bool) : Bool := p.globals.any f || p.procs.any fun q => q.body.any f
theorem glob_size {p : Pg} (h : t ∈ p.globals) : t.size ≤ p.total := by
 have := sizes_mem h
 unfold Pg.total
 omega
theorem pcsT_mem : ∀ {l : List Pc} {q : Pc}, q ∈ l → pcT q ≤ pcsT l
 | [], _, h => by cases h
 | x :: r, q, h => by
  rw [pcsT]
  rcases List.mem_cons.1 h with rfl | h
  · omega
  · have := pcsT_mem h
    omega
theorem body_size {p : Pg} {q : Pc} (hq : q ∈ p.procs) (h : t ∈ q.body) : t.size ≤ p.total := by
 have h1 := pcsT_mem hq
 have h2 := sizes_mem h
 unfold Pg.total
 unfold pcT at h1
 omega
theorem c65n : ∀ (n : Nat) (t : Tr), t.size ≤ n → t.Ok → Pf Tryz.prog 65 [t.d] (.d (.bool t.parB)) := by
 intro n
 induction n with
 | zero => intro t h; exact absurd t.size_pos (by omega)
 | succ n ih =>
  intro t hsz hok
  obtain ⟨op, name, num, ks⟩ := t
  have hkd : ∀ k ∈ ks, k.size ≤ n := fun k hk => by
   have := Tr.size_mem hk
   rw [Tr.size] at hsz
   omega
  rw [Tr.d_mk]
  cases hok with | mk h1 h2 h3 h4 h5 =>
  refine pf_body (rvs := [.tmp 2]) [(0, .d (.agg [.int .i64 op, .str name, .int .i64 num, .sl (ks.map Tr.d)]))] Tryz.func65 Tryz.ntmps65 Tryz.results65 (fun S0 O0 w0 m0 hm0 => ?_)
  refine Z267 ?_;refine Z266 ?_;refine Z263 ?_;refine Z166 ?_
  refine sg rfl (fun hg => sP 8 rfl hg (q_bits rfl)) ?_
  refine sg rfl (fun hg => sP 9 rfl hg q_neq) ?_
  refine Z241 ?_;refine Z44 ?_;refine Z193 ?_
  refine g_callg (xs := [.tmp 14, .func 65]) rfl (fun hg => c52 ks 65 [] [] Tr.parB h4 (fun x hx => ih x (hkd x hx) (h5 x hx))) ?_
  refine Z275 ?_
  exact ⟨by rw [Tr.parB_mk]; rfl, rfl⟩
theorem c66z (op num : Int) (name : ByteArray) : Pf Tryz.prog 66 [(Tr.mk op name num []).d] (.d (.bool (Tr.mk op name num []).knoB)) := by
 rw [Tr.d_mk]
 refine pf_body (rvs := [.tmp 2]) [(0, .d (.agg [.int .i64 op, .str name, .int .i64 num, .sl (([] : List Tr).map Tr.d)]))] Tryz.func66 Tryz.ntmps66 Tryz.results66 (fun S0 O0 w0 m0 hm0 => ?_)
 refine Z232 ?_
 refine gF 0 [] (.agg [.int .i64 op, .str name, .int .i64 num, .sl (([] : List Tr).map Tr.d)]) rfl ?_
 refine Z230 ?_;refine Z266 ?_;refine Z0 ?_;refine Z44 ?_
 refine sg rfl (fun hg => sP 7 rfl hg (qL u22)) ?_
 refine sg rfl (fun hg => sP 8 rfl hg (q_len u22)) ?_
 refine sg rfl (fun hg => sP 9 rfl hg q_gtr) ?_
 refine Z241 ?_;refine Z74 ?_;refine Z74 ?_;refine Z74 ?_;refine Z74 ?_;refine Z74 ?_;refine Z241 ?_;refine Z44 ?_
 refine sg rfl (fun hg => sP 20 rfl hg (qL u22)) ?_
 refine g_callg (xs := [.tmp 21, .func 66]) rfl (fun hg => c52 [] 66 [] [] Tr.knoB (by simp) (fun x hx => absurd hx (by simp))) ?_
 refine Z275 ?_
 exact ⟨by rw [Tr.knoB_mk, ifK]; simp, rfl⟩
theorem c66n : ∀ (n : Nat) (t : Tr), t.size ≤ n → t.Ok → t.size ≤ 1000000 → Pf Tryz.prog 66 [t.d] (.d (.bool t.knoB)) := by
 intro n
 induction n with
 | zero => intro t h; exact absurd t.size_pos (by omega)
 | succ n ih =>
  intro t hsz hok hsz1
  obtain ⟨op, name, num, ks⟩ := t
  have hkd : ∀ k ∈ ks, k.size ≤ n := fun k hk => by
   have := Tr.size_mem hk
   rw [Tr.size] at hsz
   omega
  rw [Tr.d_mk]
  rcases Nat.eq_zero_or_pos ks.length with h0 | h0
  · obtain rfl := List.length_eq_zero_iff.1 h0
    exact Tr.d_mk op name num [] ▸ c66z op num name
  cases hok with | mk h1 h2 h3 h4 h5 =>
  obtain ⟨k, r, hks⟩ : ∃ k r, ks = k :: r := List.exists_cons_of_length_pos h0
  have hk0 : k.size ≤ 1000000 := by
   have := Tr.size_mem (show k ∈ ks from by rw [hks]; simp)
   rw [Tr.size] at hsz1
   omega
  rw [Tr.size] at hsz1
  obtain ⟨kop, knm, knu, kks, hka⟩ := k.d_agg
  refine pf_body (rvs := [.tmp 2]) [(0, .d (.agg [.int .i64 op, .str name, .int .i64 num, .sl (ks.map Tr.d)]))] Tryz.func66 Tryz.ntmps66 Tryz.results66 (fun S0 O0 w0 m0 hm0 => ?_)
  refine Z267 ?_
  have hxd : (ks.map Tr.d)[0]? = some (.agg [.int .i64 kop, .str knm, .int .i64 knu, .sl (kks.map Tr.d)]) := by rw [hks, ← hka]; rfl
  have hpos : 0 < ks.length := by rw [hks]; simp
  refine Z266 ?_;refine Z0 ?_;refine Z44 ?_
  refine sg rfl (fun hg => sP 7 rfl hg (qL u22)) ?_
  refine sg rfl (fun hg => sP 8 rfl hg (q_len u22)) ?_
  refine sg rfl (fun hg => sP 9 rfl hg q_gtr) ?_
  refine Z241 ?_;refine Z44 ?_;refine Z193 ?_
  refine sg rfl (fun hg => sP 14 rfl hg (qI u22 sz27)) ?_
  refine sg rfl (fun hg => sP 15 rfl hg (qG (by exact sz27) u27 rfl)) ?_
  refine g_callg (xs := [.tmp 16, .const (.slice none 0 0)]) rfl (fun hg => (hka ▸ c34 k (h5 k (by rw [hks]; simp)) hk0 [] COk_nil)) ?_
  refine Z241 ?_;refine Z44 ?_
  refine sg rfl (fun hg => sP 20 rfl hg (qL u22)) ?_
  refine g_callg (xs := [.tmp 21, .func 66]) rfl (fun hg => c52 ks 66 [] [] Tr.knoB h4 (fun x hx => ih x (hkd x hx) (h5 x hx) (by have := Tr.size_mem hx; omega))) ?_
  refine Z275 ?_
  exact ⟨by rw [Tr.knoB_mk, hks, ifK]; simp, rfl⟩
theorem c64 (q : Pc) (g : FuncId) (f : Tr → Bool) (hok : q.Ok) (hcb : ∀ t ∈ q.body, Pf Tryz.prog g [t.d] (.d (.bool (f t)))) : Pf Tryz.prog 64 [q.d, .ptr (.fn (.func g) [] [])] (.d (.bool (q.body.any f))) := by
 refine pf_body (rvs := [.tmp 3]) [(0, .d (.agg [.str q.nm, .bool q.iter, .bool q.priv, .sl (q.formals.map Fm.d), .int .i64 q.result.op, .str q.result.nm, .int .i64 q.result.nu, .sl (q.result.kids.map Tr.d), .sl (q.wh.map Tr.d), .sl (q.body.map Tr.d)])), (1, .d (.ptr (.fn (.func g) [] [])))] Tryz.func64 Tryz.ntmps64 Tryz.results64 (fun S0 O0 w0 m0 hm0 => ?_)
 refine Z232 ?_;refine Z16 ?_;refine Z230 ?_;refine Z161 ?_;refine Z33 ?_
 refine vq rfl (qL u48) ?_
 refine gL (xs := [.tmp 5, .tmp 6]) rfl (c52 q.body g [] [] f hok.b.1 hcb) ?_
 refine Z229 ?_
 exact ⟨rfl, rfl⟩
theorem c62 (p : Pg) (g : FuncId) (f : Tr → Bool) (hok : p.Ok) (hcb : ∀ t, t.Ok → t.size ≤ p.total → Pf Tryz.prog g [t.d] (.d (.bool (f t)))) : Pf Tryz.prog 62 [.agg [.sl (p.globals.map Tr.d), .sl (p.procs.map Pc.d)], .fn (.func g) [] []] (.d (.bool (p.some f))) := by
 refine pf_body (rvs := [.tmp 4]) [(0, .d (.agg [.sl (p.globals.map Tr.d), .sl (p.procs.map Pc.d)])), (1, .d (.fn (.func g) [] []))] Tryz.func62 Tryz.ntmps62 Tryz.results62 (fun S0 O0 w0 m0 hm0 => ?_)
 refine Z232 ?_;refine Z62 ?_;refine Z13 ?_
 refine gF 0 [] (.fn (.func g) [] []) rfl ?_
 refine Z230 ?_;refine Z160 ?_;refine Z33 ?_
 refine vq rfl (qL u48) ?_
 refine gL (xs := [.tmp 6, .tmp 7]) rfl (c52 p.globals g [] [] f hok.g.1 (fun t ht => hcb t (hok.g.2 t ht) (glob_size ht))) ?_
 refine Z0 ?_;refine Z201 ?_
 refine sg rfl (fun hg => sP 10 rfl hg (qL u23)) ?_
 refine sg rfl (fun hg => q_makeFunc (xs := []) (ys := [.tmp 3])) ?_
 refine g_callg (xs := [.tmp 11, .tmp 12]) rfl (fun hg => c63g p.procs 64 [] [.ptr (.fn (.func g) [] [])] (fun q => q.body.any f) hok.pl (fun q hq => c64 q g f (hok.p q hq) (fun t ht => hcb t ((hok.p q hq).b.2 t ht) (body_size hq ht)))) ?_
 refine Z275 ?_
 exact ⟨by unfold Pg.some; rfl, rfl⟩
end
end Go.Proofs.YtklkbfpjimeaoaaGreat
