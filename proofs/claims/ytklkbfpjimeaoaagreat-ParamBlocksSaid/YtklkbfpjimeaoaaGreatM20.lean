import Derived.Test.YtklkbfpjimeaoaaGreatM19
/- Contracts of functions. Conditions: none. -/
set_option linter.unusedSimpArgs false
set_option linter.unusedVariables false
set_option maxRecDepth 20000
namespace Go.Proofs.YtklkbfpjimeaoaaGreat
open Go Go.Proofs.YtklkbfpjimeaoaaGreat.E
inductive Tr.Lens : Tr → Prop
 | mk {op : Int} {name : ByteArray} {num : Int} {ks : List Tr} (h4 : ks.length ≤ 1000000) (h5 : ∀ k ∈ ks, Tr.Lens k) : Tr.Lens (.mk op name num ks)
theorem Tr.lens_of : ∀ n (t : Tr), t.size ≤ n → t.size ≤ 1000000 → t.Lens := by
 intro n
 induction n with
 | zero => intro t h; exact absurd t.size_pos (by omega)
 | succ n ih =>
  intro t h hb
  obtain ⟨op, nm, num, ks⟩ := t
  have hl := Tr.len_sizes ks
  rw [Tr.size] at h hb
  exact .mk (by omega) fun k hk => by have := Tr.size_mem hk; exact ih k (by omega) (by omega)
theorem ValOk.lens {v : Tr} (h : ValOk v) : v.Lens := by
 rcases h with ⟨n, _, rfl⟩ | ⟨b, rfl⟩
 · exact .mk (by simp) (by simp)
 · exact .mk (by simp) (by simp)
variable {z : Nat}
theorem take_map {ks : List Tr} {k : Tr} (f : Tr → Tr) (h : ks[z]? = some k) : ((ks.take z).map f).map Tr.d ++ [(f k).d] = ((ks.take (z + 1)).map f).map Tr.d := by rw [List.take_add_one, h, List.map_append, List.map_append]; rfl
set_option maxHeartbeats 4000000 in
theorem c101 (ks : List Tr) (g : FuncId) (fc : List D) (f : Tr → Tr) (hlim : ks.length ≤ 1000000)
 (hcb : ∀ (i : Int), ∀ x ∈ ks, Pf Tryz.prog g ([] ++ [.int .i64 i, x.d] ++ fc) (.d (f x).d)) : Pf Tryz.prog 101 [.sl (ks.map Tr.d), .fn (.func g) [] fc] (.d (.sl ((ks.map f).map Tr.d))) := by
 refine pf_body (rvs := [.tmp 4]) [(0, .d (.sl (ks.map Tr.d))), (1, .d (.fn (.func g) [] fc))] Tryz.func101 Tryz.ntmps101 Tryz.results101 (fun S0 O0 w0 m0 hm0 => ?_)
 refine Z211 ?_;refine Z219 ?_;refine Z284 ?_
 refine g_loop (α := Nat) (fun z => ⟨[(10, .d (.int .i64 (z : Nat))), (9, .d (.int .i64 ((ks.map Tr.d).length : Nat))), (8, .d (.sl (ks.map Tr.d))), (5, .osl 4 (((ks.take z).map f).map Tr.d)), (1, .d (.fn (.func g) [] fc))], []⟩) (fun z => ks.length - z) (fun z => z ≤ ks.length) 0 (Nat.zero_le _) (fun z hz Q' hn0 he0 hr0 => ?_) (le_of)
 have hll : ((ks.take z).map f).length = z := by rw [List.length_map, List.length_take]; omega
 refine Z234 ?_
 refine gC (fun hb0 => ?_) (fun hb0 => ?_)
 ·
  have hlt : z < ks.length := by simpa using hb0
  obtain ⟨k, hk⟩ : ∃ k, ks[z]? = some k := ⟨_, List.getElem?_eq_getElem hlt⟩
  have hmem := List.mem_of_getElem? hk
  have hxd := Tr.ds_get hk
  have hxa := hxd
  obtain ⟨kop, knm, knu, kks, hka⟩ := k.d_agg
  rw [hka] at hxa
  obtain ⟨fop, fnm, fnu, fks, hfa⟩ := (f k).d_agg
  refine Z257 ?_;refine Z213 ?_;refine Z29 ?_;refine Z0 ?_;refine Z17 ?_
  refine gF 0 [] (.agg [.int .i64 kop, .str knm, .int .i64 knu, .sl (kks.map Tr.d)]) rfl ?_
  refine Z100 ?_;refine Z129 ?_;refine Z198 ?_;refine Z11 ?_
  refine gL (xs := [.tmp 17, .tmp 18]) rfl ((hfa ▸ hka ▸ hcb (z : Nat) k hmem)) ?_
  refine sv rfl (y_buildSlice (xs := [.tmp 19]) u22 inf27) ?_
  refine sv rfl (y_append u22 inf27 (hk := by first | exact Tr.ds_cells _ | (intro x hx; simp at hx; subst hx; simp [D.cells])) (hlen := by simp [lim]; omega) (hB := by simp [lim]; omega)) ?_
  rw [← hfa, take_map f hk]
  refine Z80 ?_;refine Z155 ?_
  refine gP [0, 1, 4, 5, 6, 7, 8, 9, 10] ?_
  refine Z258 ?_
  refine hn0 _ (z + 1) (by omega) (by omega) le_of
 have hge : z = ks.length := by
  have : ¬ (z : Int) < (ks.map Tr.d).length := by simpa using hb0
  rw [List.length_map] at this
  omega
 refine Z34 ?_
 refine he0 _ _ ?_
 refine Z38 ?_
 rw [hge, List.take_length]
 refine Z1 ?_;refine Z195 ?_
 exact ⟨rfl, rfl⟩
theorem c178 (t : Tr) (i : Int) (f : Tr → Tr) (h : Pf Tryz.prog 100 [t.d] (.d (f t).d)) : Pf Tryz.prog 178 [.int .i64 i, t.d] (.d (f t).d) := by
 obtain ⟨op, name, num, ks⟩ := t
 rw [Tr.d_mk]
 try simp only [Tr.op_mk, Tr.nm_mk, Tr.nu_mk, Tr.kids_mk]
 refine pf_body (rvs := [.cell 4 27]) [(0, .d (.int .i64 i)), (1, .d (.agg [.int .i64 op, .str name, .int .i64 num, .sl (ks.map Tr.d)]))] Tryz.func178 Tryz.ntmps178 Tryz.results178 (fun S0 O0 w0 m0 hm0 => ?_)
 refine Z2 ?_
 obtain ⟨fop, fnm, fnu, fks, hfa⟩ := (f (.mk op name num ks)).d_agg
 refine Z18 ?_
 refine gF 0 [] (.agg [.int .i64 op, .str name, .int .i64 num, .sl (ks.map Tr.d)]) rfl ?_
 refine Z29 ?_;refine Z7 ?_;refine Z11 ?_
 refine gL (xs := [.tmp 5]) rfl ((hfa ▸ Tr.d_mk op name num ks ▸ h)) ?_
 refine Z17 ?_;refine Z6 ?_;refine Z83 ?_
 exact ⟨by rw [hfa], rfl⟩
set_option maxHeartbeats 4000000 in
theorem c100n : ∀ (n : Nat) (t : Tr), t.size ≤ n → t.Lens → Pf Tryz.prog 100 [t.d] (.d t.d) := by
 intro n
 induction n with
 | zero => intro t h; exact absurd t.size_pos (by omega)
 | succ n ih =>
  intro t hsz hok
  obtain ⟨op, name, num, ks⟩ := t
  have hkd : ∀ k ∈ ks, k.size ≤ n := fun k hk => by
   have := Tr.size_mem hk
   rw [Tr.size] at hsz
   omega
  rw [Tr.d_mk]
  cases hok with | mk h4 h5 =>
  refine pf_body (rvs := [.cell 2 27]) [(0, .d (.agg [.int .i64 op, .str name, .int .i64 num, .sl (ks.map Tr.d)]))] Tryz.func100 Tryz.ntmps100 Tryz.results100 (fun S0 O0 w0 m0 hm0 => ?_)
  refine Z202 ?_;refine Z29 ?_;refine Z7 ?_;refine Z92 ?_;refine Z184 ?_
  refine gL (xs := [.tmp 4, .func 178]) rfl (c101 ks 178 [] id h4 (fun i x hx => c178 x i id (ih x (hkd x hx) (h5 x hx)))) ?_
  rw [List.map_id]
  refine Z92 ?_;refine Z114 ?_;refine Z7 ?_;refine Z273 ?_;refine Z6 ?_;refine Z83 ?_
  exact ⟨by rfl, rfl⟩
theorem c100 (t : Tr) (h : t.Lens) : Pf Tryz.prog 100 [t.d] (.d t.d) := c100n _ t (Nat.le_refl _) h
def cD (c : ByteArray × Tr) : D := .agg (.str c.1 :: c.2.d.cells)
theorem cD_agg (c : ByteArray × Tr) : ∃ op name num ks, c.2 = .mk op name num ks ∧ cD c = .agg [.str c.1, .int .i64 op, .str name, .int .i64 num, .sl (ks.map Tr.d)] := by
 obtain ⟨n, op, name, num, ks⟩ := c
 exact ⟨op, name, num, ks, rfl, by unfold cD; rw [Tr.d_mk]; rfl⟩
theorem cD_cells (l : List (ByteArray × Tr)) : ∀ x ∈ l.map cD, x.cells.length = 5 := fun x hx => by
 obtain ⟨c, _, rfl⟩ := List.mem_map.1 hx
 obtain ⟨op, name, num, ks, _, h⟩ := cD_agg c
 rw [h]; rfl
theorem cD_get {l : List (ByteArray × Tr)} {c : ByteArray × Tr} (h : l[z]? = some c) : (l.map cD)[z]? = some (cD c) := by rw [List.getElem?_map, h]; rfl
def badC : ByteArray × Tr → Bool
 | (_, .mk op name num ks) => (op != 1 && op != 2) || nodeE (.mk op name num ks) != 0
theorem c180 (cn : ByteArray) (op : Int) (name : ByteArray) (num : Int) (ks : List Tr) (hok : (Tr.mk op name num ks).Ok) (hszb : (Tr.mk op name num ks).size ≤ 1000000000) : Pf Tryz.prog 180 [.agg [.str cn, .int .i64 op, .str name, .int .i64 num, .sl (ks.map Tr.d)]] (.d (.bool (badC (cn, .mk op name num ks)))) := by
 refine pf_body (rvs := [.tmp 2]) [(0, .d (.agg [.str cn, .int .i64 op, .str name, .int .i64 num, .sl (ks.map Tr.d)]))] Tryz.func180 Tryz.ntmps180 Tryz.results180 (fun S0 O0 w0 m0 hm0 => ?_)
 refine Z202 ?_
 refine gF 0 [] (.agg [.str cn, .int .i64 op, .str name, .int .i64 num, .sl (ks.map Tr.d)]) rfl ?_
 refine Z194 ?_
 refine vq rfl (q_fieldp_agg u66 rfl sz27) ?_
 refine vq rfl (qG (ds := [.int .i64 op, .str name, .int .i64 num, .sl (ks.map Tr.d)]) (by exact sz27) u27 rfl) ?_
 refine Z218 ?_
 refine gF 0 [] (.agg [.int .i64 op, .str name, .int .i64 num, .sl (ks.map Tr.d)]) rfl ?_
 refine Z7 ?_;refine Z199 ?_;refine Z46 ?_;refine Z206 ?_
 refine sg rfl (fun hg => sP 10 rfl hg (qL u3)) ?_
 refine sg rfl (fun hg => sP 11 rfl hg q_neq) ?_
 refine Z288 ?_
 refine g_callg (xs := [.tmp 15]) rfl (fun hg => (Tr.d_mk op name num ks ▸ c24 (.mk op name num ks) hok hszb)) ?_
 refine sg rfl (fun hg => sP 16 rfl hg q_neq) ?_
 refine Z24 ?_;refine Z195 ?_
 exact ⟨rfl, rfl⟩
theorem c241 (ts : List (ByteArray × Tr)) (g : FuncId) (fa fc : List D) (p : ByteArray × Tr → Bool) (hlim : ts.length ≤ 140737488355328)
 (hcb : ∀ x ∈ ts, Pf Tryz.prog g (fa ++ [cD x] ++ fc) (.d (.bool (p x)))) : Pf Tryz.prog 241 [.sl (ts.map cD), .fn (.func g) fa fc] (.d (.int .i64 (idxL p ts))) := by
 refine pf_body (rvs := [.tmp 4]) [(0, .d (.sl (ts.map cD))), (1, .d (.fn (.func g) fa fc))] Tryz.func241 Tryz.ntmps241 Tryz.results241 (fun S0 O0 w0 m0 hm0 => ?_)
 refine Z263 ?_
 refine vq rfl (q_len u51) ?_
 refine Z232 ?_
 refine g_loop (α := Nat) (fun z => ⟨[(8, .d (.int .i64 (z : Nat))), (7, .d (.int .i64 ((ts.map cD).length : Nat))), (6, .d (.sl (ts.map cD))), (1, .d (.fn (.func g) fa fc)), (0, .d (.sl (ts.map cD)))], []⟩) (fun z => ts.length - z) (fun z => z ≤ ts.length ∧ ∀ i, i < z → ∀ x, ts[i]? = some x → p x = false) 0 ⟨Nat.zero_le _, by simp⟩ (fun z hz Q' hn0 he0 hr0 => ?_) (le_of)
 obtain ⟨hz1, hz2⟩ := hz
 refine Z234 ?_
 refine gC (fun hb0 => ?_) (fun hb0 => ?_)
 ·
  have hlt : z < ts.length := by simpa using hb0
  obtain ⟨x, hx⟩ : ∃ x, ts[z]? = some x := ⟨_, List.getElem?_eq_getElem hlt⟩
  have hmem := List.mem_of_getElem? hx
  have hxd := cD_get hx
  have hcx := hcb x hmem
  obtain ⟨op, name, num, kids, _, hca⟩ := cD_agg x
  rw [hca] at hxd hcx
  refine Z257 ?_;refine Z275 ?_;refine Z1 ?_
  refine vq rfl (qI u51 sz66) ?_
  refine vq rfl (qG (by exact sz66) u66 rfl) ?_
  refine gL (xs := [.tmp 15]) rfl (hcx) ?_
  refine Z3 ?_
  refine gC (fun hb1 => ?_) (fun hb1 => ?_)
  ·
   refine Z220 ?_;refine Z197 ?_
   refine hr0 _ ?_
   refine Z55 ?_
   exact fin1 (by simp) ⟨idxL_found hz2 hx hb1, rfl⟩
  refine Z285 ?_
  refine hn0 _ (z + 1) ⟨by omega, idxL_step hz2 hx hb1⟩ (by omega) le_of
 have hge : z = ts.length := by
  have : ¬ (z : Int) < (ts.map cD).length := by simpa using hb0
  rw [List.length_map] at this
  omega
 refine Z34 ?_
 refine he0 _ _ ?_
 refine Z38 ?_;refine Z193 ?_
 exact fin1 (by simp) ⟨idxL_none (hge ▸ hz2), rfl⟩
theorem c179 (ts : List (ByteArray × Tr)) (g : FuncId) (fa fc : List D) (p : ByteArray × Tr → Bool) (hlim : ts.length ≤ 140737488355328)
 (hcb : ∀ x ∈ ts, Pf Tryz.prog g (fa ++ [cD x] ++ fc) (.d (.bool (p x)))) : Pf Tryz.prog 179 [.sl (ts.map cD), .fn (.func g) fa fc] (.d (.bool (ts.any p))) := by
 refine pf_body (rvs := [.tmp 4]) [(0, .d (.sl (ts.map cD))), (1, .d (.fn (.func g) fa fc))] Tryz.func179 Tryz.ntmps179 Tryz.results179 (fun S0 O0 w0 m0 hm0 => ?_)
 refine Z254 ?_
 refine gL (xs := [.tmp 5, .tmp 6]) rfl (c241 ts g fa fc p hlim hcb) ?_
 refine Z52 ?_;refine Z195 ?_
 exact ⟨by rw [idxL_any], rfl⟩
def constsB (l : List (ByteArray × Tr)) : Bool := !(l.any badC)
def COk (l : List (ByteArray × Tr)) : Prop := l.length ≤ 1000 ∧ ∀ c ∈ l, c.2.Ok ∧ c.2.size ≤ 1000000
theorem badC_nil : constsB [] = true := rfl
def kl (l : List (ByteArray × Tr)) : KL := (l.map fun c => (c.1, some c.2)).reverse
theorem kl_step {l : List (ByteArray × Tr)} {c : ByteArray × Tr} (h : l[z]? = some c) : kl (l.take (z + 1)) = (c.1, some c.2) :: kl (l.take z) := by
 unfold kl
 rw [List.take_add_one, h, List.map_append, List.reverse_append]; rfl
theorem knD_or (l : KL) : knD l = .nil ∨ ∃ d, knD l = .ptr d := by
 cases l with
 | nil => exact .inl rfl
 | cons x r => exact .inr ⟨_, rfl⟩
theorem c103 (l : List (ByteArray × Tr)) (hl : COk l) : Pf Tryz.prog 103 [.sl (l.map cD)] (.d (.bool (constsB l))) := by
 refine pf_body (rvs := [.tmp 2]) [(0, .d (.sl (l.map cD)))] Tryz.func103 Tryz.ntmps103 Tryz.results103 (fun S0 O0 w0 m0 hm0 => ?_)
 refine Z249 ?_
 refine gL (xs := [.tmp 3, .func 180]) rfl (c179 l 180 [] [] badC (by have := hl.1; omega) (fun x hx => by obtain ⟨op, name, num, ks, h1, h2⟩ := cD_agg x; have h3 := hl.2 x hx; rw [h1] at h3; rw [h2, show x = (x.1, .mk op name num ks) from by rw [← h1]]; exact c180 x.1 op name num ks h3.1 (by have := h3.2; omega))) ?_
 refine Z37 ?_;refine Z195 ?_
 exact ⟨rfl, rfl⟩
set_option maxHeartbeats 4000000 in
theorem c105 (l : List (ByteArray × Tr)) (hl : COk l) : Pf Tryz.prog 105 [.sl (l.map cD)] (.d (knD (kl l))) := by
 refine pf_body (rvs := [.tmp 2]) [(0, .d (.sl (l.map cD)))] Tryz.func105 Tryz.ntmps105 Tryz.results105 (fun S0 O0 w0 m0 hm0 => ?_)
 refine Z211 ?_;refine Z219 ?_
 refine vq rfl (q_len u51) ?_
 refine Z232 ?_
 refine g_loop (α := Nat) (fun z => ⟨[(7, .d (.int .i64 (z : Nat))), (6, .d (.int .i64 ((l.map cD).length : Nat))), (3, .d (knD (kl (l.take z)))), (0, .d (.sl (l.map cD)))], []⟩) (fun z => l.length - z) (fun z => z ≤ l.length) 0 (Nat.zero_le _) (fun z hz Q' hn0 he0 hr0 => ?_) (le_of)
 have hl1 := hl.1
 refine Z234 ?_
 refine gC (fun hb0 => ?_) (fun hb0 => ?_)
 ·
  have hlt : z < l.length := by simpa using hb0
  obtain ⟨c, hc⟩ : ∃ c, l[z]? = some c := ⟨_, List.getElem?_eq_getElem hlt⟩
  have hxd := cD_get hc
  obtain ⟨op, name, num, ks, hct, hca⟩ := cD_agg c
  rw [hca] at hxd
  refine Z257 ?_;refine Z196 ?_
  rcases knD_or (kl (l.take z)) with hkd | ⟨kd, hkd⟩ <;> rw [hkd]
  ·
   refine G_drawB 13 rfl (by kernel_rfl) (fun S1 O1 w1 m1 hm1 hm2 => ?_)
   have hB1 : ∀ i, i < m1.length → (List.range m1.length).contains i = true := fun i hi => by simpa using hi
   refine bq 0 hB1 rfl qM ?_
   refine bq 1 hB1 rfl qM ?_
   refine bq 2 hB1 rfl (qI u51 sz66) ?_
   refine bq 3 hB1 rfl (qF u66 rfl sz9) ?_
   refine bq 4 hB1 rfl (qL u9) ?_
   refine bq 5 hB1 rfl qM ?_
   refine bq 6 hB1 rfl qM ?_
   refine bq 7 hB1 rfl (qI u51 sz66) ?_
   refine bq 8 hB1 rfl (q_fieldp_agg u66 rfl sz27) ?_
   refine GB_go ?_
   refine ga1 9 ?_
   refine Z1 ?_
   refine gN ⟨rfl, ?_⟩
   refine ga1 10 ?_
   refine Z149 ?_
   refine gN ⟨rfl, ?_⟩
   refine ga1 11 ?_
   refine Z18 ?_
   refine gN ⟨rfl, ?_⟩
   refine ga1 12 ?_
   refine Z0 ?_
   refine gN ⟨rfl, ?_⟩
   refine GA_done (by kernel_rfl) ?_
   refine Z99 ?_
   refine gP [0, 2, 3, 4, 6, 7] ?_
   refine Z4 ?_
   refine gF 0 [] (.agg [.str c.1, .ptr (.agg [.int .i64 op, .str name, .int .i64 num, .sl (ks.map Tr.d)]), .nil]) rfl ?_
   rw [show D.ptr (.agg [.str c.1, .ptr (.agg [.int .i64 op, .str name, .int .i64 num, .sl (ks.map Tr.d)]), .nil]) = knD (kl (l.take (z + 1))) from by rw [kl_step hc, knD, valD, hct, Tr.d_mk, hkd]]
   refine Z217 ?_
   refine hn0 _ (z + 1) (by omega) (by omega) le_of
  refine G_drawB 13 rfl (by kernel_rfl) (fun S1 O1 w1 m1 hm1 hm2 => ?_)
  have hB1 : ∀ i, i < m1.length → (List.range m1.length).contains i = true := fun i hi => by simpa using hi
  refine bq 0 hB1 rfl qM ?_
  refine bq 1 hB1 rfl qM ?_
  refine bq 2 hB1 rfl (qI u51 sz66) ?_
  refine bq 3 hB1 rfl (qF u66 rfl sz9) ?_
  refine bq 4 hB1 rfl (qL u9) ?_
  refine bq 5 hB1 rfl qM ?_
  refine bq 6 hB1 rfl qM ?_
  refine bq 7 hB1 rfl (qI u51 sz66) ?_
  refine bq 8 hB1 rfl (q_fieldp_agg u66 rfl sz27) ?_
  refine GB_go ?_
  refine ga1 9 ?_
  refine Z1 ?_
  refine gN ⟨rfl, ?_⟩
  refine ga1 10 ?_
  refine Z149 ?_
  refine gN ⟨rfl, ?_⟩
  refine ga1 11 ?_
  refine Z18 ?_
  refine gN ⟨rfl, ?_⟩
  refine ga1 12 ?_
  refine Z0 ?_
  refine gN ⟨rfl, ?_⟩
  refine GA_done (by kernel_rfl) ?_
  refine Z99 ?_
  refine gP [0, 2, 3, 4, 6, 7] ?_
  refine Z4 ?_
  refine gF 0 [] (.agg [.str c.1, .ptr (.agg [.int .i64 op, .str name, .int .i64 num, .sl (ks.map Tr.d)]), .ptr kd]) rfl ?_
  rw [show D.ptr (.agg [.str c.1, .ptr (.agg [.int .i64 op, .str name, .int .i64 num, .sl (ks.map Tr.d)]), .ptr kd]) = knD (kl (l.take (z + 1))) from by rw [kl_step hc, knD, valD, hct, Tr.d_mk, hkd]]
  refine Z217 ?_
  refine hn0 _ (z + 1) (by omega) (by omega) le_of
 have hge : z = l.length := by
  have : ¬ (z : Int) < (l.map cD).length := by simpa using hb0
  rw [List.length_map] at this
  omega
 refine Z34 ?_
 refine he0 _ _ ?_
 refine Z38 ?_;refine Z1 ?_;refine Z195 ?_
 exact ⟨by rw [hge, List.take_length], rfl⟩
end Go.Proofs.YtklkbfpjimeaoaaGreat
namespace Go.Proofs.YtklkbfpjimeaoaaGreat
open Go Go.Proofs.YtklkbfpjimeaoaaGreat.E
def z0 : Tr := .mk 0 ⟨#[]⟩ 0 []
def evalT : Tr → List (ByteArray × Tr) → Tr × Int
 | .mk op name num ks, l =>
  if (nodeE (.mk op name num ks) != 0) = true then (z0, nodeE (.mk op name num ks))
  else if (!isExprB op) = true then (z0, 2)
  else if (!constsB l) = true then (z0, 1)
  else match (Tr.mk op name num ks).value (kl l) with
   | none => (z0, 140)
   | some v => (v, 0)
theorem nodeE_shaped {op : Int} {name : ByteArray} {num : Int} {ks : List Tr} (h : nodeE (.mk op name num ks) = 0) : (Tr.mk op name num ks).shaped = true := by
 rw [nodeE] at h
 split at h
 · rename_i h1
   rw [h] at h1
   cases h1
 · split at h
   · cases h
   · rename_i h2
     cases hs : (Tr.mk op name num ks).shaped with
     | true => rfl
     | false => rw [hs] at h2; simp at h2
theorem lit_ok {t : Tr} (hok : t.Ok) (hsh : t.shaped = true) (h : t.op = 1 ∨ t.op = 2) : ValOk t := by
 obtain ⟨op, nm, num, ks⟩ := t
 rcases h with h | h
 · replace h : op = 1 := h
   subst h
   obtain ⟨rfl, rfl⟩ := lit1 hsh
   refine .inl ⟨num, ?_, rfl⟩
   cases hok with | mk h1 h2 h3 h4 h5 =>
   simpa [Lit.wf, IntKind.min, IntKind.max, IntKind.signed, IntKind.bits, wf64] using h3
 · replace h : op = 2 := h
   subst h
   obtain ⟨rfl, rfl, rfl | rfl⟩ := lit2 hsh
   · exact .inr ⟨false, rfl⟩
   · exact .inr ⟨true, rfl⟩
theorem badC_ok {c : ByteArray × Tr} (hok : c.2.Ok) (h : badC c = false) : ValOk c.2 := by
 obtain ⟨n, op, name, num, ks⟩ := c
 simp only [badC, Bool.or_eq_false_iff, Bool.and_eq_false_iff, bne_eq_false_iff_eq] at h
 exact lit_ok hok (nodeE_shaped h.2) h.1
theorem kl_ok {l : List (ByteArray × Tr)} (hl : COk l) (h : constsB l = true) : KOk (kl l) := by
 intro x hx t ht
 unfold kl at hx
 rw [List.mem_reverse, List.mem_map] at hx
 obtain ⟨c, hc, rfl⟩ := hx
 injection ht with ht
 subst ht
 unfold constsB at h
 rw [Bool.not_eq_true', List.any_eq_false] at h
 exact badC_ok (hl.2 c hc).1 (by simpa using h c hc)
set_option maxHeartbeats 8000000 in
theorem c29 (t : Tr) (hok : t.Ok) (hszb : t.size ≤ 1000000) (l : List (ByteArray × Tr)) (hl : COk l) : Pf Tryz.prog 29 [t.d, .sl (l.map cD)] (.tup [.d (evalT t l).1.d, .d (.int .i64 (evalT t l).2)]) := by
 obtain ⟨op, name, num, ks⟩ := t
 rw [Tr.d_mk]
 try simp only [Tr.op_mk, Tr.nm_mk, Tr.nu_mk, Tr.kids_mk]
 refine pf_body (rvs := [.cell 4 27, .tmp 5]) [(0, .d (.agg [.int .i64 op, .str name, .int .i64 num, .sl (ks.map Tr.d)])), (1, .d (.sl (l.map cD)))] Tryz.func29 Tryz.ntmps29 Tryz.results29 (fun S0 O0 w0 m0 hm0 => ?_)
 refine Z202 ?_
 refine gF 0 [] (.agg [.int .i64 op, .str name, .int .i64 num, .sl (ks.map Tr.d)]) rfl ?_
 refine Z29 ?_;refine Z201 ?_;refine Z11 ?_
 refine gL (xs := [.tmp 8]) rfl ((Tr.d_mk op name num ks ▸ c24 (.mk op name num ks) hok (by omega))) ?_
 refine Z244 ?_;refine Z230 ?_
 refine gC (fun hb0 => ?_) (fun hb0 => ?_)
 ·
  refine Z2 ?_;refine Z54 ?_;refine Z1 ?_;refine Z17 ?_;refine Z200 ?_
  refine fincd sz27 u27 (by simp) ?_
  exact ⟨by rw [evalT, if_pos hb0, z0, Tr.d_mk]; rfl, rfl⟩
 have hsh := nodeE_shaped (op := op) (name := name) (num := num) (ks := ks) (by simpa using hb0)
 refine Z58 ?_;refine Z11 ?_
 refine gL (xs := [.tmp 14]) rfl ((show Pf Tryz.prog 99 [.agg [.int .i64 op, .str name, .int .i64 num, .sl (ks.map Tr.d)]] (.d (.bool (isExprB op))) from Tr.d_mk op name num ks ▸ c99 (.mk op name num ks))) ?_
 refine Z248 ?_
 refine gC (fun hb1 => ?_) (fun hb1 => ?_)
 ·
  refine Z2 ?_;refine Z256 ?_;refine Z200 ?_
  refine fincd sz27 u27 (by simp) ?_
  exact ⟨by rw [evalT, if_neg (by rw [hb0]; decide), if_pos hb1, z0, Tr.d_mk]; rfl, rfl⟩
 refine Z286 ?_
 refine gL (xs := [.tmp 18]) rfl (c103 l hl) ?_
 refine Z248 ?_
 refine gC (fun hb2 => ?_) (fun hb2 => ?_)
 ·
  refine Z15 ?_;refine Z89 ?_;refine Z4 ?_;refine Z256 ?_;refine Z200 ?_
  refine fincd sz27 u27 (by simp) ?_
  exact ⟨by rw [evalT, if_neg (by rw [hb0]; decide), if_neg (by rw [hb1]; decide), if_pos hb2, z0, Tr.d_mk]; rfl, rfl⟩
 have hkl := kl_ok hl (by simpa using hb2)
 refine Z43 ?_
 rcases hv : (Tr.mk op name num ks).value (kl l) with _ | v
 ·
  refine Z89 ?_
  refine g_cg0 [22, 23, 24, 25, 7] ?_
  refine Z12 ?_
  refine cS 1 (fun bq rest hc1 hc2 hc3 => vq rfl (qG (by exact sz27) u27 rfl) (gN ⟨rfl, rfl⟩)) ?_
  refine Z12 ?_
  refine cS 2 (fun bq rest hc1 hc2 hc3 => vq rfl qM (gN ⟨rfl, rfl⟩)) ?_
  refine Z63 ?_
  refine cS 3 (fun bq rest hc1 hc2 hc3 => gL (xs := [.tmp 23]) rfl (c105 l hl) (gN ⟨rfl, rfl⟩)) ?_
  refine cP [0, 2, 2] ?_
  refine cS 4 (fun bq rest hc1 hc2 hc3 => gL (xs := [.tmp 22, .tmp 24]) rfl ((Tr.d_mk op name num ks ▸ c104 (kl l) hkl (.mk op name num ks) hok hsh)) (gN ⟨rfl, rfl⟩)) ?_
  rw [hv, valD]
  refine cP [3, 3, 0, 1, 2, 3] ?_
  refine cS 5 (fun bq rest hc1 hc2 hc3 => vq rfl qA (gN ⟨rfl, rfl⟩)) ?_
  refine Z53 ?_
  refine tN (gS (gS (gR ?_)))
  refine Z1 ?_;refine Z150 ?_;refine Z3 ?_
  refine gC (fun hb3 => ?_) (fun hb3 => ?_)
  ·
   refine Z2 ?_;refine Z256 ?_;refine Z200 ?_
   refine fincd sz27 u27 (by simp) ?_
   exact ⟨by rw [evalT, if_neg (by rw [hb0]; decide), if_neg (by rw [hb1]; decide), if_neg (by rw [hb2]; decide), hv, z0, Tr.d_mk]; rfl, rfl⟩
  exact absurd hb3 (by decide)
 refine Z89 ?_
 refine g_cg0 [22, 23, 24, 25, 7] ?_
 refine Z12 ?_
 refine cS 1 (fun bq rest hc1 hc2 hc3 => vq rfl (qG (by exact sz27) u27 rfl) (gN ⟨rfl, rfl⟩)) ?_
 refine Z12 ?_
 refine cS 2 (fun bq rest hc1 hc2 hc3 => vq rfl qM (gN ⟨rfl, rfl⟩)) ?_
 refine Z63 ?_
 refine cS 3 (fun bq rest hc1 hc2 hc3 => gL (xs := [.tmp 23]) rfl (c105 l hl) (gN ⟨rfl, rfl⟩)) ?_
 refine cP [0, 2, 2] ?_
 refine cS 4 (fun bq rest hc1 hc2 hc3 => gL (xs := [.tmp 22, .tmp 24]) rfl ((Tr.d_mk op name num ks ▸ c104 (kl l) hkl (.mk op name num ks) hok hsh)) (gN ⟨rfl, rfl⟩)) ?_
 obtain ⟨vop, vnm, vnu, vks, hva⟩ := v.d_agg
 have hvo := value_ok (kl l) hkl _ _ (Nat.le_refl _) hok hsh v hv
 rw [hv, valD, hva]
 refine cP [3, 3, 0, 1, 2, 3] ?_
 refine cS 5 (fun bq rest hc1 hc2 hc3 => vq rfl qA (gN ⟨rfl, rfl⟩)) ?_
 refine Z53 ?_
 refine tN (gS (gS (gR ?_)))
 refine Z1 ?_;refine Z150 ?_;refine Z3 ?_
 refine gC (fun hb4 => ?_) (fun hb4 => ?_)
 ·
  exact absurd hb4 (by decide)
 refine Z45 ?_;refine Z1 ?_;refine Z117 ?_;refine Z11 ?_
 refine gL (xs := [.tmp 31]) rfl ((hva ▸ c100 v hvo.lens)) ?_
 refine Z17 ?_;refine Z193 ?_
 refine fincd sz27 u27 (by simp) ?_
 exact ⟨by rw [evalT, if_neg (by rw [hb0]; decide), if_neg (by rw [hb1]; decide), if_neg (by rw [hb2]; decide), hv, hva], rfl⟩
mutual
/-- An expression whose largest parts with a value are replaced by it. -/
def Tr.expr : Tr → Tr
 | .mk op name num ks =>
  if (!isExprB op) = true then .mk op name num ks
  else if ((evalT (.mk op name num ks) []).2 == 0) = true then (evalT (.mk op name num ks) []).1 else .mk op name num (Tr.exprs ks)
def Tr.exprs : List Tr → List Tr
 | [] => []
 | k :: r => k.expr :: Tr.exprs r
end
theorem Tr.exprs_map (ks : List Tr) : Tr.exprs ks = ks.map Tr.expr := by
 induction ks with
 | nil => rw [Tr.exprs]; rfl
 | cons k r ih => rw [Tr.exprs, ih]; rfl
end Go.Proofs.YtklkbfpjimeaoaaGreat
namespace Go.Proofs.YtklkbfpjimeaoaaGreat
open Go Go.Proofs.YtklkbfpjimeaoaaGreat.E
theorem c97 (n : Int) : Pf Tryz.prog 97 [.int .i64 n] (.d (.agg [.int .i64 1, .str ⟨#[]⟩, .int .i64 n, .sl []])) := by
 refine pf_body (rvs := [.cell 2 27]) [(0, .d (.int .i64 n))] Tryz.func97 Tryz.ntmps97 Tryz.results97 (fun S0 O0 w0 m0 hm0 => ?_)
 refine Z2 ?_;refine Z29 ?_;refine Z7 ?_;refine Z1 ?_;refine Z256 ?_;refine Z6 ?_;refine Z83 ?_
 exact ⟨by rfl, rfl⟩
theorem c98 (s : ByteArray) (l : List D) : Pf Tryz.prog 98 [.str s, .sl l] (.d (.agg [.int .i64 6, .str s, .int .i64 0, .sl l])) := by
 refine pf_body (rvs := [.cell 4 27]) [(0, .d (.str s)), (1, .d (.sl l))] Tryz.func98 Tryz.ntmps98 Tryz.results98 (fun S0 O0 w0 m0 hm0 => ?_)
 refine Z2 ?_;refine Z29 ?_;refine Z7 ?_;refine Z198 ?_;refine Z256 ?_;refine Z6 ?_;refine Z83 ?_
 exact ⟨by rfl, rfl⟩
def awT : Tr := .mk 19 ⟨#[]⟩ 0 [.mk 6 ⟨#[62]⟩ 0 [.mk 4 ⟨#[107]⟩ 0 [], .mk 1 ⟨#[]⟩ 2 []], .mk 6 ⟨#[42]⟩ 0 [.mk 1 ⟨#[]⟩ 2 [], .mk 4 ⟨#[107]⟩ 0 []], .mk 4 ⟨#[120]⟩ 0 []]
def awC : List (ByteArray × Tr) := [(⟨#[107]⟩, intT 3)]
theorem aw_ev : evalT awT awC = (intT 6, 0) := by rfl
def okTr : Nat → Tr → Bool
 | 0, _ => false
 | n + 1, .mk op nm num ks => ((((Lit.int .i64 op).wf && decide (nm.size ≤ 140737488355328)) && (Lit.int .i64 num).wf) && decide (ks.length ≤ 140737488355328)) && ks.all (okTr n)
theorem okTr_ok : ∀ (n : Nat) (t : Tr), okTr n t = true → t.Ok := by
 intro n
 induction n with
 | zero => intro t h; cases h
 | succ n ih =>
  intro t h
  obtain ⟨op, nm, num, ks⟩ := t
  rw [okTr] at h
  simp only [Bool.and_eq_true, decide_eq_true_eq, List.all_eq_true] at h
  exact .mk h.1.1.1.1 h.1.1.1.2 h.1.1.2 h.1.2 fun k hk => ih k (h.2 k hk)
theorem aw_ok : awT.Ok := okTr_ok 5 awT (by rfl)
theorem awC_ok : COk awC := ⟨by decide, fun c hc => by
 rw [awC, List.mem_singleton] at hc
 subst hc
 exact ⟨okTr_ok 5 _ (by rfl), by decide⟩⟩
theorem aw29 : Pf Tryz.prog 29 [.agg [.int .i64 19, .str ⟨#[]⟩, .int .i64 0, .sl [.agg [.int .i64 6, .str ⟨#[62]⟩, .int .i64 0, .sl [.agg [.int .i64 4, .str ⟨#[107]⟩, .int .i64 0, .sl []], .agg [.int .i64 1, .str ⟨#[]⟩, .int .i64 2, .sl []]]], .agg [.int .i64 6, .str ⟨#[42]⟩, .int .i64 0, .sl [.agg [.int .i64 1, .str ⟨#[]⟩, .int .i64 2, .sl []], .agg [.int .i64 4, .str ⟨#[107]⟩, .int .i64 0, .sl []]]], .agg [.int .i64 4, .str ⟨#[120]⟩, .int .i64 0, .sl []]]], .sl [.agg [.str ⟨#[107]⟩, .int .i64 1, .str ⟨#[]⟩, .int .i64 3, .sl []]]] (.tup [.d (.agg [.int .i64 1, .str ⟨#[]⟩, .int .i64 6, .sl []]), .d (.int .i64 0)]) := by
 have h := c29 awT aw_ok (by decide) awC awC_ok
 rw [aw_ev] at h
 exact h
set_option maxHeartbeats 8000000 in
theorem c27  : Pf Tryz.prog 27 [] (.d (.bool true)) := by
 refine pf_body (rvs := [.tmp 0]) [] Tryz.func27 Tryz.ntmps27 Tryz.results27 (fun S0 O0 w0 m0 hm0 => ?_)
 refine Z211 ?_;refine Z54 ?_;refine Z218 ?_
 refine gF 0 [] (.agg [.int .i64 4, .str ⟨#[107]⟩, .int .i64 0, .sl []]) rfl ?_
 refine Z7 ?_;refine Z194 ?_;refine Z245 ?_
 refine g_cg [8, 9, 10, 11, 12, 13, 14, 15, 16, 17, 18, 19, 20, 21, 22, 4] (fun bq => cond (bq 15) ([] ++ [cond (bq 16) [.d (.int .i64 19), .d (.str ⟨#[]⟩), .d (.int .i64 0), .d (.sl [.agg [.int .i64 6, .str ⟨#[62]⟩, .int .i64 0, .sl [.agg [.int .i64 4, .str ⟨#[107]⟩, .int .i64 0, .sl []], .agg [.int .i64 1, .str ⟨#[]⟩, .int .i64 2, .sl []]]], .agg [.int .i64 6, .str ⟨#[42]⟩, .int .i64 0, .sl [.agg [.int .i64 1, .str ⟨#[]⟩, .int .i64 2, .sl []], .agg [.int .i64 4, .str ⟨#[107]⟩, .int .i64 0, .sl []]]], .agg [.int .i64 4, .str ⟨#[120]⟩, .int .i64 0, .sl []]])] [.d (.int .i64 0), .d (.str ⟨#[]⟩), .d (.int .i64 0), .nils]]) []) rfl ?_
 refine Z12 ?_
 refine cS 1 (fun bq rest hc1 hc2 hc3 => vq rfl qM (gN ⟨rfl, rfl⟩)) ?_
 refine Z12 ?_
 refine cS 2 (fun bq rest hc1 hc2 hc3 => vq rfl (qG (by exact sz27) u27 rfl) (gN ⟨rfl, rfl⟩)) ?_
 refine Z12 ?_
 refine cS 3 (fun bq rest hc1 hc2 hc3 => vq rfl qM (gN ⟨rfl, rfl⟩)) ?_
 refine Z59 ?_
 refine cS 4 (fun bq rest hc1 hc2 hc3 => gL (xs := [.const (.int .i64 (2))]) rfl (c97 2) (gN ⟨rfl, rfl⟩)) ?_
 refine cP [1, 3] ?_
 refine cS 5 (fun bq rest hc1 hc2 hc3 => sv rfl (y_buildSlice (xs := [.tmp 9, .tmp 11]) u22 inf27) (gN ⟨rfl, rfl⟩)) ?_
 refine cP [0, 4, 3] ?_
 refine cS 6 (fun bq rest hc1 hc2 hc3 => gL (xs := [.const (.string ⟨#[62]⟩), .tmp 12]) rfl (c98 _ _) (gN ⟨rfl, rfl⟩)) ?_
 refine Z12 ?_
 refine cS 7 (fun bq rest hc1 hc2 hc3 => vq rfl qM (gN ⟨rfl, rfl⟩)) ?_
 refine Z12 ?_
 refine cS 8 (fun bq rest hc1 hc2 hc3 => vq rfl qM (gN ⟨rfl, rfl⟩)) ?_
 refine cP [7, 5] ?_
 refine cS 9 (fun bq rest hc1 hc2 hc3 => gL (xs := [.const (.int .i64 (2))]) rfl (c97 2) (gN ⟨rfl, rfl⟩)) ?_
 refine Z12 ?_
 refine cS 10 (fun bq rest hc1 hc2 hc3 => vq rfl (qG (by exact sz27) u27 rfl) (gN ⟨rfl, rfl⟩)) ?_
 refine cP [8, 9] ?_
 refine cS 11 (fun bq rest hc1 hc2 hc3 => sv rfl (y_buildSlice (xs := [.tmp 16, .tmp 17]) u22 inf27) (gN ⟨rfl, rfl⟩)) ?_
 refine cP [6, 10, 8] ?_
 refine cS 12 (fun bq rest hc1 hc2 hc3 => gL (xs := [.const (.string ⟨#[42]⟩), .tmp 18]) rfl (c98 _ _) (gN ⟨rfl, rfl⟩)) ?_
 refine Z12 ?_
 refine cS 13 (fun bq rest hc1 hc2 hc3 => vq rfl (q_buildS pl27 zr27) (gN ⟨rfl, rfl⟩)) ?_
 refine cP [5, 11, 12] ?_
 refine cS 14 (fun bq rest hc1 hc2 hc3 => sv rfl (y_buildSlice (xs := [.tmp 13, .tmp 19, .tmp 20]) u22 inf27) (gN ⟨rfl, rfl⟩)) ?_
 refine cP [13] ?_
 refine cS 15 (fun bq rest hc1 hc2 hc3 => vq rfl (q_buildS pl27 zr27) (gN ⟨rfl, rfl⟩)) ?_
 refine Z12 ?_
 refine cS 16 (fun bq rest hc1 hc2 hc3 => by
  have hs := hc3.no 16 15 hc1
  have e1 : upd bq 15 15 = true := rfl
  have e2 : upd bq 15 16 = false := hs
  simp only [hc1, cond_false]
  refine Z29 ?_
  exact (gN ⟨rfl, by rw [e1, e2]; rfl⟩)) ?_
 refine cP [15, 14, 11, 0, 1, 2, 3, 4, 5, 6, 7, 8, 9, 10, 11, 12, 13, 14, 15] ?_
 refine cg_act 17 (fun bq rest hc1 hc2 hc3 => by
  have ha := hc2 15 dep_in
  have e1 : upd bq 16 15 = true := ha
  have e2 : upd bq 16 16 = true := rfl
  simp only [ha, hc1, cond_true, cond_false]
  refine Z17 ?_
  exact (gN ⟨rfl, by rw [e1, e2]; rfl⟩)) ?_
 refine cg_done (mem'' := [[.d (.int .i64 19), .d (.str ⟨#[]⟩), .d (.int .i64 0), .d (.sl [.agg [.int .i64 6, .str ⟨#[62]⟩, .int .i64 0, .sl [.agg [.int .i64 4, .str ⟨#[107]⟩, .int .i64 0, .sl []], .agg [.int .i64 1, .str ⟨#[]⟩, .int .i64 2, .sl []]]], .agg [.int .i64 6, .str ⟨#[42]⟩, .int .i64 0, .sl [.agg [.int .i64 1, .str ⟨#[]⟩, .int .i64 2, .sl []], .agg [.int .i64 4, .str ⟨#[107]⟩, .int .i64 0, .sl []]]], .agg [.int .i64 4, .str ⟨#[120]⟩, .int .i64 0, .sl []]])]]) ?_
 refine Z97 ?_
 refine gP [0, 1, 2, 3, 4, 5, 6] ?_
 refine g_frz 0 [] (.agg [.int .i64 19, .str ⟨#[]⟩, .int .i64 0, .sl [.agg [.int .i64 6, .str ⟨#[62]⟩, .int .i64 0, .sl [.agg [.int .i64 4, .str ⟨#[107]⟩, .int .i64 0, .sl []], .agg [.int .i64 1, .str ⟨#[]⟩, .int .i64 2, .sl []]]], .agg [.int .i64 6, .str ⟨#[42]⟩, .int .i64 0, .sl [.agg [.int .i64 1, .str ⟨#[]⟩, .int .i64 2, .sl []], .agg [.int .i64 4, .str ⟨#[107]⟩, .int .i64 0, .sl []]]], .agg [.int .i64 4, .str ⟨#[120]⟩, .int .i64 0, .sl []]]]) rfl ?_
 refine g_cg [24, 25, 26, 27, 28, 29, 23, 30, 31, 5, 6] (fun bq => cond (bq 9) ([] ++ [cond (bq 10) [.d (.int .i64 1), .d (.str ⟨#[]⟩), .d (.int .i64 6), .d (.sl [])] [.d (.int .i64 0), .d (.str ⟨#[]⟩), .d (.int .i64 0), .nils]]) []) rfl ?_
 refine Z12 ?_
 refine cS 1 (fun bq rest hc1 hc2 hc3 => vq rfl (qG (by exact sz27) u27 rfl) (gN ⟨rfl, rfl⟩)) ?_
 refine Z12 ?_
 refine cS 2 (fun bq rest hc1 hc2 hc3 => vq rfl qM (gN ⟨rfl, rfl⟩)) ?_
 refine Z63 ?_
 refine cS 3 (fun bq rest hc1 hc2 hc3 => gL (xs := [.const (.int .i64 (3))]) rfl (c97 3) (gN ⟨rfl, rfl⟩)) ?_
 refine Z59 ?_
 refine cS 4 (fun bq rest hc1 hc2 hc3 => vq rfl (q_buildS pl66 zr66) (gN ⟨rfl, rfl⟩)) ?_
 refine Z57 ?_
 refine cS 5 (fun bq rest hc1 hc2 hc3 => sv rfl (y_buildSlice (xs := [.tmp 27]) u51 inf66) (gN ⟨rfl, rfl⟩)) ?_
 refine cP [0, 4, 2] ?_
 refine cS 6 (fun bq rest hc1 hc2 hc3 => gL (xs := [.tmp 24, .tmp 28]) rfl (aw29) (gN ⟨rfl, rfl⟩)) ?_
 refine Z81 ?_
 refine cS 7 (fun bq rest hc1 hc2 hc3 => vq rfl qM (gN ⟨rfl, rfl⟩)) ?_
 refine Z73 ?_
 refine cS 8 (fun bq rest hc1 hc2 hc3 => vq rfl qE (gN ⟨rfl, rfl⟩)) ?_
 refine Z73 ?_
 refine cS 9 (fun bq rest hc1 hc2 hc3 => vq rfl qE (gN ⟨rfl, rfl⟩)) ?_
 refine Z12 ?_
 refine cS 10 (fun bq rest hc1 hc2 hc3 => by
  have hs := hc3.no 10 9 hc1
  have e1 : upd bq 9 9 = true := rfl
  have e2 : upd bq 9 10 = false := hs
  simp only [hc1, cond_false]
  refine Z29 ?_
  exact (gN ⟨rfl, by rw [e1, e2]; rfl⟩)) ?_
 refine cP [9, 7, 5, 0, 1, 2, 3, 4, 5, 6, 7, 9] ?_
 refine cg_act 11 (fun bq rest hc1 hc2 hc3 => by
  have ha := hc2 9 dep_in
  have e1 : upd bq 10 9 = true := ha
  have e2 : upd bq 10 10 = true := rfl
  simp only [ha, hc1, cond_true, cond_false]
  refine Z17 ?_
  exact (gN ⟨rfl, by rw [e1, e2]; rfl⟩)) ?_
 refine cP [8, 10, 0, 1, 2, 3, 4, 5, 6, 7, 8, 9, 10] ?_
 refine cS 12 (fun bq rest hc1 hc2 hc3 => vq rfl qA (gN ⟨rfl, rfl⟩)) ?_
 refine cg_done (mem'' := [[.d (.int .i64 1), .d (.str ⟨#[]⟩), .d (.int .i64 6), .d (.sl [])]]) ?_
 refine Z97 ?_
 refine gP [0, 1, 2, 3, 4, 5, 6] ?_
 refine Z208 ?_;refine Z9 ?_;refine Z1 ?_
 refine sgo rfl (by rfl) (y_fieldAddr u27 rfl sz3) ?_
 refine sgo rfl (by rfl) (y_load_leaf u3) ?_
 refine sgo rfl (by rfl) y_eql ?_
 refine Z8 ?_;refine Z1 ?_
 refine sgo rfl (by rfl) (y_fieldAddr u27 rfl sz3) ?_
 refine sgo rfl (by rfl) (y_load_leaf u3) ?_
 refine sgo rfl (by rfl) y_eql ?_
 refine Z228 ?_
 exact ⟨by rfl, rfl⟩
theorem depth_mem : ∀ {ks : List Tr} {k : Tr} (d : Int), k ∈ ks → k.depth ≤ Tr.deeps ks d
 | x :: r, k, d, h => by
  rw [Tr.deeps]
  have h1 := Tr.deeps_bd r (if x.depth > d then x.depth else d)
  rcases List.mem_cons.1 h with rfl | h
  · split at h1 <;> rename_i h2 <;> first | rw [if_pos h2] | rw [if_neg h2]
    all_goals omega
  · exact depth_mem _ h
theorem lim_iff (t : Tr) : limitsE [t] = 0 ↔ (t.size : Int) ≤ 4000 ∧ t.depth ≤ 60 := by
 have hd := Tr.depth_bd t
 have hs : Tr.sizes [t] = t.size := by simp [Tr.sizes]
 have hp : Tr.deeps [t] 0 = t.depth := by
  rw [Tr.deeps, Tr.deeps, if_pos (by omega)]
 unfold limitsE
 rw [hs, hp]
 by_cases h1 : (t.size : Int) > 4000
 · rw [if_pos h1]; constructor
   · intro h; cases h
   · intro h; omega
 · rw [if_neg h1]
   by_cases h2 : t.depth > 60
   · rw [if_pos h2]; constructor
     · intro h; cases h
     · intro h; omega
   · rw [if_neg h2]; constructor
     · intro _; omega
     · intro _; rfl
def QT (t : Tr) : Prop := limitsE [t] = 0 ∧ t.shaped = true ∧ t.Ok
variable {op num : Int} {nm : ByteArray} {ks : List Tr}
theorem QT.kid (h : QT (.mk op nm num ks)) {k : Tr} (hk : k ∈ ks) : QT k := by
 obtain ⟨h1, h2, h3⟩ := h
 refine ⟨?_, (Tr.shaped_mk h2).2 k hk, Tr.kids_ok h3 k hk⟩
 rw [lim_iff] at h1 ⊢
 have hs := Tr.size_mem hk
 have hd := depth_mem 0 hk
 rw [Tr.size, Tr.depth] at h1
 omega
theorem QT.of {t : Tr} (h : nodeE t = 0) (hok : t.Ok) : QT t := by
 obtain ⟨op, nm, num, ks⟩ := t
 refine ⟨?_, nodeE_shaped h, hok⟩
 rw [nodeE] at h
 split at h
 · exact h
 · rename_i h1
   simpa using h1
theorem nodeE_expr (h : QT (.mk op nm num ks)) (ho : isExprB op = true) : nodeE (.mk op nm num ks) = 0 := by
 rw [nodeE, if_neg (by rw [h.1]; decide), if_neg (by rw [ho, h.2.1]; simp)]
theorem kl_nil : kl [] = [] := rfl
def evR : Option Tr → Tr × Int
 | none => (z0, 140)
 | some v => (v, 0)
theorem evalT_expr (h : QT (.mk op nm num ks)) (ho : isExprB op = true) : evalT (.mk op nm num ks) [] = evR ((Tr.mk op nm num ks).value []) := by
 rw [evalT, nodeE_expr h ho, if_neg (by decide), ho, if_neg (by decide), badC_nil, if_neg (by decide), kl_nil]
 cases (Tr.mk op nm num ks).value [] <;> rfl
def exR (op : Int) (nm : ByteArray) (num : Int) (ks : List Tr) : Option Tr → Tr
 | none => .mk op nm num (ks.map Tr.expr)
 | some v => v
theorem expr_expr (h : QT (.mk op nm num ks)) (ho : isExprB op = true) : (Tr.mk op nm num ks).expr = exR op nm num ks ((Tr.mk op nm num ks).value []) := by
 rw [Tr.expr, ho, if_neg (by decide), evalT_expr h ho]
 cases (Tr.mk op nm num ks).value [] with
 | none => rw [Tr.exprs_map]; rfl
 | some v => rfl
variable {v : Tr}
theorem ValOk.shaped (h : ValOk v) : v.shaped = true := by
 rcases h with ⟨n, _, rfl⟩ | ⟨b, rfl⟩
 · rfl
 · cases b <;> rfl
theorem ValOk.okT (h : ValOk v) : v.Ok := by
 rcases h with ⟨n, hn, rfl⟩ | ⟨b, rfl⟩
 · refine .mk (by decide) (by decide) ?_ (by decide) (by simp)
   simpa [Lit.wf, IntKind.min, IntKind.max, IntKind.signed, IntKind.bits, wf64] using hn
 · cases b
   · exact .mk (by decide) (by decide) (by decide) (by decide) (by simp)
   · exact .mk (by decide) (by decide) (by decide) (by decide) (by simp)
theorem ValOk.one (h : ValOk v) : v.size = 1 := by
 rcases h with ⟨n, _, rfl⟩ | ⟨b, rfl⟩
 · rw [intT, Tr.size, Tr.sizes]
 · rw [boolT, Tr.size, Tr.sizes]
theorem ValOk.QT (h : ValOk v) : QT v := by
 refine ⟨?_, h.shaped, h.okT⟩
 rw [lim_iff, h.one]
 have := Tr.depth_bd v
 have := h.one
 omega
theorem ValOk.self (h : ValOk v) (l : KL) : v.value l = some v ∧ v.span l = noSP := by
 rcases h with ⟨n, _, rfl⟩ | ⟨b, rfl⟩
 · exact ⟨rfl, rfl⟩
 · exact ⟨rfl, rfl⟩
theorem ValOk.eval (h : ValOk v) : evalT v [] = (v, 0) ∧ v.expr = v := by
 have hq := h.QT
 have hv := (h.self []).1
 rcases h with ⟨n, hn, rfl⟩ | ⟨b, rfl⟩
 · refine ⟨?_, ?_⟩
   · rw [intT] at hq hv ⊢; rw [evalT_expr hq rfl, hv]; rfl
   · rw [intT] at hq hv ⊢; rw [expr_expr hq rfl, hv]; rfl
 · refine ⟨?_, ?_⟩
   · rw [boolT] at hq hv ⊢; rw [evalT_expr hq rfl, hv]; rfl
   · rw [boolT] at hq hv ⊢; rw [expr_expr hq rfl, hv]; rfl
theorem spans_get (l : KL) (ks : List Tr) : Tr.spans l ks = ks.map (Tr.span l) := by
 induction ks with
 | nil => rw [Tr.spans]; rfl
 | cons k r ih => rw [Tr.spans, ih]; rfl
theorem KOk_nil : KOk [] := fun x hx => by cases hx
theorem QT.val {t : Tr} (h : QT t) {v : Tr} (hv : t.value [] = some v) : ValOk v := value_ok [] KOk_nil _ t (Nat.le_refl _) h.2.2 h.2.1 v hv
theorem Tr.d_eta (t : Tr) : t.d = .agg [.int .i64 t.op, .str t.nm, .int .i64 t.nu, .sl (t.kids.map Tr.d)] := by
 obtain ⟨op, nm, num, ks⟩ := t
 exact Tr.d_mk ..
theorem z0_ok : z0.Ok := okTr_ok 5 z0 (by rfl)
end Go.Proofs.YtklkbfpjimeaoaaGreat
