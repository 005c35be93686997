import Derived.Test.YtklkbfpjimeaoaaGreatM31
/- Contracts of functions. Conditions: none. -/
set_option linter.unusedSimpArgs false
set_option linter.unusedVariables false
set_option maxRecDepth 20000
namespace Go.Proofs.YtklkbfpjimeaoaaGreat
open Go Go.Proofs.YtklkbfpjimeaoaaGreat.E
section
theorem any_drop {α : Type} {l : List α} {z : Nat} {x : α} (h : l[z]? = some x) (p : α → Bool) : (l.drop z).any p = (p x || (l.drop (z + 1)).any p) := by
 obtain ⟨hlt, rfl⟩ := List.getElem?_eq_some_iff.1 h
 rw [List.drop_eq_getElem_cons hlt, List.any_cons]
def intents5 : List ByteArray := [⟨#[]⟩, inB, constB, paramB, tyB]
theorem has5 (s : ByteArray) : hasB intents5 s = ((((decide (s = ⟨#[]⟩) || decide (s = inB)) || decide (s = constB)) || decide (s = paramB)) || decide (s = tyB)) := by
 unfold hasB intents5
 simp only [List.any_cons, List.any_nil, Bool.or_false, Bool.or_assoc]
variable {f : Fm}
theorem fmB_bad (h : (!hasB intents5 f.intent || !nameB f.nm) = true) : fmB f = false := by
 unfold fmB
 split
 · rfl
 · rename_i h1
   rw [has5] at h
   split
   · rename_i h2
     rw [h2, Bool.or_true] at h
     simp at h1 h
     rw [h1] at h
     cases h
   · rename_i h2
     split
     · rename_i h3
       rw [h3, Bool.true_or] at h
       simp at h1 h
       rw [h1] at h
       cases h
     · rfl
theorem fmB_type (h : (!hasB intents5 f.intent || !nameB f.nm) = false) (ht : decide (f.intent = tyB) = true) : fmB f = !((f.ty.op != 0 || !bareB f.ty) || decide ((f.ty.kids.length : Int) > 0)) := by
 unfold fmB
 rw [Bool.or_eq_false_iff] at h
 rw [if_neg (by rw [h.2]; decide), if_pos ht]
 unfold bareB
 cases h1 : (f.ty.op == 0)
 · simp [bne, h1]
 · cases h2 : decide (f.ty.nm = ⟨#[]⟩)
   · simp [bne, h1, h2]
   · cases h3 : (f.ty.nu == 0)
     · simp [bne, h1, h2, h3]
     · simp only [bne, h1, h2, h3, Bool.and_self, Bool.not_true, Bool.or_self, Bool.true_and, Bool.false_or]
       by_cases h4 : f.ty.kids = []
       · simp [h4]
       · have : 0 < f.ty.kids.length := List.length_pos_iff.2 h4
         rw [decide_eq_true (show (f.ty.kids.length : Int) > 0 by omega)]
         simp
         exact h4
theorem fmB_other (h : (!hasB intents5 f.intent || !nameB f.nm) = false) (ht : decide (f.intent = tyB) = false) : fmB f = !(!typedB f.ty || decide (f.ty.nm = voidB)) := by
 rw [Bool.or_eq_false_iff] at h
 have h2 := h.1
 rw [has5, ht, Bool.or_false, Bool.not_eq_false'] at h2
 rw [fmB_no h.2 ht h2]
 cases typedB f.ty <;> simp
variable {q : Pc}
theorem pcB_formals (h : (q.formals.any fun f => !fmB f) = true) : pcB q = false := by
 unfold pcB; rw [if_pos (by rw [h, Bool.or_true])]
theorem pcB_head (h : ((!nameB q.nm || decide ((q.wh.length : Int) > 1)) || !typedB q.result) = true) : pcB q = false := by
 unfold pcB
 rw [if_pos]
 rw [Bool.or_eq_true, Bool.or_eq_true] at h
 rcases h with (h | h) | h <;> rw [h] <;> simp
theorem pcB_rest (h : ((!nameB q.nm || decide ((q.wh.length : Int) > 1)) || !typedB q.result) = false) (hf : (q.formals.any fun f => !fmB f) = false) : pcB q = if q.wh.any expW = true then false else !(q.body.any stmW) := by
 unfold pcB
 rw [Bool.or_eq_false_iff, Bool.or_eq_false_iff] at h
 rw [if_neg]
 rw [h.1.1, h.1.2, h.2, hf]
 decide
set_option maxHeartbeats 16000000 in
theorem c91 (p : Pg) (hok : p.Ok) (hT : p.total ≤ 1000000) : Pf Tryz.prog 91 [.agg [.sl (p.globals.map Tr.d), .sl (p.procs.map Pc.d)]] (.d (.sl (p.trees.map Tr.d))) := by
 refine pf_body (rvs := [.tmp 2]) [(0, .d (.agg [.sl (p.globals.map Tr.d), .sl (p.procs.map Pc.d)]))] Tryz.func91 Tryz.ntmps91 Tryz.results91 (fun S0 O0 w0 m0 hm0 => ?_)
 refine Z3 ?_
 have hts := p.trees_size
 have hgs := Tr.len_sizes p.globals
 have htt : p.total = Tr.sizes p.globals + pcsT p.procs := rfl
 refine Z24 ?_;refine Z80 ?_;refine Z324 ?_;refine Z266 ?_;refine Z443 ?_
 refine sv rfl (y_appendA (xs := []) (ys := p.globals.map Tr.d) u22 inf27 (hk := by exact Tr.ds_cells _) (hlen := by simp [lim]; omega) (hB := by simp [lim]; omega)) ?_
 refine Z63 ?_;refine Z11 ?_;refine Z357 ?_
 refine g_loop (α := Nat × List Tr) (fun z => ⟨[(4, .d (.int .i64 (z.1 : Nat))), (1, .d (.ptr (.agg [.sl (p.globals.map Tr.d), .sl (p.procs.map Pc.d)]))), (3, .osl 4 (z.2.map Tr.d))], []⟩) (fun z => p.procs.length - z.1) (fun z => z.1 ≤ p.procs.length ∧ z.2 = p.globals ++ (p.procs.take z.1).flatMap pcTrees) (0, p.globals) ⟨Nat.zero_le _, by simp⟩ (fun z hz Q' hn0 he0 hr0 => ?_) (le_of)
 obtain ⟨z, acc⟩ := z
 obtain ⟨hz1, hz2⟩ := hz
 replace hz1 : z ≤ p.procs.length := hz1
 replace hz2 : acc = p.globals ++ (p.procs.take z).flatMap pcTrees := hz2
 refine Z355 ?_;refine Z403 ?_;refine Z156 ?_;refine Z346 ?_
 refine gC ?_ ?_ <;> intro hb0
 ·
  have hlt : z < p.procs.length := by simpa using hb0
  obtain ⟨q, hq⟩ : ∃ q, p.procs[z]? = some q := ⟨_, gE hlt⟩
  have hqd := pc_get hq
  have hqo := hok.p q (mG hq)
  have hpg := pcsT_get hq
  have hqt : pcT q = fmT q.formals + q.result.size + Tr.sizes q.wh + Tr.sizes q.body := rfl
  have hfs := fmTrees_size q.formals
  have hwl := Tr.len_sizes q.wh
  have hbl := Tr.len_sizes q.body
  have hal : acc.length ≤ 1000000 := by
   have h1 := Tr.len_sizes acc
   have h2 : Tr.sizes acc = Tr.sizes p.globals + Tr.sizes ((p.procs.take z).flatMap pcTrees) := by rw [hz2, sizes_append]
   omega
  refine Z26 ?_;refine Z403 ?_;refine Z0 ?_;refine Z189 ?_;refine Z129 ?_;refine Z208 ?_;refine Z228 ?_;refine Z33 ?_;refine Z11 ?_;refine Z357 ?_
  refine g_loop (α := Nat × List Tr) (fun y => ⟨[(6, .d (.int .i64 (y.1 : Nat))), (5, .d (.ptr (.agg [.str q.nm, .bool q.iter, .bool q.priv, .sl (q.formals.map Fm.d), .int .i64 q.result.op, .str q.result.nm, .int .i64 q.result.nu, .sl (q.result.kids.map Tr.d), .sl (q.wh.map Tr.d), .sl (q.body.map Tr.d)]))), (4, .d (.int .i64 (z : Nat))), (1, .d (.ptr (.agg [.sl (p.globals.map Tr.d), .sl (p.procs.map Pc.d)]))), (3, .osl 4 (y.2.map Tr.d))], []⟩) (fun y => q.formals.length - y.1) (fun y => y.1 ≤ q.formals.length ∧ y.2 = acc ++ fmTrees (q.formals.take y.1) ∧ y.2.length ≤ 1000000 + y.1) (0, acc) ⟨Nat.zero_le _, by simp [fmTrees], hal⟩ (fun y hy Q' hn1 he1 hr1 => ?_) (le_of)
  obtain ⟨y, b⟩ := y
  obtain ⟨hy1, hy2, hy3⟩ := hy
  replace hy1 : y ≤ q.formals.length := hy1
  replace hy2 : b = acc ++ fmTrees (q.formals.take y) := hy2
  replace hy3 : b.length ≤ 1000000 + y := hy3
  refine Z355 ?_;refine Z431 ?_;refine Z170 ?_;refine Z346 ?_
  refine gC ?_ ?_ <;> intro hb1
  ·
   have hlt2 : y < q.formals.length := by simpa using hb1
   obtain ⟨f, hf⟩ : ∃ f, q.formals[y]? = some f := ⟨_, gE hlt2⟩
   have hfd := fm_get hf
   have hstep0 := fmTrees_step hf
   refine Z26 ?_;refine Z431 ?_;refine Z0 ?_;refine Z182 ?_;refine Z442 ?_;refine Z307 ?_;refine Z5 ?_
   refine gC ?_ ?_ <;> intro hb2
   ·
    have hnt : (!decide (f.intent = tyB)) = true := hb2
    have hstep : fmTrees (q.formals.take (y + 1)) = fmTrees (q.formals.take y) ++ [f.ty] := by rw [hstep0, if_pos hnt]
    refine Z14 ?_;refine Z119 ?_;refine Z431 ?_;refine Z0 ?_;refine Z182 ?_;refine Z58 ?_;refine Z6 ?_
    refine sv rfl (y_buildSlice (xs := [.tmp 43]) u22 inf27) ?_
    refine Z90 ?_
    rw [show b.map Tr.d ++ [D.agg [.int .i64 f.ty.op, .str f.ty.nm, .int .i64 f.ty.nu, .sl (f.ty.kids.map Tr.d)]] = (b ++ [f.ty]).map Tr.d from by rw [← t_eta]; simp]
    refine Z63 ?_;refine Z95 ?_;refine Z349 ?_
    refine hn1 _ (y + 1, b ++ [f.ty]) ⟨by show y + 1 ≤ q.formals.length; omega, by show b ++ [f.ty] = _; rw [hy2, hstep, List.append_assoc], by show (b ++ [_]).length ≤ 1000000 + (y + 1); rw [List.length_append, List.length_singleton]; omega⟩ (by show q.formals.length - (y + 1) < q.formals.length - y; omega) le_of
   have hnt : (!decide (f.intent = tyB)) = false := hb2
   have hstep : fmTrees (q.formals.take (y + 1)) = fmTrees (q.formals.take y) := by rw [hstep0, if_neg (by rw [hnt]; decide), List.append_nil]
   refine Z427 ?_
   refine hn1 _ (y + 1, b) ⟨by show y + 1 ≤ q.formals.length; omega, by show b = _; rw [hy2, hstep], by show b.length ≤ 1000000 + (y + 1); omega⟩ (by show q.formals.length - (y + 1) < q.formals.length - y; omega) le_of
  have hge2 : y = q.formals.length := by
   have : ¬ (y : Int) < (q.formals.map Fm.d).length := by simpa using hb1
   rw [List.length_map] at this
   omega
  have hacc : ((b.map Tr.d ++ [D.agg [.int .i64 q.result.op, .str q.result.nm, .int .i64 q.result.nu, .sl (q.result.kids.map Tr.d)]]) ++ q.wh.map Tr.d) ++ q.body.map Tr.d = (((b ++ [q.result]) ++ q.wh) ++ q.body).map Tr.d := by rw [← t_eta]; simp
  refine Z439 ?_;refine Z38 ?_;refine Z119 ?_
  refine vq rfl (q_fieldAgg [.int .i64 q.result.op, .str q.result.nm, .int .i64 q.result.nu, .sl (q.result.kids.map Tr.d)] u81 rfl sz27) ?_
  refine Z6 ?_
  refine sv rfl (y_buildSlice (xs := [.tmp 48]) u22 inf27) ?_
  refine Z90 ?_;refine Z63 ?_;refine Z7 ?_;refine Z119 ?_;refine Z398 ?_;refine Z99 ?_;refine Z63 ?_;refine Z178 ?_;refine Z119 ?_;refine Z398 ?_;refine Z86 ?_
  rw [hacc]
  refine Z63 ?_;refine Z95 ?_;refine Z349 ?_
  refine hn0 _ (z + 1, ((b ++ [q.result]) ++ q.wh) ++ q.body) ⟨by show z + 1 ≤ p.procs.length; omega, by show ((b ++ [q.result]) ++ q.wh) ++ q.body = _; rw [hy2, hge2, List.take_length, hz2, take_flat hq, pcTrees]; simp [List.append_assoc]⟩ (by show p.procs.length - (z + 1) < p.procs.length - z; omega) le_of
 have hge : z = p.procs.length := by
  have : ¬ (z : Int) < (p.procs.map Pc.d).length := by simpa using hb0
  rw [List.length_map] at this
  omega
 obtain rfl : acc = p.trees := by rw [hz2, hge, List.take_length]; rfl
 refine Z347 ?_;refine Z0 ?_;refine Z320 ?_
 exact ⟨rfl, rfl⟩
set_option maxHeartbeats 16000000 in
theorem c94 (q : Pc) (hok : q.Ok) : Pf Tryz.prog 94 [q.d] (.d (.bool (pcB q))) := by
 refine pf_body (rvs := [.tmp 2]) [(0, .d (.agg [.str q.nm, .bool q.iter, .bool q.priv, .sl (q.formals.map Fm.d), .int .i64 q.result.op, .str q.result.nm, .int .i64 q.result.nu, .sl (q.result.kids.map Tr.d), .sl (q.wh.map Tr.d), .sl (q.body.map Tr.d)]))] Tryz.func94 Tryz.ntmps94 Tryz.results94 (fun S0 O0 w0 m0 hm0 => ?_)
 refine Z3 ?_
 have q175 := c175 q.result
 rw [t_eta] at q175
 refine Z24 ?_;refine Z33 ?_;refine Z328 ?_;refine Z285 ?_;refine Z39 ?_
 refine gL (xs := [.tmp 7]) rfl (c174 q.nm) ?_
 refine Z423 ?_;refine Z121 ?_
 refine sg rfl (fun hg => sP 11 rfl hg (qL u22)) ?_
 refine sg rfl (fun hg => sP 12 rfl hg (q_len u22)) ?_
 refine sg rfl (fun hg => sP 13 rfl hg q_gtr) ?_
 refine Z422 ?_;refine Z120 ?_
 refine sg rfl (fun hg => sP 17 rfl hg (qG (by exact sz27) u27 rfl)) ?_
 refine g_callg (xs := [.tmp 18]) rfl (fun hg => q175) ?_
 refine sg rfl (fun hg => sP 19 rfl hg q_not) ?_
 refine Z333 ?_
 refine gC ?_ ?_ <;> intro hb0
 ·
  have hh : ((!nameB q.nm || decide ((q.wh.length : Int) > 1)) || !typedB q.result) = true := by simpa using hb0
  refine Z375 ?_
  exact ⟨by rw [pcB_head hh], rfl⟩
 have hh : ((!nameB q.nm || decide ((q.wh.length : Int) > 1)) || !typedB q.result) = false := by simpa using hb0
 refine Z59 ?_;refine Z357 ?_
 refine g_loop (α := Nat) (fun z => ⟨[(3, .d (.int .i64 (z : Nat))), (1, .d (.ptr (.agg [.str q.nm, .bool q.iter, .bool q.priv, .sl (q.formals.map Fm.d), .int .i64 q.result.op, .str q.result.nm, .int .i64 q.result.nu, .sl (q.result.kids.map Tr.d), .sl (q.wh.map Tr.d), .sl (q.body.map Tr.d)])))], []⟩) (fun z => q.formals.length - z) (fun z => z ≤ q.formals.length ∧ (q.formals.drop z).any (fun f => !fmB f) = q.formals.any (fun f => !fmB f)) 0 ⟨Nat.zero_le _, rfl⟩ (fun z hz Q' hn0 he0 hr0 => ?_) (le_of)
 have hfl := hok.fl
 obtain ⟨hz1, hz2⟩ := hz
 refine Z355 ?_;refine Z431 ?_;refine Z170 ?_;refine Z346 ?_
 refine gC ?_ ?_ <;> intro hb1
 ·
  have hlt : z < q.formals.length := by simpa using hb1
  obtain ⟨f, hf⟩ : ∃ f, q.formals[z]? = some f := ⟨_, gE hlt⟩
  have hfd := fm_get hf
  have q175 := c175 f.ty
  have q177 := c177 f.ty
  rw [t_eta] at q175 q177
  refine Z26 ?_;refine Z431 ?_;refine Z0 ?_;refine Z182 ?_;refine Z157 ?_;refine Z264 ?_;refine Z281 ?_;refine Z75 ?_;refine Z11 ?_
  refine sv rfl (y_buildSlice (xs := [.const (.string ⟨#[]⟩), .const (.string ⟨#[105, 110]⟩), .const (.string ⟨#[99, 111, 110, 115, 116]⟩), .const (.string ⟨#[112, 97, 114, 97, 109]⟩), .const (.string ⟨#[116, 121, 112, 101]⟩)]) u63 inf9) ?_
  refine Z442 ?_
  refine gL (xs := [.tmp 34, .tmp 36]) rfl (c176 intents5 f.intent (by decide)) ?_
  refine Z423 ?_;refine Z284 ?_
  refine sg rfl (fun hg => sP 40 rfl hg (qL u9)) ?_
  refine g_callg (xs := [.tmp 41]) rfl (fun hg => c174 f.nm) ?_
  refine sg rfl (fun hg => sP 42 rfl hg q_not) ?_
  refine Z333 ?_
  refine gC ?_ ?_ <;> intro hb2
  ·
   have hi : (!hasB intents5 f.intent || !nameB f.nm) = true := by simpa using hb2
   have hbad : (q.formals.any fun f => !fmB f) = true := by rw [← hz2, any_drop hf, show fmB f = false from fmB_bad hi]; rfl
   refine Z318 ?_;refine Z83 ?_;refine Z394 ?_
   exact ⟨by rw [pcB_formals hbad], rfl⟩
  have hi : (!hasB intents5 f.intent || !nameB f.nm) = false := by simpa using hb2
  refine Z46 ?_;refine Z442 ?_;refine Z54 ?_;refine Z5 ?_
  refine gC ?_ ?_ <;> intro hb3
  ·
   refine Z3 ?_;refine Z58 ?_;refine Z323 ?_;refine Z56 ?_;refine Z0 ?_;refine Z43 ?_
   refine sg rfl (fun hg => sP 53 rfl hg (qG (by exact sz27) u27 rfl)) ?_
   refine g_callg (xs := [.tmp 54]) rfl (fun hg => q177) ?_
   refine sg rfl (fun hg => sP 55 rfl hg q_not) ?_
   refine Z422 ?_;refine Z43 ?_
   refine sg rfl (fun hg => sP 59 rfl hg (qF u27 rfl sz22)) ?_
   refine sg rfl (fun hg => sP 60 rfl hg (qL u22)) ?_
   refine sg rfl (fun hg => sP 61 rfl hg (q_len u22)) ?_
   refine sg rfl (fun hg => sP 62 rfl hg q_gtr) ?_
   refine Z333 ?_
   refine gC ?_ ?_ <;> intro hb4
   ·
    have hj : ((f.ty.op != 0 || !bareB f.ty) || decide ((f.ty.kids.length : Int) > 0)) = true := by simpa using hb4
    have hbad : (q.formals.any fun f => !fmB f) = true := by rw [← hz2, any_drop hf, show fmB f = false from by rw [fmB_type hi hb3, hj]; rfl]; rfl
    refine Z411 ?_;refine Z394 ?_
    exact ⟨by rw [pcB_formals hbad], rfl⟩
   have hj : ((f.ty.op != 0 || !bareB f.ty) || decide ((f.ty.kids.length : Int) > 0)) = false := by simpa using hb4
   have hgood : fmB f = true := by rw [fmB_type hi hb3, hj]; rfl
   refine Z427 ?_
   refine hn0 _ (z + 1) ⟨by omega, by rw [← hz2, any_drop hf, hgood]; rfl⟩ (by omega) le_of
  refine Z3 ?_;refine Z58 ?_;refine Z6 ?_
  refine gL (xs := [.tmp 66]) rfl (q175) ?_
  refine Z423 ?_;refine Z43 ?_
  refine sg rfl (fun hg => sP 70 rfl hg (qF u27 rfl sz9)) ?_
  refine sg rfl (fun hg => sP 71 rfl hg (qL u9)) ?_
  refine sg rfl (fun hg => sP 72 rfl hg q_streq) ?_
  refine Z333 ?_
  refine gC ?_ ?_ <;> intro hb5
  ·
   have hj : (!typedB f.ty || decide (f.ty.nm = voidB)) = true := hb5
   have hbad : (q.formals.any fun f => !fmB f) = true := by rw [← hz2, any_drop hf, show fmB f = false from by rw [fmB_other hi hb3, hj]; rfl]; rfl
   refine Z411 ?_;refine Z394 ?_
   exact ⟨by rw [pcB_formals hbad], rfl⟩
  have hj : (!typedB f.ty || decide (f.ty.nm = voidB)) = false := hb5
  have hgood : fmB f = true := by rw [fmB_other hi hb3, hj]; rfl
  refine Z427 ?_
  refine hn0 _ (z + 1) ⟨by omega, by rw [← hz2, any_drop hf, hgood]; rfl⟩ (by omega) le_of
 have hge : z = q.formals.length := by
  have : ¬ (z : Int) < (q.formals.map Fm.d).length := by simpa using hb1
  rw [List.length_map] at this
  omega
 have hf0 : (q.formals.any fun f => !fmB f) = false := by rw [← hz2, hge, List.drop_length]; rfl
 refine Z342 ?_
 refine blk_exit (tN (gS (gS ?_)))
 have hwl : q.wh.length ≤ 1 := by
  have h := of_decide_eq_false (Bool.or_eq_false_iff.1 (Bool.or_eq_false_iff.1 hh).1).2
  omega
 have hwc : q.wh = [] ∨ ∃ wop wnm wnu wks, q.wh = [.mk wop wnm wnu wks] := by
  match hw : q.wh, hwl with
  | [], _ => exact .inl rfl
  | [.mk a b c d], _ => exact .inr ⟨a, b, c, d, rfl⟩
 rcases hwc with hwe | ⟨wop, wnm, wnu, wks, hwe⟩
 ·
  refine Z14 ?_
  have hwa : q.wh.any expW = false := by rw [hwe]; rfl
  refine Z398 ?_;refine Z45 ?_;refine Z17 ?_;refine Z0 ?_;refine Z36 ?_;refine Z36 ?_;refine Z36 ?_;refine Z36 ?_;refine Z36 ?_;refine Z36 ?_;refine Z36 ?_;refine Z36 ?_;refine Z36 ?_;refine Z36 ?_;refine Z36 ?_;refine Z36 ?_;refine Z36 ?_;refine Z36 ?_;refine Z36 ?_;refine Z369 ?_
  refine gC ?_ ?_ <;> intro hb6
  · exact absurd hb6 (by simp [hwe])
  refine Z59 ?_;refine Z357 ?_
  refine g_loop (α := Nat) (fun z => ⟨[(5, .d (.int .i64 (z : Nat))), (1, .d (.ptr (.agg [.str q.nm, .bool q.iter, .bool q.priv, .sl (q.formals.map Fm.d), .int .i64 q.result.op, .str q.result.nm, .int .i64 q.result.nu, .sl (q.result.kids.map Tr.d), .sl (q.wh.map Tr.d), .sl (q.body.map Tr.d)])))], []⟩) (fun z => q.body.length - z) (fun z => z ≤ q.body.length ∧ (q.body.drop z).any stmW = q.body.any stmW) 0 ⟨Nat.zero_le _, rfl⟩ (fun z hz Q' hn1 he1 hr1 => ?_) (le_of)
  have hbl := hok.b.1
  obtain ⟨hz1, hz2⟩ := hz
  refine Z355 ?_;refine Z398 ?_;refine Z45 ?_;refine Z346 ?_
  refine gC ?_ ?_ <;> intro hb7
  ·
   have hlt : z < q.body.length := by simpa using hb7
   obtain ⟨⟨xop, xnm, xnu, xks⟩, hx⟩ : ∃ x, q.body[z]? = some x := ⟨_, gE hlt⟩
   have hxd := Tr.ds_get hx
   rw [Tr.d_mk] at hxd
   have q93 := c93n _ (.mk xop xnm xnu xks) (Nat.le_refl _) (hok.b.2 _ (mG hx))
   rw [Tr.d_mk] at q93
   refine Z26 ?_;refine Z398 ?_;refine Z0 ?_;refine Z40 ?_;refine Z323 ?_
   refine gL (xs := [.tmp 108]) rfl (c96 xop) ?_
   refine Z423 ?_;refine Z121 ?_
   refine sg rfl (fun hg => sP 112 rfl hg (qL u22)) ?_
   refine Z18 ?_
   refine sg rfl (fun hg => sP 114 rfl hg (sP 113 rfl hg (qI u22 sz27))) ?_
   refine sg rfl (fun hg => sP 115 rfl hg (qG (by exact sz27) u27 rfl)) ?_
   refine g_callg (xs := [.tmp 116]) rfl (fun hg => q93) ?_
   refine sg rfl (fun hg => sP 117 rfl hg q_not) ?_
   refine Z333 ?_
   refine gC ?_ ?_ <;> intro hb8
   ·
    have hsb : q.body.any stmW = true := by rw [← hz2, any_drop hx, show stmW (.mk xop xnm xnu xks) = true from hb8]; rfl
    refine Z411 ?_
    refine hr1 _ ?_
    refine Z91 ?_;refine Z4 ?_
    exact ⟨by rw [pcB_rest hh hf0, hwa, if_neg (by decide)]; rw [hsb]; rfl, rfl⟩
   refine Z427 ?_
   refine hn1 _ (z + 1) ⟨by omega, by rw [← hz2, any_drop hx, show stmW (.mk xop xnm xnu xks) = false from hb8]; rfl⟩ (by omega) le_of
  have hge : z = q.body.length := by
   have : ¬ (z : Int) < (q.body.map Tr.d).length := by simpa using hb7
   rw [List.length_map] at this
   omega
  have hs0 : q.body.any stmW = false := by rw [← hz2, hge, List.drop_length]; rfl
  refine Z439 ?_;refine Z38 ?_;refine Z320 ?_
  exact ⟨by rw [pcB_rest hh hf0, hwa, if_neg (by decide)]; rw [hs0]; rfl, rfl⟩
 refine Z14 ?_
 have hwd : (q.wh.map Tr.d)[0]? = some (.agg [.int .i64 wop, .str wnm, .int .i64 wnu, .sl (wks.map Tr.d)]) := by rw [hwe, List.map_singleton, Tr.d_mk]; rfl
 have q93 := c93n _ (.mk wop wnm wnu wks) (Nat.le_refl _) (hok.w.2 _ (by rw [hwe]; simp))
 rw [Tr.d_mk] at q93
 refine Z398 ?_;refine Z45 ?_;refine Z17 ?_;refine Z0 ?_
 refine sgo rfl (show ((((((q.wh.map Tr.d).length : Nat) : Int) == 1) == true) = true) from by rw [hwe]; rfl) (y_fieldp_leaf u81 rfl sz22) ?_
 refine sgo rfl (show ((((((q.wh.map Tr.d).length : Nat) : Int) == 1) == true) = true) from by rw [hwe]; rfl) (y_loadp_leaf u22) ?_
 refine sgo rfl (show ((((((q.wh.map Tr.d).length : Nat) : Int) == 1) == true) = true) from by rw [hwe]; rfl) (y_indexAddr u22 sz27) ?_
 refine sgo rfl (show ((((((q.wh.map Tr.d).length : Nat) : Int) == 1) == true) = true) from by rw [hwe]; rfl) (y_fieldp_leaf u27 rfl sz3) ?_
 refine sgo rfl (show ((((((q.wh.map Tr.d).length : Nat) : Int) == 1) == true) = true) from by rw [hwe]; rfl) (y_loadp_leaf u3) ?_
 refine g_callo (xs := [.tmp 84]) rfl (show ((((((q.wh.map Tr.d).length : Nat) : Int) == 1) == true) = true) from by rw [hwe]; rfl) (c81 wop) ?_
 refine sgo rfl (show ((((((q.wh.map Tr.d).length : Nat) : Int) == 1) == true) = true) from by rw [hwe]; rfl) y_not ?_
 refine sgo rfl (show ((((((q.wh.map Tr.d).length : Nat) : Int) == 1) == true) = true) from by rw [hwe]; rfl) y_move ?_
 refine Z121 ?_
 refine sg rfl (fun hg => sP 88 rfl hg (qL u22)) ?_
 refine sg rfl (fun hg => sP 89 rfl hg (qI u22 sz27)) ?_
 refine sg rfl (fun hg => sP 90 rfl hg (qG (by exact sz27) u27 rfl)) ?_
 refine g_callg (xs := [.tmp 91]) rfl (fun hg => q93) ?_
 refine sg rfl (fun hg => sP 92 rfl hg q_not) ?_
 refine sgo rfl (show ((((((q.wh.map Tr.d).length : Nat) : Int) == 1) == true) = true) from by rw [hwe]; rfl) y_or ?_
 refine Z369 ?_
 refine gC ?_ ?_ <;> intro hb9
 ·
  have hwb : (!isExprB wop || !(Tr.mk wop wnm wnu wks).shaped) = true := by simpa [hwe] using hb9
  have hwa : q.wh.any expW = true := by rw [hwe, List.any_cons, show expW (.mk wop wnm wnu wks) = true from hwb]; rfl
  refine Z375 ?_
  exact ⟨by rw [pcB_rest hh hf0, hwa, if_pos rfl], rfl⟩
 have hwb : (!isExprB wop || !(Tr.mk wop wnm wnu wks).shaped) = false := by simpa [hwe] using hb9
 have hwa : q.wh.any expW = false := by rw [hwe, List.any_cons, show expW (.mk wop wnm wnu wks) = false from hwb]; rfl
 refine Z59 ?_;refine Z357 ?_
 refine g_loop (α := Nat) (fun z => ⟨[(5, .d (.int .i64 (z : Nat))), (1, .d (.ptr (.agg [.str q.nm, .bool q.iter, .bool q.priv, .sl (q.formals.map Fm.d), .int .i64 q.result.op, .str q.result.nm, .int .i64 q.result.nu, .sl (q.result.kids.map Tr.d), .sl (q.wh.map Tr.d), .sl (q.body.map Tr.d)])))], []⟩) (fun z => q.body.length - z) (fun z => z ≤ q.body.length ∧ (q.body.drop z).any stmW = q.body.any stmW) 0 ⟨Nat.zero_le _, rfl⟩ (fun z hz Q' hn2 he2 hr2 => ?_) (le_of)
 have hbl := hok.b.1
 obtain ⟨hz1, hz2⟩ := hz
 refine Z355 ?_;refine Z398 ?_;refine Z45 ?_;refine Z346 ?_
 refine gC ?_ ?_ <;> intro hb10
 ·
  have hlt : z < q.body.length := by simpa using hb10
  obtain ⟨⟨xop, xnm, xnu, xks⟩, hx⟩ : ∃ x, q.body[z]? = some x := ⟨_, gE hlt⟩
  have hxd := Tr.ds_get hx
  rw [Tr.d_mk] at hxd
  have q93 := c93n _ (.mk xop xnm xnu xks) (Nat.le_refl _) (hok.b.2 _ (mG hx))
  rw [Tr.d_mk] at q93
  refine Z26 ?_;refine Z398 ?_;refine Z0 ?_;refine Z40 ?_;refine Z323 ?_
  refine gL (xs := [.tmp 108]) rfl (c96 xop) ?_
  refine Z423 ?_;refine Z121 ?_
  refine sg rfl (fun hg => sP 112 rfl hg (qL u22)) ?_
  refine Z18 ?_
  refine sg rfl (fun hg => sP 114 rfl hg (sP 113 rfl hg (qI u22 sz27))) ?_
  refine sg rfl (fun hg => sP 115 rfl hg (qG (by exact sz27) u27 rfl)) ?_
  refine g_callg (xs := [.tmp 116]) rfl (fun hg => q93) ?_
  refine sg rfl (fun hg => sP 117 rfl hg q_not) ?_
  refine Z333 ?_
  refine gC ?_ ?_ <;> intro hb11
  ·
   have hsb : q.body.any stmW = true := by rw [← hz2, any_drop hx, show stmW (.mk xop xnm xnu xks) = true from hb11]; rfl
   refine Z411 ?_
   refine hr2 _ ?_
   refine Z91 ?_;refine Z4 ?_
   exact ⟨by rw [pcB_rest hh hf0, hwa, if_neg (by decide)]; rw [hsb]; rfl, rfl⟩
  refine Z427 ?_
  refine hn2 _ (z + 1) ⟨by omega, by rw [← hz2, any_drop hx, show stmW (.mk xop xnm xnu xks) = false from hb11]; rfl⟩ (by omega) le_of
 have hge : z = q.body.length := by
  have : ¬ (z : Int) < (q.body.map Tr.d).length := by simpa using hb10
  rw [List.length_map] at this
  omega
 have hs0 : q.body.any stmW = false := by rw [← hz2, hge, List.drop_length]; rfl
 refine Z37 ?_;refine Z312 ?_;refine Z38 ?_;refine Z320 ?_
 exact ⟨by rw [pcB_rest hh hf0, hwa, if_neg (by decide)]; rw [hs0]; rfl, rfl⟩
set_option maxHeartbeats 16000000 in
theorem c23 (p : Pg) (hok : p.Ok) (hT : p.total ≤ 1000000) : Pf Tryz.prog 23 [.agg [.sl (p.globals.map Tr.d), .sl (p.procs.map Pc.d)]] (.d (.int .i64 (formE p))) := by
 refine pf_body (rvs := [.tmp 2]) [(0, .d (.agg [.sl (p.globals.map Tr.d), .sl (p.procs.map Pc.d)]))] Tryz.func23 Tryz.ntmps23 Tryz.results23 (fun S0 O0 w0 m0 hm0 => ?_)
 refine Z3 ?_
 have hts := p.trees_size
 have hgs := Tr.len_sizes p.globals
 have htt : p.total = Tr.sizes p.globals + pcsT p.procs := rfl
 have hpl := hok.pl
 have htl := Tr.len_sizes p.trees
 have hdd := Tr.deeps_bd p.trees 0
 refine Z24 ?_;refine Z80 ?_;refine Z328 ?_;refine Z403 ?_;refine Z156 ?_;refine Z94 ?_;refine Z5 ?_
 refine gC ?_ ?_ <;> intro hb0
 ·
  have hp0 : decide ((p.procs.length : Int) > 100) = true := by simpa using hb0
  refine Z375 ?_
  exact ⟨by unfold formE; rw [if_pos (by rw [hp0]; rfl)], rfl⟩
 have hp0 : decide ((p.procs.length : Int) > 100) = false := by simpa using hb0
 refine Z59 ?_;refine Z357 ?_
 refine g_loop (α := Nat) (fun z => ⟨[(3, .d (.int .i64 (z : Nat))), (1, .d (.ptr (.agg [.sl (p.globals.map Tr.d), .sl (p.procs.map Pc.d)])))], []⟩) (fun z => p.procs.length - z) (fun z => z ≤ p.procs.length ∧ (p.procs.drop z).any manyB = p.procs.any manyB) 0 ⟨Nat.zero_le _, rfl⟩ (fun z hz Q' hn0 he0 hr0 => ?_) (le_of)
 obtain ⟨hz1, hz2⟩ := hz
 refine Z355 ?_;refine Z403 ?_;refine Z156 ?_;refine Z346 ?_
 refine gC ?_ ?_ <;> intro hb1
 ·
  have hlt : z < p.procs.length := by simpa using hb1
  obtain ⟨q, hq⟩ : ∃ q, p.procs[z]? = some q := ⟨_, gE hlt⟩
  have hqd := pc_get hq
  have hqo := hok.p q (mG hq)
  refine Z26 ?_;refine Z403 ?_;refine Z0 ?_;refine Z189 ?_;refine Z431 ?_;refine Z170 ?_;refine Z94 ?_;refine Z5 ?_
  refine gC ?_ ?_ <;> intro hb2
  ·
   have hmq : manyB q = true := by unfold manyB; simpa using hb2
   have hma : p.procs.any manyB = true := by rw [← hz2, any_drop hq, hmq]; rfl
   refine Z411 ?_;refine Z394 ?_
   exact ⟨by unfold formE; rw [if_pos (by rw [hma, Bool.or_true])], rfl⟩
  have hmq : manyB q = false := by unfold manyB; simpa using hb2
  refine Z427 ?_
  refine hn0 _ (z + 1) ⟨by omega, by rw [← hz2, any_drop hq, hmq]; rfl⟩ (by omega) le_of
 have hge : z = p.procs.length := by
  have : ¬ (z : Int) < (p.procs.map Pc.d).length := by simpa using hb1
  rw [List.length_map] at this
  omega
 have hm0' : p.procs.any manyB = false := by rw [← hz2, hge, List.drop_length]; rfl
 have q91 := c91 p hok hT
 refine Z347 ?_;refine Z144 ?_
 refine gL (xs := [.tmp 31]) rfl (q91) ?_
 refine Z324 ?_;refine Z1 ?_;refine Z328 ?_;refine Z357 ?_
 refine g_loop (α := Nat × Int × Int) (fun y => ⟨[(7, .d (.int .i64 (y.1 : Nat))), (5, .d (.int .i64 y.2.1)), (6, .d (.int .i64 y.2.2)), (4, .d (.sl (p.trees.map Tr.d))), (1, .d (.ptr (.agg [.sl (p.globals.map Tr.d), .sl (p.procs.map Pc.d)])))], []⟩) (fun y => p.trees.length - y.1) (fun y => y.1 ≤ p.trees.length ∧ 0 ≤ y.2.1 ∧ y.2.1 + Tr.sizes (p.trees.drop y.1) = Tr.sizes p.trees ∧ 0 ≤ y.2.2 ∧ y.2.2 ≤ Tr.sizes p.trees ∧ Tr.deeps (p.trees.drop y.1) y.2.2 = Tr.deeps p.trees 0) (0, 0, 0) ⟨Nat.zero_le _, by show (0 : Int) ≤ 0; omega, by show (0 : Int) + _ = _; simp, by show (0 : Int) ≤ 0; omega, by show (0 : Int) ≤ _; omega, rfl⟩ (fun y hy Q' hn1 he1 hr1 => ?_) (le_of)
 obtain ⟨y, c, e⟩ := y
 obtain ⟨hy1, hc1, hc2, hc3, hc4, hc5⟩ := hy
 replace hy1 : y ≤ p.trees.length := hy1
 replace hc1 : 0 ≤ c := hc1
 replace hc2 : c + Tr.sizes (p.trees.drop y) = Tr.sizes p.trees := hc2
 replace hc3 : 0 ≤ e := hc3
 replace hc4 : e ≤ Tr.sizes p.trees := hc4
 replace hc5 : Tr.deeps (p.trees.drop y) e = Tr.deeps p.trees 0 := hc5
 refine Z44 ?_;refine Z321 ?_;refine Z45 ?_;refine Z346 ?_
 refine gC ?_ ?_ <;> intro hb3
 ·
  have hlt : y < p.trees.length := by simpa using hb3
  obtain ⟨k, hk⟩ : ∃ k, p.trees[y]? = some k := ⟨_, gE hlt⟩
  have hmem := mG hk
  have hxa := Tr.ds_get hk
  have hsd := Tr.sizes_drop hk
  have hdb := Tr.depth_bd k
  have hsm := Tr.size_mem hmem
  have q92 := c92n _ k (Nat.le_refl _) (Pg.trees_ok hok k hmem) (by omega)
  rw [t_eta] at hxa q92
  refine Z26 ?_;refine Z321 ?_;refine Z343 ?_
  refine gL (xs := [.tmp 43]) rfl (q92) ?_
  refine Z389 ?_;refine Z433 ?_;refine Z25 ?_;refine Z1 ?_;refine Z178 ?_;refine Z321 ?_;refine Z212 ?_;refine Z1 ?_;refine Z95 ?_;refine Z349 ?_
  refine hn1 _ (y + 1, c + k.size, if k.depth > e then k.depth else e) ⟨by show y + 1 ≤ p.trees.length; omega, by show 0 ≤ c + (k.size : Int); omega, by show c + (k.size : Int) + (Tr.sizes (p.trees.drop (y + 1)) : Nat) = (Tr.sizes p.trees : Nat); omega, by show 0 ≤ (if k.depth > e then k.depth else e); split <;> omega, by show (if k.depth > e then k.depth else e) ≤ _; split <;> omega, by show Tr.deeps (p.trees.drop (y + 1)) _ = _; rw [← Tr.deeps_drop hk e]; exact hc5⟩ (by show p.trees.length - (y + 1) < p.trees.length - y; omega) le_of
 have hge2 : y = p.trees.length := by
  have : ¬ (y : Int) < (p.trees.map Tr.d).length := by simpa using hb3
  rw [List.length_map] at this
  omega
 rw [hge2, List.drop_length] at hc2 hc5
 rw [Tr.deeps] at hc5
 rw [Tr.sizes] at hc2
 have hcn : c = Tr.sizes p.trees := by omega
 refine Z439 ?_;refine Z238 ?_;refine Z0 ?_;refine Z94 ?_;refine Z5 ?_
 refine gC ?_ ?_ <;> intro hb4
 ·
  have hn1 : (Tr.sizes p.trees : Int) > 4000 := by rw [← hcn]; simpa using hb4
  have hle : limitsE p.trees = 5 := by unfold limitsE; rw [if_pos hn1]
  refine Z375 ?_
  exact Y5
 have hn1 : ¬ (Tr.sizes p.trees : Int) > 4000 := by rw [← hcn]; simpa using hb4
 refine Z418 ?_;refine Z94 ?_;refine Z5 ?_
 refine gC ?_ ?_ <;> intro hb5
 ·
  have hn2 : Tr.deeps p.trees 0 > 60 := by rw [← hc5]; simpa using hb5
  have hle : limitsE p.trees = 6 := by unfold limitsE; rw [if_neg hn1, if_pos hn2]
  refine Z375 ?_
  exact Y5
 have hn2 : ¬ Tr.deeps p.trees 0 > 60 := by rw [← hc5]; simpa using hb5
 have hle : limitsE p.trees = 0 := by unfold limitsE; rw [if_neg hn1, if_neg hn2]
 refine Z59 ?_;refine Z357 ?_
 refine g_loop (α := Nat) (fun u => ⟨[(10, .d (.int .i64 (u : Nat))), (1, .d (.ptr (.agg [.sl (p.globals.map Tr.d), .sl (p.procs.map Pc.d)])))], []⟩) (fun u => p.globals.length - u) (fun u => u ≤ p.globals.length ∧ (p.globals.drop u).any varW = p.globals.any varW) 0 ⟨Nat.zero_le _, rfl⟩ (fun u hu Q' hn2 he2 hr2 => ?_) (le_of)
 obtain ⟨hu1, hu2⟩ := hu
 refine Z355 ?_;refine Z443 ?_;refine Z45 ?_;refine Z346 ?_
 refine gC ?_ ?_ <;> intro hb6
 ·
  have hlt : u < p.globals.length := by simpa using hb6
  obtain ⟨⟨xop, xnm, xnu, xks⟩, hx⟩ : ∃ x, p.globals[u]? = some x := ⟨_, gE hlt⟩
  have hxd := Tr.ds_get hx
  rw [Tr.d_mk] at hxd
  have q93 := c93n _ (.mk xop xnm xnu xks) (Nat.le_refl _) (hok.g.2 _ (mG hx))
  rw [Tr.d_mk] at q93
  refine Z26 ?_;refine Z443 ?_;refine Z0 ?_;refine Z40 ?_;refine Z323 ?_;refine Z56 ?_;refine Z0 ?_
  refine sg rfl (fun hg => qF u25 rfl sz22) ?_
  refine sg rfl (fun hg => sP 72 rfl hg (qL u22)) ?_
  refine Z18 ?_
  refine sg rfl (fun hg => sP 74 rfl hg (sP 73 rfl hg (qI u22 sz27))) ?_
  refine sg rfl (fun hg => sP 75 rfl hg (qG (by exact sz27) u27 rfl)) ?_
  refine g_callg (xs := [.tmp 76]) rfl (fun hg => q93) ?_
  refine sg rfl (fun hg => sP 77 rfl hg q_not) ?_
  refine Z333 ?_
  refine gC ?_ ?_ <;> intro hb7
  ·
   have hvq : varW (.mk xop xnm xnu xks) = true := hb7
   have hva : p.globals.any varW = true := by rw [← hu2, any_drop hx, hvq]; rfl
   refine Z411 ?_
   refine hr2 _ ?_
   refine Z91 ?_;refine Z4 ?_
   exact ⟨by unfold formE; rw [if_neg (by rw [show (decide ((p.procs.length : Int) > 100) || p.procs.any manyB) = false from by rw [hp0, hm0']; rfl]; decide), hle, if_neg (by decide), if_pos hva], rfl⟩
  have hvq : varW (.mk xop xnm xnu xks) = false := hb7
  refine Z427 ?_
  refine hn2 _ (u + 1) ⟨by omega, by rw [← hu2, any_drop hx, hvq]; rfl⟩ (by omega) le_of
 have hge3 : u = p.globals.length := by
  have : ¬ (u : Int) < (p.globals.map Tr.d).length := by simpa using hb6
  rw [List.length_map] at this
  omega
 have hv0 : p.globals.any varW = false := by rw [← hu2, hge3, List.drop_length]; rfl
 refine Z37 ?_;refine Z312 ?_;refine Z238 ?_;refine Z357 ?_
 refine g_loop (α := Nat) (fun x => ⟨[(11, .d (.int .i64 (x : Nat))), (1, .d (.ptr (.agg [.sl (p.globals.map Tr.d), .sl (p.procs.map Pc.d)])))], []⟩) (fun x => p.procs.length - x) (fun x => x ≤ p.procs.length ∧ (p.procs.drop x).any (fun q => !pcB q) = p.procs.any (fun q => !pcB q)) 0 ⟨Nat.zero_le _, rfl⟩ (fun x hx Q' hn3 he3 hr3 => ?_) (le_of)
 obtain ⟨hx1, hx2⟩ := hx
 refine Z355 ?_;refine Z403 ?_;refine Z156 ?_;refine Z346 ?_
 refine gC ?_ ?_ <;> intro hb8
 ·
  have hlt : x < p.procs.length := by simpa using hb8
  obtain ⟨q, hq⟩ : ∃ q, p.procs[x]? = some q := ⟨_, gE hlt⟩
  have hqd := pc_get hq
  have hqo := hok.p q (mG hq)
  refine Z26 ?_;refine Z403 ?_;refine Z0 ?_;refine Z189 ?_;refine Z129 ?_
  refine gL (xs := [.tmp 91]) rfl (c94 q hqo) ?_
  refine Z381 ?_
  refine gC ?_ ?_ <;> intro hb9
  ·
   have hwa : p.procs.any (fun q => !pcB q) = true := by rw [← hx2, any_drop hq, show (!pcB q) = true from hb9]; rfl
   refine Z411 ?_
   refine hr3 _ ?_
   refine Z91 ?_;refine Z4 ?_
   exact ⟨by unfold formE; rw [if_neg (by rw [show (decide ((p.procs.length : Int) > 100) || p.procs.any manyB) = false from by rw [hp0, hm0']; rfl]; decide), hle, if_neg (by decide), if_neg (by rw [hv0]; decide), if_pos hwa], rfl⟩
  refine Z427 ?_
  refine hn3 _ (x + 1) ⟨by omega, by rw [← hx2, any_drop hq, show (!pcB q) = false from hb9]; rfl⟩ (by omega) le_of
 have hge4 : x = p.procs.length := by
  have : ¬ (x : Int) < (p.procs.map Pc.d).length := by simpa using hb8
  rw [List.length_map] at this
  omega
 have hw0 : p.procs.any (fun q => !pcB q) = false := by rw [← hx2, hge4, List.drop_length]; rfl
 refine Z37 ?_
 refine he3 _ _ ?_
 refine Z38 ?_;refine Z320 ?_
 exact ⟨by unfold formE; rw [if_neg (by rw [show (decide ((p.procs.length : Int) > 100) || p.procs.any manyB) = false from by rw [hp0, hm0']; rfl]; decide), hle, if_neg (by decide), if_neg (by rw [hv0]; decide), if_neg (by rw [hw0]; decide)], rfl⟩
end
section
theorem c217 (xs : List Fm) (g : FuncId) (hlim : xs.length ≤ 140737488355328)
 (hcb : ∀ x ∈ xs, Pf Tryz.prog g [x.d, x.d] (.d (.bool true))) : Pf Tryz.prog 217 [.sl (xs.map Fm.d), .sl (xs.map Fm.d), .fn (.func g) [] []] (.d (.bool true)) := by
 refine pf_body (rvs := [.tmp 6]) [(0, .d (.sl (xs.map Fm.d))), (1, .d (.sl (xs.map Fm.d))), (2, .d (.fn (.func g) [] []))] Tryz.func217 Tryz.ntmps217 Tryz.results217 (fun S0 O0 w0 m0 hm0 => ?_)
 refine Z393 ?_;refine Z170 ?_;refine Z0 ?_;refine Z170 ?_;refine Z350 ?_
 refine gC ?_ ?_ <;> intro hb0
 ·
  exfalso
  simp at hb0
  skip
 refine Z418 ?_;refine Z170 ?_;refine Z361 ?_
 refine g_loop (α := Nat) (fun z => ⟨[(17, .d (.int .i64 (z : Nat))), (16, .d (.int .i64 ((xs.map Fm.d).length : Nat))), (15, .d (.sl (xs.map Fm.d))), (1, .d (.sl (xs.map Fm.d))), (2, .d (.fn (.func g) [] []))], []⟩) (fun z => xs.length - z) (fun z => z ≤ xs.length) 0 (Nat.zero_le _) (fun z hz Q' hn0 he0 hr0 => ?_) (le_of)
 skip
 refine Z363 ?_
 refine gC ?_ ?_ <;> intro hb1
 ·
  have hlt : z < xs.length := by simpa using hb1
  obtain ⟨x, hx⟩ : ∃ x, xs[z]? = some x := ⟨_, gE hlt⟩
  have hcx := hcb x (mG hx)
  have hxd := fm_get hx
  unfold Fm.d at hcx
  refine Z383 ?_;refine Z182 ?_;refine Z157 ?_;refine Z264 ?_;refine Z1 ?_;refine Z281 ?_;refine Z7 ?_;refine Z321 ?_;refine Z182 ?_;refine Z157 ?_;refine Z264 ?_;refine Z281 ?_;refine Z42 ?_
  refine gP [0, 1, 2, 6, 7, 8, 9, 15, 16, 17] ?_
  refine Z335 ?_
  refine sv rfl (y_load_agg sz102 u102 rfl) ?_
  refine sv rfl (y_load_agg sz102 u102 rfl) ?_
  refine gL (xs := [.tmp 27, .tmp 28]) rfl (hcx) ?_
  refine Z381 ?_
  refine gC ?_ ?_ <;> intro hb2
  · exact Y22
  refine Z414 ?_
  refine hn0 _ (z + 1) (by omega) (by omega) le_of
 refine Z419 ?_
 exact ⟨rfl, rfl⟩
theorem c135 (xs : List Pc) (g : FuncId) (hlim : xs.length ≤ 140737488355328)
 (hcb : ∀ x ∈ xs, Pf Tryz.prog g [x.d, x.d] (.d (.bool true))) : Pf Tryz.prog 135 [.sl (xs.map Pc.d), .sl (xs.map Pc.d), .fn (.func g) [] []] (.d (.bool true)) := by
 refine pf_body (rvs := [.tmp 6]) [(0, .d (.sl (xs.map Pc.d))), (1, .d (.sl (xs.map Pc.d))), (2, .d (.fn (.func g) [] []))] Tryz.func135 Tryz.ntmps135 Tryz.results135 (fun S0 O0 w0 m0 hm0 => ?_)
 refine Z393 ?_;refine Z156 ?_;refine Z0 ?_;refine Z156 ?_;refine Z350 ?_
 refine gC ?_ ?_ <;> intro hb0
 ·
  exfalso
  simp at hb0
  skip
 refine Z418 ?_;refine Z156 ?_;refine Z361 ?_
 refine g_loop (α := Nat) (fun z => ⟨[(17, .d (.int .i64 (z : Nat))), (16, .d (.int .i64 ((xs.map Pc.d).length : Nat))), (15, .d (.sl (xs.map Pc.d))), (1, .d (.sl (xs.map Pc.d))), (2, .d (.fn (.func g) [] []))], []⟩) (fun z => xs.length - z) (fun z => z ≤ xs.length) 0 (Nat.zero_le _) (fun z hz Q' hn0 he0 hr0 => ?_) (le_of)
 skip
 refine Z363 ?_
 refine gC ?_ ?_ <;> intro hb1
 ·
  have hlt : z < xs.length := by simpa using hb1
  obtain ⟨x, hx⟩ : ∃ x, xs[z]? = some x := ⟨_, gE hlt⟩
  have hcx := hcb x (mG hx)
  have hxd := pc_get hx
  unfold Pc.d at hcx
  refine Z383 ?_;refine Z189 ?_;refine Z129 ?_;refine Z208 ?_;refine Z1 ?_;refine Z228 ?_;refine Z7 ?_;refine Z321 ?_;refine Z189 ?_;refine Z129 ?_;refine Z208 ?_;refine Z228 ?_;refine Z42 ?_
  refine gP [0, 1, 2, 6, 7, 8, 9, 15, 16, 17] ?_
  refine Z335 ?_;refine Z292 ?_;refine Z292 ?_
  refine gL (xs := [.tmp 27, .tmp 28]) rfl (hcx) ?_
  refine Z381 ?_
  refine gC ?_ ?_ <;> intro hb2
  · exact Y22
  refine Z414 ?_
  refine hn0 _ (z + 1) (by omega) (by omega) le_of
 refine Z419 ?_
 exact ⟨rfl, rfl⟩
set_option maxHeartbeats 2000000 in
theorem c218 (f : Fm) (hok : f.Ok) : Pf Tryz.prog 218 [f.d, f.d] (.d (.bool true)) := by
 refine pf_body (rvs := [.tmp 4]) [(0, .d (.agg [.str f.intent, .str f.nm, .int .i64 f.ty.op, .str f.ty.nm, .int .i64 f.ty.nu, .sl (f.ty.kids.map Tr.d)])), (1, .d (.agg [.str f.intent, .str f.nm, .int .i64 f.ty.op, .str f.ty.nm, .int .i64 f.ty.nu, .sl (f.ty.kids.map Tr.d)]))] Tryz.func218 Tryz.ntmps218 Tryz.results218 (fun S0 O0 w0 m0 hm0 => ?_)
 refine Z3 ?_
 have q30 := c30n _ f.ty (Nat.le_refl _) hok.t
 rw [t_eta] at q30
 refine Z24 ?_;refine Z75 ?_;refine Z24 ?_;refine Z75 ?_;refine Z324 ?_;refine Z442 ?_;refine Z442 ?_;refine Z54 ?_;refine Z0 ?_;refine Z284 ?_
 refine sg rfl (fun hg => sP 11 rfl hg (qL u9)) ?_
 refine Z284 ?_
 refine sg rfl (fun hg => sP 13 rfl hg (qL u9)) ?_
 refine sg rfl (fun hg => sP 14 rfl hg (sP 12 rfl hg q_streq)) ?_
 refine Z353 ?_;refine Z43 ?_
 refine sg rfl (fun hg => sP 18 rfl hg (qG (by exact sz27) u27 rfl)) ?_
 refine Z43 ?_
 refine sg rfl (fun hg => sP 20 rfl hg (qG (by exact sz27) u27 rfl)) ?_
 refine g_callg (xs := [.tmp 19, .tmp 21]) rfl (fun hg => q30) ?_
 refine Z360 ?_
 exact ⟨by simp, rfl⟩
set_option maxHeartbeats 8000000 in
theorem c136 (q : Pc) (hok : q.Ok) : Pf Tryz.prog 136 [q.d, q.d] (.d (.bool true)) := by
 refine pf_body (rvs := [.tmp 4]) [(0, .d (.agg [.str q.nm, .bool q.iter, .bool q.priv, .sl (q.formals.map Fm.d), .int .i64 q.result.op, .str q.result.nm, .int .i64 q.result.nu, .sl (q.result.kids.map Tr.d), .sl (q.wh.map Tr.d), .sl (q.body.map Tr.d)])), (1, .d (.agg [.str q.nm, .bool q.iter, .bool q.priv, .sl (q.formals.map Fm.d), .int .i64 q.result.op, .str q.result.nm, .int .i64 q.result.nu, .sl (q.result.kids.map Tr.d), .sl (q.wh.map Tr.d), .sl (q.body.map Tr.d)]))] Tryz.func136 Tryz.ntmps136 Tryz.results136 (fun S0 O0 w0 m0 hm0 => ?_)
 refine Z3 ?_
 have q30 := c30n _ q.result (Nat.le_refl _) hok.r
 rw [t_eta] at q30
 have q47 : ∀ l : List Tr, TsOk l → Pf Tryz.prog 47 [.sl (l.map Tr.d), .sl (l.map Tr.d), .fn (.func 30) [] []] (.d (.bool true)) := fun l hl => c47t l l 30 rfl hl.1 (fun i x y hx hy => (Option.some.inj (hx.symm.trans hy)) ▸ c30n _ x (Nat.le_refl _) (hl.2 x (mG hx)))
 refine Z24 ?_;refine Z33 ?_;refine Z24 ?_;refine Z33 ?_;refine Z324 ?_;refine Z285 ?_;refine Z39 ?_;refine Z285 ?_;refine Z39 ?_;refine Z54 ?_;refine Z0 ?_;refine Z288 ?_
 refine sg rfl (fun hg => sP 11 rfl hg (qL u4)) ?_
 refine Z288 ?_
 refine sg rfl (fun hg => sP 13 rfl hg (qL u4)) ?_
 refine sg rfl (fun hg => sP 14 rfl hg (sP 12 rfl hg (q_booleq u4))) ?_
 refine Z353 ?_;refine Z288 ?_
 refine sg rfl (fun hg => sP 18 rfl hg (qL u4)) ?_
 refine Z288 ?_
 refine sg rfl (fun hg => sP 20 rfl hg (qL u4)) ?_
 refine sg rfl (fun hg => sP 21 rfl hg (sP 19 rfl hg (q_booleq u4))) ?_
 refine Z353 ?_;refine Z120 ?_
 refine sg rfl (fun hg => sP 25 rfl hg (qG (by exact sz27) u27 rfl)) ?_
 refine Z120 ?_
 refine sg rfl (fun hg => sP 27 rfl hg (qG (by exact sz27) u27 rfl)) ?_
 refine g_callg (xs := [.tmp 26, .tmp 28]) rfl (fun hg => q30) ?_
 refine Z353 ?_;refine Z121 ?_
 refine sg rfl (fun hg => sP 32 rfl hg (qL u22)) ?_
 refine Z121 ?_
 refine sg rfl (fun hg => sP 34 rfl hg (qL u22)) ?_
 refine g_callg (xs := [.tmp 33, .tmp 35, .func 30]) rfl (fun hg => q47 q.wh hok.w) ?_
 refine Z353 ?_;refine Z121 ?_
 refine sg rfl (fun hg => sP 39 rfl hg (qL u22)) ?_
 refine Z121 ?_
 refine sg rfl (fun hg => sP 41 rfl hg (qL u22)) ?_
 refine g_callg (xs := [.tmp 40, .tmp 42, .func 30]) rfl (fun hg => q47 q.body hok.b) ?_
 refine Z353 ?_;refine Z286 ?_
 refine sg rfl (fun hg => sP 46 rfl hg (qL u79)) ?_
 refine Z286 ?_
 refine sg rfl (fun hg => sP 48 rfl hg (qL u79)) ?_
 refine g_callg (xs := [.tmp 47, .tmp 49, .func 218]) rfl (fun hg => c217 q.formals 218 hok.fl (fun f hf => c218 f (hok.f f hf))) ?_
 refine Z360 ?_
 exact ⟨by simp, rfl⟩
set_option maxHeartbeats 2000000 in
theorem c61 (p : Pg) (hok : p.Ok) : Pf Tryz.prog 61 [.agg [.sl (p.globals.map Tr.d), .sl (p.procs.map Pc.d)], .agg [.sl (p.globals.map Tr.d), .sl (p.procs.map Pc.d)]] (.d (.bool true)) := by
 refine pf_body (rvs := [.tmp 4]) [(0, .d (.agg [.sl (p.globals.map Tr.d), .sl (p.procs.map Pc.d)])), (1, .d (.agg [.sl (p.globals.map Tr.d), .sl (p.procs.map Pc.d)]))] Tryz.func61 Tryz.ntmps61 Tryz.results61 (fun S0 O0 w0 m0 hm0 => ?_)
 refine Z3 ?_
 have q47 : ∀ l : List Tr, TsOk l → Pf Tryz.prog 47 [.sl (l.map Tr.d), .sl (l.map Tr.d), .fn (.func 30) [] []] (.d (.bool true)) := fun l hl => c47t l l 30 rfl hl.1 (fun i x y hx hy => (Option.some.inj (hx.symm.trans hy)) ▸ c30n _ x (Nat.le_refl _) (hl.2 x (mG hx)))
 refine Z24 ?_;refine Z80 ?_;refine Z24 ?_;refine Z80 ?_;refine Z324 ?_;refine Z443 ?_;refine Z443 ?_
 refine gL (xs := [.tmp 6, .tmp 8, .func 30]) rfl (q47 p.globals hok.g) ?_
 refine Z0 ?_
 refine sg rfl (fun hg => qF u25 rfl sz23) ?_
 refine sg rfl (fun hg => sP 11 rfl hg (qL u23)) ?_
 refine sg rfl (fun hg => qF u25 rfl sz23) ?_
 refine sg rfl (fun hg => sP 13 rfl hg (qL u23)) ?_
 refine g_callg (xs := [.tmp 12, .tmp 14, .func 136]) rfl (fun hg => c135 p.procs 136 hok.pl (fun q hq => c136 q (hok.p q hq))) ?_
 refine Z360 ?_
 exact ⟨by simp, rfl⟩
end
end Go.Proofs.YtklkbfpjimeaoaaGreat
