import Derived.Test.YtklkbfpjimeaoaaGreatM26
import Derived.Test.YtklkbfpjimeaoaaGreatM25
import Derived.Test.YtklkbfpjimeaoaaGreatM17
import Derived.Test.YtklkbfpjimeaoaaGreatM12
import Derived.Defers
import Derived.Recover
import Derived.Tactics
import Derived.Tactics2
import Derived.Laws.Pointers
/- Contracts of functions. Conditions: none. -/
set_option linter.unusedSimpArgs false
set_option linter.unusedVariables false
set_option maxRecDepth 20000
namespace Go.Proofs.YtklkbfpjimeaoaaGreat
open Go Go.Proofs.YtklkbfpjimeaoaaGreat.E
section
theorem any_drop {α : Type} {l : List α} {z : Nat} {x : α} (h : l[z]? = some x) (p : α → Bool) : (l.drop z).any p = (p x || (l.drop (z + 1)).any p) := by
 obtain ⟨hlt, rfl⟩ := List.getElem?_eq_some_iff.1 h
 rw [List.drop_eq_getElem_cons hlt, List.any_cons]
def intents5 : List ByteArray := [⟨#[]⟩, inB, constB, paramB, tyB]
theorem has5 (s : ByteArray) : hasB intents5 s = ((((decide (s = ⟨#[]⟩) || decide (s = inB)) || decide (s = constB)) || decide (s = paramB)) || decide (s = tyB)) := by
 unfold hasB intents5
 simp only [List.any_cons, List.any_nil, Bool.or_false, Bool.or_assoc]
variable {f : Fm}
theorem fmB_bad (h : (!hasB intents5 f.intent || !nameB f.nm) = true) : fmB f = false := by
 unfold fmB
 split
 · rfl
 · rename_i h1
   rw [has5] at h
   split
   · rename_i h2
     rw [h2, Bool.or_true] at h
     simp at h1 h
     rw [h1] at h
     cases h
   · rename_i h2
     split
     · rename_i h3
       rw [h3, Bool.true_or] at h
       simp at h1 h
       rw [h1] at h
       cases h
     · rfl
theorem fmB_type (h : (!hasB intents5 f.intent || !nameB f.nm) = false) (ht : decide (f.intent = tyB) = true) : fmB f = !((f.ty.op != 0 || !bareB f.ty) || decide ((f.ty.kids.length : Int) > 0)) := by
 unfold fmB
 rw [Bool.or_eq_false_iff] at h
 rw [if_neg (by rw [h.2]; decide), if_pos ht]
 unfold bareB
 cases h1 : (f.ty.op == 0)
 · simp [bne, h1]
 · cases h2 : decide (f.ty.nm = ⟨#[]⟩)
   · simp [bne, h1, h2]
   · cases h3 : (f.ty.nu == 0)
     · simp [bne, h1, h2, h3]
     · simp only [bne, h1, h2, h3, Bool.and_self, Bool.not_true, Bool.or_self, Bool.true_and, Bool.false_or]
       by_cases h4 : f.ty.kids = []
       · simp [h4]
       · have : 0 < f.ty.kids.length := List.length_pos_iff.2 h4
         rw [decide_eq_true (show (f.ty.kids.length : Int) > 0 by omega)]
         simp
         exact h4
theorem fmB_other (h : (!hasB intents5 f.intent || !nameB f.nm) = false) (ht : decide (f.intent = tyB) = false) : fmB f = !(!typedB f.ty || decide (f.ty.nm = voidB)) := by
 rw [Bool.or_eq_false_iff] at h
 have h2 := h.1
 rw [has5, ht, Bool.or_false, Bool.not_eq_false'] at h2
 rw [fmB_no h.2 ht h2]
 cases typedB f.ty <;> simp
variable {q : Pc}
theorem pcB_formals (h : (q.formals.any fun f => !fmB f) = true) : pcB q = false := by
 unfold pcB; rw [if_pos (by rw [h, Bool.or_true])]
theorem pcB_head (h : ((!nameB q.nm || decide ((q.wh.length : Int) > 1)) || !typedB q.result) = true) : pcB q = false := by
 unfold pcB
 rw [if_pos]
 rw [Bool.or_eq_true, Bool.or_eq_true] at h
 rcases h with (h | h) | h <;> rw [h] <;> simp
theorem pcB_rest (h : ((!nameB q.nm || decide ((q.wh.length : Int) > 1)) || !typedB q.result) = false) (hf : (q.formals.any fun f => !fmB f) = false) : pcB q = if q.wh.any expW = true then false else !(q.body.any stmW) := by
 unfold pcB
 rw [Bool.or_eq_false_iff, Bool.or_eq_false_iff] at h
 rw [if_neg]
 rw [h.1.1, h.1.2, h.2, hf]
 decide
set_option maxHeartbeats 16000000 in
theorem c91 (p : Pg) (hok : p.Ok) (hT : p.total ≤ 1000000) : Pf Tryz.prog 91 [.agg [.sl (p.globals.map Tr.d), .sl (p.procs.map Pc.d)]] (.d (.sl (p.trees.map Tr.d))) := by
 refine pf_body (rvs := [.tmp 2]) [(0, .d (.agg [.sl (p.globals.map Tr.d), .sl (p.procs.map Pc.d)]))] Tryz.func91 Tryz.ntmps91 Tryz.results91 (fun S0 O0 w0 m0 hm0 => ?_)
 refine Z4 ?_
 have hts := p.trees_size
 have hgs := Tr.len_sizes p.globals
 have htt : p.total = Tr.sizes p.globals + pcsT p.procs := rfl
 refine Z27 ?_;refine Z80 ?_;refine Z147 ?_
 refine sv rfl (y_buildSlice (xs := []) u22 inf27) ?_
 refine Z114 ?_;refine Z26 ?_
 refine sv rfl (y_appendA (xs := []) (ys := p.globals.map Tr.d) u22 inf27 (hk := by exact Tr.ds_cells _) (hlen := by simp [lim]; omega) (hB := by simp [lim]; omega)) ?_
 refine Z84 ?_;refine Z16 ?_;refine Z186 ?_
 refine g_loop (α := Nat × List Tr) (fun z => ⟨[(4, .d (.int .i64 (z.1 : Nat))), (1, .d (.ptr (.agg [.sl (p.globals.map Tr.d), .sl (p.procs.map Pc.d)]))), (3, .osl 4 (z.2.map Tr.d))], []⟩) (fun z => p.procs.length - z.1) (fun z => z.1 ≤ p.procs.length ∧ z.2 = p.globals ++ (p.procs.take z.1).flatMap pcTrees) (0, p.globals) ⟨Nat.zero_le _, by simp⟩ (fun z hz Q' hn0 he0 hr0 => ?_) (le_of)
 obtain ⟨z, acc⟩ := z
 obtain ⟨hz1, hz2⟩ := hz
 replace hz1 : z ≤ p.procs.length := hz1
 replace hz2 : acc = p.globals ++ (p.procs.take z).flatMap pcTrees := hz2
 refine Z181 ?_;refine Z206 ?_;refine Z104 ?_;refine Z177 ?_
 refine zgC ?_ ?_ <;> intro hb0
 ·
  have hlt : z < p.procs.length := by simpa using hb0
  obtain ⟨q, hq⟩ : ∃ q, p.procs[z]? = some q := ⟨_, gE hlt⟩
  have hqd := pc_get hq
  have hqo := hok.p q (mG hq)
  have hpg := pcsT_get hq
  have hqt : pcT q = fmT q.formals + q.result.size + Tr.sizes q.wh + Tr.sizes q.body := rfl
  have hfs := fmTrees_size q.formals
  have hwl := Tr.len_sizes q.wh
  have hbl := Tr.len_sizes q.body
  have hal : acc.length ≤ 1000000 := by
   have h1 := Tr.len_sizes acc
   have h2 : Tr.sizes acc = Tr.sizes p.globals + Tr.sizes ((p.procs.take z).flatMap pcTrees) := by rw [hz2, sizes_append]
   omega
  refine Z17 ?_;refine Z206 ?_;refine Z2 ?_;refine Z123 ?_;refine Z97 ?_
  refine sv rfl (y_alloc zr81) ?_
  refine sa rfl (dS sz81) ?_
  refine Z22 ?_;refine Z16 ?_;refine Z186 ?_
  refine g_loop (α := Nat × List Tr) (fun y => ⟨[(6, .d (.int .i64 (y.1 : Nat))), (5, .d (.ptr (.agg [.str q.nm, .bool q.iter, .bool q.priv, .sl (q.formals.map Fm.d), .int .i64 q.result.op, .str q.result.nm, .int .i64 q.result.nu, .sl (q.result.kids.map Tr.d), .sl (q.wh.map Tr.d), .sl (q.body.map Tr.d)]))), (4, .d (.int .i64 (z : Nat))), (1, .d (.ptr (.agg [.sl (p.globals.map Tr.d), .sl (p.procs.map Pc.d)]))), (3, .osl 4 (y.2.map Tr.d))], []⟩) (fun y => q.formals.length - y.1) (fun y => y.1 ≤ q.formals.length ∧ y.2 = acc ++ fmTrees (q.formals.take y.1) ∧ y.2.length ≤ 1000000 + y.1) (0, acc) ⟨Nat.zero_le _, by simp [fmTrees], hal⟩ (fun y hy Q' hn1 he1 hr1 => ?_) (le_of)
  obtain ⟨y, b⟩ := y
  obtain ⟨hy1, hy2, hy3⟩ := hy
  replace hy1 : y ≤ q.formals.length := hy1
  replace hy2 : b = acc ++ fmTrees (q.formals.take y) := hy2
  replace hy3 : b.length ≤ 1000000 + y := hy3
  refine Z181 ?_;refine Z88 ?_;refine Z103 ?_;refine Z115 ?_;refine Z177 ?_
  refine zgC ?_ ?_ <;> intro hb1
  ·
   have hlt2 : y < q.formals.length := by simpa using hb1
   obtain ⟨f, hf⟩ : ∃ f, q.formals[y]? = some f := ⟨_, gE hlt2⟩
   have hfd := fm_get hf
   have hstep0 := fmTrees_step hf
   refine Z17 ?_;refine Z88 ?_;refine Z103 ?_;refine Z2 ?_;refine Z121 ?_;refine Z101 ?_;refine Z38 ?_
   refine vq rfl q_strne ?_
   refine Z5 ?_
   refine zgC ?_ ?_ <;> intro hb2
   ·
    have hnt : (!decide (f.intent = tyB)) = true := hb2
    have hstep : fmTrees (q.formals.take (y + 1)) = fmTrees (q.formals.take y) ++ [f.ty] := by rw [hstep0, if_pos hnt]
    refine Z19 ?_;refine Z116 ?_;refine Z88 ?_;refine Z103 ?_;refine Z2 ?_;refine Z121 ?_;refine Z31 ?_;refine Z7 ?_
    refine sv rfl (y_buildSlice (xs := [.tmp 43]) u22 inf27) ?_
    refine Z48 ?_
    rw [show b.map Tr.d ++ [D.agg [.int .i64 f.ty.op, .str f.ty.nm, .int .i64 f.ty.nu, .sl (f.ty.kids.map Tr.d)]] = (b ++ [f.ty]).map Tr.d from by rw [← t_eta]; simp]
    refine Z84 ?_;refine Z99 ?_;refine Z170 ?_
    refine hn1 _ (y + 1, b ++ [f.ty]) ⟨by show y + 1 ≤ q.formals.length; omega, by show b ++ [f.ty] = _; rw [hy2, hstep, List.append_assoc], by show (b ++ [_]).length ≤ 1000000 + (y + 1); rw [List.length_append, List.length_singleton]; omega⟩ (by show q.formals.length - (y + 1) < q.formals.length - y; omega) le_of
   have hnt : (!decide (f.intent = tyB)) = false := hb2
   have hstep : fmTrees (q.formals.take (y + 1)) = fmTrees (q.formals.take y) := by rw [hstep0, if_neg (by rw [hnt]; decide), List.append_nil]
   refine Z212 ?_
   refine hn1 _ (y + 1, b) ⟨by show y + 1 ≤ q.formals.length; omega, by show b = _; rw [hy2, hstep], by show b.length ≤ 1000000 + (y + 1); omega⟩ (by show q.formals.length - (y + 1) < q.formals.length - y; omega) le_of
  have hge2 : y = q.formals.length := by
   have : ¬ (y : Int) < (q.formals.map Fm.d).length := by simpa using hb1
   rw [List.length_map] at this
   omega
  have hacc : ((b.map Tr.d ++ [D.agg [.int .i64 q.result.op, .str q.result.nm, .int .i64 q.result.nu, .sl (q.result.kids.map Tr.d)]]) ++ q.wh.map Tr.d) ++ q.body.map Tr.d = (((b ++ [q.result]) ++ q.wh) ++ q.body).map Tr.d := by rw [← t_eta]; simp
  refine Z36 ?_;refine Z140 ?_;refine Z33 ?_;refine Z116 ?_
  refine vq rfl (q_fieldAgg [.int .i64 q.result.op, .str q.result.nm, .int .i64 q.result.nu, .sl (q.result.kids.map Tr.d)] u81 rfl sz27) ?_
  refine Z7 ?_
  refine sv rfl (y_buildSlice (xs := [.tmp 48]) u22 inf27) ?_
  refine Z48 ?_;refine Z84 ?_;refine Z9 ?_;refine Z116 ?_;refine Z207 ?_;refine Z51 ?_;refine Z84 ?_;refine Z131 ?_;refine Z116 ?_;refine Z207 ?_;refine Z47 ?_
  rw [hacc]
  refine Z84 ?_;refine Z99 ?_;refine Z170 ?_
  refine hn0 _ (z + 1, ((b ++ [q.result]) ++ q.wh) ++ q.body) ⟨by show z + 1 ≤ p.procs.length; omega, by show ((b ++ [q.result]) ++ q.wh) ++ q.body = _; rw [hy2, hge2, List.take_length, hz2, take_flat hq, pcTrees]; simp [List.append_assoc]⟩ (by show p.procs.length - (z + 1) < p.procs.length - z; omega) le_of
 have hge : z = p.procs.length := by
  have : ¬ (z : Int) < (p.procs.map Pc.d).length := by simpa using hb0
  rw [List.length_map] at this
  omega
 obtain rfl : acc = p.trees := by rw [hz2, hge, List.take_length]; rfl
 refine Z176 ?_;refine Z2 ?_;refine Z145 ?_
 exact ⟨rfl, rfl⟩
set_option maxHeartbeats 16000000 in
theorem c94 (q : Pc) (hok : q.Ok) : Pf Tryz.prog 94 [q.d] (.d (.bool (pcB q))) := by
 refine pf_body (rvs := [.tmp 2]) [(0, .d (.agg [.str q.nm, .bool q.iter, .bool q.priv, .sl (q.formals.map Fm.d), .int .i64 q.result.op, .str q.result.nm, .int .i64 q.result.nu, .sl (q.result.kids.map Tr.d), .sl (q.wh.map Tr.d), .sl (q.body.map Tr.d)]))] Tryz.func94 Tryz.ntmps94 Tryz.results94 (fun S0 O0 w0 m0 hm0 => ?_)
 refine Z4 ?_
 have q175 := c175 q.result
 rw [t_eta] at q175
 refine Z27 ?_;refine Z22 ?_;refine Z164 ?_
 refine vq rfl (qF u81 rfl sz9) ?_
 refine Z38 ?_
 refine gL (xs := [.tmp 7]) rfl (c174 q.nm) ?_
 refine Z43 ?_;refine Z2 ?_;refine Z91 ?_
 refine sg rfl (fun hg => sP 11 rfl hg (qL u22)) ?_
 refine sg rfl (fun hg => sP 12 rfl hg (q_len u22)) ?_
 refine sg rfl (fun hg => sP 13 rfl hg q_gtr) ?_
 refine Z204 ?_
 refine sg rfl (fun hg => q_fieldAgg [.int .i64 q.result.op, .str q.result.nm, .int .i64 q.result.nu, .sl (q.result.kids.map Tr.d)] u81 rfl sz27) ?_
 refine sg rfl (fun hg => sP 17 rfl hg (qG (by exact sz27) u27 rfl)) ?_
 refine g_callg (xs := [.tmp 18]) rfl (fun hg => q175) ?_
 refine sg rfl (fun hg => sP 19 rfl hg q_not) ?_
 refine Z156 ?_
 refine zgC ?_ ?_ <;> intro hb0
 ·
  have hh : ((!nameB q.nm || decide ((q.wh.length : Int) > 1)) || !typedB q.result) = true := by simpa using hb0
  refine Z189 ?_
  exact ⟨by rw [pcB_head hh], rfl⟩
 have hh : ((!nameB q.nm || decide ((q.wh.length : Int) > 1)) || !typedB q.result) = false := by simpa using hb0
 refine Z58 ?_;refine Z186 ?_
 refine g_loop (α := Nat) (fun z => ⟨[(3, .d (.int .i64 (z : Nat))), (1, .d (.ptr (.agg [.str q.nm, .bool q.iter, .bool q.priv, .sl (q.formals.map Fm.d), .int .i64 q.result.op, .str q.result.nm, .int .i64 q.result.nu, .sl (q.result.kids.map Tr.d), .sl (q.wh.map Tr.d), .sl (q.body.map Tr.d)])))], []⟩) (fun z => q.formals.length - z) (fun z => z ≤ q.formals.length ∧ (q.formals.drop z).any (fun f => !fmB f) = q.formals.any (fun f => !fmB f)) 0 ⟨Nat.zero_le _, rfl⟩ (fun z hz Q' hn0 he0 hr0 => ?_) (le_of)
 have hfl := hok.fl
 obtain ⟨hz1, hz2⟩ := hz
 refine Z181 ?_;refine Z88 ?_;refine Z103 ?_;refine Z115 ?_;refine Z177 ?_
 refine zgC ?_ ?_ <;> intro hb1
 ·
  have hlt : z < q.formals.length := by simpa using hb1
  obtain ⟨f, hf⟩ : ∃ f, q.formals[z]? = some f := ⟨_, gE hlt⟩
  have hfd := fm_get hf
  have q175 := c175 f.ty
  have q177 := c177 f.ty
  rw [t_eta] at q175 q177
  refine Z17 ?_;refine Z88 ?_;refine Z103 ?_;refine Z2 ?_;refine Z121 ?_;refine Z107 ?_
  refine sv rfl (y_alloc zr102) ?_
  refine sa rfl (dS sz102) ?_
  refine Z53 ?_;refine Z16 ?_
  refine sv rfl (y_buildSlice (xs := [.const (.string ⟨#[]⟩), .const (.string ⟨#[105, 110]⟩), .const (.string ⟨#[99, 111, 110, 115, 116]⟩), .const (.string ⟨#[112, 97, 114, 97, 109]⟩), .const (.string ⟨#[116, 121, 112, 101]⟩)]) u63 inf9) ?_
  refine Z101 ?_;refine Z38 ?_
  refine gL (xs := [.tmp 34, .tmp 36]) rfl (c176 intents5 f.intent (by decide)) ?_
  refine Z43 ?_;refine Z2 ?_
  refine sg rfl (fun hg => qF u102 rfl sz9) ?_
  refine sg rfl (fun hg => sP 40 rfl hg (qL u9)) ?_
  refine g_callg (xs := [.tmp 41]) rfl (fun hg => c174 f.nm) ?_
  refine sg rfl (fun hg => sP 42 rfl hg q_not) ?_
  refine Z156 ?_
  refine zgC ?_ ?_ <;> intro hb2
  ·
   have hi : (!hasB intents5 f.intent || !nameB f.nm) = true := by simpa using hb2
   have hbad : (q.formals.any fun f => !fmB f) = true := by rw [← hz2, any_drop hf, show fmB f = false from fmB_bad hi]; rfl
   refine Z151 ?_
   refine gN (tN (gT (tR (bR (tR ?_)))))
   refine Z178 ?_;refine Z3 ?_
   exact ⟨by rw [pcB_formals hbad], rfl⟩
  have hi : (!hasB intents5 f.intent || !nameB f.nm) = false := by simpa using hb2
  refine Z82 ?_;refine Z101 ?_;refine Z38 ?_;refine Z45 ?_;refine Z5 ?_
  refine zgC ?_ ?_ <;> intro hb3
  ·
   refine Z4 ?_;refine Z31 ?_;refine Z149 ?_;refine Z73 ?_;refine Z2 ?_;refine Z29 ?_
   refine sg rfl (fun hg => sP 53 rfl hg (qG (by exact sz27) u27 rfl)) ?_
   refine g_callg (xs := [.tmp 54]) rfl (fun hg => q177) ?_
   refine sg rfl (fun hg => sP 55 rfl hg q_not) ?_
   refine Z204 ?_;refine Z29 ?_
   refine sg rfl (fun hg => sP 59 rfl hg (qF u27 rfl sz22)) ?_
   refine sg rfl (fun hg => sP 60 rfl hg (qL u22)) ?_
   refine sg rfl (fun hg => sP 61 rfl hg (q_len u22)) ?_
   refine sg rfl (fun hg => sP 62 rfl hg q_gtr) ?_
   refine Z156 ?_
   refine zgC ?_ ?_ <;> intro hb4
   ·
    have hj : ((f.ty.op != 0 || !bareB f.ty) || decide ((f.ty.kids.length : Int) > 0)) = true := by simpa using hb4
    have hbad : (q.formals.any fun f => !fmB f) = true := by rw [← hz2, any_drop hf, show fmB f = false from by rw [fmB_type hi hb3, hj]; rfl]; rfl
    refine Z4 ?_;refine Z194 ?_;refine Z3 ?_
    exact ⟨by rw [pcB_formals hbad], rfl⟩
   have hj : ((f.ty.op != 0 || !bareB f.ty) || decide ((f.ty.kids.length : Int) > 0)) = false := by simpa using hb4
   have hgood : fmB f = true := by rw [fmB_type hi hb3, hj]; rfl
   refine Z212 ?_
   refine hn0 _ (z + 1) ⟨by omega, by rw [← hz2, any_drop hf, hgood]; rfl⟩ (by omega) le_of
  refine Z4 ?_;refine Z31 ?_;refine Z7 ?_
  refine gL (xs := [.tmp 66]) rfl (q175) ?_
  refine Z43 ?_;refine Z2 ?_;refine Z29 ?_
  refine sg rfl (fun hg => sP 70 rfl hg (qF u27 rfl sz9)) ?_
  refine sg rfl (fun hg => sP 71 rfl hg (qL u9)) ?_
  refine sg rfl (fun hg => sP 72 rfl hg q_streq) ?_
  refine Z156 ?_
  refine zgC ?_ ?_ <;> intro hb5
  ·
   have hj : (!typedB f.ty || decide (f.ty.nm = voidB)) = true := hb5
   have hbad : (q.formals.any fun f => !fmB f) = true := by rw [← hz2, any_drop hf, show fmB f = false from by rw [fmB_other hi hb3, hj]; rfl]; rfl
   refine Z4 ?_;refine Z194 ?_;refine Z3 ?_
   exact ⟨by rw [pcB_formals hbad], rfl⟩
  have hj : (!typedB f.ty || decide (f.ty.nm = voidB)) = false := hb5
  have hgood : fmB f = true := by rw [fmB_other hi hb3, hj]; rfl
  refine Z212 ?_
  refine hn0 _ (z + 1) ⟨by omega, by rw [← hz2, any_drop hf, hgood]; rfl⟩ (by omega) le_of
 have hge : z = q.formals.length := by
  have : ¬ (z : Int) < (q.formals.map Fm.d).length := by simpa using hb1
  rw [List.length_map] at this
  omega
 have hf0 : (q.formals.any fun f => !fmB f) = false := by rw [← hz2, hge, List.drop_length]; rfl
 refine Z167 ?_
 refine blk_exit (tN (zgS (zgS ?_)))
 have hwl : q.wh.length ≤ 1 := by
  have h := of_decide_eq_false (Bool.or_eq_false_iff.1 (Bool.or_eq_false_iff.1 hh).1).2
  omega
 have hwc : q.wh = [] ∨ ∃ wop wnm wnu wks, q.wh = [.mk wop wnm wnu wks] := by
  match hw : q.wh, hwl with
  | [], _ => exact .inl rfl
  | [.mk a b c d], _ => exact .inr ⟨a, b, c, d, rfl⟩
 rcases hwc with hwe | ⟨wop, wnm, wnu, wks, hwe⟩
 ·
  refine Z19 ?_
  have hwa : q.wh.any expW = false := by rw [hwe]; rfl
  refine Z207 ?_;refine Z42 ?_;refine Z18 ?_;refine Z2 ?_;refine Z13 ?_;refine Z13 ?_;refine Z13 ?_;refine Z13 ?_;refine Z13 ?_;refine Z13 ?_;refine Z13 ?_;refine Z13 ?_;refine Z13 ?_;refine Z13 ?_;refine Z13 ?_;refine Z13 ?_;refine Z13 ?_;refine Z13 ?_;refine Z13 ?_;refine Z10 ?_;refine Z5 ?_
  refine zgC ?_ ?_ <;> intro hb6
  · exact absurd hb6 (by simp [hwe])
  refine Z58 ?_;refine Z186 ?_
  refine g_loop (α := Nat) (fun z => ⟨[(5, .d (.int .i64 (z : Nat))), (1, .d (.ptr (.agg [.str q.nm, .bool q.iter, .bool q.priv, .sl (q.formals.map Fm.d), .int .i64 q.result.op, .str q.result.nm, .int .i64 q.result.nu, .sl (q.result.kids.map Tr.d), .sl (q.wh.map Tr.d), .sl (q.body.map Tr.d)])))], []⟩) (fun z => q.body.length - z) (fun z => z ≤ q.body.length ∧ (q.body.drop z).any stmW = q.body.any stmW) 0 ⟨Nat.zero_le _, rfl⟩ (fun z hz Q' hn1 he1 hr1 => ?_) (le_of)
  have hbl := hok.b.1
  obtain ⟨hz1, hz2⟩ := hz
  refine Z181 ?_;refine Z207 ?_;refine Z42 ?_;refine Z177 ?_
  refine zgC ?_ ?_ <;> intro hb7
  ·
   have hlt : z < q.body.length := by simpa using hb7
   obtain ⟨⟨xop, xnm, xnu, xks⟩, hx⟩ : ∃ x, q.body[z]? = some x := ⟨_, gE hlt⟩
   have hxd := Tr.ds_get hx
   rw [Tr.d_mk] at hxd
   have q93 := c93n _ (.mk xop xnm xnu xks) (Nat.le_refl _) (hok.b.2 _ (mG hx))
   rw [Tr.d_mk] at q93
   refine Z17 ?_;refine Z207 ?_;refine Z199 ?_;refine Z149 ?_
   refine gL (xs := [.tmp 108]) rfl (c96 xop) ?_
   refine Z43 ?_;refine Z2 ?_;refine Z91 ?_
   refine sg rfl (fun hg => sP 112 rfl hg (qL u22)) ?_
   refine Z23 ?_
   refine sg rfl (fun hg => sP 114 rfl hg (sP 113 rfl hg (qI u22 sz27))) ?_
   refine sg rfl (fun hg => sP 115 rfl hg (qG (by exact sz27) u27 rfl)) ?_
   refine g_callg (xs := [.tmp 116]) rfl (fun hg => q93) ?_
   refine sg rfl (fun hg => sP 117 rfl hg q_not) ?_
   refine Z156 ?_
   refine zgC ?_ ?_ <;> intro hb8
   ·
    have hsb : q.body.any stmW = true := by rw [← hz2, any_drop hx, show stmW (.mk xop xnm xnu xks) = true from hb8]; rfl
    refine Z4 ?_;refine Z143 ?_
    refine hr1 _ ?_
    refine Z63 ?_;refine Z3 ?_
    exact ⟨by rw [pcB_rest hh hf0, hwa, if_neg (by decide)]; rw [hsb]; rfl, rfl⟩
   refine Z212 ?_
   refine hn1 _ (z + 1) ⟨by omega, by rw [← hz2, any_drop hx, show stmW (.mk xop xnm xnu xks) = false from hb8]; rfl⟩ (by omega) le_of
  have hge : z = q.body.length := by
   have : ¬ (z : Int) < (q.body.map Tr.d).length := by simpa using hb7
   rw [List.length_map] at this
   omega
  have hs0 : q.body.any stmW = false := by rw [← hz2, hge, List.drop_length]; rfl
  refine Z36 ?_;refine Z140 ?_;refine Z33 ?_;refine Z145 ?_
  exact ⟨by rw [pcB_rest hh hf0, hwa, if_neg (by decide)]; rw [hs0]; rfl, rfl⟩
 refine Z19 ?_
 have hwd : (q.wh.map Tr.d)[0]? = some (.agg [.int .i64 wop, .str wnm, .int .i64 wnu, .sl (wks.map Tr.d)]) := by rw [hwe, List.map_singleton, Tr.d_mk]; rfl
 have q93 := c93n _ (.mk wop wnm wnu wks) (Nat.le_refl _) (hok.w.2 _ (by rw [hwe]; simp))
 rw [Tr.d_mk] at q93
 refine Z207 ?_;refine Z42 ?_;refine Z18 ?_;refine Z2 ?_
 refine sgo rfl (show ((((((q.wh.map Tr.d).length : Nat) : Int) == 1) == true) = true) from by rw [hwe]; rfl) (y_fieldp_leaf u81 rfl sz22) ?_
 refine sgo rfl (show ((((((q.wh.map Tr.d).length : Nat) : Int) == 1) == true) = true) from by rw [hwe]; rfl) (y_loadp_leaf u22) ?_
 refine sgo rfl (show ((((((q.wh.map Tr.d).length : Nat) : Int) == 1) == true) = true) from by rw [hwe]; rfl) (y_indexAddr u22 sz27) ?_
 refine sgo rfl (show ((((((q.wh.map Tr.d).length : Nat) : Int) == 1) == true) = true) from by rw [hwe]; rfl) (y_fieldp_leaf u27 rfl sz3) ?_
 refine sgo rfl (show ((((((q.wh.map Tr.d).length : Nat) : Int) == 1) == true) = true) from by rw [hwe]; rfl) (y_loadp_leaf u3) ?_
 refine g_callo (xs := [.tmp 84]) rfl (show ((((((q.wh.map Tr.d).length : Nat) : Int) == 1) == true) = true) from by rw [hwe]; rfl) (c81 wop) ?_
 refine sgo rfl (show ((((((q.wh.map Tr.d).length : Nat) : Int) == 1) == true) = true) from by rw [hwe]; rfl) y_not ?_
 refine sgo rfl (show ((((((q.wh.map Tr.d).length : Nat) : Int) == 1) == true) = true) from by rw [hwe]; rfl) y_move ?_
 refine Z91 ?_
 refine sg rfl (fun hg => sP 88 rfl hg (qL u22)) ?_
 refine sg rfl (fun hg => sP 89 rfl hg (qI u22 sz27)) ?_
 refine sg rfl (fun hg => sP 90 rfl hg (qG (by exact sz27) u27 rfl)) ?_
 refine g_callg (xs := [.tmp 91]) rfl (fun hg => q93) ?_
 refine sg rfl (fun hg => sP 92 rfl hg q_not) ?_
 refine sgo rfl (show ((((((q.wh.map Tr.d).length : Nat) : Int) == 1) == true) = true) from by rw [hwe]; rfl) y_or ?_
 refine Z10 ?_;refine Z5 ?_
 refine zgC ?_ ?_ <;> intro hb9
 ·
  have hwb : (!isExprB wop || !(Tr.mk wop wnm wnu wks).shaped) = true := by simpa [hwe] using hb9
  have hwa : q.wh.any expW = true := by rw [hwe, List.any_cons, show expW (.mk wop wnm wnu wks) = true from hwb]; rfl
  refine Z189 ?_
  exact ⟨by rw [pcB_rest hh hf0, hwa, if_pos rfl], rfl⟩
 have hwb : (!isExprB wop || !(Tr.mk wop wnm wnu wks).shaped) = false := by simpa [hwe] using hb9
 have hwa : q.wh.any expW = false := by rw [hwe, List.any_cons, show expW (.mk wop wnm wnu wks) = false from hwb]; rfl
 refine Z58 ?_;refine Z186 ?_
 refine g_loop (α := Nat) (fun z => ⟨[(5, .d (.int .i64 (z : Nat))), (1, .d (.ptr (.agg [.str q.nm, .bool q.iter, .bool q.priv, .sl (q.formals.map Fm.d), .int .i64 q.result.op, .str q.result.nm, .int .i64 q.result.nu, .sl (q.result.kids.map Tr.d), .sl (q.wh.map Tr.d), .sl (q.body.map Tr.d)])))], []⟩) (fun z => q.body.length - z) (fun z => z ≤ q.body.length ∧ (q.body.drop z).any stmW = q.body.any stmW) 0 ⟨Nat.zero_le _, rfl⟩ (fun z hz Q' hn2 he2 hr2 => ?_) (le_of)
 have hbl := hok.b.1
 obtain ⟨hz1, hz2⟩ := hz
 refine Z181 ?_;refine Z207 ?_;refine Z42 ?_;refine Z177 ?_
 refine zgC ?_ ?_ <;> intro hb10
 ·
  have hlt : z < q.body.length := by simpa using hb10
  obtain ⟨⟨xop, xnm, xnu, xks⟩, hx⟩ : ∃ x, q.body[z]? = some x := ⟨_, gE hlt⟩
  have hxd := Tr.ds_get hx
  rw [Tr.d_mk] at hxd
  have q93 := c93n _ (.mk xop xnm xnu xks) (Nat.le_refl _) (hok.b.2 _ (mG hx))
  rw [Tr.d_mk] at q93
  refine Z17 ?_;refine Z207 ?_;refine Z199 ?_;refine Z149 ?_
  refine gL (xs := [.tmp 108]) rfl (c96 xop) ?_
  refine Z43 ?_;refine Z2 ?_;refine Z91 ?_
  refine sg rfl (fun hg => sP 112 rfl hg (qL u22)) ?_
  refine Z23 ?_
  refine sg rfl (fun hg => sP 114 rfl hg (sP 113 rfl hg (qI u22 sz27))) ?_
  refine sg rfl (fun hg => sP 115 rfl hg (qG (by exact sz27) u27 rfl)) ?_
  refine g_callg (xs := [.tmp 116]) rfl (fun hg => q93) ?_
  refine sg rfl (fun hg => sP 117 rfl hg q_not) ?_
  refine Z156 ?_
  refine zgC ?_ ?_ <;> intro hb11
  ·
   have hsb : q.body.any stmW = true := by rw [← hz2, any_drop hx, show stmW (.mk xop xnm xnu xks) = true from hb11]; rfl
   refine Z4 ?_;refine Z143 ?_
   refine hr2 _ ?_
   refine Z63 ?_;refine Z3 ?_
   exact ⟨by rw [pcB_rest hh hf0, hwa, if_neg (by decide)]; rw [hsb]; rfl, rfl⟩
  refine Z212 ?_
  refine hn2 _ (z + 1) ⟨by omega, by rw [← hz2, any_drop hx, show stmW (.mk xop xnm xnu xks) = false from hb11]; rfl⟩ (by omega) le_of
 have hge : z = q.body.length := by
  have : ¬ (z : Int) < (q.body.map Tr.d).length := by simpa using hb10
  rw [List.length_map] at this
  omega
 have hs0 : q.body.any stmW = false := by rw [← hz2, hge, List.drop_length]; rfl
 refine Z36 ?_
 refine he2 _ _ ?_
 refine Z33 ?_;refine Z145 ?_
 exact ⟨by rw [pcB_rest hh hf0, hwa, if_neg (by decide)]; rw [hs0]; rfl, rfl⟩
set_option maxHeartbeats 16000000 in
theorem c23 (p : Pg) (hok : p.Ok) (hT : p.total ≤ 1000000) : Pf Tryz.prog 23 [.agg [.sl (p.globals.map Tr.d), .sl (p.procs.map Pc.d)]] (.d (.int .i64 (formE p))) := by
 refine pf_body (rvs := [.tmp 2]) [(0, .d (.agg [.sl (p.globals.map Tr.d), .sl (p.procs.map Pc.d)]))] Tryz.func23 Tryz.ntmps23 Tryz.results23 (fun S0 O0 w0 m0 hm0 => ?_)
 refine Z4 ?_
 have hts := p.trees_size
 have hgs := Tr.len_sizes p.globals
 have htt : p.total = Tr.sizes p.globals + pcsT p.procs := rfl
 have hpl := hok.pl
 have htl := Tr.len_sizes p.trees
 have hdd := Tr.deeps_bd p.trees 0
 refine Z27 ?_;refine Z80 ?_;refine Z164 ?_;refine Z206 ?_;refine Z104 ?_;refine Z69 ?_;refine Z5 ?_
 refine zgC ?_ ?_ <;> intro hb0
 ·
  have hp0 : decide ((p.procs.length : Int) > 100) = true := by simpa using hb0
  refine Z189 ?_
  exact ⟨by unfold formE; rw [if_pos (by rw [hp0]; rfl)], rfl⟩
 have hp0 : decide ((p.procs.length : Int) > 100) = false := by simpa using hb0
 refine Z58 ?_;refine Z186 ?_
 refine g_loop (α := Nat) (fun z => ⟨[(3, .d (.int .i64 (z : Nat))), (1, .d (.ptr (.agg [.sl (p.globals.map Tr.d), .sl (p.procs.map Pc.d)])))], []⟩) (fun z => p.procs.length - z) (fun z => z ≤ p.procs.length ∧ (p.procs.drop z).any manyB = p.procs.any manyB) 0 ⟨Nat.zero_le _, rfl⟩ (fun z hz Q' hn0 he0 hr0 => ?_) (le_of)
 obtain ⟨hz1, hz2⟩ := hz
 refine Z181 ?_;refine Z206 ?_;refine Z104 ?_;refine Z177 ?_
 refine zgC ?_ ?_ <;> intro hb1
 ·
  have hlt : z < p.procs.length := by simpa using hb1
  obtain ⟨q, hq⟩ : ∃ q, p.procs[z]? = some q := ⟨_, gE hlt⟩
  have hqd := pc_get hq
  have hqo := hok.p q (mG hq)
  refine Z17 ?_;refine Z206 ?_;refine Z2 ?_;refine Z123 ?_;refine Z88 ?_;refine Z103 ?_;refine Z115 ?_;refine Z69 ?_;refine Z5 ?_
  refine zgC ?_ ?_ <;> intro hb2
  ·
   have hmq : manyB q = true := by unfold manyB; simpa using hb2
   have hma : p.procs.any manyB = true := by rw [← hz2, any_drop hq, hmq]; rfl
   refine Z4 ?_;refine Z194 ?_;refine Z3 ?_
   exact ⟨by unfold formE; rw [if_pos (by rw [hma, Bool.or_true])], rfl⟩
  have hmq : manyB q = false := by unfold manyB; simpa using hb2
  refine Z212 ?_
  refine hn0 _ (z + 1) ⟨by omega, by rw [← hz2, any_drop hq, hmq]; rfl⟩ (by omega) le_of
 have hge : z = p.procs.length := by
  have : ¬ (z : Int) < (p.procs.map Pc.d).length := by simpa using hb1
  rw [List.length_map] at this
  omega
 have hm0' : p.procs.any manyB = false := by rw [← hz2, hge, List.drop_length]; rfl
 have q91 := c91 p hok hT
 refine Z176 ?_
 refine vq rfl (qG (by exact sz25) u25 rfl) ?_
 refine gL (xs := [.tmp 31]) rfl (q91) ?_
 refine Z147 ?_;refine Z0 ?_;refine Z164 ?_;refine Z186 ?_
 refine g_loop (α := Nat × Int × Int) (fun y => ⟨[(7, .d (.int .i64 (y.1 : Nat))), (5, .d (.int .i64 y.2.1)), (6, .d (.int .i64 y.2.2)), (4, .d (.sl (p.trees.map Tr.d))), (1, .d (.ptr (.agg [.sl (p.globals.map Tr.d), .sl (p.procs.map Pc.d)])))], []⟩) (fun y => p.trees.length - y.1) (fun y => y.1 ≤ p.trees.length ∧ 0 ≤ y.2.1 ∧ y.2.1 + Tr.sizes (p.trees.drop y.1) = Tr.sizes p.trees ∧ 0 ≤ y.2.2 ∧ y.2.2 ≤ Tr.sizes p.trees ∧ Tr.deeps (p.trees.drop y.1) y.2.2 = Tr.deeps p.trees 0) (0, 0, 0) ⟨Nat.zero_le _, by show (0 : Int) ≤ 0; omega, by show (0 : Int) + _ = _; simp, by show (0 : Int) ≤ 0; omega, by show (0 : Int) ≤ _; omega, rfl⟩ (fun y hy Q' hn1 he1 hr1 => ?_) (le_of)
 obtain ⟨y, c, e⟩ := y
 obtain ⟨hy1, hc1, hc2, hc3, hc4, hc5⟩ := hy
 replace hy1 : y ≤ p.trees.length := hy1
 replace hc1 : 0 ≤ c := hc1
 replace hc2 : c + Tr.sizes (p.trees.drop y) = Tr.sizes p.trees := hc2
 replace hc3 : 0 ≤ e := hc3
 replace hc4 : e ≤ Tr.sizes p.trees := hc4
 replace hc5 : Tr.deeps (p.trees.drop y) e = Tr.deeps p.trees 0 := hc5
 refine Z39 ?_;refine Z155 ?_;refine Z42 ?_;refine Z177 ?_
 refine zgC ?_ ?_ <;> intro hb3
 ·
  have hlt : y < p.trees.length := by simpa using hb3
  obtain ⟨k, hk⟩ : ∃ k, p.trees[y]? = some k := ⟨_, gE hlt⟩
  have hmem := mG hk
  have hxa := Tr.ds_get hk
  have hsd := Tr.sizes_drop hk
  have hdb := Tr.depth_bd k
  have hsm := Tr.size_mem hmem
  have q92 := c92n _ k (Nat.le_refl _) (Pg.trees_ok hok k hmem) (by omega)
  rw [t_eta] at hxa q92
  refine Z17 ?_;refine Z155 ?_;refine Z52 ?_;refine Z7 ?_
  refine gL (xs := [.tmp 43]) rfl (q92) ?_
  refine Z211 ?_;refine Z0 ?_;refine Z147 ?_;refine Z155 ?_;refine Z158 ?_;refine Z131 ?_;refine Z155 ?_;refine Z110 ?_;refine Z0 ?_;refine Z99 ?_;refine Z170 ?_
  refine hn1 _ (y + 1, c + k.size, if k.depth > e then k.depth else e) ⟨by show y + 1 ≤ p.trees.length; omega, by show 0 ≤ c + (k.size : Int); omega, by show c + (k.size : Int) + (Tr.sizes (p.trees.drop (y + 1)) : Nat) = (Tr.sizes p.trees : Nat); omega, by show 0 ≤ (if k.depth > e then k.depth else e); split <;> omega, by show (if k.depth > e then k.depth else e) ≤ _; split <;> omega, by show Tr.deeps (p.trees.drop (y + 1)) _ = _; rw [← Tr.deeps_drop hk e]; exact hc5⟩ (by show p.trees.length - (y + 1) < p.trees.length - y; omega) le_of
 have hge2 : y = p.trees.length := by
  have : ¬ (y : Int) < (p.trees.map Tr.d).length := by simpa using hb3
  rw [List.length_map] at this
  omega
 rw [hge2, List.drop_length] at hc2 hc5
 rw [Tr.deeps] at hc5
 rw [Tr.sizes] at hc2
 have hcn : c = Tr.sizes p.trees := by omega
 refine Z36 ?_;refine Z140 ?_;refine Z134 ?_;refine Z2 ?_;refine Z69 ?_;refine Z5 ?_
 refine zgC ?_ ?_ <;> intro hb4
 ·
  have hn1 : (Tr.sizes p.trees : Int) > 4000 := by rw [← hcn]; simpa using hb4
  have hle : limitsE p.trees = 5 := by unfold limitsE; rw [if_pos hn1]
  refine Z189 ?_
  exact Y3
 have hn1 : ¬ (Tr.sizes p.trees : Int) > 4000 := by rw [← hcn]; simpa using hb4
 refine Z58 ?_;refine Z2 ?_;refine Z69 ?_;refine Z5 ?_
 refine zgC ?_ ?_ <;> intro hb5
 ·
  have hn2 : Tr.deeps p.trees 0 > 60 := by rw [← hc5]; simpa using hb5
  have hle : limitsE p.trees = 6 := by unfold limitsE; rw [if_neg hn1, if_pos hn2]
  refine Z189 ?_
  exact Y3
 have hn2 : ¬ Tr.deeps p.trees 0 > 60 := by rw [← hc5]; simpa using hb5
 have hle : limitsE p.trees = 0 := by unfold limitsE; rw [if_neg hn1, if_neg hn2]
 refine Z58 ?_;refine Z186 ?_
 refine g_loop (α := Nat) (fun u => ⟨[(10, .d (.int .i64 (u : Nat))), (1, .d (.ptr (.agg [.sl (p.globals.map Tr.d), .sl (p.procs.map Pc.d)])))], []⟩) (fun u => p.globals.length - u) (fun u => u ≤ p.globals.length ∧ (p.globals.drop u).any varW = p.globals.any varW) 0 ⟨Nat.zero_le _, rfl⟩ (fun u hu Q' hn2 he2 hr2 => ?_) (le_of)
 obtain ⟨hu1, hu2⟩ := hu
 refine Z181 ?_;refine Z114 ?_;refine Z26 ?_;refine Z42 ?_;refine Z177 ?_
 refine zgC ?_ ?_ <;> intro hb6
 ·
  have hlt : u < p.globals.length := by simpa using hb6
  obtain ⟨⟨xop, xnm, xnu, xks⟩, hx⟩ : ∃ x, p.globals[u]? = some x := ⟨_, gE hlt⟩
  have hxd := Tr.ds_get hx
  rw [Tr.d_mk] at hxd
  have q93 := c93n _ (.mk xop xnm xnu xks) (Nat.le_refl _) (hok.g.2 _ (mG hx))
  rw [Tr.d_mk] at q93
  refine Z17 ?_;refine Z114 ?_;refine Z26 ?_;refine Z199 ?_;refine Z149 ?_;refine Z73 ?_;refine Z2 ?_
  refine sg rfl (fun hg => qF u25 rfl sz22) ?_
  refine sg rfl (fun hg => sP 72 rfl hg (qL u22)) ?_
  refine Z23 ?_
  refine sg rfl (fun hg => sP 74 rfl hg (sP 73 rfl hg (qI u22 sz27))) ?_
  refine sg rfl (fun hg => sP 75 rfl hg (qG (by exact sz27) u27 rfl)) ?_
  refine g_callg (xs := [.tmp 76]) rfl (fun hg => q93) ?_
  refine sg rfl (fun hg => sP 77 rfl hg q_not) ?_
  refine Z156 ?_
  refine zgC ?_ ?_ <;> intro hb7
  ·
   have hvq : varW (.mk xop xnm xnu xks) = true := hb7
   have hva : p.globals.any varW = true := by rw [← hu2, any_drop hx, hvq]; rfl
   refine Z4 ?_;refine Z143 ?_
   refine hr2 _ ?_
   refine Z63 ?_;refine Z3 ?_
   exact ⟨by unfold formE; rw [if_neg (by rw [show (decide ((p.procs.length : Int) > 100) || p.procs.any manyB) = false from by rw [hp0, hm0']; rfl]; decide), hle, if_neg (by decide), if_pos hva], rfl⟩
  have hvq : varW (.mk xop xnm xnu xks) = false := hb7
  refine Z212 ?_
  refine hn2 _ (u + 1) ⟨by omega, by rw [← hu2, any_drop hx, hvq]; rfl⟩ (by omega) le_of
 have hge3 : u = p.globals.length := by
  have : ¬ (u : Int) < (p.globals.map Tr.d).length := by simpa using hb6
  rw [List.length_map] at this
  omega
 have hv0 : p.globals.any varW = false := by rw [← hu2, hge3, List.drop_length]; rfl
 refine Z36 ?_
 refine he2 _ _ ?_
 refine Z134 ?_;refine Z186 ?_
 refine g_loop (α := Nat) (fun x => ⟨[(11, .d (.int .i64 (x : Nat))), (1, .d (.ptr (.agg [.sl (p.globals.map Tr.d), .sl (p.procs.map Pc.d)])))], []⟩) (fun x => p.procs.length - x) (fun x => x ≤ p.procs.length ∧ (p.procs.drop x).any (fun q => !pcB q) = p.procs.any (fun q => !pcB q)) 0 ⟨Nat.zero_le _, rfl⟩ (fun x hx Q' hn3 he3 hr3 => ?_) (le_of)
 obtain ⟨hx1, hx2⟩ := hx
 refine Z181 ?_;refine Z206 ?_;refine Z104 ?_;refine Z177 ?_
 refine zgC ?_ ?_ <;> intro hb8
 ·
  have hlt : x < p.procs.length := by simpa using hb8
  obtain ⟨q, hq⟩ : ∃ q, p.procs[x]? = some q := ⟨_, gE hlt⟩
  have hqd := pc_get hq
  have hqo := hok.p q (mG hq)
  refine Z17 ?_;refine Z206 ?_;refine Z2 ?_;refine Z123 ?_;refine Z97 ?_
  refine gL (xs := [.tmp 91]) rfl (c94 q hqo) ?_
  refine Z43 ?_;refine Z5 ?_
  refine zgC ?_ ?_ <;> intro hb9
  ·
   have hwa : p.procs.any (fun q => !pcB q) = true := by rw [← hx2, any_drop hq, show (!pcB q) = true from hb9]; rfl
   refine Z4 ?_;refine Z143 ?_
   refine hr3 _ ?_
   refine Z63 ?_;refine Z3 ?_
   exact ⟨by unfold formE; rw [if_neg (by rw [show (decide ((p.procs.length : Int) > 100) || p.procs.any manyB) = false from by rw [hp0, hm0']; rfl]; decide), hle, if_neg (by decide), if_neg (by rw [hv0]; decide), if_pos hwa], rfl⟩
  refine Z212 ?_
  refine hn3 _ (x + 1) ⟨by omega, by rw [← hx2, any_drop hq, show (!pcB q) = false from hb9]; rfl⟩ (by omega) le_of
 have hge4 : x = p.procs.length := by
  have : ¬ (x : Int) < (p.procs.map Pc.d).length := by simpa using hb8
  rw [List.length_map] at this
  omega
 have hw0 : p.procs.any (fun q => !pcB q) = false := by rw [← hx2, hge4, List.drop_length]; rfl
 refine Z36 ?_
 refine he3 _ _ ?_
 refine Z33 ?_;refine Z145 ?_
 exact ⟨by unfold formE; rw [if_neg (by rw [show (decide ((p.procs.length : Int) > 100) || p.procs.any manyB) = false from by rw [hp0, hm0']; rfl]; decide), hle, if_neg (by decide), if_neg (by rw [hv0]; decide), if_neg (by rw [hw0]; decide)], rfl⟩
end
section
def fmHide (l : KL) : List Fm → KL
 | [] => l
 | f :: r => fmHide (hideK f.nm l) r
theorem KOk.fm : ∀ (l : List Fm) {c : KL}, KOk c → KOk (fmHide c l)
 | [], _, h => h
 | f :: r, _, h => by rw [fmHide]; exact KOk.fm r (h.hide _)
end
section
def sInt : ByteArray := ⟨#[105, 110, 116]⟩
def sBool : ByteArray := ⟨#[98, 111, 111, 108]⟩
structure Lc where
 nm : ByteArray
 ty : ByteArray
 con : Bool
 block : Int
 level : Int
def locD : List Lc → D
 | [] => .nil
 | x :: r => .ptr (.agg [.str x.nm, .str x.ty, .bool x.con, locD r, .int .i64 x.block, .int .i64 x.level])
def findL (nm : ByteArray) : List Lc → List Lc
 | [] => []
 | x :: r => if x.nm = nm then x :: r else findL nm r
theorem c200L (ls : List Lc) (nm : ByteArray) : Pf Tryz.prog 200 [locD ls, .str nm] (.d (locD (findL nm ls))) := by
 refine pfb Tryz.func200 Tryz.ntmps200 Tryz.results200 (fun S0 O0 w0 m0 hm0 => ?_)
 repeat' first | refine st (by exact rfl) ?_ | fail
 refine gLo (fun z : List Lc => ⟨[(0, .d (locD z)), (1, .d (.str nm))], []⟩) List.length (fun z => findL nm z = findL nm ls) ls rfl le_of (fun z hz Q' hn he hr hp => ?_)
 cases z with
 | nil =>
  dsimp only [locD]
  repeat' first | refine st (by exact rfl) ?_ | refine sk (by exact rfl) rfl ?_ | fail
  refine cf (by exact rfl) ?_ rfl
  repeat' first | refine st (by exact rfl) ?_ | fail
  refine toL (he _ _ ?_)
  repeat' first | refine st (by exact rfl) ?_ | fail
  exact en (by exact rfl) (by rw [← hz]; rfl)
 | cons x r =>
  dsimp only [locD]
  repeat' first | refine st (by exact rfl) ?_ | fail
  refine cd (by exact rfl) (fun hb => ?_) (fun hb => ?_)
  · repeat' first | refine st (by exact rfl) ?_ | fail
    rcases r with _ | ⟨y, r⟩
    · dsimp only [locD]
      repeat' first | refine st (by exact rfl) ?_ | fail
      refine toL (hn _ [] ?_ (Nat.lt_succ_self _) le_of)
      rw [← hz]
      exact (if_neg (by simpa using hb)).symm
    · dsimp only [locD]
      repeat' first | refine st (by exact rfl) ?_ | fail
      refine toL (hn _ (y :: r) ?_ (Nat.lt_succ_self _) le_of)
      rw [← hz]
      exact (if_neg (by simpa using hb)).symm
  · repeat' first | refine st (by exact rfl) ?_ | fail
    refine toL (he _ _ ?_)
    repeat' first | refine st (by exact rfl) ?_ | fail
    refine en (by exact rfl) ?_
    rw [← hz]
    show PV.d (locD (x :: r)) = PV.d (locD (if x.nm = nm then x :: r else findL nm r))
    rw [if_pos (by simpa using hb)]
end
section
theorem catch_idle (p : Addr) (w : World) : CallsD Tryz.prog 140 #[.pointer (some p)] .returning w fun e u' w' => e = .returned (.tuple #[]) ∧ u' = .returning ∧ w' = w := by
 refine callsD_of_wpS Tryz.func140 rfl fun c₀ cs hu => ?_
 apply wpS_seq
 apply wpS_region
 simp [wpOpsS, go_sem, recoverD, hu, Tryz.ntmps140, Exit.thenS]
 apply wpS_seq
 apply wpS_region
 simp [wpOpsS, go_sem, recoverD, hu, Tryz.ntmps140, Exit.thenS]
 refine wpS_cond (t := false) (by simp [Act.eval, Array.replicate]) ?_
 simp only [Bool.false_eq_true, if_false]
 refine wpS_of_wp (wp_skip ?_)
 cases c₀
 simp_all [bodyPostS, results, Tryz.results140]
theorem neqW (u : Value) (w : World) : (binOp .neq 20 (.iface 116 u) .nilIface).run Tryz.prog w = .ok (.bool true) w := by kernel_rfl
def wrongW (e : Int) : Value := .iface 116 (.agg #[.int .i64 e, .slice none 0 0])
set_option maxHeartbeats 1000000 in
theorem catch_rest (e : Int) {S : Reg} {O : Owns} {m : List Nat} {w : World} {B : List PV} (hm : m.length = 2) : ∀ c, (∃ b x, Tryz.prog.funcs[140]? = some b ∧ b.body = some (.seq x c)) →
 G ⟨Tryz.prog, 16, S, O, w, m, [], []⟩ c (fun ex s' => ex = .normal ∧ ∃ Y, s'.mem = [B, [.d (.int .i64 e), .d (.sl [])], Y]) ⟨[(0, .ref 1 0), (1, .d (.iface 116 (.agg [.int .i64 e, .sl []])))], [B, [.d (.int .i64 0), .nils]]⟩ := by
 rintro c ⟨b, x, hb, hc⟩
 rw [Tryz.func140] at hb
 injection hb with hb
 subst hb
 injection hc with hc
 injection hc with _ hc
 subst hc
 refine Z188 ?_
 refine vq rfl ((q_neqI neqW)) ?_
 refine Z5 ?_
 refine zgC ?_ ?_ <;> intro hb0
 ·
  refine Z188 ?_
  refine vq rfl ((q_tassert u116)) ?_
  refine Z211 ?_
  refine sv rfl (y_alloc zr116) ?_
  first | refine sa rfl (dS sz116) ?_ | refine sa rfl (d_store_take sz116) ?_
  refine Z164 ?_;refine Z2 ?_;refine Z43 ?_;refine Z5 ?_
  refine zgC ?_ ?_ <;> intro hb1
  · exact absurd hb1 (by decide)
  refine gK (tN (gR ?_))
  first | refine sv rfl (y_load_agg sz116 u116 rfl) ?_ | refine vq rfl (qG (by exact sz116) u116 rfl) ?_
  first | refine sa rfl (dS sz116) ?_ | refine sa rfl (d_store_take sz116) ?_
  refine Z46 ?_
  exact ⟨rfl, _, rfl⟩
 exact absurd hb0 (by decide)
theorem rd_nilS {w : World} {S : Reg} : Rd w S (.sl []) (.slice none 0 0) := .sl [] none 0 1 (Nat.le_refl _) (Nat.zero_le _) (by simp) (fun _ => rfl) (fun ad h => by cases h) (fun ad _ _ _ _ _ h => by cases h)
theorem rd_wrong {w : World} {S : Reg} (e : Int) : Rd w S (.iface 116 (.agg [.int .i64 e, .sl []])) (wrongW e) := .iface _ _ _ (.agg _ _ rfl (fun i v hv => by
 match i with
 | 0 => simp at hv; subst hv; rfl
 | 1 => simp at hv; subst hv; rfl
 | i + 2 => simp at hv) fun i d v hd hv => by
 match i with
 | 0 => simp at hd hv; subst hd; subst hv; exact .int _ _
 | 1 => simp at hd hv; subst hd; subst hv; exact rd_nilS
 | i + 2 => simp at hd)
set_option maxHeartbeats 1000000 in
theorem catch_panic (e : Int) {S : Reg} {O : Owns} {m : List Nat} {w : World} {b : D} (henv : Env S O w S O m [[.d b], [.d (.int .i64 0), .nils]] w) {r : Nat} (hr : m[1]? = some r) :
 CallsD Tryz.prog 140 #[.pointer (some ⟨r, 0, none⟩)] (.panicking (chain1 (wrongW e))) w fun en u' w' => en = .returned (.tuple #[]) ∧ u' = .panicking [{ v := wrongW e, recovered := true }] ∧
  ∃ S' O', Env S O w S' O' m [[.d b], [.d (.int .i64 e), .d (.sl [])]] w' := by
 refine callsD_of_wpS Tryz.func140 rfl fun c₀ cs hu => ?_
 apply wpS_seq
 apply wpS_region
 simp [wpOpsS, go_sem, recoverD, hu, Tryz.ntmps140, Exit.thenS, chain1]
 refine wpS_of_wp ?_
 have hm : m.length = 2 := henv.mlen
 refine wp_mono (catch_rest e (S := S) (O := O) (w := w) (B := [.d b]) hm _ ⟨_, _, Tryz.func140, rfl⟩ _ w ⟨S, O, m, henv, rfl, by simp, List.prefix_refl _, fun i p hp => ?_⟩) ?_
 · match i with
   | 0 => 
    have h1 : PV.ref 1 0 = p := by simpa [GS.get] using hp
    subst h1
    exact .ref _ 1 0 r hr
   | 1 =>
    have h1 : PV.d (.iface 116 (.agg [.int .i64 e, .sl []])) = p := by simpa [GS.get, List.lookup] using hp
    subst h1
    exact .d _ _ _ (rd_wrong e)
   | i + 2 => simp [GS.get, List.lookup] at hp
 · rintro ex a' w' ⟨s', ⟨rfl, Y, hY⟩, S', O', m', hr'⟩
   have henv' := hr'.env
   rw [hY] at henv'
   have h2 := henv'.less (mem' := [[.d b], [.d (.int .i64 e), .d (.sl [])]]) (.cons (.cons (.inl rfl) rfl .nil) (.cons (.cons (.inl rfl) rfl (.cons (.inl rfl) rfl .nil)) .nil))
   have h3 : m'.take 2 = m := by
    have := List.prefix_iff_eq_take.1 hr'.pre
    rw [show (m : List Nat).length = 2 from hm] at this
    exact this.symm
   refine ⟨hr'.defers, _, rfl, _, by simp [results, Tryz.results140], rfl, rfl, S', O', ?_⟩
   rw [← h3]; exact h2
end
section
def wrongD (e : Int) : D := .agg [.int .i64 e, .sl []]
set_option maxHeartbeats 2000000 in
theorem c75_rest (g : FuncId) (n e b b' : D) (out : PV ⊕ Value) (herr : out = .inl (.tup []) ∨ ∃ x, out = .inr (wrongW x)) (hg : Xm Tryz.prog g [.d n, .d e, .ref 0 0] [[.d b]] out [[.d b']]) {S : Reg} {O : Owns} {m : List Nat} {w : World} {ds : List Deferred} (hm : m.length = 2) :
 ∀ c, (∃ f x y, Tryz.prog.funcs[75]? = some f ∧ f.body = some (.seq x (.seq y c))) →
 G ⟨Tryz.prog, 7, S, O, w, m, [], ds⟩ c (fun ex s' => (ex = .ret ∧ out = .inl (.tup []) ∧ s' = ⟨[(2, .ref 1 0)], [[.d b'], [.d (.int .i64 0), .d (.sl [])]]⟩) ∨ ∃ x, ex = .panic (chain1 (wrongW x)) ∧ out = .inr (wrongW x) ∧ s'.mem = [[.d b'], [.d (.int .i64 0), .nils]] ∧ s'.get 2 = some (.ref 1 0))
  ⟨[(3, .fn (.func 140) [] [.ref 1 0]), (2, .ref 1 0), (0, .fn (.func g) [] [.d n, .d e, .ref 0 0])], [[.d b], [.d (.int .i64 0), .nils]]⟩ := by
 rintro c ⟨f, x, y, hf, hc⟩
 rw [Tryz.func75] at hf
 injection hf with hf
 subst hf
 injection hc with hc
 injection hc with _ hc
 injection hc with _ hc
 subst hc
 refine Z188 ?_
 obtain ⟨⟨fn, hfn, hbd, hnm⟩, hgx⟩ := hg
 refine GOps_callx (t := 5) [0] [.d n, .d e, .ref 0 0] [[.d b]] rfl rfl rfl rfl rfl rfl (by decide) (by simp) rfl rfl rfl hfn hbd hnm (oR rfl) hgx (fun r mem' hr => ?_) (fun v mem' hv => ?_)
 · obtain ⟨h1, rfl⟩ := hr
   refine ⟨rfl, ?_⟩
   rcases herr with h2 | ⟨x, h2⟩
   · rw [h2] at h1
     injection h1 with h1
     subst h1
     refine Z9 ?_
     refine vq rfl ((q_buildP pl116 zr116)) ?_
     first | refine sa rfl (dS sz116) ?_ | refine sa rfl (d_store_take sz116) ?_
     refine Z5 ?_
     refine G_le (s' := ⟨[(2, .ref 1 0)], [[.d b'], [.d (.int .i64 0), .d (.sl [])]]⟩) (le_of (hk := by show m.length ≤ 2; omega)) (gT ?_)
     exact .inl ⟨rfl, h2, rfl⟩
   · rw [h2] at h1; cases h1
 · obtain ⟨h1, rfl⟩ := hv
   refine ⟨rfl, ?_⟩
   rcases herr with h2 | ⟨x, h2⟩
   · rw [h2] at h1; cases h1
   · rw [h2] at h1
     injection h1 with h1
     subst h1
     exact .inr ⟨x, rfl, h2, rfl, rfl⟩
theorem Fin.run {P : Program} {n k : Nat} {S S' : Reg} {O O' : Owns} {w w' : World} {m m' : List Nat} {ds : List Deferred} {fn : Func} {rvs : List ResultVar} {R : PV → List (List PV) → Prop} {e : Exit} {s' : GS} {a' : Act} (hk : m.length ≤ k) (hres : fn.results = rvs.toArray) (hf : Fin P rvs k R e s')
 (hr' : Rep ⟨P, n, S, O, w, m, [], ds⟩ S' O' m' s' a' w') : ∃ v r mem' O'', (results fn a'.tmps).run P w' = .ok v w' ∧ R r mem' ∧ Env S O w S' O'' (m'.take mem'.length) mem' w' ∧ m <+: m'.take mem'.length ∧ RP w' S' O'' (m'.take mem'.length) [2] r v := by
 obtain ⟨he, hfin⟩ := hf
 rcases hfin with ⟨ps, mem', hL, hlen, hms, hrf, hR⟩ | ⟨t, k, xs, mem', hrv, hst, hlen, hms, hR⟩
 · obtain ⟨v, hrun, hrp⟩ := hL.run hr' hres O'
   exact ⟨v, _, mem', O', hrun, hR, hr'.env.less hms, List.prefix_take_iff.2 ⟨hr'.pre, Nat.le_trans hk hlen⟩, hrp.take mem'.length hrf⟩
 · have hsl := hr'.slots t _ hst
   have hres' : fn.results = #[.tmp t] := by rw [hres, hrv]
   refine ⟨a'.tmps.getD t undef, _, mem', reo O' (renTR t), by simp [results, hres'], hR, (hr'.env.less hms).relab (renTR t) (fun _ => if_neg (by simp)) (fun i j q => if_neg (end_ne q j i t)),
    List.prefix_take_iff.2 ⟨hr'.pre, Nat.le_trans hk hlen⟩, (hsl.move (l' := [2]) rfl (renTR t) (by simp [renTR])).take _ rfl⟩
theorem gr_use {K : Ctx} {c : Code} {Qr : Exit → Act → World → Prop} {s : GS} (h : E.GR K c Qr s) {a : Act} {w : World} (ha : At K s a w) : c.wp K.P Qr a w := h a w ha
set_option maxHeartbeats 4000000 in
theorem c75 (g : FuncId) (n e b b' : D) (out : PV ⊕ Value) (ex : Int) (herr : (out = .inl (.tup []) ∧ ex = 0) ∨ out = .inr (wrongW ex)) (hg : Xm Tryz.prog g [.d n, .d e, .ref 0 0] [[.d b]] out [[.d b']]) :
 Gm Tryz.prog 75 [.fn (.func g) [] [.d n, .d e, .ref 0 0]] [[.d b]] (.d (wrongD ex)) [[.d b']] := by
 refine ⟨⟨_, Tryz.func75, rfl, rfl⟩, fun w S O m vals henv hvs hargs => ?_⟩
 refine calls_of_wp_defers Tryz.func75 rfl ?_
 have hat : At ⟨Tryz.prog, 7, S, O, w, m, [], []⟩ ⟨[(0, .fn (.func g) [] [.d n, .d e, .ref 0 0])], [[.d b]]⟩ { tmps := vals ++ Array.replicate (7 - vals.size) undef, defers := [] } w := by
  refine ⟨S, O, m, henv, rfl, by simp [hvs], List.prefix_refl _, fun i p hp => ?_⟩
  have hlt : 0 < vals.size := by rw [hvs]; exact Nat.one_pos
  match i with
  | 0 =>
   have h1 : PV.fn (.func g) [] [.d n, .d e, .ref 0 0] = p := by simpa [GS.get] using hp
   subst h1
   rw [Array.getD_eq_getD_getElem?, Array.getElem?_append_left hlt, Array.getElem?_eq_getElem hlt]
   exact hargs 0 _ _ rfl (Array.getElem?_eq_getElem hlt)
  | i + 1 => simp [GS.get, List.lookup] at hp
 rw [Tryz.ntmps75]
 refine gr_use (K := ⟨Tryz.prog, 7, S, O, w, m, [], []⟩) ?_ hat
 refine GR_seq ?_
 refine Z19 ?_
 refine sv rfl (y_alloc zr116) ?_
 refine gN ⟨rfl, ?_⟩
 refine GR_seqr ?_
 refine GR_region 2 [0, 1] rfl rfl ?_
 refine GROps_val rfl (y_makeFunc (xs := []) (ys := [.tmp 2])) ?_
 refine GROps_defer rfl rfl (fun S1 O1 m1 a1 w1 vc hr hvc hcap hr1 => ?_)
 refine ⟨rfl, ?_⟩
 have hm1 : m1.length = 2 := hr.env.mlen
 have hvc1 : ∃ r, m1[1]? = some r ∧ vc = #[.pointer (some ⟨r, 0, none⟩)] := by
  have h0 : 0 < vc.size := by rw [hvc]; exact Nat.one_pos
  obtain ⟨l, hl⟩ := hcap 0 _ vc[0] rfl (Array.getElem?_eq_getElem h0)
  generalize hv : vc[0] = v at hl
  cases hl with | ref _ _ _ r h1 =>
  refine ⟨r, h1, ?_⟩
  have hvc2 : vc.size = 1 := hvc
  apply Array.ext
  · exact hvc2
  · intro i h2 h3
    have : i = 0 := by omega
    subst this
    simpa using hv
 obtain ⟨r, hr1m, rfl⟩ := hvc1
 have herr' : out = .inl (.tup []) ∨ ∃ x, out = .inr (wrongW x) := herr.imp (fun h => h.1) fun h => ⟨_, h⟩
 refine wp_mono (c75_rest g n e b b' out herr' hg hm1 _ ⟨_, _, _, Tryz.func75, rfl⟩ _ w1 ⟨S1, O1, m1, hr1⟩) ?_
 rintro ex2 a2 w2 ⟨s2, hq, S2, O2, m2, hr2⟩
 rcases hq with ⟨rfl, ho, rfl⟩ | ⟨x, rfl, ho, hmem2, hget2⟩
 · have hd := hr2.defers
   replace hd : a2.defers = [{ target := .fn (.func 140) #[.pointer (some ⟨r, 0, none⟩)], args := #[] }] := hd
   show Leaves Tryz.prog Tryz.f75 a2.tmps _ a2.defers .returning w2
   rw [hd]
   refine leaves_cons (f := 140) (args := #[.pointer (some ⟨r, 0, none⟩)]) (by simp) (by simp [go_sem]) ?_
   refine (catch_idle ⟨r, 0, none⟩ w2).mono ?_
   rintro e' u' w' ⟨rfl, rfl, rfl⟩
   have hr3 : Rep ⟨Tryz.prog, 7, S, O, w, m, [], [{ target := .fn (.func 140) #[.pointer (some ⟨r, 0, none⟩)], args := #[] }]⟩ S2 O2 m2 _ a2 w' := ⟨hr.env.trans hr2.env, hd, hr2.size, hr.pre.trans hr2.pre, hr2.slots⟩
   have hx0 : ex = 0 := by
    rcases herr with h | h
    · exact h.2
    · rw [ho] at h; cases h
   subst hx0
   obtain ⟨v, r', mem', O'', h1, ⟨h2, h3⟩, h4, h5, h6⟩ := Fin.run (k := 1) (fn := Tryz.f75) (rvs := [.cell 2 116]) (R := fun q mm => q = .d (wrongD 0) ∧ mm = [[.d b']]) (e := .ret) (by rw [henv.mlen]; exact Nat.le_refl 1) Tryz.results75 (fincm [[.d b']] sz116 u116 (.inr rfl) ⟨rfl, rfl⟩) hr3
   exact ⟨v, h1, v, r', mem', S2, O'', _, rfl, ⟨h2, h3⟩, h4, h5, h6⟩
 · have hd := hr2.defers
   replace hd : a2.defers = [{ target := .fn (.func 140) #[.pointer (some ⟨r, 0, none⟩)], args := #[] }] := hd
   show Leaves Tryz.prog Tryz.f75 a2.tmps _ a2.defers (.panicking (chain1 (wrongW x))) w2
   rw [hd]
   refine leaves_cons (f := 140) (args := #[.pointer (some ⟨r, 0, none⟩)]) (by simp) (by simp [go_sem]) ?_
   have hrm2 : m2[1]? = some r := by
    obtain ⟨t, ht⟩ := hr2.pre
    replace ht : m1 ++ t = m2 := ht
    rw [← ht, List.getElem?_append_left (by omega)]; exact hr1m
   have hex : ex = x := by
    rcases herr with h | h
    · rw [ho] at h; cases h.1
    · rw [ho] at h
      injection h with h
      unfold wrongW at h
      simpa using h.symm
   subst hex
   have henv2 := hr2.env
   rw [hmem2] at henv2
   refine (catch_panic ex (b := b') henv2.rebase hrm2).mono ?_
   rintro e' u' w' ⟨rfl, rfl, S3, O3, henv3⟩
   have hr3 : Rep ⟨Tryz.prog, 7, S, O, w, m, [], [{ target := .fn (.func 140) #[.pointer (some ⟨r, 0, none⟩)], args := #[] }]⟩ S3 O3 m2 ⟨[(2, .ref 1 0)], [[.d b'], [.d (.int .i64 ex), .d (.sl [])]]⟩ a2 w' := by
    refine ⟨hr.env.trans (henv2.trans henv3), hd, hr2.size, hr.pre.trans hr2.pre, fun i p hp => ?_⟩
    by_cases hi : i = 2
    · subst hi
      have h1 : PV.ref 1 0 = p := by simpa [GS.get, List.lookup] using hp
      subst h1
      have h2 := hr2.slots 2 _ hget2
      generalize a2.tmps.getD 2 undef = v2 at h2
      cases h2 with | ref _ _ _ r2 h3 => exact .ref _ 1 0 r2 h3
    · exfalso
      have hb : (i == 2) = false := by simpa using hi
      simp [GS.get, List.lookup, hb] at hp
   obtain ⟨v, r', mem', O'', h1, ⟨h2, h3⟩, h4, h5, h6⟩ := Fin.run (k := 1) (fn := Tryz.f75) (rvs := [.cell 2 116]) (R := fun q mm => q = .d (wrongD ex) ∧ mm = [[.d b']]) (e := .ret) (by rw [henv.mlen]; exact Nat.le_refl 1) Tryz.results75 (fincm [[.d b']] sz116 u116 (.inr rfl) ⟨rfl, rfl⟩) hr3
   exact ⟨v, h1, v, r', mem', S3, O'', _, rfl, ⟨h2, h3⟩, h4, h5, h6⟩
end
section
theorem rp_wrong {w : World} {S : Reg} {O : Owns} {m l : List Nat} {e : Int} {v : Value} (h : RP w S O m l (.agg [.d (.int .i64 e), .nils]) v) : v = .agg #[.int .i64 e, .slice none 0 0] := by
 cases h with | agg _ _ vs hl ho h =>
 have h0 : 0 < vs.size := by rw [hl]; simp
 have h1 : 1 < vs.size := by rw [hl]; simp
 have g0 := h 0 _ vs[0] rfl (Array.getElem?_eq_getElem h0)
 have g1 := h 1 _ vs[1] rfl (Array.getElem?_eq_getElem h1)
 congr 1
 apply Array.ext
 · simpa using hl
 · intro i hi _
   have hi2 : i < 2 := by rw [hl] at hi; exact hi
   match i, hi2 with
   | 0, _ =>
    generalize vs[0] = u at g0
    cases g0 with | d _ _ _ g => cases g; rfl
   | 1, _ =>
    generalize vs[1] = u at g1
    cases g1; rfl
theorem GOps_wrong {K : Ctx} {ops : Array Oper} {Q : Exit → GS → Prop} {s : GS} {j k : Nat} {t u : Nat} {e : Int} {rt ty : TypeId} {p1 p2 : String} {a1 a2 : Array Edge} (hP : K.P = Tryz.prog)
 (h1 : ops[j]? = some ⟨some u, .makeInterface 116 (.tmp t), rt, p1, a1, none⟩) (h2 : ops[k]? = some ⟨none, .panic (.tmp u), ty, p2, a2, none⟩) (hg : s.get t = some (.agg [.d (.int .i64 e), .nils])) (hu : u < K.n) (h : Q (.panic (chain1 (wrongW e))) (s.set u .undef)) : GOps K ops Q [j, k] s := by
 rintro a w ⟨S, O, m, hr⟩
 have hv : a.eval (.tmp t) = .agg #[.int .i64 e, .slice none 0 0] := by
  have h3 := rp_wrong (hr.slots t _ hg)
  rw [← h3]
  simp [Act.eval, Array.getD_eq_getD_getElem?]
 have hrun : (execOp a.eval ⟨some u, .makeInterface 116 (.tmp t), rt, p1, a1, none⟩).run K.P w = .ok (.value (wrongW e)) w := by
  rw [hP]
  simp only [execOp, hv]
  simp [Instr.makeInterface, run_underlying u116, wrongW]
 simp only [wpOps, h1, h2, Region.wanted, if_true]
 refine .inl ?_
 simp only [Oper.wp, hrun, Oper.upon_value]
 refine .inl ?_
 have hsz : u < a.tmps.size := by rw [hr.size]; exact hu
 have hev : (a.put (some u) (wrongW e)).eval (.tmp u) = wrongW e := by simp [Act.eval, Act.put, hsz]
 simp only [execOp, hev]
 refine (show (∃ s', Q (.panic (chain1 (wrongW e))) s' ∧ At K s' (a.put (some u) (wrongW e)) w) from ⟨_, h, S, O, m, hr.put hu (.undef _ _)⟩)
theorem c119f (e : Int) : Px Tryz.prog 119 [.bool false, .int .i64 e] (.inr (wrongW e)) := by
 refine px_body (rvs := []) [(0, .d (.bool false)), (1, .d (.int .i64 e))] Tryz.func119 Tryz.ntmps119 Tryz.results119 (fun S0 O0 w0 m0 hm0 => ?_)
 refine Z188 ?_;refine Z43 ?_;refine Z5 ?_
 refine zgC ?_ ?_ <;> intro hb0
 · refine gR ?_
   refine Z2 ?_
   refine vq rfl ((q_buildP pl116 zr116)) ?_
   refine GOps_wrong rfl rfl rfl rfl (oR rfl) ?_
   exact fx_panic ⟨rfl, rfl⟩
 · exact absurd hb0 (by decide)
theorem c119t (e : Int) : Px Tryz.prog 119 [.bool true, .int .i64 e] (.inl (.tup [])) := by
 refine px_body (rvs := []) [(0, .d (.bool true)), (1, .d (.int .i64 e))] Tryz.func119 Tryz.ntmps119 Tryz.results119 (fun S0 O0 w0 m0 hm0 => ?_)
 refine Z188 ?_;refine Z43 ?_;refine Z5 ?_
 refine zgC ?_ ?_ <;> intro hb0
 · exact absurd hb0 (by decide)
 · refine gK ?_
   exact fx_normal (finm (n := 0) (mem' := []) (.inl rfl) ⟨rfl, rfl⟩)
end
end Go.Proofs.YtklkbfpjimeaoaaGreat
