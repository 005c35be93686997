import Derived.Test.YtklkbfpjimeaoaaGreatM17
/- Contracts of functions. Conditions: none. -/
set_option linter.unusedSimpArgs false
set_option linter.unusedVariables false
set_option maxRecDepth 20000
namespace Go.Proofs.YtklkbfpjimeaoaaGreat
open Go Go.Proofs.YtklkbfpjimeaoaaGreat.E
abbrev KL := List (ByteArray × Option Tr)
def knD : KL → D
 | [] => .nil
 | x :: r => .ptr (.agg [.str x.1, valD x.2, knD r])
theorem knD_cells (l : KL) : (knD l).cells = [knD l] := by cases l <;> rfl
def findK (nm : ByteArray) : KL → Option Tr
 | [] => none
 | x :: r => if x.1 = nm then x.2 else findK nm r
theorem c181 (l : KL) (nm : ByteArray) : Pf Tryz.prog 181 [knD l, .str nm] (.d (valD (findK nm l))) := by
 refine pf_body (rvs := [.tmp 4]) [(0, .d (knD l)), (1, .d (.str nm))] Tryz.func181 Tryz.ntmps181 Tryz.results181 (fun S0 O0 w0 m0 hm0 => ?_)
 refine Z287 ?_
 refine gN (tN (gS (G_block ?_)))
 refine g_loop (α := KL) (fun z => ⟨[(0, .d (knD z)), (1, .d (.str nm))], []⟩) (fun z => z.length) (fun z => findK nm z = findK nm l) l rfl (fun z hz Q' hn0 he0 hr0 => ?_) (le_of)
 skip
 refine Z145 ?_
 rcases z with _ | ⟨⟨zn, zv⟩, zr⟩
 ·
  refine Z4 ?_
  rw [knD]
  refine Z1 ?_
  refine vq rfl ((q_ptrneq u141)) ?_
  refine Z3 ?_
  refine gC (fun hb0 => ?_) (fun hb0 => ?_)
  ·
   exact absurd hb0 (by decide)
  refine Z34 ?_
  refine he0 _ _ ?_
  refine Z270 ?_
  exact ⟨by rw [← hz]; try rfl, rfl⟩
 refine Z4 ?_
 rw [knD]
 have hcz := valD_cells zv
 have hck := knD_cells zr
 refine Z1 ?_
 refine vq rfl ((q_ptrneq u141)) ?_
 refine Z3 ?_
 refine gC (fun hb1 => ?_) (fun hb1 => ?_)
 ·
  refine Z257 ?_;refine Z117 ?_
  refine vq rfl (qF u168 rfl sz9) ?_
  refine Z31 ?_;refine Z1 ?_;refine Z44 ?_;refine Z3 ?_
  refine gC (fun hb2 => ?_) (fun hb2 => ?_)
  ·
   refine Z220 ?_;refine Z117 ?_
   refine vq rfl (qF u168 rfl sz139) ?_
   refine Z183 ?_;refine Z197 ?_
   refine hr0 _ ?_
   refine Z265 ?_
   exact ⟨by rw [← hz, findK, if_pos (of_decide_eq_true hb2)], rfl⟩
  refine Z70 ?_;refine Z1 ?_;refine Z117 ?_
  refine vq rfl (qF u168 rfl sz141) ?_
  refine vq rfl (qL u141) ?_
  refine Z210 ?_
  refine hn0 _ zr (by rw [← hz, findK, if_neg (of_decide_eq_false hb2)]) (by simp) le_of
 exact absurd hb1 (by decide)
def andB : ByteArray := ⟨#[38, 38]⟩
def orB : ByteArray := ⟨#[124, 124]⟩
def eqB : ByteArray := ⟨#[61, 61]⟩
def neB : ByteArray := ⟨#[33, 61]⟩
def cmpV (nm : ByteArray) (a b : Option Tr) : Option Tr := match tabGet cmpTab nm with
 | none => none
 | some o => if ((isV a 1 && isV b 1) || ((isV a 2 && isV b 2) && (decide (nm = eqB) || decide (nm = neB)))) = true then some (boolT (o.f (nuV a) (nuV b))) else none
def binV (nm : ByteArray) (a b : Option Tr) : Option Tr :=
 if (decide (nm = andB) || decide (nm = orB)) = true then
  (if (!isV a 2) = true then none else if (decide (nm = orB) == (nuV a == 1)) = true then a else if isV b 2 = true then b else none)
 else match tabGet intTab nm with
  | some o => if (isV a 1 && isV b 1) = true then o.f (nuV a) (nuV b) else cmpV nm a b
  | none => cmpV nm a b
theorem valD_cof (v : Option Tr) : (PV.d (valD v)).cellsOf = [.d (valD v)] := by cases v <;> rfl
theorem isV_some {v : Option Tr} {k : Int} (h : isV v k = true) : ∃ t, v = some t ∧ t.op = k := by
 cases v with
 | none => cases h
 | some t => exact ⟨t, rfl, by simpa [isV] using h⟩
theorem c243 (k : Int) (a b : Option Tr) : Pf Tryz.prog 243 [.int .i64 k, .ptr (valD a), .ptr (valD b)] (.d (.bool (isV a k && isV b k))) := by
 refine pf_body (rvs := [.tmp 4]) [(0, .d (.int .i64 k)), (1, .d (.ptr (valD a))), (2, .d (.ptr (valD b)))] Tryz.func243 Tryz.ntmps243 Tryz.results243 (fun S0 O0 w0 m0 hm0 => ?_)
 refine Z2 ?_
 have hca := valD_cells a
 have hcb := valD_cells b
 refine Z194 ?_;refine Z183 ?_;refine Z1 ?_
 refine gL (xs := [.tmp 5, .tmp 6]) rfl (c184 a k) ?_
 refine Z1 ?_
 refine sg rfl (fun hg => qL u139) ?_
 refine Z21 ?_
 refine g_callg (xs := [.tmp 9, .tmp 10]) rfl (fun hg => c184 b k) ?_
 refine Z228 ?_
 exact ⟨rfl, rfl⟩
set_option maxHeartbeats 8000000 in
theorem c183 (l : KL) (op : Int) (nm : ByteArray) (num : Int) (k0 k1 : Tr) (a b : Option Tr) (h0 : Pf Tryz.prog 104 [k0.d, knD l] (.d (valD a))) (h1 : Pf Tryz.prog 104 [k1.d, knD l] (.d (valD b))) : Pf Tryz.prog 183 [.agg [.int .i64 op, .str nm, .int .i64 num, .sl ([k0, k1].map Tr.d)], knD l] (.d (valD (binV nm a b))) := by
 refine pf_body (rvs := [.tmp 4]) [(0, .d (.agg [.int .i64 op, .str nm, .int .i64 num, .sl ([k0, k1].map Tr.d)])), (1, .d (knD l))] Tryz.func183 Tryz.ntmps183 Tryz.results183 (fun S0 O0 w0 m0 hm0 => ?_)
 refine Z2 ?_
 obtain ⟨op0, nm0, nu0, ks0, ha0⟩ := k0.d_agg
 obtain ⟨op1, nm1, nu1, ks1, ha1⟩ := k1.d_agg
 have hx0 : ([k0, k1].map Tr.d)[0]? = some (.agg [.int .i64 op0, .str nm0, .int .i64 nu0, .sl (ks0.map Tr.d)]) := by rw [← ha0]; rfl
 have hx1 : ([k0, k1].map Tr.d)[1]? = some (.agg [.int .i64 op1, .str nm1, .int .i64 nu1, .sl (ks1.map Tr.d)]) := by rw [← ha1]; rfl
 have hca := valD_cells a
 have hcb := valD_cells b
 refine Z18 ?_
 refine gF 0 [] (.agg [.int .i64 op, .str nm, .int .i64 num, .sl ([k0, k1].map Tr.d)]) rfl ?_
 refine Z194 ?_;refine Z251 ?_
 refine gL (xs := [.tmp 17, .tmp 18]) rfl ((ha0 ▸ h0)) ?_
 refine sv rfl (y_alloc zr139) ?_
 refine sa rfl (dS (hps := valD_cof _) sz139) ?_
 refine gF 0 [] (valD a) rfl ?_
 refine Z16 ?_;refine Z212 ?_;refine Z44 ?_;refine Z277 ?_
 refine sg rfl (fun hg => sP 24 rfl hg (qL u9)) ?_
 refine sg rfl (fun hg => sP 25 rfl hg q_streq) ?_
 refine Z209 ?_
 refine gC (fun hb0 => ?_) (fun hb0 => ?_)
 ·
  refine Z145 ?_;refine Z280 ?_;refine Z183 ?_
  refine gL (xs := [.tmp 28, .const (.int .i64 (2))]) rfl (c184 a 2) ?_
  refine Z248 ?_
  refine gC (fun hb1 => ?_) (fun hb1 => ?_)
  ·
   refine Z287 ?_;refine Z124 ?_;refine Z5 ?_
   exact ⟨by rw [binV, if_pos (show (decide (nm = andB) || decide (nm = orB)) = true from hb0), if_pos hb1]; try rfl, rfl⟩
  obtain ⟨ta, rfl, haop⟩ := isV_some (show isV a 2 = true by simpa using hb1)
  obtain ⟨aop, anm, anu, aks, haa⟩ := ta.d_agg
  have hna : nuV (some ta) = anu := by obtain ⟨o, n, u, l⟩ := ta; rw [Tr.d_mk] at haa; injection haa with ha; injection ha with ha1 ha; injection ha with ha2 ha; injection ha with ha3 ha; injection ha3
  rw [show valD (some ta) = .ptr ta.d from rfl, haa]
  refine Z74 ?_
  refine G_draw 10 [0, 1, 2, 3, 4, 5, 6, 7, 8, 9] rfl rfl (by kernel_rfl) ?_
  refine sq rfl (qF u27 rfl sz9) ?_
  refine sq rfl (qL u9) ?_
  refine sq rfl q_streq ?_
  refine sq rfl (qL u139) ?_
  refine sq rfl q_nilCheck ?_
  refine sq rfl (qF u27 rfl sz3) ?_
  refine sq rfl (qL u3) ?_
  refine sq rfl q_eql ?_
  refine sq rfl (q_booleq u4) ?_
  refine sq rfl qA ?_
  refine GQ_nil (by kernel_rfl) (tN (gS ?_))
  refine Z79 ?_;refine Z208 ?_;refine Z3 ?_
  refine gC (fun hb2 => ?_) (fun hb2 => ?_)
  ·
   refine Z2 ?_;refine Z183 ?_;refine Z0 ?_;refine Z124 ?_;refine Z5 ?_
   exact ⟨by rw [binV, if_pos (show (decide (nm = andB) || decide (nm = orB)) = true from hb0), if_neg (by rw [hb1]; decide), hna, if_pos (show (decide (nm = orB) == (anu == 1)) = true from hb2)]; rw [← haa]; try rfl, rfl⟩
  refine Z58 ?_;refine Z251 ?_
  refine gL (xs := [.tmp 45, .tmp 46]) rfl ((ha1 ▸ h1)) ?_
  refine Z244 ?_
  refine gL (xs := [.tmp 48, .const (.int .i64 (2))]) rfl (c184 b 2) ?_
  refine Z3 ?_
  refine gC (fun hb3 => ?_) (fun hb3 => ?_)
  ·
   refine Z220 ?_;refine Z0 ?_;refine Z124 ?_;refine Z5 ?_
   exact ⟨by rw [binV, if_pos (show (decide (nm = andB) || decide (nm = orB)) = true from hb0), if_neg (by rw [hb1]; decide), hna, if_neg (by rw [show (decide (nm = orB) == (anu == 1)) = false from hb2]; decide), if_pos hb3], rfl⟩
  refine Z45 ?_;refine Z214 ?_
  exact ⟨by rw [binV, if_pos (show (decide (nm = andB) || decide (nm = orB)) = true from hb0), if_neg (by rw [hb1]; decide), hna, if_neg (by rw [show (decide (nm = orB) == (anu == 1)) = false from hb2]; decide), if_neg (by rw [hb3]; decide)]; try rfl, rfl⟩
 refine Z43 ?_;refine Z280 ?_;refine Z251 ?_
 refine gL (xs := [.tmp 54, .tmp 55]) rfl ((ha1 ▸ h1)) ?_
 refine sv rfl (y_alloc zr139) ?_
 refine sa rfl (dS (hps := valD_cof _) sz139) ?_
 refine gF 0 [] (valD b) rfl ?_
 refine Z7 ?_
 refine vq rfl (q_makeFunc (xs := []) (ys := [.tmp 5, .tmp 8])) ?_
 refine Z289 ?_
 rcases hti : tabGet intTab nm with _ | ⟨g, caps, f⟩
 ·
  refine g_cg0 [59, 60, 61, 62, 58, 63, 64, 10, 11] ?_
  refine Z12 ?_
  refine cS 1 (fun bq rest hc1 hc2 hc3 => gL (xs := []) rfl (c244) (gN ⟨rfl, rfl⟩)) ?_
  refine Z12 ?_
  refine cS 2 (fun bq rest hc1 hc2 hc3 => vq rfl (qF u27 rfl sz9) (gN ⟨rfl, rfl⟩)) ?_
  refine Z63 ?_
  refine cS 3 (fun bq rest hc1 hc2 hc3 => vq rfl (qL u9) (gN ⟨rfl, rfl⟩)) ?_
  refine Z125 ?_
  refine cS 4 (fun bq rest hc1 hc2 hc3 => vq rfl ((q_lookup2 (zd := .nilF) u249 u9 zr247)) (gN ⟨rfl, rfl⟩)) ?_
  rw [mget_tab, mhas_tab, hti]
  dsimp only [Op2.d, Option.isSome]
  refine Z57 ?_
  refine cS 5 (fun bq rest hc1 hc2 hc3 => vq rfl qM (gN ⟨rfl, rfl⟩)) ?_
  refine Z61 ?_
  refine cS 6 (fun bq rest hc1 hc2 hc3 => vq rfl qE (gN ⟨rfl, rfl⟩)) ?_
  refine Z61 ?_
  refine cS 7 (fun bq rest hc1 hc2 hc3 => vq rfl qE (gN ⟨rfl, rfl⟩)) ?_
  refine Z146 ?_
  refine cS 8 (fun bq rest hc1 hc2 hc3 => vq rfl qA (gN ⟨rfl, rfl⟩)) ?_
  refine Z127 ?_
  refine cS 9 (fun bq rest hc1 hc2 hc3 => vq rfl qA (gN ⟨rfl, rfl⟩)) ?_
  refine Z53 ?_;refine Z97 ?_;refine Z280 ?_
  have hno : (false == true) = false := rfl
  refine Z198 ?_
  refine sgx rfl ?_ ?_
  · first | exact hno | (rw [hno]; rfl) | simp [hno] | simp_all
  refine sgx rfl ?_ ?_
  · first | exact hno | (rw [hno]; rfl) | simp [hno] | simp_all
  refine Z238 ?_
  refine gC (fun hb4 => ?_) (fun hb4 => ?_)
  ·
   exact absurd hb4 (by simp)
  refine Z74 ?_
  rcases hct : tabGet cmpTab nm with _ | ⟨g2, caps2, f2⟩
  ·
   refine g_cg0 [81, 82, 83, 84, 80, 85, 86, 12, 13] ?_
   refine Z12 ?_
   refine cS 1 (fun bq rest hc1 hc2 hc3 => gL (xs := []) rfl (c245) (gN ⟨rfl, rfl⟩)) ?_
   refine Z12 ?_
   refine cS 2 (fun bq rest hc1 hc2 hc3 => vq rfl (qF u27 rfl sz9) (gN ⟨rfl, rfl⟩)) ?_
   refine Z63 ?_
   refine cS 3 (fun bq rest hc1 hc2 hc3 => vq rfl (qL u9) (gN ⟨rfl, rfl⟩)) ?_
   refine Z125 ?_
   refine cS 4 (fun bq rest hc1 hc2 hc3 => vq rfl ((q_lookup2 (zd := .nilF) u253 u9 zr251)) (gN ⟨rfl, rfl⟩)) ?_
   rw [mget_tab, mhas_tab, hct]
   dsimp only [Op2.d, Option.isSome]
   refine Z57 ?_
   refine cS 5 (fun bq rest hc1 hc2 hc3 => vq rfl qM (gN ⟨rfl, rfl⟩)) ?_
   refine Z61 ?_
   refine cS 6 (fun bq rest hc1 hc2 hc3 => vq rfl qE (gN ⟨rfl, rfl⟩)) ?_
   refine Z61 ?_
   refine cS 7 (fun bq rest hc1 hc2 hc3 => vq rfl qE (gN ⟨rfl, rfl⟩)) ?_
   refine Z146 ?_
   refine cS 8 (fun bq rest hc1 hc2 hc3 => vq rfl qA (gN ⟨rfl, rfl⟩)) ?_
   refine Z127 ?_
   refine cS 9 (fun bq rest hc1 hc2 hc3 => vq rfl qA (gN ⟨rfl, rfl⟩)) ?_
   refine Z53 ?_;refine Z97 ?_;refine Z280 ?_
   have hno : (false == true) = false := rfl
   refine Z198 ?_
   refine sgx rfl ?_ ?_
   · first | exact hno | (rw [hno]; rfl) | simp [hno] | simp_all
   refine sgx rfl ?_ ?_
   · first | exact hno | (rw [hno]; rfl) | simp [hno] | simp_all
   refine sgx rfl ?_ ?_
   · first | exact hno | (rw [hno]; rfl) | simp [hno] | simp_all
   refine sgx rfl ?_ ?_
   · first | exact hno | (rw [hno]; rfl) | simp [hno] | simp_all
   refine sgx rfl ?_ ?_
   · first | exact hno | (rw [hno]; rfl) | simp [hno] | simp_all
   refine sgx rfl ?_ ?_
   · first | exact hno | (rw [hno]; rfl) | simp [hno] | simp_all
   refine sgx rfl ?_ ?_
   · first | exact hno | (rw [hno]; rfl) | simp [hno] | simp_all
   refine sgx rfl ?_ ?_
   · first | exact hno | (rw [hno]; rfl) | simp [hno] | simp_all
   refine sgx rfl ?_ ?_
   · first | exact hno | (rw [hno]; rfl) | simp [hno] | simp_all
   refine sgx rfl ?_ ?_
   · first | exact hno | (rw [hno]; rfl) | simp [hno] | simp_all
   refine sgx rfl ?_ ?_
   · first | exact hno | (rw [hno]; rfl) | simp [hno] | simp_all
   refine sgx rfl ?_ ?_
   · first | exact hno | (rw [hno]; rfl) | simp [hno] | simp_all
   refine sgx rfl ?_ ?_
   · first | exact hno | (rw [hno]; rfl) | simp [hno] | simp_all
   refine sgx rfl ?_ ?_
   · first | exact hno | (rw [hno]; rfl) | simp [hno] | simp_all
   refine sgx rfl ?_ ?_
   · first | exact hno | (rw [hno]; rfl) | simp [hno] | simp_all
   refine sgx rfl ?_ ?_
   · first | exact hno | (rw [hno]; rfl) | simp [hno] | simp_all
   refine Z238 ?_
   refine gC (fun hb5 => ?_) (fun hb5 => ?_)
   ·
    exact absurd hb5 (by simp)
   refine Z43 ?_;refine Z280 ?_;refine Z195 ?_
   exact ⟨by rw [binV, if_neg (by rw [show (decide (nm = andB) || decide (nm = orB)) = false from hb0]; decide), hti]; dsimp only; rw [cmpV, hct]; try rfl, rfl⟩
  refine g_cg0 [81, 82, 83, 84, 80, 85, 86, 12, 13] ?_
  refine Z12 ?_
  refine cS 1 (fun bq rest hc1 hc2 hc3 => gL (xs := []) rfl (c245) (gN ⟨rfl, rfl⟩)) ?_
  refine Z12 ?_
  refine cS 2 (fun bq rest hc1 hc2 hc3 => vq rfl (qF u27 rfl sz9) (gN ⟨rfl, rfl⟩)) ?_
  refine Z63 ?_
  refine cS 3 (fun bq rest hc1 hc2 hc3 => vq rfl (qL u9) (gN ⟨rfl, rfl⟩)) ?_
  refine Z125 ?_
  refine cS 4 (fun bq rest hc1 hc2 hc3 => vq rfl ((q_lookup2 (zd := .nilF) u253 u9 zr251)) (gN ⟨rfl, rfl⟩)) ?_
  rw [mget_tab, mhas_tab, hct]
  dsimp only [Op2.d, Option.isSome]
  refine Z57 ?_
  refine cS 5 (fun bq rest hc1 hc2 hc3 => vq rfl qM (gN ⟨rfl, rfl⟩)) ?_
  refine Z61 ?_
  refine cS 6 (fun bq rest hc1 hc2 hc3 => vq rfl qE (gN ⟨rfl, rfl⟩)) ?_
  refine Z61 ?_
  refine cS 7 (fun bq rest hc1 hc2 hc3 => vq rfl qE (gN ⟨rfl, rfl⟩)) ?_
  refine Z146 ?_
  refine cS 8 (fun bq rest hc1 hc2 hc3 => vq rfl qA (gN ⟨rfl, rfl⟩)) ?_
  refine Z127 ?_
  refine cS 9 (fun bq rest hc1 hc2 hc3 => vq rfl qA (gN ⟨rfl, rfl⟩)) ?_
  refine Z53 ?_;refine Z97 ?_;refine Z280 ?_
  have hyes : (true == true) = true := rfl
  refine Z198 ?_
  refine sgo rfl hyes y_move ?_
  refine g_callo (xs := [.const (.int .i64 (1))]) rfl hyes (c243 1 a b) ?_
  refine sgo rfl hyes y_move ?_
  refine g_split 91 false (fun hsp => ?_) (fun hsp => ?_)
  ·
   refine sgo rfl hsp y_move ?_
   refine g_callo (xs := [.const (.int .i64 (2))]) rfl hsp (c243 2 a b) ?_
   refine sgo rfl hsp y_move ?_
   refine Z65 ?_
   refine sg rfl (fun hg => sP 95 rfl hg (qL u9)) ?_
   refine sg rfl (fun hg => sP 96 rfl hg q_streq) ?_
   refine sg rfl (fun hg => sP 97 rfl hg qM) ?_
   refine Z65 ?_
   refine sg rfl (fun hg => sP 99 rfl hg (qL u9)) ?_
   refine sg rfl (fun hg => sP 100 rfl hg q_streq) ?_
   refine sg rfl (fun hg => sP 98 rfl hg q_or) ?_
   refine sgo rfl hsp y_and ?_
   refine sgo rfl hyes y_or ?_
   refine Z238 ?_
   refine gC (fun hb6 => ?_) (fun hb6 => ?_)
   ·
    have hcc : ((isV a 1 && isV b 1) || ((isV a 2 && isV b 2) && (decide (nm = eqB) || decide (nm = neB)))) = true := hb6
    have habs : (∃ k, isV a k = true) ∧ ∃ k, isV b k = true := by
     simp only [Bool.or_eq_true, Bool.and_eq_true] at hcc
     rcases hcc with ⟨h1, h2⟩ | ⟨⟨h1, h2⟩, _⟩
     · exact ⟨⟨1, h1⟩, ⟨1, h2⟩⟩
     · exact ⟨⟨2, h1⟩, ⟨2, h2⟩⟩
    obtain ⟨⟨ka, hka⟩, ⟨kb, hkb⟩⟩ := habs
    obtain ⟨ta, rfl, haop⟩ := isV_some hka
    obtain ⟨aop, anm, anu, aks, haa⟩ := ta.d_agg
    have hna : nuV (some ta) = anu := by obtain ⟨o, n, u, l⟩ := ta; rw [Tr.d_mk] at haa; injection haa with ha; injection ha with ha1 ha; injection ha with ha2 ha; injection ha with ha3 ha; injection ha3
    obtain ⟨tb, rfl, hbop⟩ := isV_some hkb
    obtain ⟨bop, bnm, bnu, bks, hab⟩ := tb.d_agg
    have hnb : nuV (some tb) = bnu := by obtain ⟨o, n, u, l⟩ := tb; rw [Tr.d_mk] at hab; injection hab with ha; injection ha with ha1 ha; injection ha with ha2 ha; injection ha with ha3 ha; injection ha3
    rw [show valD (some ta) = .ptr ta.d from rfl, haa]
    rw [show valD (some tb) = .ptr tb.d from rfl, hab]
    refine Z15 ?_;refine Z79 ?_
    refine g_cg0 [106, 107, 108, 109, 110, 111, 112, 113, 114, 115, 116, 4] ?_
    refine Z12 ?_
    refine cS 1 (fun bq rest hc1 hc2 hc3 => vq rfl qM (gN ⟨rfl, rfl⟩)) ?_
    refine Z12 ?_
    refine cS 2 (fun bq rest hc1 hc2 hc3 => vq rfl (qL u139) (gN ⟨rfl, rfl⟩)) ?_
    refine Z63 ?_
    refine cS 3 (fun bq rest hc1 hc2 hc3 => vq rfl q_nilCheck (gN ⟨rfl, rfl⟩)) ?_
    refine Z59 ?_
    refine cS 4 (fun bq rest hc1 hc2 hc3 => vq rfl (qF u27 rfl sz3) (gN ⟨rfl, rfl⟩)) ?_
    refine Z57 ?_
    refine cS 5 (fun bq rest hc1 hc2 hc3 => vq rfl (qL u3) (gN ⟨rfl, rfl⟩)) ?_
    refine Z12 ?_
    refine cS 6 (fun bq rest hc1 hc2 hc3 => vq rfl (qL u139) (gN ⟨rfl, rfl⟩)) ?_
    refine Z81 ?_
    refine cS 7 (fun bq rest hc1 hc2 hc3 => vq rfl q_nilCheck (gN ⟨rfl, rfl⟩)) ?_
    refine Z73 ?_
    refine cS 8 (fun bq rest hc1 hc2 hc3 => vq rfl (qF u27 rfl sz3) (gN ⟨rfl, rfl⟩)) ?_
    refine Z90 ?_
    refine cS 9 (fun bq rest hc1 hc2 hc3 => vq rfl (qL u3) (gN ⟨rfl, rfl⟩)) ?_
    refine Z162 ?_
    refine cS 10 (fun bq rest hc1 hc2 hc3 => gL (xs := [.tmp 110, .tmp 114]) rfl (cmpTab_ok hct anu bnu) (gN ⟨rfl, rfl⟩)) ?_
    refine cP [9, 9] ?_
    refine cS 11 (fun bq rest hc1 hc2 hc3 => gL (xs := [.tmp 115]) rfl (c242 _) (gN ⟨rfl, rfl⟩)) ?_
    refine Z147 ?_
    refine cS 12 (fun bq rest hc1 hc2 hc3 => vq rfl qA (gN ⟨rfl, rfl⟩)) ?_
    refine Z53 ?_;refine Z163 ?_;refine Z5 ?_
    exact ⟨by rw [binV, if_neg (by rw [show (decide (nm = andB) || decide (nm = orB)) = false from hb0]; decide), hti]; dsimp only; rw [cmpV, hct]; dsimp only; rw [if_pos hcc, hna, hnb]; try rfl, rfl⟩
   refine Z43 ?_;refine Z280 ?_;refine Z195 ?_
   exact ⟨by rw [binV, if_neg (by rw [show (decide (nm = andB) || decide (nm = orB)) = false from hb0]; decide), hti]; dsimp only; rw [cmpV, hct]; dsimp only; rw [if_neg (by rw [show ((isV a 1 && isV b 1) || ((isV a 2 && isV b 2) && (decide (nm = eqB) || decide (nm = neB)))) = false from hb6]; decide)]; try rfl, rfl⟩
  refine sgx rfl ?_ ?_
  · first | exact hsp | (rw [hsp]; rfl) | simp [hsp] | simp_all
  refine sgx rfl ?_ ?_
  · first | exact hsp | (rw [hsp]; rfl) | simp [hsp] | simp_all
  refine sgx rfl ?_ ?_
  · first | exact hsp | (rw [hsp]; rfl) | simp [hsp] | simp_all
  refine sgx rfl ?_ ?_
  · first | exact hsp | (rw [hsp]; rfl) | simp [hsp] | simp_all
  refine sgx rfl ?_ ?_
  · first | exact hsp | (rw [hsp]; rfl) | simp [hsp] | simp_all
  refine sgx rfl ?_ ?_
  · first | exact hsp | (rw [hsp]; rfl) | simp [hsp] | simp_all
  refine sgx rfl ?_ ?_
  · first | exact hsp | (rw [hsp]; rfl) | simp [hsp] | simp_all
  refine sgx rfl ?_ ?_
  · first | exact hsp | (rw [hsp]; rfl) | simp [hsp] | simp_all
  refine sgx rfl ?_ ?_
  · first | exact hsp | (rw [hsp]; rfl) | simp [hsp] | simp_all
  refine sgx rfl ?_ ?_
  · first | exact hsp | (rw [hsp]; rfl) | simp [hsp] | simp_all
  refine sgx rfl ?_ ?_
  · first | exact hsp | (rw [hsp]; rfl) | simp [hsp] | simp_all
  refine sgx rfl ?_ ?_
  · first | exact hsp | (rw [hsp]; rfl) | simp [hsp] | simp_all
  refine sgo rfl hyes y_or ?_
  refine Z238 ?_
  refine gC (fun hb7 => ?_) (fun hb7 => ?_)
  ·
   have hcc : ((isV a 1 && isV b 1) || ((isV a 2 && isV b 2) && (decide (nm = eqB) || decide (nm = neB)))) = true := by simp at hsp; simp [hsp]
   have habs : (∃ k, isV a k = true) ∧ ∃ k, isV b k = true := by
    simp only [Bool.or_eq_true, Bool.and_eq_true] at hcc
    rcases hcc with ⟨h1, h2⟩ | ⟨⟨h1, h2⟩, _⟩
    · exact ⟨⟨1, h1⟩, ⟨1, h2⟩⟩
    · exact ⟨⟨2, h1⟩, ⟨2, h2⟩⟩
   obtain ⟨⟨ka, hka⟩, ⟨kb, hkb⟩⟩ := habs
   obtain ⟨ta, rfl, haop⟩ := isV_some hka
   obtain ⟨aop, anm, anu, aks, haa⟩ := ta.d_agg
   have hna : nuV (some ta) = anu := by obtain ⟨o, n, u, l⟩ := ta; rw [Tr.d_mk] at haa; injection haa with ha; injection ha with ha1 ha; injection ha with ha2 ha; injection ha with ha3 ha; injection ha3
   obtain ⟨tb, rfl, hbop⟩ := isV_some hkb
   obtain ⟨bop, bnm, bnu, bks, hab⟩ := tb.d_agg
   have hnb : nuV (some tb) = bnu := by obtain ⟨o, n, u, l⟩ := tb; rw [Tr.d_mk] at hab; injection hab with ha; injection ha with ha1 ha; injection ha with ha2 ha; injection ha with ha3 ha; injection ha3
   rw [show valD (some ta) = .ptr ta.d from rfl, haa]
   rw [show valD (some tb) = .ptr tb.d from rfl, hab]
   refine Z15 ?_;refine Z79 ?_
   refine g_cg0 [106, 107, 108, 109, 110, 111, 112, 113, 114, 115, 116, 4] ?_
   refine Z12 ?_
   refine cS 1 (fun bq rest hc1 hc2 hc3 => vq rfl qM (gN ⟨rfl, rfl⟩)) ?_
   refine Z12 ?_
   refine cS 2 (fun bq rest hc1 hc2 hc3 => vq rfl (qL u139) (gN ⟨rfl, rfl⟩)) ?_
   refine Z63 ?_
   refine cS 3 (fun bq rest hc1 hc2 hc3 => vq rfl q_nilCheck (gN ⟨rfl, rfl⟩)) ?_
   refine Z59 ?_
   refine cS 4 (fun bq rest hc1 hc2 hc3 => vq rfl (qF u27 rfl sz3) (gN ⟨rfl, rfl⟩)) ?_
   refine Z57 ?_
   refine cS 5 (fun bq rest hc1 hc2 hc3 => vq rfl (qL u3) (gN ⟨rfl, rfl⟩)) ?_
   refine Z12 ?_
   refine cS 6 (fun bq rest hc1 hc2 hc3 => vq rfl (qL u139) (gN ⟨rfl, rfl⟩)) ?_
   refine Z81 ?_
   refine cS 7 (fun bq rest hc1 hc2 hc3 => vq rfl q_nilCheck (gN ⟨rfl, rfl⟩)) ?_
   refine Z73 ?_
   refine cS 8 (fun bq rest hc1 hc2 hc3 => vq rfl (qF u27 rfl sz3) (gN ⟨rfl, rfl⟩)) ?_
   refine Z90 ?_
   refine cS 9 (fun bq rest hc1 hc2 hc3 => vq rfl (qL u3) (gN ⟨rfl, rfl⟩)) ?_
   refine Z162 ?_
   refine cS 10 (fun bq rest hc1 hc2 hc3 => gL (xs := [.tmp 110, .tmp 114]) rfl (cmpTab_ok hct anu bnu) (gN ⟨rfl, rfl⟩)) ?_
   refine cP [9, 9] ?_
   refine cS 11 (fun bq rest hc1 hc2 hc3 => gL (xs := [.tmp 115]) rfl (c242 _) (gN ⟨rfl, rfl⟩)) ?_
   refine Z147 ?_
   refine cS 12 (fun bq rest hc1 hc2 hc3 => vq rfl qA (gN ⟨rfl, rfl⟩)) ?_
   refine Z53 ?_;refine Z163 ?_;refine Z5 ?_
   exact ⟨by rw [binV, if_neg (by rw [show (decide (nm = andB) || decide (nm = orB)) = false from hb0]; decide), hti]; dsimp only; rw [cmpV, hct]; dsimp only; rw [if_pos hcc, hna, hnb]; try rfl, rfl⟩
  exfalso
  simp at hsp hb7
  simp [hsp] at hb7
 refine g_cg0 [59, 60, 61, 62, 58, 63, 64, 10, 11] ?_
 refine Z12 ?_
 refine cS 1 (fun bq rest hc1 hc2 hc3 => gL (xs := []) rfl (c244) (gN ⟨rfl, rfl⟩)) ?_
 refine Z12 ?_
 refine cS 2 (fun bq rest hc1 hc2 hc3 => vq rfl (qF u27 rfl sz9) (gN ⟨rfl, rfl⟩)) ?_
 refine Z63 ?_
 refine cS 3 (fun bq rest hc1 hc2 hc3 => vq rfl (qL u9) (gN ⟨rfl, rfl⟩)) ?_
 refine Z125 ?_
 refine cS 4 (fun bq rest hc1 hc2 hc3 => vq rfl ((q_lookup2 (zd := .nilF) u249 u9 zr247)) (gN ⟨rfl, rfl⟩)) ?_
 rw [mget_tab, mhas_tab, hti]
 dsimp only [Op2.d, Option.isSome]
 refine Z57 ?_
 refine cS 5 (fun bq rest hc1 hc2 hc3 => vq rfl qM (gN ⟨rfl, rfl⟩)) ?_
 refine Z61 ?_
 refine cS 6 (fun bq rest hc1 hc2 hc3 => vq rfl qE (gN ⟨rfl, rfl⟩)) ?_
 refine Z61 ?_
 refine cS 7 (fun bq rest hc1 hc2 hc3 => vq rfl qE (gN ⟨rfl, rfl⟩)) ?_
 refine Z146 ?_
 refine cS 8 (fun bq rest hc1 hc2 hc3 => vq rfl qA (gN ⟨rfl, rfl⟩)) ?_
 refine Z127 ?_
 refine cS 9 (fun bq rest hc1 hc2 hc3 => vq rfl qA (gN ⟨rfl, rfl⟩)) ?_
 refine Z53 ?_;refine Z97 ?_;refine Z280 ?_
 have hyes : (true == true) = true := rfl
 refine Z198 ?_
 refine sgo rfl hyes y_move ?_
 refine g_callo (xs := [.const (.int .i64 (1))]) rfl hyes (c243 1 a b) ?_
 refine Z238 ?_
 refine gC (fun hb8 => ?_) (fun hb8 => ?_)
 ·
  have hcc : (isV a 1 && isV b 1) = true := by simpa using hb8
  obtain ⟨hka, hkb⟩ := Bool.and_eq_true_iff.1 hcc
  obtain ⟨ta, rfl, haop⟩ := isV_some hka
  obtain ⟨aop, anm, anu, aks, haa⟩ := ta.d_agg
  have hna : nuV (some ta) = anu := by obtain ⟨o, n, u, l⟩ := ta; rw [Tr.d_mk] at haa; injection haa with ha; injection ha with ha1 ha; injection ha with ha2 ha; injection ha with ha3 ha; injection ha3
  obtain ⟨tb, rfl, hbop⟩ := isV_some hkb
  obtain ⟨bop, bnm, bnu, bks, hab⟩ := tb.d_agg
  have hnb : nuV (some tb) = bnu := by obtain ⟨o, n, u, l⟩ := tb; rw [Tr.d_mk] at hab; injection hab with ha; injection ha with ha1 ha; injection ha with ha2 ha; injection ha with ha3 ha; injection ha3
  rw [show valD (some ta) = .ptr ta.d from rfl, haa]
  rw [show valD (some tb) = .ptr tb.d from rfl, hab]
  refine Z15 ?_
  refine g_cg0 [70, 71, 72, 73, 74, 75, 76, 77, 78, 79, 4] ?_
  refine Z12 ?_
  refine cS 1 (fun bq rest hc1 hc2 hc3 => vq rfl qM (gN ⟨rfl, rfl⟩)) ?_
  refine Z12 ?_
  refine cS 2 (fun bq rest hc1 hc2 hc3 => vq rfl (qL u139) (gN ⟨rfl, rfl⟩)) ?_
  refine Z63 ?_
  refine cS 3 (fun bq rest hc1 hc2 hc3 => vq rfl q_nilCheck (gN ⟨rfl, rfl⟩)) ?_
  refine Z59 ?_
  refine cS 4 (fun bq rest hc1 hc2 hc3 => vq rfl (qF u27 rfl sz3) (gN ⟨rfl, rfl⟩)) ?_
  refine Z57 ?_
  refine cS 5 (fun bq rest hc1 hc2 hc3 => vq rfl (qL u3) (gN ⟨rfl, rfl⟩)) ?_
  refine Z12 ?_
  refine cS 6 (fun bq rest hc1 hc2 hc3 => vq rfl (qL u139) (gN ⟨rfl, rfl⟩)) ?_
  refine Z81 ?_
  refine cS 7 (fun bq rest hc1 hc2 hc3 => vq rfl q_nilCheck (gN ⟨rfl, rfl⟩)) ?_
  refine Z73 ?_
  refine cS 8 (fun bq rest hc1 hc2 hc3 => vq rfl (qF u27 rfl sz3) (gN ⟨rfl, rfl⟩)) ?_
  refine Z90 ?_
  refine cS 9 (fun bq rest hc1 hc2 hc3 => vq rfl (qL u3) (gN ⟨rfl, rfl⟩)) ?_
  refine Z162 ?_
  refine cS 10 (fun bq rest hc1 hc2 hc3 => gL (xs := [.tmp 74, .tmp 78]) rfl (intTab_ok hti anu bnu) (gN ⟨rfl, rfl⟩)) ?_
  refine cP [9, 9, 0, 1, 2, 3, 4, 5, 6, 7, 8, 9] ?_
  refine cS 11 (fun bq rest hc1 hc2 hc3 => vq rfl qA (gN ⟨rfl, rfl⟩)) ?_
  refine Z53 ?_;refine Z163 ?_;refine Z5 ?_
  exact ⟨by rw [binV, if_neg (by rw [show (decide (nm = andB) || decide (nm = orB)) = false from hb0]; decide), hti]; dsimp only; rw [if_pos hcc, hna, hnb]; try rfl, rfl⟩
 refine Z74 ?_
 rcases hct : tabGet cmpTab nm with _ | ⟨g2, caps2, f2⟩
 ·
  refine g_cg0 [81, 82, 83, 84, 80, 85, 86, 12, 13] ?_
  refine Z12 ?_
  refine cS 1 (fun bq rest hc1 hc2 hc3 => gL (xs := []) rfl (c245) (gN ⟨rfl, rfl⟩)) ?_
  refine Z12 ?_
  refine cS 2 (fun bq rest hc1 hc2 hc3 => vq rfl (qF u27 rfl sz9) (gN ⟨rfl, rfl⟩)) ?_
  refine Z63 ?_
  refine cS 3 (fun bq rest hc1 hc2 hc3 => vq rfl (qL u9) (gN ⟨rfl, rfl⟩)) ?_
  refine Z125 ?_
  refine cS 4 (fun bq rest hc1 hc2 hc3 => vq rfl ((q_lookup2 (zd := .nilF) u253 u9 zr251)) (gN ⟨rfl, rfl⟩)) ?_
  rw [mget_tab, mhas_tab, hct]
  dsimp only [Op2.d, Option.isSome]
  refine Z57 ?_
  refine cS 5 (fun bq rest hc1 hc2 hc3 => vq rfl qM (gN ⟨rfl, rfl⟩)) ?_
  refine Z61 ?_
  refine cS 6 (fun bq rest hc1 hc2 hc3 => vq rfl qE (gN ⟨rfl, rfl⟩)) ?_
  refine Z61 ?_
  refine cS 7 (fun bq rest hc1 hc2 hc3 => vq rfl qE (gN ⟨rfl, rfl⟩)) ?_
  refine Z146 ?_
  refine cS 8 (fun bq rest hc1 hc2 hc3 => vq rfl qA (gN ⟨rfl, rfl⟩)) ?_
  refine Z127 ?_
  refine cS 9 (fun bq rest hc1 hc2 hc3 => vq rfl qA (gN ⟨rfl, rfl⟩)) ?_
  refine Z53 ?_;refine Z97 ?_;refine Z280 ?_
  have hno : (false == true) = false := rfl
  refine Z198 ?_
  refine sgx rfl ?_ ?_
  · first | exact hno | (rw [hno]; rfl) | simp [hno] | simp_all
  refine sgx rfl ?_ ?_
  · first | exact hno | (rw [hno]; rfl) | simp [hno] | simp_all
  refine sgx rfl ?_ ?_
  · first | exact hno | (rw [hno]; rfl) | simp [hno] | simp_all
  refine sgx rfl ?_ ?_
  · first | exact hno | (rw [hno]; rfl) | simp [hno] | simp_all
  refine sgx rfl ?_ ?_
  · first | exact hno | (rw [hno]; rfl) | simp [hno] | simp_all
  refine sgx rfl ?_ ?_
  · first | exact hno | (rw [hno]; rfl) | simp [hno] | simp_all
  refine sgx rfl ?_ ?_
  · first | exact hno | (rw [hno]; rfl) | simp [hno] | simp_all
  refine sgx rfl ?_ ?_
  · first | exact hno | (rw [hno]; rfl) | simp [hno] | simp_all
  refine sgx rfl ?_ ?_
  · first | exact hno | (rw [hno]; rfl) | simp [hno] | simp_all
  refine sgx rfl ?_ ?_
  · first | exact hno | (rw [hno]; rfl) | simp [hno] | simp_all
  refine sgx rfl ?_ ?_
  · first | exact hno | (rw [hno]; rfl) | simp [hno] | simp_all
  refine sgx rfl ?_ ?_
  · first | exact hno | (rw [hno]; rfl) | simp [hno] | simp_all
  refine sgx rfl ?_ ?_
  · first | exact hno | (rw [hno]; rfl) | simp [hno] | simp_all
  refine sgx rfl ?_ ?_
  · first | exact hno | (rw [hno]; rfl) | simp [hno] | simp_all
  refine sgx rfl ?_ ?_
  · first | exact hno | (rw [hno]; rfl) | simp [hno] | simp_all
  refine sgx rfl ?_ ?_
  · first | exact hno | (rw [hno]; rfl) | simp [hno] | simp_all
  refine Z238 ?_
  refine gC (fun hb9 => ?_) (fun hb9 => ?_)
  ·
   exact absurd hb9 (by simp)
  refine Z43 ?_;refine Z280 ?_;refine Z195 ?_
  exact ⟨by rw [binV, if_neg (by rw [show (decide (nm = andB) || decide (nm = orB)) = false from hb0]; decide), hti]; dsimp only; rw [if_neg (by simpa using hb8), cmpV, hct]; try rfl, rfl⟩
 refine g_cg0 [81, 82, 83, 84, 80, 85, 86, 12, 13] ?_
 refine Z12 ?_
 refine cS 1 (fun bq rest hc1 hc2 hc3 => gL (xs := []) rfl (c245) (gN ⟨rfl, rfl⟩)) ?_
 refine Z12 ?_
 refine cS 2 (fun bq rest hc1 hc2 hc3 => vq rfl (qF u27 rfl sz9) (gN ⟨rfl, rfl⟩)) ?_
 refine Z63 ?_
 refine cS 3 (fun bq rest hc1 hc2 hc3 => vq rfl (qL u9) (gN ⟨rfl, rfl⟩)) ?_
 refine Z125 ?_
 refine cS 4 (fun bq rest hc1 hc2 hc3 => vq rfl ((q_lookup2 (zd := .nilF) u253 u9 zr251)) (gN ⟨rfl, rfl⟩)) ?_
 rw [mget_tab, mhas_tab, hct]
 dsimp only [Op2.d, Option.isSome]
 refine Z57 ?_
 refine cS 5 (fun bq rest hc1 hc2 hc3 => vq rfl qM (gN ⟨rfl, rfl⟩)) ?_
 refine Z61 ?_
 refine cS 6 (fun bq rest hc1 hc2 hc3 => vq rfl qE (gN ⟨rfl, rfl⟩)) ?_
 refine Z61 ?_
 refine cS 7 (fun bq rest hc1 hc2 hc3 => vq rfl qE (gN ⟨rfl, rfl⟩)) ?_
 refine Z146 ?_
 refine cS 8 (fun bq rest hc1 hc2 hc3 => vq rfl qA (gN ⟨rfl, rfl⟩)) ?_
 refine Z127 ?_
 refine cS 9 (fun bq rest hc1 hc2 hc3 => vq rfl qA (gN ⟨rfl, rfl⟩)) ?_
 refine Z53 ?_;refine Z97 ?_;refine Z280 ?_
 have hyes : (true == true) = true := rfl
 refine Z198 ?_
 refine sgo rfl hyes y_move ?_
 refine g_callo (xs := [.const (.int .i64 (1))]) rfl hyes (c243 1 a b) ?_
 refine sgo rfl hyes y_move ?_
 refine g_split 91 false (fun hsp => ?_) (fun hsp => ?_)
 ·
  refine sgo rfl hsp y_move ?_
  refine g_callo (xs := [.const (.int .i64 (2))]) rfl hsp (c243 2 a b) ?_
  refine sgo rfl hsp y_move ?_
  refine Z65 ?_
  refine sg rfl (fun hg => sP 95 rfl hg (qL u9)) ?_
  refine sg rfl (fun hg => sP 96 rfl hg q_streq) ?_
  refine sg rfl (fun hg => sP 97 rfl hg qM) ?_
  refine Z65 ?_
  refine sg rfl (fun hg => sP 99 rfl hg (qL u9)) ?_
  refine sg rfl (fun hg => sP 100 rfl hg q_streq) ?_
  refine sg rfl (fun hg => sP 98 rfl hg q_or) ?_
  refine sgo rfl hsp y_and ?_
  refine sgo rfl hyes y_or ?_
  refine Z238 ?_
  refine gC (fun hb10 => ?_) (fun hb10 => ?_)
  ·
   have hcc : ((isV a 1 && isV b 1) || ((isV a 2 && isV b 2) && (decide (nm = eqB) || decide (nm = neB)))) = true := hb10
   have habs : (∃ k, isV a k = true) ∧ ∃ k, isV b k = true := by
    simp only [Bool.or_eq_true, Bool.and_eq_true] at hcc
    rcases hcc with ⟨h1, h2⟩ | ⟨⟨h1, h2⟩, _⟩
    · exact ⟨⟨1, h1⟩, ⟨1, h2⟩⟩
    · exact ⟨⟨2, h1⟩, ⟨2, h2⟩⟩
   obtain ⟨⟨ka, hka⟩, ⟨kb, hkb⟩⟩ := habs
   obtain ⟨ta, rfl, haop⟩ := isV_some hka
   obtain ⟨aop, anm, anu, aks, haa⟩ := ta.d_agg
   have hna : nuV (some ta) = anu := by obtain ⟨o, n, u, l⟩ := ta; rw [Tr.d_mk] at haa; injection haa with ha; injection ha with ha1 ha; injection ha with ha2 ha; injection ha with ha3 ha; injection ha3
   obtain ⟨tb, rfl, hbop⟩ := isV_some hkb
   obtain ⟨bop, bnm, bnu, bks, hab⟩ := tb.d_agg
   have hnb : nuV (some tb) = bnu := by obtain ⟨o, n, u, l⟩ := tb; rw [Tr.d_mk] at hab; injection hab with ha; injection ha with ha1 ha; injection ha with ha2 ha; injection ha with ha3 ha; injection ha3
   rw [show valD (some ta) = .ptr ta.d from rfl, haa]
   rw [show valD (some tb) = .ptr tb.d from rfl, hab]
   refine Z15 ?_;refine Z79 ?_
   refine g_cg0 [106, 107, 108, 109, 110, 111, 112, 113, 114, 115, 116, 4] ?_
   refine Z12 ?_
   refine cS 1 (fun bq rest hc1 hc2 hc3 => vq rfl qM (gN ⟨rfl, rfl⟩)) ?_
   refine Z12 ?_
   refine cS 2 (fun bq rest hc1 hc2 hc3 => vq rfl (qL u139) (gN ⟨rfl, rfl⟩)) ?_
   refine Z63 ?_
   refine cS 3 (fun bq rest hc1 hc2 hc3 => vq rfl q_nilCheck (gN ⟨rfl, rfl⟩)) ?_
   refine Z59 ?_
   refine cS 4 (fun bq rest hc1 hc2 hc3 => vq rfl (qF u27 rfl sz3) (gN ⟨rfl, rfl⟩)) ?_
   refine Z57 ?_
   refine cS 5 (fun bq rest hc1 hc2 hc3 => vq rfl (qL u3) (gN ⟨rfl, rfl⟩)) ?_
   refine Z12 ?_
   refine cS 6 (fun bq rest hc1 hc2 hc3 => vq rfl (qL u139) (gN ⟨rfl, rfl⟩)) ?_
   refine Z81 ?_
   refine cS 7 (fun bq rest hc1 hc2 hc3 => vq rfl q_nilCheck (gN ⟨rfl, rfl⟩)) ?_
   refine Z73 ?_
   refine cS 8 (fun bq rest hc1 hc2 hc3 => vq rfl (qF u27 rfl sz3) (gN ⟨rfl, rfl⟩)) ?_
   refine Z90 ?_
   refine cS 9 (fun bq rest hc1 hc2 hc3 => vq rfl (qL u3) (gN ⟨rfl, rfl⟩)) ?_
   refine Z162 ?_
   refine cS 10 (fun bq rest hc1 hc2 hc3 => gL (xs := [.tmp 110, .tmp 114]) rfl (cmpTab_ok hct anu bnu) (gN ⟨rfl, rfl⟩)) ?_
   refine cP [9, 9] ?_
   refine cS 11 (fun bq rest hc1 hc2 hc3 => gL (xs := [.tmp 115]) rfl (c242 _) (gN ⟨rfl, rfl⟩)) ?_
   refine Z147 ?_
   refine cS 12 (fun bq rest hc1 hc2 hc3 => vq rfl qA (gN ⟨rfl, rfl⟩)) ?_
   refine Z53 ?_;refine Z163 ?_;refine Z5 ?_
   exact ⟨by rw [binV, if_neg (by rw [show (decide (nm = andB) || decide (nm = orB)) = false from hb0]; decide), hti]; dsimp only; rw [if_neg (by simpa using hb8), cmpV, hct]; dsimp only; rw [if_pos hcc, hna, hnb]; try rfl, rfl⟩
  refine Z43 ?_;refine Z280 ?_;refine Z195 ?_
  exact ⟨by rw [binV, if_neg (by rw [show (decide (nm = andB) || decide (nm = orB)) = false from hb0]; decide), hti]; dsimp only; rw [if_neg (by simpa using hb8), cmpV, hct]; dsimp only; rw [if_neg (by rw [show ((isV a 1 && isV b 1) || ((isV a 2 && isV b 2) && (decide (nm = eqB) || decide (nm = neB)))) = false from hb10]; decide)]; try rfl, rfl⟩
 refine sgx rfl ?_ ?_
 · first | exact hsp | (rw [hsp]; rfl) | simp [hsp] | simp_all
 refine sgx rfl ?_ ?_
 · first | exact hsp | (rw [hsp]; rfl) | simp [hsp] | simp_all
 refine sgx rfl ?_ ?_
 · first | exact hsp | (rw [hsp]; rfl) | simp [hsp] | simp_all
 refine sgx rfl ?_ ?_
 · first | exact hsp | (rw [hsp]; rfl) | simp [hsp] | simp_all
 refine sgx rfl ?_ ?_
 · first | exact hsp | (rw [hsp]; rfl) | simp [hsp] | simp_all
 refine sgx rfl ?_ ?_
 · first | exact hsp | (rw [hsp]; rfl) | simp [hsp] | simp_all
 refine sgx rfl ?_ ?_
 · first | exact hsp | (rw [hsp]; rfl) | simp [hsp] | simp_all
 refine sgx rfl ?_ ?_
 · first | exact hsp | (rw [hsp]; rfl) | simp [hsp] | simp_all
 refine sgx rfl ?_ ?_
 · first | exact hsp | (rw [hsp]; rfl) | simp [hsp] | simp_all
 refine sgx rfl ?_ ?_
 · first | exact hsp | (rw [hsp]; rfl) | simp [hsp] | simp_all
 refine sgx rfl ?_ ?_
 · first | exact hsp | (rw [hsp]; rfl) | simp [hsp] | simp_all
 refine sgx rfl ?_ ?_
 · first | exact hsp | (rw [hsp]; rfl) | simp [hsp] | simp_all
 refine sgo rfl hyes y_or ?_
 refine Z238 ?_
 refine gC (fun hb11 => ?_) (fun hb11 => ?_)
 ·
  have hcc : ((isV a 1 && isV b 1) || ((isV a 2 && isV b 2) && (decide (nm = eqB) || decide (nm = neB)))) = true := by simp at hsp; simp [hsp]
  have habs : (∃ k, isV a k = true) ∧ ∃ k, isV b k = true := by
   simp only [Bool.or_eq_true, Bool.and_eq_true] at hcc
   rcases hcc with ⟨h1, h2⟩ | ⟨⟨h1, h2⟩, _⟩
   · exact ⟨⟨1, h1⟩, ⟨1, h2⟩⟩
   · exact ⟨⟨2, h1⟩, ⟨2, h2⟩⟩
  obtain ⟨⟨ka, hka⟩, ⟨kb, hkb⟩⟩ := habs
  obtain ⟨ta, rfl, haop⟩ := isV_some hka
  obtain ⟨aop, anm, anu, aks, haa⟩ := ta.d_agg
  have hna : nuV (some ta) = anu := by obtain ⟨o, n, u, l⟩ := ta; rw [Tr.d_mk] at haa; injection haa with ha; injection ha with ha1 ha; injection ha with ha2 ha; injection ha with ha3 ha; injection ha3
  obtain ⟨tb, rfl, hbop⟩ := isV_some hkb
  obtain ⟨bop, bnm, bnu, bks, hab⟩ := tb.d_agg
  have hnb : nuV (some tb) = bnu := by obtain ⟨o, n, u, l⟩ := tb; rw [Tr.d_mk] at hab; injection hab with ha; injection ha with ha1 ha; injection ha with ha2 ha; injection ha with ha3 ha; injection ha3
  rw [show valD (some ta) = .ptr ta.d from rfl, haa]
  rw [show valD (some tb) = .ptr tb.d from rfl, hab]
  refine Z15 ?_;refine Z79 ?_
  refine g_cg0 [106, 107, 108, 109, 110, 111, 112, 113, 114, 115, 116, 4] ?_
  refine Z12 ?_
  refine cS 1 (fun bq rest hc1 hc2 hc3 => vq rfl qM (gN ⟨rfl, rfl⟩)) ?_
  refine Z12 ?_
  refine cS 2 (fun bq rest hc1 hc2 hc3 => vq rfl (qL u139) (gN ⟨rfl, rfl⟩)) ?_
  refine Z63 ?_
  refine cS 3 (fun bq rest hc1 hc2 hc3 => vq rfl q_nilCheck (gN ⟨rfl, rfl⟩)) ?_
  refine Z59 ?_
  refine cS 4 (fun bq rest hc1 hc2 hc3 => vq rfl (qF u27 rfl sz3) (gN ⟨rfl, rfl⟩)) ?_
  refine Z57 ?_
  refine cS 5 (fun bq rest hc1 hc2 hc3 => vq rfl (qL u3) (gN ⟨rfl, rfl⟩)) ?_
  refine Z12 ?_
  refine cS 6 (fun bq rest hc1 hc2 hc3 => vq rfl (qL u139) (gN ⟨rfl, rfl⟩)) ?_
  refine Z81 ?_
  refine cS 7 (fun bq rest hc1 hc2 hc3 => vq rfl q_nilCheck (gN ⟨rfl, rfl⟩)) ?_
  refine Z73 ?_
  refine cS 8 (fun bq rest hc1 hc2 hc3 => vq rfl (qF u27 rfl sz3) (gN ⟨rfl, rfl⟩)) ?_
  refine Z90 ?_
  refine cS 9 (fun bq rest hc1 hc2 hc3 => vq rfl (qL u3) (gN ⟨rfl, rfl⟩)) ?_
  refine Z162 ?_
  refine cS 10 (fun bq rest hc1 hc2 hc3 => gL (xs := [.tmp 110, .tmp 114]) rfl (cmpTab_ok hct anu bnu) (gN ⟨rfl, rfl⟩)) ?_
  refine cP [9, 9] ?_
  refine cS 11 (fun bq rest hc1 hc2 hc3 => gL (xs := [.tmp 115]) rfl (c242 _) (gN ⟨rfl, rfl⟩)) ?_
  refine Z147 ?_
  refine cS 12 (fun bq rest hc1 hc2 hc3 => vq rfl qA (gN ⟨rfl, rfl⟩)) ?_
  refine Z53 ?_;refine Z163 ?_;refine Z5 ?_
  exact ⟨by rw [binV, if_neg (by rw [show (decide (nm = andB) || decide (nm = orB)) = false from hb0]; decide), hti]; dsimp only; rw [if_neg (by simpa using hb8), cmpV, hct]; dsimp only; rw [if_pos hcc, hna, hnb]; try rfl, rfl⟩
 exfalso
 simp at hsp hb11
 simp [hsp] at hb11
end Go.Proofs.YtklkbfpjimeaoaaGreat
