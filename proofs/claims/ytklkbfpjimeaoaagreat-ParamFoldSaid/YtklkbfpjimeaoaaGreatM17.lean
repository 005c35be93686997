import Derived.Test.YtklkbfpjimeaoaaGreatM16
/- Contracts of functions. Conditions: none. -/
set_option linter.unusedSimpArgs false
set_option linter.unusedVariables false
set_option maxRecDepth 20000
namespace Go.Proofs.YtklkbfpjimeaoaaGreat
open Go Go.Proofs.YtklkbfpjimeaoaaGreat.E
section
def intT (n : Int) : Tr := .mk 1 ⟨#[]⟩ n []
def boolT (b : Bool) : Tr := .mk 2 ⟨#[]⟩ (if b = true then 1 else 0) []
def valD : Option Tr → D
 | none => .nil
 | some t => .ptr t.d
theorem valD_cells (v : Option Tr) : (valD v).cells = [valD v] := by cases v <;> rfl
def isV : Option Tr → Int → Bool
 | none, _ => false
 | some t, k => t.op == k
def nuV : Option Tr → Int
 | none => 0
 | some t => t.nu
def minI : Int := -9223372036854775808
def maxI : Int := 9223372036854775807
def mB : ByteArray := ⟨#[45]⟩
def bangB : ByteArray := ⟨#[33]⟩
def unaryV (nm : ByteArray) : Option Tr → Option Tr
 | none => none
 | some (.mk op _ num _) =>
  if ((decide (nm = mB) && op == 1) && num != minI) = true then some (intT (W (0 - num)))
  else if (decide (nm = bangB) && op == 2) = true then some (boolT (num == 0)) else none
def fitsV (n : Int) (ok : Bool) : Option Tr := if ok = true then some (intT n) else none
def divB (a b : Int) : Bool := b != 0 && (a != minI || b != -1)
def addV (a b : Int) : Option Tr := fitsV (W (a + b)) ((decide (b ≤ 0) || decide (a ≤ W (maxI - b))) && (decide (b ≥ 0) || decide (a ≥ W (minI - b))))
def subV (a b : Int) : Option Tr := fitsV (W (a - b)) ((decide (b ≥ 0) || decide (a ≤ W (maxI + b))) && (decide (b ≤ 0) || decide (a ≥ W (minI + b))))
def mulV (a b : Int) : Option Tr := fitsV (W (a * b)) ((a == 0 || b == 0) || (((a != -1 || b != minI) && (b != -1 || a != minI)) && W ((W (a * b)).tdiv b) == a))
def quoV (a b : Int) : Option Tr := if (!divB a b) = true then none else some (intT (W (a.tdiv b)))
def remV (a b : Int) : Option Tr := if (!divB a b) = true then none else some (intT (a.tmod b))
theorem c186 (n : Int) : Pf Tryz.prog 186 [.int .i64 n] (.d (valD (some (intT n)))) := by
 refine pf_body (rvs := [.tmp 2]) [(0, .d (.int .i64 n))] Tryz.func186 Tryz.ntmps186 Tryz.results186 (fun S0 O0 w0 m0 hm0 => ?_)
 refine Z280 ?_;refine Z64 ?_;refine Z13 ?_
 refine gF 0 [] (.agg [.int .i64 1, .str ⟨#[]⟩, .int .i64 n, .sl []]) rfl ?_
 refine Z229 ?_
 exact ⟨by rw [valD, intT, Tr.d_mk]; rfl, rfl⟩
theorem c242 (b : Bool) : Pf Tryz.prog 242 [.bool b] (.d (valD (some (boolT b)))) := by
 refine pf_body (rvs := [.tmp 2]) [(0, .d (.bool b))] Tryz.func242 Tryz.ntmps242 Tryz.results242 (fun S0 O0 w0 m0 hm0 => ?_)
 refine Z272 ?_;refine Z10 ?_
 refine gC ?_ ?_ <;> intro hb0
 ·
  refine Z3 ?_;refine Z64 ?_;refine Z13 ?_
  refine gF 0 [] (.agg [.int .i64 2, .str ⟨#[]⟩, .int .i64 1, .sl []]) rfl ?_
  refine Z243 ?_
  exact ⟨by rw [hb0, valD, boolT, Tr.d_mk]; rfl, rfl⟩
 refine Z43 ?_;refine Z64 ?_;refine Z13 ?_
 refine gF 0 [] (.agg [.int .i64 2, .str ⟨#[]⟩, .int .i64 0, .sl []]) rfl ?_
 refine Z229 ?_
 exact ⟨by rw [hb0, valD, boolT, Tr.d_mk]; rfl, rfl⟩
theorem c184n (k : Int) : Pf Tryz.prog 184 [.nil, .int .i64 k] (.d (.bool false)) := by
 refine pf_body (rvs := [.tmp 4]) [(0, .d .nil), (1, .d (.int .i64 k))] Tryz.func184 Tryz.ntmps184 Tryz.results184 (fun S0 O0 w0 m0 hm0 => ?_)
 refine Z240 ?_
 have hno : ((!true) == true) = false := rfl
 refine Z0 ?_
 refine vq rfl ((q_ptrneq u139)) ?_
 refine Z0 ?_;refine Z262 ?_;refine Z262 ?_;refine Z262 ?_;refine Z257 ?_
 exact ⟨rfl, rfl⟩
theorem c184s (t : Tr) (k : Int) : Pf Tryz.prog 184 [.ptr t.d, .int .i64 k] (.d (.bool (t.op == k))) := by
 obtain ⟨op, name, num, ks⟩ := t
 rw [Tr.d_mk]
 try simp only [Tr.op_mk, Tr.nm_mk, Tr.nu_mk, Tr.kids_mk]
 refine pf_body (rvs := [.tmp 4]) [(0, .d (.ptr (.agg [.int .i64 op, .str name, .int .i64 num, .sl (ks.map Tr.d)]))), (1, .d (.int .i64 k))] Tryz.func184 Tryz.ntmps184 Tryz.results184 (fun S0 O0 w0 m0 hm0 => ?_)
 refine Z280 ?_
 refine vq rfl ((q_ptrneq u139)) ?_
 refine Z249 ?_
 refine sg rfl (fun hg => sP 8 rfl hg q_nilCheck) ?_
 refine sg rfl (fun hg => sP 9 rfl hg (qF u27 rfl sz3)) ?_
 refine sg rfl (fun hg => sP 10 rfl hg (qL u3)) ?_
 refine Z19 ?_
 refine sg rfl (fun hg => sP 12 rfl hg (sP 11 rfl hg q_eql)) ?_
 refine Z257 ?_
 exact ⟨rfl, rfl⟩
theorem c184 (v : Option Tr) (k : Int) : Pf Tryz.prog 184 [valD v, .int .i64 k] (.d (.bool (isV v k))) := by
 cases v with
 | none => exact c184n k
 | some t => exact c184s t k
theorem c182n (nm : ByteArray) : Pf Tryz.prog 182 [.str nm, .nil] (.d .nil) := by
 refine pf_body (rvs := [.tmp 4]) [(0, .d (.str nm)), (1, .d .nil)] Tryz.func182 Tryz.ntmps182 Tryz.results182 (fun S0 O0 w0 m0 hm0 => ?_)
 refine Z288 ?_;refine Z206 ?_
 have hno : ((decide (nm = mB) && false) == true) = false := by simp
 refine Z0 ?_;refine Z96 ?_;refine Z249 ?_
 refine g_callg (xs := [.tmp 9, .const (.int .i64 (1))]) rfl (fun hg => c184n 1) ?_
 refine Z241 ?_;refine Z262 ?_;refine Z262 ?_;refine Z6 ?_;refine Z12 ?_;refine Z234 ?_
 refine gC ?_ ?_ <;> intro hb0
 · exact absurd hb0 (by simp)
 refine Z53 ?_
 refine gP [0, 1, 4] ?_
 refine Z253 ?_;refine Z96 ?_;refine Z249 ?_
 refine g_callg (xs := [.tmp 29, .const (.int .i64 (2))]) rfl (fun hg => c184n 2) ?_
 refine Z12 ?_;refine Z234 ?_
 refine gC ?_ ?_ <;> intro hb1
 · exact absurd hb1 (by simp)
 refine Z91 ?_;refine Z229 ?_
 exact ⟨rfl, rfl⟩
set_option maxHeartbeats 1000000 in
theorem c182s (t : Tr) (nm : ByteArray) : Pf Tryz.prog 182 [.str nm, .ptr t.d] (.d (valD (unaryV nm (some t)))) := by
 obtain ⟨op, name, num, ks⟩ := t
 rw [Tr.d_mk]
 try simp only [Tr.op_mk, Tr.nm_mk, Tr.nu_mk, Tr.kids_mk]
 refine pf_body (rvs := [.tmp 4]) [(0, .d (.str nm)), (1, .d (.ptr (.agg [.int .i64 op, .str name, .int .i64 num, .sl (ks.map Tr.d)])))] Tryz.func182 Tryz.ntmps182 Tryz.results182 (fun S0 O0 w0 m0 hm0 => ?_)
 refine Z288 ?_;refine Z206 ?_;refine Z0 ?_;refine Z96 ?_;refine Z249 ?_
 refine g_callg (xs := [.tmp 9, .const (.int .i64 (1))]) rfl (fun hg => (Tr.d_mk op name num ks ▸ c184s (.mk op name num ks) 1)) ?_
 refine Z241 ?_;refine Z19 ?_
 refine sg rfl (fun hg => sP 13 rfl hg q_nilCheck) ?_
 refine sg rfl (fun hg => sP 14 rfl hg (qF u27 rfl sz3)) ?_
 refine sg rfl (fun hg => sP 15 rfl hg (qL u3)) ?_
 refine sg rfl (fun hg => sP 16 rfl hg q_neq) ?_
 refine Z12 ?_;refine Z234 ?_
 refine gC ?_ ?_ <;> intro hb0
 ·
  refine Z53 ?_
  refine gP [0, 1, 4] ?_
  refine Z253 ?_;refine Z171 ?_;refine Z238 ?_;refine Z216 ?_
  refine gL (xs := [.tmp 23]) rfl (c186 _) ?_
  refine Z283 ?_
  exact ⟨by rw [unaryV, if_pos (show ((decide (nm = mB) && op == 1) && num != minI) = true from hb0)]; rfl, rfl⟩
 refine Z53 ?_
 refine gP [0, 1, 4] ?_
 refine Z253 ?_;refine Z96 ?_;refine Z249 ?_
 refine g_callg (xs := [.tmp 29, .const (.int .i64 (2))]) rfl (fun hg => (Tr.d_mk op name num ks ▸ c184s (.mk op name num ks) 2)) ?_
 refine Z12 ?_;refine Z234 ?_
 refine gC ?_ ?_ <;> intro hb1
 ·
  refine Z254 ?_;refine Z171 ?_;refine Z266 ?_
  refine gL (xs := [.tmp 36]) rfl (c242 _) ?_
  refine Z283 ?_
  exact ⟨by rw [unaryV, if_neg (by rw [show ((decide (nm = mB) && op == 1) && num != minI) = false from hb0]; decide), if_pos (show (decide (nm = bangB) && op == 2) = true from hb1)], rfl⟩
 refine Z91 ?_;refine Z229 ?_
 exact ⟨by rw [unaryV, if_neg (by rw [show ((decide (nm = mB) && op == 1) && num != minI) = false from hb0]; decide), if_neg (by rw [show (decide (nm = bangB) && op == 2) = false from hb1]; decide)]; rfl, rfl⟩
theorem c182 (nm : ByteArray) (v : Option Tr) : Pf Tryz.prog 182 [.str nm, valD v] (.d (valD (unaryV nm v))) := by
 cases v with
 | none => exact c182n nm
 | some t => exact c182s t nm
theorem c290 (n : Int) (ok : Bool) : Pf Tryz.prog 290 [.int .i64 n, .bool ok] (.d (valD (fitsV n ok))) := by
 refine pf_body (rvs := [.tmp 4]) [(0, .d (.int .i64 n)), (1, .d (.bool ok))] Tryz.func290 Tryz.ntmps290 Tryz.results290 (fun S0 O0 w0 m0 hm0 => ?_)
 refine Z272 ?_;refine Z281 ?_
 refine gC ?_ ?_ <;> intro hb0
 ·
  refine Z286 ?_
  exact ⟨by (cases ok <;> first | rfl | cases hb0), rfl⟩
 refine Z43 ?_;refine Z0 ?_
 refine gL (xs := [.tmp 7]) rfl (c186 n) ?_
 refine Z229 ?_
 exact ⟨by (cases ok <;> first | rfl | cases hb0), rfl⟩
theorem c291 (a b : Int) : Pf Tryz.prog 291 [.int .i64 a, .int .i64 b] (.d (.bool (divB a b))) := by
 refine pf_body (rvs := [.tmp 4]) [(0, .d (.int .i64 a)), (1, .d (.int .i64 b))] Tryz.func291 Tryz.ntmps291 Tryz.results291 (fun S0 O0 w0 m0 hm0 => ?_)
 refine Z280 ?_;refine Z57 ?_;refine Z249 ?_
 refine sg rfl (fun hg => sP 8 rfl hg q_neq) ?_
 refine sg rfl (fun hg => sP 9 rfl hg qM) ?_
 refine Z19 ?_
 refine sg rfl (fun hg => sP 11 rfl hg q_neq) ?_
 refine sg rfl (fun hg => sP 10 rfl hg q_or) ?_
 refine Z257 ?_
 exact ⟨rfl, rfl⟩
set_option maxHeartbeats 1000000 in
theorem c292 (a b : Int) : Pf Tryz.prog 292 [.int .i64 a, .int .i64 b, .ptr (.fn (.func 290) [] [])] (.d (valD (addV a b))) := by
 refine pf_body (rvs := [.tmp 5]) [(0, .d (.int .i64 a)), (1, .d (.int .i64 b)), (2, .d (.ptr (.fn (.func 290) [] [])))] Tryz.func292 Tryz.ntmps292 Tryz.results292 (fun S0 O0 w0 m0 hm0 => ?_)
 refine Z240 ?_
 refine vq rfl (qL u283) ?_
 refine Z231 ?_;refine Z196 ?_;refine Z0 ?_
 refine vq rfl q_leq ?_
 refine Z249 ?_;refine Z19 ?_
 refine sg rfl (fun hg => sP 14 rfl hg (q_sub (hw := rfl))) ?_
 refine sg rfl (fun hg => sP 15 rfl hg (sP 13 rfl hg q_leq)) ?_
 refine Z22 ?_;refine Z249 ?_
 refine sg rfl (fun hg => sP 19 rfl hg q_geq) ?_
 refine sg rfl (fun hg => sP 20 rfl hg qM) ?_
 refine Z19 ?_;refine Z19 ?_
 refine sg rfl (fun hg => sP 23 rfl hg (q_sub (hw := rfl))) ?_
 refine sg rfl (fun hg => sP 24 rfl hg (sP 22 rfl hg q_geq)) ?_
 refine sg rfl (fun hg => sP 21 rfl hg q_or) ?_
 refine Z12 ?_
 refine gL (xs := [.tmp 9, .tmp 27]) rfl (c290 _ _) ?_
 refine Z229 ?_
 exact ⟨rfl, rfl⟩
set_option maxHeartbeats 1000000 in
theorem c293 (a b : Int) : Pf Tryz.prog 293 [.int .i64 a, .int .i64 b, .ptr (.fn (.func 290) [] [])] (.d (valD (subV a b))) := by
 refine pf_body (rvs := [.tmp 5]) [(0, .d (.int .i64 a)), (1, .d (.int .i64 b)), (2, .d (.ptr (.fn (.func 290) [] [])))] Tryz.func293 Tryz.ntmps293 Tryz.results293 (fun S0 O0 w0 m0 hm0 => ?_)
 refine Z240 ?_
 refine vq rfl (qL u283) ?_
 refine Z231 ?_;refine Z219 ?_;refine Z0 ?_;refine Z99 ?_;refine Z249 ?_;refine Z19 ?_
 refine sg rfl (fun hg => sP 14 rfl hg (q_add (hw := rfl))) ?_
 refine sg rfl (fun hg => sP 15 rfl hg (sP 13 rfl hg q_leq)) ?_
 refine Z22 ?_;refine Z249 ?_
 refine sg rfl (fun hg => sP 19 rfl hg q_leq) ?_
 refine sg rfl (fun hg => sP 20 rfl hg qM) ?_
 refine Z19 ?_;refine Z19 ?_
 refine sg rfl (fun hg => sP 23 rfl hg (q_add (hw := rfl))) ?_
 refine sg rfl (fun hg => sP 24 rfl hg (sP 22 rfl hg q_geq)) ?_
 refine sg rfl (fun hg => sP 21 rfl hg q_or) ?_
 refine Z12 ?_
 refine gL (xs := [.tmp 9, .tmp 27]) rfl (c290 _ _) ?_
 refine Z229 ?_
 exact ⟨rfl, rfl⟩
set_option maxHeartbeats 4000000 in
theorem c294 (a b : Int) : Pf Tryz.prog 294 [.int .i64 a, .int .i64 b, .ptr (.fn (.func 290) [] [])] (.d (valD (mulV a b))) := by
 refine pf_body (rvs := [.tmp 5]) [(0, .d (.int .i64 a)), (1, .d (.int .i64 b)), (2, .d (.ptr (.fn (.func 290) [] [])))] Tryz.func294 Tryz.ntmps294 Tryz.results294 (fun S0 O0 w0 m0 hm0 => ?_)
 refine Z288 ?_;refine Z30 ?_
 by_cases hbz : b = 0
 ·
  refine g_cg0 [6, 7, 8, 9, 10, 11, 12, 13, 14, 15, 16, 17, 18, 19, 20, 21, 22, 23, 24, 25, 26, 27, 28, 29, 30, 31, 32, 33, 34, 35, 36, 37, 38, 39, 40, 41, 5] ?_
  refine Z15 ?_
  refine cS 1 (fun _ _ _ _ _ => vq rfl (qL u283) (gN ⟨rfl, rfl⟩)) ?_
  refine Z15 ?_;refine Z116 ?_;refine Z15 ?_;refine Z71 ?_
  refine cP [1, 2] ?_
  refine cS 4 (fun _ _ _ _ _ => vq rfl (q_mul (hw := rfl)) (gN ⟨rfl, rfl⟩)) ?_
  refine Z15 ?_;refine Z46 ?_;refine Z77 ?_
  refine cS 6 (fun _ _ _ _ _ => vq rfl q_eql (gN ⟨rfl, rfl⟩)) ?_
  refine Z157 ?_;refine Z117 ?_;refine Z119 ?_
  refine cS 8 (fun _ _ _ _ _ => sg rfl (fun hg => qM) (gN ⟨rfl, rfl⟩)) ?_
  refine cP [7, 6] ?_
  refine cS 9 (fun _ _ _ _ _ => sg rfl (fun hg => sP 13 rfl hg q_eql) (gN ⟨rfl, rfl⟩)) ?_
  refine cP [6, 8] ?_
  refine cS 10 (fun _ _ _ _ _ => vq rfl q_or (gN ⟨rfl, rfl⟩)) ?_
  refine cP [9, 6] ?_
  refine cS 11 (fun _ _ _ _ _ => vq rfl qM (gN ⟨rfl, rfl⟩)) ?_
  refine cP [10] ?_
  refine cS 12 (fun _ _ _ _ _ => sg rfl (fun hg => qM) (gN ⟨rfl, rfl⟩)) ?_
  refine cP [11, 10] ?_
  refine cS 13 (fun _ _ _ _ _ => sg rfl (fun hg => sP 17 rfl hg q_neq) (gN ⟨rfl, rfl⟩)) ?_
  refine cP [12, 10, 10] ?_
  refine cS 14 (fun _ _ _ _ _ => sg rfl (fun hg => sP 18 rfl hg qM) (gN ⟨rfl, rfl⟩)) ?_
  refine cP [13] ?_
  refine cS 15 (fun _ _ _ _ _ => sg rfl (fun hg => qM) (gN ⟨rfl, rfl⟩)) ?_
  refine cP [14, 13] ?_
  refine cS 16 (fun _ _ _ _ _ => sg rfl (fun hg => sP 20 rfl hg q_neq) (gN ⟨rfl, rfl⟩)) ?_
  refine cP [13, 15, 10] ?_
  refine cS 17 (fun _ _ _ _ _ => sg rfl (fun hg => sP 19 rfl hg q_or) (gN ⟨rfl, rfl⟩)) ?_
  refine cP [16, 13, 10] ?_
  refine cS 18 (fun _ _ _ _ _ => sg rfl (fun hg => sP 22 rfl hg qM) (gN ⟨rfl, rfl⟩)) ?_
  refine cP [17] ?_
  refine cS 19 (fun _ _ _ _ _ => sg rfl (fun hg => qM) (gN ⟨rfl, rfl⟩)) ?_
  refine cP [18, 17] ?_
  refine cS 20 (fun _ _ _ _ _ => sg rfl (fun hg => sP 24 rfl hg q_neq) (gN ⟨rfl, rfl⟩)) ?_
  refine cP [19, 17, 17] ?_
  refine cS 21 (fun _ _ _ _ _ => sg rfl (fun hg => sP 25 rfl hg qM) (gN ⟨rfl, rfl⟩)) ?_
  refine cP [20] ?_
  refine cS 22 (fun _ _ _ _ _ => sg rfl (fun hg => qM) (gN ⟨rfl, rfl⟩)) ?_
  refine cP [21, 20] ?_
  refine cS 23 (fun _ _ _ _ _ => sg rfl (fun hg => sP 27 rfl hg q_neq) (gN ⟨rfl, rfl⟩)) ?_
  refine cP [20, 22, 17] ?_
  refine cS 24 (fun _ _ _ _ _ => sg rfl (fun hg => sP 26 rfl hg q_or) (gN ⟨rfl, rfl⟩)) ?_
  refine cP [17, 23, 10] ?_
  refine cS 25 (fun _ _ _ _ _ => sg rfl (fun hg => sP 23 rfl hg q_and) (gN ⟨rfl, rfl⟩)) ?_
  refine cP [24, 20, 10] ?_
  refine cS 26 (fun _ _ _ _ _ => sg rfl (fun hg => sP 30 rfl hg qM) (gN ⟨rfl, rfl⟩)) ?_
  refine Z212 ?_
  refine cS 27 (fun _ _ _ _ _ => sg rfl (fun hg => qM) (gN ⟨rfl, rfl⟩)) ?_
  refine Z212 ?_
  refine cS 28 (fun _ _ _ _ _ => sg rfl (fun hg => qM) (gN ⟨rfl, rfl⟩)) ?_
  refine cP [26, 27, 25] ?_
  refine cS 29 (fun _ _ _ _ _ => sg rfl (fun hg => sP 33 rfl hg (sP 32 rfl hg (q_mul (hw := rfl)))) (gN ⟨rfl, rfl⟩)) ?_
  refine Z212 ?_
  refine cS 30 (fun _ _ _ _ _ => sg rfl (fun hg => qM) (gN ⟨rfl, rfl⟩)) ?_
  refine cP [28, 29, 25] ?_
  refine cS 31 (fun _ _ _ _ _ => sgz (.int .i64 0) rfl (hf := by subst hbz; simp) (gN ⟨rfl, rfl⟩)) ?_
  refine Z212 ?_
  refine cS 32 (fun _ _ _ _ _ => sg rfl (fun hg => qM) (gN ⟨rfl, rfl⟩)) ?_
  refine cP [30, 31, 25] ?_
  refine cS 33 (fun _ _ _ _ _ => sg rfl (fun hg => sP 37 rfl hg (sP 36 rfl hg q_eql)) (gN ⟨rfl, rfl⟩)) ?_
  refine cP [25, 32, 10] ?_
  refine cS 34 (fun _ _ _ _ _ => sg rfl (fun hg => sP 31 rfl hg q_and) (gN ⟨rfl, rfl⟩)) ?_
  refine cP [10, 33] ?_
  refine cS 35 (fun _ _ _ _ _ => vq rfl q_or (gN ⟨rfl, rfl⟩)) ?_
  refine cP [0, 3, 34, 25] ?_
  refine cS 36 (fun _ _ _ _ _ => gL (xs := [.tmp 9, .tmp 40]) rfl (c290 _ _) (gN ⟨rfl, rfl⟩)) ?_
  refine cP [35, 35, 0, 1, 2, 3, 4, 5, 6, 7, 8, 9, 10, 11, 12, 13, 14, 15, 16, 17, 18, 19, 20, 21, 22, 23, 24, 25, 26, 27, 28, 29, 30, 31, 32, 33, 34, 35] ?_
  refine cS 37 (fun _ _ _ _ _ => vq rfl qA (gN ⟨rfl, rfl⟩)) ?_
  refine Z84 ?_
  refine tN (gT ?_)
  refine Z4 ?_
  exact ⟨by rw [mulV]; subst hbz; simp; rfl, rfl⟩
 refine g_cg0 [6, 7, 8, 9, 10, 11, 12, 13, 14, 15, 16, 17, 18, 19, 20, 21, 22, 23, 24, 25, 26, 27, 28, 29, 30, 31, 32, 33, 34, 35, 36, 37, 38, 39, 40, 41, 5] ?_
 refine Z15 ?_
 refine cS 1 (fun _ _ _ _ _ => vq rfl (qL u283) (gN ⟨rfl, rfl⟩)) ?_
 refine Z15 ?_;refine Z116 ?_;refine Z15 ?_;refine Z71 ?_
 refine cP [1, 2] ?_
 refine cS 4 (fun _ _ _ _ _ => vq rfl (q_mul (hw := rfl)) (gN ⟨rfl, rfl⟩)) ?_
 refine Z15 ?_;refine Z46 ?_;refine Z77 ?_
 refine cS 6 (fun _ _ _ _ _ => vq rfl q_eql (gN ⟨rfl, rfl⟩)) ?_
 refine Z157 ?_;refine Z117 ?_;refine Z119 ?_
 refine cS 8 (fun _ _ _ _ _ => sg rfl (fun hg => qM) (gN ⟨rfl, rfl⟩)) ?_
 refine cP [7, 6] ?_
 refine cS 9 (fun _ _ _ _ _ => sg rfl (fun hg => sP 13 rfl hg q_eql) (gN ⟨rfl, rfl⟩)) ?_
 refine cP [6, 8] ?_
 refine cS 10 (fun _ _ _ _ _ => vq rfl q_or (gN ⟨rfl, rfl⟩)) ?_
 refine cP [9, 6] ?_
 refine cS 11 (fun _ _ _ _ _ => vq rfl qM (gN ⟨rfl, rfl⟩)) ?_
 refine cP [10] ?_
 refine cS 12 (fun _ _ _ _ _ => sg rfl (fun hg => qM) (gN ⟨rfl, rfl⟩)) ?_
 refine cP [11, 10] ?_
 refine cS 13 (fun _ _ _ _ _ => sg rfl (fun hg => sP 17 rfl hg q_neq) (gN ⟨rfl, rfl⟩)) ?_
 refine cP [12, 10, 10] ?_
 refine cS 14 (fun _ _ _ _ _ => sg rfl (fun hg => sP 18 rfl hg qM) (gN ⟨rfl, rfl⟩)) ?_
 refine cP [13] ?_
 refine cS 15 (fun _ _ _ _ _ => sg rfl (fun hg => qM) (gN ⟨rfl, rfl⟩)) ?_
 refine cP [14, 13] ?_
 refine cS 16 (fun _ _ _ _ _ => sg rfl (fun hg => sP 20 rfl hg q_neq) (gN ⟨rfl, rfl⟩)) ?_
 refine cP [13, 15, 10] ?_
 refine cS 17 (fun _ _ _ _ _ => sg rfl (fun hg => sP 19 rfl hg q_or) (gN ⟨rfl, rfl⟩)) ?_
 refine cP [16, 13, 10] ?_
 refine cS 18 (fun _ _ _ _ _ => sg rfl (fun hg => sP 22 rfl hg qM) (gN ⟨rfl, rfl⟩)) ?_
 refine cP [17] ?_
 refine cS 19 (fun _ _ _ _ _ => sg rfl (fun hg => qM) (gN ⟨rfl, rfl⟩)) ?_
 refine cP [18, 17] ?_
 refine cS 20 (fun _ _ _ _ _ => sg rfl (fun hg => sP 24 rfl hg q_neq) (gN ⟨rfl, rfl⟩)) ?_
 refine cP [19, 17, 17] ?_
 refine cS 21 (fun _ _ _ _ _ => sg rfl (fun hg => sP 25 rfl hg qM) (gN ⟨rfl, rfl⟩)) ?_
 refine cP [20] ?_
 refine cS 22 (fun _ _ _ _ _ => sg rfl (fun hg => qM) (gN ⟨rfl, rfl⟩)) ?_
 refine cP [21, 20] ?_
 refine cS 23 (fun _ _ _ _ _ => sg rfl (fun hg => sP 27 rfl hg q_neq) (gN ⟨rfl, rfl⟩)) ?_
 refine cP [20, 22, 17] ?_
 refine cS 24 (fun _ _ _ _ _ => sg rfl (fun hg => sP 26 rfl hg q_or) (gN ⟨rfl, rfl⟩)) ?_
 refine cP [17, 23, 10] ?_
 refine cS 25 (fun _ _ _ _ _ => sg rfl (fun hg => sP 23 rfl hg q_and) (gN ⟨rfl, rfl⟩)) ?_
 refine cP [24, 20, 10] ?_
 refine cS 26 (fun _ _ _ _ _ => sg rfl (fun hg => sP 30 rfl hg qM) (gN ⟨rfl, rfl⟩)) ?_
 refine Z212 ?_
 refine cS 27 (fun _ _ _ _ _ => sg rfl (fun hg => qM) (gN ⟨rfl, rfl⟩)) ?_
 refine Z212 ?_
 refine cS 28 (fun _ _ _ _ _ => sg rfl (fun hg => qM) (gN ⟨rfl, rfl⟩)) ?_
 refine cP [26, 27, 25] ?_
 refine cS 29 (fun _ _ _ _ _ => sg rfl (fun hg => sP 33 rfl hg (sP 32 rfl hg (q_mul (hw := rfl)))) (gN ⟨rfl, rfl⟩)) ?_
 refine Z212 ?_
 refine cS 30 (fun _ _ _ _ _ => sg rfl (fun hg => qM) (gN ⟨rfl, rfl⟩)) ?_
 refine cP [28, 29, 25] ?_
 refine cS 31 (fun _ _ _ _ _ => sg rfl (fun hg => sP 35 rfl hg (sP 34 rfl hg (q_quo hbz rfl))) (gN ⟨rfl, rfl⟩)) ?_
 refine Z212 ?_
 refine cS 32 (fun _ _ _ _ _ => sg rfl (fun hg => qM) (gN ⟨rfl, rfl⟩)) ?_
 refine cP [30, 31, 25] ?_
 refine cS 33 (fun _ _ _ _ _ => sg rfl (fun hg => sP 37 rfl hg (sP 36 rfl hg q_eql)) (gN ⟨rfl, rfl⟩)) ?_
 refine cP [25, 32, 10] ?_
 refine cS 34 (fun _ _ _ _ _ => sg rfl (fun hg => sP 31 rfl hg q_and) (gN ⟨rfl, rfl⟩)) ?_
 refine cP [10, 33] ?_
 refine cS 35 (fun _ _ _ _ _ => vq rfl q_or (gN ⟨rfl, rfl⟩)) ?_
 refine cP [0, 3, 34, 25] ?_
 refine cS 36 (fun _ _ _ _ _ => gL (xs := [.tmp 9, .tmp 40]) rfl (c290 _ _) (gN ⟨rfl, rfl⟩)) ?_
 refine cP [35, 35, 0, 1, 2, 3, 4, 5, 6, 7, 8, 9, 10, 11, 12, 13, 14, 15, 16, 17, 18, 19, 20, 21, 22, 23, 24, 25, 26, 27, 28, 29, 30, 31, 32, 33, 34, 35] ?_
 refine cS 37 (fun _ _ _ _ _ => vq rfl qA (gN ⟨rfl, rfl⟩)) ?_
 refine Z84 ?_
 refine tN (gT ?_)
 refine Z4 ?_
 exact ⟨rfl, rfl⟩
theorem c295 (a b : Int) : Pf Tryz.prog 295 [.int .i64 a, .int .i64 b, .ptr (.fn (.func 291) [] [])] (.d (valD (quoV a b))) := by
 refine pf_body (rvs := [.tmp 5]) [(0, .d (.int .i64 a)), (1, .d (.int .i64 b)), (2, .d (.ptr (.fn (.func 291) [] [])))] Tryz.func295 Tryz.ntmps295 Tryz.results295 (fun S0 O0 w0 m0 hm0 => ?_)
 refine Z3 ?_;refine Z233 ?_
 refine vq rfl (qL u251) ?_
 refine Z231 ?_
 refine gL (xs := [.tmp 7, .tmp 8]) rfl (c291 a b) ?_
 refine Z281 ?_
 refine gC ?_ ?_ <;> intro hb0
 ·
  refine Z286 ?_
  exact ⟨by (rw [quoV, if_pos hb0] <;> rfl), rfl⟩
 have hz : b ≠ 0 := by
  rintro rfl
  simp [divB] at hb0
 refine Z43 ?_;refine Z231 ?_
 refine vq rfl (q_quo hz rfl) ?_
 refine gL (xs := [.tmp 13]) rfl (c186 _) ?_
 refine Z229 ?_
 exact ⟨by (rw [quoV, if_neg (by rw [hb0]; decide)] <;> rfl), rfl⟩
theorem c296 (a b : Int) : Pf Tryz.prog 296 [.int .i64 a, .int .i64 b, .ptr (.fn (.func 291) [] [])] (.d (valD (remV a b))) := by
 refine pf_body (rvs := [.tmp 5]) [(0, .d (.int .i64 a)), (1, .d (.int .i64 b)), (2, .d (.ptr (.fn (.func 291) [] [])))] Tryz.func296 Tryz.ntmps296 Tryz.results296 (fun S0 O0 w0 m0 hm0 => ?_)
 refine Z3 ?_;refine Z233 ?_
 refine vq rfl (qL u251) ?_
 refine Z231 ?_
 refine gL (xs := [.tmp 7, .tmp 8]) rfl (c291 a b) ?_
 refine Z281 ?_
 refine gC ?_ ?_ <;> intro hb0
 ·
  refine Z286 ?_
  exact ⟨by (rw [remV, if_pos hb0] <;> rfl), rfl⟩
 have hz : b ≠ 0 := by
  rintro rfl
  simp [divB] at hb0
 refine Z43 ?_;refine Z231 ?_
 refine vq rfl (q_rem hz rfl) ?_
 refine gL (xs := [.tmp 13]) rfl (c186 _) ?_
 refine Z229 ?_
 exact ⟨by (rw [remV, if_neg (by rw [hb0]; decide)] <;> rfl), rfl⟩
theorem c297 (a b : Int) : Pf Tryz.prog 297 [.int .i64 a, .int .i64 b] (.d (.bool (a == b))) := by
 refine pf_body (rvs := [.tmp 4]) [(0, .d (.int .i64 a)), (1, .d (.int .i64 b))] Tryz.func297 Tryz.ntmps297 Tryz.results297 (fun S0 O0 w0 m0 hm0 => ?_)
 refine Z274 ?_;refine Z20 ?_;refine Z229 ?_
 exact ⟨rfl, rfl⟩
theorem c298 (a b : Int) : Pf Tryz.prog 298 [.int .i64 a, .int .i64 b] (.d (.bool (a != b))) := by
 refine pf_body (rvs := [.tmp 4]) [(0, .d (.int .i64 a)), (1, .d (.int .i64 b))] Tryz.func298 Tryz.ntmps298 Tryz.results298 (fun S0 O0 w0 m0 hm0 => ?_)
 refine Z274 ?_;refine Z57 ?_;refine Z229 ?_
 exact ⟨rfl, rfl⟩
theorem c299 (a b : Int) : Pf Tryz.prog 299 [.int .i64 a, .int .i64 b] (.d (.bool (decide (a < b)))) := by
 refine pf_body (rvs := [.tmp 4]) [(0, .d (.int .i64 a)), (1, .d (.int .i64 b))] Tryz.func299 Tryz.ntmps299 Tryz.results299 (fun S0 O0 w0 m0 hm0 => ?_)
 refine Z274 ?_;refine Z40 ?_;refine Z229 ?_
 exact ⟨rfl, rfl⟩
theorem c300 (a b : Int) : Pf Tryz.prog 300 [.int .i64 a, .int .i64 b] (.d (.bool (decide (a ≤ b)))) := by
 refine pf_body (rvs := [.tmp 4]) [(0, .d (.int .i64 a)), (1, .d (.int .i64 b))] Tryz.func300 Tryz.ntmps300 Tryz.results300 (fun S0 O0 w0 m0 hm0 => ?_)
 refine Z274 ?_
 refine vq rfl q_leq ?_
 refine Z229 ?_
 exact ⟨rfl, rfl⟩
theorem c301 (a b : Int) : Pf Tryz.prog 301 [.int .i64 a, .int .i64 b] (.d (.bool (decide (a > b)))) := by
 refine pf_body (rvs := [.tmp 4]) [(0, .d (.int .i64 a)), (1, .d (.int .i64 b))] Tryz.func301 Tryz.ntmps301 Tryz.results301 (fun S0 O0 w0 m0 hm0 => ?_)
 refine Z274 ?_;refine Z109 ?_;refine Z229 ?_
 exact ⟨rfl, rfl⟩
theorem c302 (a b : Int) : Pf Tryz.prog 302 [.int .i64 a, .int .i64 b] (.d (.bool (decide (a ≥ b)))) := by
 refine pf_body (rvs := [.tmp 4]) [(0, .d (.int .i64 a)), (1, .d (.int .i64 b))] Tryz.func302 Tryz.ntmps302 Tryz.results302 (fun S0 O0 w0 m0 hm0 => ?_)
 refine Z274 ?_;refine Z99 ?_;refine Z229 ?_
 exact ⟨rfl, rfl⟩
structure Op2 (α : Type) where
 g : Nat
 caps : List D
 f : Int → Int → α
def Op2.d {α : Type} (o : Op2 α) : D := .fn (.func o.g) [] o.caps
def intTab : List (ByteArray × Op2 (Option Tr)) := [(⟨#[43]⟩, ⟨292, [.ptr (.fn (.func 290) [] [])], addV⟩), (⟨#[45]⟩, ⟨293, [.ptr (.fn (.func 290) [] [])], subV⟩), (⟨#[42]⟩, ⟨294, [.ptr (.fn (.func 290) [] [])], mulV⟩), (⟨#[47]⟩, ⟨295, [.ptr (.fn (.func 291) [] [])], quoV⟩), (⟨#[37]⟩, ⟨296, [.ptr (.fn (.func 291) [] [])], remV⟩)]
def cmpTab : List (ByteArray × Op2 Bool) := [(⟨#[61, 61]⟩, ⟨297, [], fun a b => a == b⟩), (⟨#[33, 61]⟩, ⟨298, [], fun a b => a != b⟩), (⟨#[60]⟩, ⟨299, [], fun a b => decide (a < b)⟩), (⟨#[60, 61]⟩, ⟨300, [], fun a b => decide (a ≤ b)⟩), (⟨#[62]⟩, ⟨301, [], fun a b => decide (a > b)⟩), (⟨#[62, 61]⟩, ⟨302, [], fun a b => decide (a ≥ b)⟩)]
def tabM {α : Type} (l : List (ByteArray × Op2 α)) : List (D × D) := l.map fun x => (.str x.1, x.2.d)
def tabGet {α : Type} (l : List (ByteArray × Op2 α)) (nm : ByteArray) : Option (Op2 α) := (l.find? fun x => decide (x.1 = nm)).map (·.2)
variable {α : Type}
theorem find_tab (l : List (ByteArray × Op2 α)) (nm : ByteArray) : (tabM l).find? (fun x => x.1.keyEq (.str nm)) = (l.find? fun x => decide (x.1 = nm)).map fun x => (D.str x.1, x.2.d) := by
 have h : ((fun x : D × D => x.1.keyEq (.str nm)) ∘ fun x : ByteArray × Op2 α => (D.str x.1, x.2.d)) = fun x => decide (x.1 = nm) := rfl
 unfold tabM
 rw [List.find?_map, h]
theorem mget_tab (l : List (ByteArray × Op2 α)) (nm : ByteArray) (z : D) : mget (tabM l) (.str nm) z = match tabGet l nm with | some s => s.d | none => z := by
 unfold mget tabGet
 rw [find_tab]
 cases l.find? (fun x => decide (x.1 = nm)) <;> rfl
theorem mhas_tab (l : List (ByteArray × Op2 α)) (nm : ByteArray) : mhas (tabM l) (.str nm) = (tabGet l nm).isSome := by
 have h : ((fun x : D × D => x.1.keyEq (.str nm)) ∘ fun x : ByteArray × Op2 α => (D.str x.1, x.2.d)) = fun x => decide (x.1 = nm) := rfl
 unfold mhas tabGet tabM
 rw [List.any_map, h, Option.isSome_map, Bool.eq_iff_iff, List.any_eq_true, List.find?_isSome]
variable {nm : ByteArray}
theorem tabGet_mem {α : Type} {l : List (ByteArray × Op2 α)} {o : Op2 α} (h : tabGet l nm = some o) : ∃ x ∈ l, x.2 = o := by
 unfold tabGet at h
 cases hf : l.find? (fun x => decide (x.1 = nm)) with
 | none => rw [hf] at h; cases h
 | some x =>
  rw [hf] at h
  injection h with h
  exact ⟨x, List.mem_of_find?_eq_some hf, h⟩
theorem intTab_ok {g : Nat} {caps : List D} {f : Int → Int → Option Tr} (h : tabGet intTab nm = some ⟨g, caps, f⟩) (a b : Int) : Pf Tryz.prog g ([] ++ [.int .i64 a, .int .i64 b] ++ caps) (.d (valD (f a b))) := by
 obtain ⟨x, hx, he⟩ := tabGet_mem h
 simp only [intTab, List.mem_cons, List.not_mem_nil, or_false] at hx
 rcases hx with rfl | rfl | rfl | rfl | rfl <;> (injection he with h1 h2 h3; subst h1; subst h2; subst h3)
 · exact c292 a b
 · exact c293 a b
 · exact c294 a b
 · exact c295 a b
 · exact c296 a b
theorem cmpTab_ok {g : Nat} {caps : List D} {f : Int → Int → Bool} (h : tabGet cmpTab nm = some ⟨g, caps, f⟩) (a b : Int) : Pf Tryz.prog g ([] ++ [.int .i64 a, .int .i64 b] ++ caps) (.d (.bool (f a b))) := by
 obtain ⟨x, hx, he⟩ := tabGet_mem h
 simp only [cmpTab, List.mem_cons, List.not_mem_nil, or_false] at hx
 rcases hx with rfl | rfl | rfl | rfl | rfl | rfl <;> (injection he with h1 h2 h3; subst h1; subst h2; subst h3)
 · exact c297 a b
 · exact c298 a b
 · exact c299 a b
 · exact c300 a b
 · exact c301 a b
 · exact c302 a b
set_option maxHeartbeats 4000000 in
theorem c244  : Pf Tryz.prog 244 [] (.d (.map (tabM intTab))) := by
 refine pf_body (rvs := [.tmp 0]) [] Tryz.func244 Tryz.ntmps244 Tryz.results244 (fun S0 O0 w0 m0 hm0 => ?_)
 refine Z240 ?_
 refine sv rfl (y_alloc zr283) ?_
 refine sa rfl (dS sz283) ?_
 refine gF 0 [] (.fn (.func 290) [] []) rfl ?_
 refine Z5 ?_
 refine sv rfl (y_alloc zr251) ?_
 refine sa rfl (dS sz251) ?_
 refine gF 0 [] (.fn (.func 291) [] []) rfl ?_
 refine Z5 ?_
 refine sv rfl y_makeMap ?_
 refine Z181 ?_;refine Z198 ?_;refine Z181 ?_;refine Z198 ?_;refine Z181 ?_;refine Z198 ?_
 refine vq rfl (q_makeFunc (xs := []) (ys := [.tmp 2])) ?_
 refine Z198 ?_
 refine vq rfl (q_makeFunc (xs := []) (ys := [.tmp 2])) ?_
 refine Z198 ?_;refine Z0 ?_;refine Z1 ?_
 refine g_freezeM 0 [] rfl ?_
 refine Z7 ?_;refine Z4 ?_
 exact ⟨rfl, rfl⟩
set_option maxHeartbeats 4000000 in
theorem c245  : Pf Tryz.prog 245 [] (.d (.map (tabM cmpTab))) := by
 refine pf_body (rvs := [.tmp 0]) [] Tryz.func245 Tryz.ntmps245 Tryz.results245 (fun S0 O0 w0 m0 hm0 => ?_)
 refine Z240 ?_
 refine sv rfl y_makeMap ?_
 refine Z178 ?_;refine Z178 ?_;refine Z178 ?_;refine Z178 ?_;refine Z178 ?_;refine Z178 ?_;refine Z0 ?_;refine Z1 ?_
 refine g_freezeM 0 [] rfl ?_
 refine Z7 ?_;refine Z4 ?_
 exact ⟨rfl, rfl⟩
end
section
abbrev KL := List (ByteArray × Option Tr)
def knD : KL → D
 | [] => .nil
 | x :: r => .ptr (.agg [.str x.1, valD x.2, knD r])
theorem knD_cells (l : KL) : (knD l).cells = [knD l] := by cases l <;> rfl
def findK (nm : ByteArray) : KL → Option Tr
 | [] => none
 | x :: r => if x.1 = nm then x.2 else findK nm r
theorem c181 (l : KL) (nm : ByteArray) : Pf Tryz.prog 181 [knD l, .str nm] (.d (valD (findK nm l))) := by
 refine pf_body (rvs := [.tmp 4]) [(0, .d (knD l)), (1, .d (.str nm))] Tryz.func181 Tryz.ntmps181 Tryz.results181 (fun S0 O0 w0 m0 hm0 => ?_)
 refine Z288 ?_
 refine gN (tN (gS (G_block ?_)))
 refine g_loop (α := KL) (fun z => ⟨[(0, .d (knD z)), (1, .d (.str nm))], []⟩) (fun z => z.length) (fun z => findK nm z = findK nm l) l rfl (fun z hz Q' hn0 he0 hr0 => ?_) (le_of)
 skip
 refine gS (gS ?_)
 rcases z with _ | ⟨⟨zn, zv⟩, zr⟩
 ·
  refine Z14 ?_
  rw [knD]
  refine Z0 ?_
  refine vq rfl ((q_ptrneq u141)) ?_
  refine Z10 ?_
  refine gC ?_ ?_ <;> intro hb0
  · exact absurd hb0 (by decide)
  refine Z259 ?_;refine Z229 ?_
  exact ⟨by rw [← hz]; try rfl, rfl⟩
 refine Z14 ?_
 rw [knD]
 have hcz := valD_cells zv
 have hck := knD_cells zr
 refine Z0 ?_
 refine vq rfl ((q_ptrneq u141)) ?_
 refine Z10 ?_
 refine gC ?_ ?_ <;> intro hb1
 ·
  refine Z268 ?_;refine Z171 ?_
  refine vq rfl (qF u168 rfl sz9) ?_
  refine Z49 ?_;refine Z0 ?_;refine Z96 ?_;refine Z10 ?_
  refine gC ?_ ?_ <;> intro hb2
  ·
   refine Z254 ?_;refine Z171 ?_
   refine vq rfl (qF u168 rfl sz139) ?_
   refine vq rfl (qL u139) ?_
   refine Z242 ?_;refine Z276 ?_;refine Z4 ?_
   exact ⟨by rw [← hz, findK, if_pos (oR hb2)], rfl⟩
  refine Z100 ?_;refine Z0 ?_;refine Z171 ?_
  refine vq rfl (qF u168 rfl sz141) ?_
  refine vq rfl (qL u141) ?_
  refine Z1 ?_;refine Z52 ?_
  refine hn0 _ zr (by rw [← hz, findK, if_neg (of_decide_eq_false hb2)]) (by simp) le_of
 exact absurd hb1 (by decide)
def andB : ByteArray := ⟨#[38, 38]⟩
def orB : ByteArray := ⟨#[124, 124]⟩
def eqB : ByteArray := ⟨#[61, 61]⟩
def neB : ByteArray := ⟨#[33, 61]⟩
def cmpV (nm : ByteArray) (a b : Option Tr) : Option Tr := match tabGet cmpTab nm with
 | none => none
 | some o => if ((isV a 1 && isV b 1) || ((isV a 2 && isV b 2) && (decide (nm = eqB) || decide (nm = neB)))) = true then some (boolT (o.f (nuV a) (nuV b))) else none
def binV (nm : ByteArray) (a b : Option Tr) : Option Tr :=
 if (decide (nm = andB) || decide (nm = orB)) = true then
  (if (!isV a 2) = true then none else if (decide (nm = orB) == (nuV a == 1)) = true then a else if isV b 2 = true then b else none)
 else match tabGet intTab nm with
  | some o => if (isV a 1 && isV b 1) = true then o.f (nuV a) (nuV b) else cmpV nm a b
  | none => cmpV nm a b
theorem valD_cof (v : Option Tr) : (PV.d (valD v)).cellsOf = [.d (valD v)] := by cases v <;> rfl
theorem isV_some {v : Option Tr} {k : Int} (h : isV v k = true) : ∃ t, v = some t ∧ t.op = k := by
 cases v with
 | none => cases h
 | some t => exact ⟨t, rfl, by simpa [isV] using h⟩
theorem c243 (k : Int) (a b : Option Tr) : Pf Tryz.prog 243 [.int .i64 k, .ptr (valD a), .ptr (valD b)] (.d (.bool (isV a k && isV b k))) := by
 refine pf_body (rvs := [.tmp 4]) [(0, .d (.int .i64 k)), (1, .d (.ptr (valD a))), (2, .d (.ptr (valD b)))] Tryz.func243 Tryz.ntmps243 Tryz.results243 (fun S0 O0 w0 m0 hm0 => ?_)
 refine Z3 ?_
 have hca := valD_cells a
 have hcb := valD_cells b
 refine Z230 ?_
 refine vq rfl (qL u139) ?_
 refine Z0 ?_
 refine gL (xs := [.tmp 5, .tmp 6]) rfl (c184 a k) ?_
 refine Z0 ?_
 refine sg rfl (fun hg => qL u139) ?_
 refine Z19 ?_
 refine g_callg (xs := [.tmp 9, .tmp 10]) rfl (fun hg => c184 b k) ?_
 refine Z257 ?_
 exact ⟨rfl, rfl⟩
set_option maxHeartbeats 8000000 in
theorem c183 (l : KL) (op : Int) (nm : ByteArray) (num : Int) (k0 k1 : Tr) (a b : Option Tr) (h0 : Pf Tryz.prog 104 [k0.d, knD l] (.d (valD a))) (h1 : Pf Tryz.prog 104 [k1.d, knD l] (.d (valD b))) : Pf Tryz.prog 183 [.agg [.int .i64 op, .str nm, .int .i64 num, .sl ([k0, k1].map Tr.d)], knD l] (.d (valD (binV nm a b))) := by
 refine pf_body (rvs := [.tmp 4]) [(0, .d (.agg [.int .i64 op, .str nm, .int .i64 num, .sl ([k0, k1].map Tr.d)])), (1, .d (knD l))] Tryz.func183 Tryz.ntmps183 Tryz.results183 (fun S0 O0 w0 m0 hm0 => ?_)
 refine Z3 ?_
 obtain ⟨op0, nm0, nu0, ks0, ha0⟩ := k0.d_agg
 obtain ⟨op1, nm1, nu1, ks1, ha1⟩ := k1.d_agg
 have hx0 : ([k0, k1].map Tr.d)[0]? = some (.agg [.int .i64 op0, .str nm0, .int .i64 nu0, .sl (ks0.map Tr.d)]) := by rw [← ha0]; rfl
 have hx1 : ([k0, k1].map Tr.d)[1]? = some (.agg [.int .i64 op1, .str nm1, .int .i64 nu1, .sl (ks1.map Tr.d)]) := by rw [← ha1]; rfl
 have hca := valD_cells a
 have hcb := valD_cells b
 refine Z13 ?_
 refine gF 0 [] (.agg [.int .i64 op, .str nm, .int .i64 num, .sl ([k0, k1].map Tr.d)]) rfl ?_
 refine Z230 ?_;refine Z250 ?_;refine Z258 ?_;refine Z0 ?_
 refine gL (xs := [.tmp 17, .tmp 18]) rfl ((ha0 ▸ h0)) ?_
 refine sv rfl (y_alloc zr139) ?_
 refine sa rfl (dS (hps := valD_cof _) sz139) ?_
 refine gF 0 [] (valD a) rfl ?_
 refine Z11 ?_;refine Z270 ?_;refine Z96 ?_;refine Z0 ?_;refine Z50 ?_
 refine sg rfl (fun hg => sP 24 rfl hg (qL u9)) ?_
 refine sg rfl (fun hg => sP 25 rfl hg q_streq) ?_
 refine Z251 ?_
 refine gC ?_ ?_ <;> intro hb0
 ·
  refine gS (gS ?_)
  refine Z290 ?_
  refine vq rfl (qL u139) ?_
  refine gL (xs := [.tmp 28, .const (.int .i64 (2))]) rfl (c184 a 2) ?_
  refine Z281 ?_
  refine gC ?_ ?_ <;> intro hb1
  ·
   refine Z288 ?_;refine Z187 ?_;refine Z4 ?_
   exact ⟨by rw [binV, if_pos (show (decide (nm = andB) || decide (nm = orB)) = true from hb0), if_pos hb1]; try rfl, rfl⟩
  obtain ⟨ta, rfl, haop⟩ := isV_some (show isV a 2 = true by simpa using hb1)
  obtain ⟨aop, anm, anu, aks, haa⟩ := ta.d_agg
  have hna : nuV (some ta) = anu := by obtain ⟨o, n, u, l⟩ := ta; rw [Tr.d_mk] at haa; injection haa with ha; injection ha with ha1 ha; injection ha with ha2 ha; injection ha with ha3 ha; injection ha3
  rw [show valD (some ta) = .ptr ta.d from rfl, haa]
  refine Z185 ?_
  refine G_draw 10 [0, 1, 2, 3, 4, 5, 6, 7, 8, 9] rfl rfl (by kernel_rfl) ?_
  refine sq rfl (qF u27 rfl sz9) ?_
  refine sq rfl (qL u9) ?_
  refine sq rfl q_streq ?_
  refine sq rfl (qL u139) ?_
  refine sq rfl q_nilCheck ?_
  refine sq rfl (qF u27 rfl sz3) ?_
  refine sq rfl (qL u3) ?_
  refine sq rfl q_eql ?_
  refine sq rfl (q_booleq u4) ?_
  refine sq rfl qA ?_
  refine GQ_nil (by kernel_rfl) (tN (gS ?_))
  refine Z37 ?_;refine Z253 ?_;refine Z10 ?_
  refine gC ?_ ?_ <;> intro hb2
  ·
   refine Z3 ?_
   refine vq rfl (qL u139) ?_
   refine Z1 ?_;refine Z187 ?_;refine Z4 ?_
   exact ⟨by rw [binV, if_pos (show (decide (nm = andB) || decide (nm = orB)) = true from hb0), if_neg (by rw [hb1]; decide), hna, if_pos (show (decide (nm = orB) == (anu == 1)) = true from hb2)]; rw [← haa]; try rfl, rfl⟩
  refine Z103 ?_;refine Z250 ?_;refine Z258 ?_;refine Z0 ?_
  refine gL (xs := [.tmp 45, .tmp 46]) rfl ((ha1 ▸ h1)) ?_
  refine Z277 ?_
  refine gL (xs := [.tmp 48, .const (.int .i64 (2))]) rfl (c184 b 2) ?_
  refine Z10 ?_
  refine gC ?_ ?_ <;> intro hb3
  ·
   refine Z254 ?_;refine Z1 ?_;refine Z187 ?_;refine Z4 ?_
   exact ⟨by rw [binV, if_pos (show (decide (nm = andB) || decide (nm = orB)) = true from hb0), if_neg (by rw [hb1]; decide), hna, if_neg (by rw [show (decide (nm = orB) == (anu == 1)) = false from hb2]; decide), if_pos hb3], rfl⟩
  refine Z43 ?_;refine Z243 ?_
  exact ⟨by rw [binV, if_pos (show (decide (nm = andB) || decide (nm = orB)) = true from hb0), if_neg (by rw [hb1]; decide), hna, if_neg (by rw [show (decide (nm = orB) == (anu == 1)) = false from hb2]; decide), if_neg (by rw [hb3]; decide)]; try rfl, rfl⟩
 refine Z58 ?_;refine Z290 ?_;refine Z250 ?_;refine Z258 ?_;refine Z0 ?_
 refine gL (xs := [.tmp 54, .tmp 55]) rfl ((ha1 ▸ h1)) ?_
 refine sv rfl (y_alloc zr139) ?_
 refine sa rfl (dS (hps := valD_cof _) sz139) ?_
 refine gF 0 [] (valD b) rfl ?_
 refine Z5 ?_
 refine vq rfl (q_makeFunc (xs := []) (ys := [.tmp 5, .tmp 8])) ?_
 refine Z1 ?_;refine Z136 ?_
 rcases hti : tabGet intTab nm with _ | ⟨g, caps, f⟩
 ·
  refine g_cg0 [59, 60, 61, 62, 58, 63, 64, 10, 11] ?_
  refine Z15 ?_
  refine cS 1 (fun _ _ _ _ _ => gL (xs := []) rfl (c244) (gN ⟨rfl, rfl⟩)) ?_
  refine Z15 ?_;refine Z72 ?_;refine Z110 ?_;refine Z80 ?_;refine Z215 ?_
  refine cS 4 (fun _ _ _ _ _ => vq rfl ((q_lookup2 (zd := .nilF) u249 u9 zr247)) (gN ⟨rfl, rfl⟩)) ?_
  rw [mget_tab, mhas_tab, hti]
  dsimp only [Op2.d, Option.isSome]
  refine Z111 ?_;refine Z46 ?_;refine Z77 ?_;refine Z87 ?_;refine Z77 ?_;refine Z88 ?_;refine Z174 ?_;refine Z89 ?_;refine Z155 ?_;refine Z90 ?_;refine Z84 ?_;refine Z173 ?_;refine Z290 ?_
  have hno : (false == true) = false := rfl
  refine Z231 ?_;refine Z262 ?_;refine Z287 ?_
  refine gC ?_ ?_ <;> intro hb4
  · exact absurd hb4 (by simp)
  refine Z185 ?_
  rcases hct : tabGet cmpTab nm with _ | ⟨g2, caps2, f2⟩
  ·
   refine Z189 ?_;refine Z15 ?_;refine Z128 ?_;refine Z15 ?_;refine Z72 ?_;refine Z110 ?_;refine Z80 ?_;refine Z215 ?_;refine Z98 ?_
   rw [mget_tab, mhas_tab, hct]
   dsimp only [Op2.d, Option.isSome]
   refine Z111 ?_;refine Z46 ?_;refine Z77 ?_;refine Z87 ?_;refine Z77 ?_;refine Z88 ?_;refine Z174 ?_;refine Z89 ?_;refine Z155 ?_;refine Z90 ?_;refine Z84 ?_;refine Z173 ?_;refine Z290 ?_
   have hno : (false == true) = false := rfl
   refine Z231 ?_;refine Z262 ?_;refine Z262 ?_;refine Z262 ?_;refine Z262 ?_;refine Z262 ?_;refine Z262 ?_;refine Z262 ?_;refine Z262 ?_;refine Z287 ?_
   refine gC ?_ ?_ <;> intro hb5
   · exact absurd hb5 (by simp)
   refine Z58 ?_;refine Z290 ?_;refine Z229 ?_
   exact ⟨by rw [binV, if_neg (by rw [show (decide (nm = andB) || decide (nm = orB)) = false from hb0]; decide), hti]; dsimp only; rw [cmpV, hct]; try rfl, rfl⟩
  refine Z189 ?_;refine Z15 ?_;refine Z128 ?_;refine Z15 ?_;refine Z72 ?_;refine Z110 ?_;refine Z80 ?_;refine Z215 ?_;refine Z98 ?_
  rw [mget_tab, mhas_tab, hct]
  dsimp only [Op2.d, Option.isSome]
  refine Z111 ?_;refine Z46 ?_;refine Z77 ?_;refine Z87 ?_;refine Z77 ?_;refine Z88 ?_;refine Z174 ?_;refine Z89 ?_;refine Z155 ?_;refine Z90 ?_;refine Z84 ?_;refine Z173 ?_;refine Z290 ?_
  have hyes : (true == true) = true := rfl
  refine Z231 ?_;refine Z214 ?_
  refine g_callo (xs := [.const (.int .i64 (1))]) rfl hyes (c243 1 a b) ?_
  refine Z214 ?_
  refine g_split 91 false (fun hsp => ?_) (fun hsp => ?_)
  ·
   refine Z95 ?_
   refine g_callo (xs := [.const (.int .i64 (2))]) rfl hsp (c243 2 a b) ?_
   refine Z95 ?_;refine Z50 ?_
   refine sg rfl (fun hg => sP 95 rfl hg (qL u9)) ?_
   refine sg rfl (fun hg => sP 96 rfl hg q_streq) ?_
   refine sg rfl (fun hg => sP 97 rfl hg qM) ?_
   refine Z50 ?_
   refine sg rfl (fun hg => sP 99 rfl hg (qL u9)) ?_
   refine sg rfl (fun hg => sP 100 rfl hg q_streq) ?_
   refine sg rfl (fun hg => sP 98 rfl hg q_or) ?_
   refine sgo rfl hsp y_and ?_
   refine sgo rfl hyes y_or ?_
   refine Z287 ?_
   refine gC ?_ ?_ <;> intro hb6
   ·
    have hcc : ((isV a 1 && isV b 1) || ((isV a 2 && isV b 2) && (decide (nm = eqB) || decide (nm = neB)))) = true := hb6
    have habs : (∃ k, isV a k = true) ∧ ∃ k, isV b k = true := by
     simp only [Bool.or_eq_true, Bool.and_eq_true] at hcc
     rcases hcc with ⟨h1, h2⟩ | ⟨⟨h1, h2⟩, _⟩
     · exact ⟨⟨1, h1⟩, ⟨1, h2⟩⟩
     · exact ⟨⟨2, h1⟩, ⟨2, h2⟩⟩
    obtain ⟨⟨ka, hka⟩, ⟨kb, hkb⟩⟩ := habs
    obtain ⟨ta, rfl, haop⟩ := isV_some hka
    obtain ⟨aop, anm, anu, aks, haa⟩ := ta.d_agg
    have hna : nuV (some ta) = anu := by obtain ⟨o, n, u, l⟩ := ta; rw [Tr.d_mk] at haa; injection haa with ha; injection ha with ha1 ha; injection ha with ha2 ha; injection ha with ha3 ha; injection ha3
    obtain ⟨tb, rfl, hbop⟩ := isV_some hkb
    obtain ⟨bop, bnm, bnu, bks, hab⟩ := tb.d_agg
    have hnb : nuV (some tb) = bnu := by obtain ⟨o, n, u, l⟩ := tb; rw [Tr.d_mk] at hab; injection hab with ha; injection ha with ha1 ha; injection ha with ha2 ha; injection ha with ha3 ha; injection ha3
    rw [show valD (some ta) = .ptr ta.d from rfl, haa]
    rw [show valD (some tb) = .ptr tb.d from rfl, hab]
    refine Z53 ?_;refine Z37 ?_;refine Z152 ?_;refine Z15 ?_;refine Z61 ?_;refine Z15 ?_;refine Z104 ?_;refine Z110 ?_;refine Z101 ?_;refine Z97 ?_;refine Z92 ?_;refine Z111 ?_;refine Z107 ?_;refine Z15 ?_;refine Z105 ?_;refine Z157 ?_;refine Z102 ?_;refine Z119 ?_;refine Z93 ?_;refine Z169 ?_;refine Z108 ?_;refine Z223 ?_;refine Z86 ?_
    refine cP [9, 9] ?_
    refine Z113 ?_;refine Z123 ?_;refine Z59 ?_;refine Z84 ?_;refine Z224 ?_;refine Z4 ?_
    exact Y1
   refine Z58 ?_;refine Z290 ?_;refine Z229 ?_
   exact ⟨by rw [binV, if_neg (by rw [show (decide (nm = andB) || decide (nm = orB)) = false from hb0]; decide), hti]; dsimp only; rw [cmpV, hct]; dsimp only; rw [if_neg (by rw [show ((isV a 1 && isV b 1) || ((isV a 2 && isV b 2) && (decide (nm = eqB) || decide (nm = neB)))) = false from hb6]; decide)]; try rfl, rfl⟩
  refine Z264 ?_;refine Z264 ?_;refine Z264 ?_
  refine sgo rfl hyes y_or ?_
  refine Z287 ?_
  refine gC ?_ ?_ <;> intro hb7
  ·
   have hcc : ((isV a 1 && isV b 1) || ((isV a 2 && isV b 2) && (decide (nm = eqB) || decide (nm = neB)))) = true := by simp at hsp; simp [hsp]
   have habs : (∃ k, isV a k = true) ∧ ∃ k, isV b k = true := by
    simp only [Bool.or_eq_true, Bool.and_eq_true] at hcc
    rcases hcc with ⟨h1, h2⟩ | ⟨⟨h1, h2⟩, _⟩
    · exact ⟨⟨1, h1⟩, ⟨1, h2⟩⟩
    · exact ⟨⟨2, h1⟩, ⟨2, h2⟩⟩
   obtain ⟨⟨ka, hka⟩, ⟨kb, hkb⟩⟩ := habs
   obtain ⟨ta, rfl, haop⟩ := isV_some hka
   obtain ⟨aop, anm, anu, aks, haa⟩ := ta.d_agg
   have hna : nuV (some ta) = anu := by obtain ⟨o, n, u, l⟩ := ta; rw [Tr.d_mk] at haa; injection haa with ha; injection ha with ha1 ha; injection ha with ha2 ha; injection ha with ha3 ha; injection ha3
   obtain ⟨tb, rfl, hbop⟩ := isV_some hkb
   obtain ⟨bop, bnm, bnu, bks, hab⟩ := tb.d_agg
   have hnb : nuV (some tb) = bnu := by obtain ⟨o, n, u, l⟩ := tb; rw [Tr.d_mk] at hab; injection hab with ha; injection ha with ha1 ha; injection ha with ha2 ha; injection ha with ha3 ha; injection ha3
   rw [show valD (some ta) = .ptr ta.d from rfl, haa]
   rw [show valD (some tb) = .ptr tb.d from rfl, hab]
   refine Z53 ?_;refine Z37 ?_;refine Z152 ?_;refine Z15 ?_;refine Z61 ?_;refine Z15 ?_;refine Z104 ?_;refine Z110 ?_;refine Z101 ?_;refine Z97 ?_;refine Z92 ?_;refine Z111 ?_;refine Z107 ?_;refine Z15 ?_;refine Z105 ?_;refine Z157 ?_;refine Z102 ?_;refine Z119 ?_;refine Z93 ?_;refine Z169 ?_;refine Z108 ?_;refine Z223 ?_;refine Z86 ?_
   refine cP [9, 9] ?_
   refine Z113 ?_;refine Z123 ?_;refine Z59 ?_;refine Z84 ?_;refine Z224 ?_;refine Z4 ?_
   exact Y1
  exfalso
  simp at hsp hb7
  simp [hsp] at hb7
 refine g_cg0 [59, 60, 61, 62, 58, 63, 64, 10, 11] ?_
 refine Z15 ?_
 refine cS 1 (fun _ _ _ _ _ => gL (xs := []) rfl (c244) (gN ⟨rfl, rfl⟩)) ?_
 refine Z15 ?_;refine Z72 ?_;refine Z110 ?_;refine Z80 ?_;refine Z215 ?_
 refine cS 4 (fun _ _ _ _ _ => vq rfl ((q_lookup2 (zd := .nilF) u249 u9 zr247)) (gN ⟨rfl, rfl⟩)) ?_
 rw [mget_tab, mhas_tab, hti]
 dsimp only [Op2.d, Option.isSome]
 refine Z111 ?_;refine Z46 ?_;refine Z77 ?_;refine Z87 ?_;refine Z77 ?_;refine Z88 ?_;refine Z174 ?_;refine Z89 ?_;refine Z155 ?_;refine Z90 ?_;refine Z84 ?_;refine Z173 ?_;refine Z290 ?_
 have hyes : (true == true) = true := rfl
 refine Z231 ?_;refine Z214 ?_
 refine g_callo (xs := [.const (.int .i64 (1))]) rfl hyes (c243 1 a b) ?_
 refine Z287 ?_
 refine gC ?_ ?_ <;> intro hb8
 ·
  have hcc : (isV a 1 && isV b 1) = true := by simpa using hb8
  obtain ⟨hka, hkb⟩ := Bool.and_eq_true_iff.1 hcc
  obtain ⟨ta, rfl, haop⟩ := isV_some hka
  obtain ⟨aop, anm, anu, aks, haa⟩ := ta.d_agg
  have hna : nuV (some ta) = anu := by obtain ⟨o, n, u, l⟩ := ta; rw [Tr.d_mk] at haa; injection haa with ha; injection ha with ha1 ha; injection ha with ha2 ha; injection ha with ha3 ha; injection ha3
  obtain ⟨tb, rfl, hbop⟩ := isV_some hkb
  obtain ⟨bop, bnm, bnu, bks, hab⟩ := tb.d_agg
  have hnb : nuV (some tb) = bnu := by obtain ⟨o, n, u, l⟩ := tb; rw [Tr.d_mk] at hab; injection hab with ha; injection ha with ha1 ha; injection ha with ha2 ha; injection ha with ha3 ha; injection ha3
  rw [show valD (some ta) = .ptr ta.d from rfl, haa]
  rw [show valD (some tb) = .ptr tb.d from rfl, hab]
  refine Z53 ?_
  refine g_cg0 [70, 71, 72, 73, 74, 75, 76, 77, 78, 79, 4] ?_
  refine Z15 ?_;refine Z61 ?_;refine Z15 ?_;refine Z104 ?_;refine Z110 ?_;refine Z101 ?_;refine Z97 ?_;refine Z92 ?_;refine Z111 ?_;refine Z107 ?_;refine Z15 ?_;refine Z105 ?_;refine Z157 ?_;refine Z102 ?_;refine Z119 ?_;refine Z93 ?_;refine Z169 ?_;refine Z108 ?_;refine Z223 ?_
  refine cS 10 (fun _ _ _ _ _ => gL (xs := [.tmp 74, .tmp 78]) rfl (intTab_ok hti anu bnu) (gN ⟨rfl, rfl⟩)) ?_
  refine cP [9, 9, 0, 1, 2, 3, 4, 5, 6, 7, 8, 9] ?_
  refine cS 11 (fun _ _ _ _ _ => vq rfl qA (gN ⟨rfl, rfl⟩)) ?_
  refine Z84 ?_;refine Z224 ?_;refine Z4 ?_
  exact ⟨by rw [binV, if_neg (by rw [show (decide (nm = andB) || decide (nm = orB)) = false from hb0]; decide), hti]; dsimp only; rw [if_pos hcc, hna, hnb]; try rfl, rfl⟩
 refine Z185 ?_
 rcases hct : tabGet cmpTab nm with _ | ⟨g2, caps2, f2⟩
 ·
  refine Z189 ?_;refine Z15 ?_;refine Z128 ?_;refine Z15 ?_;refine Z72 ?_;refine Z110 ?_;refine Z80 ?_;refine Z215 ?_;refine Z98 ?_
  rw [mget_tab, mhas_tab, hct]
  dsimp only [Op2.d, Option.isSome]
  refine Z111 ?_;refine Z46 ?_;refine Z77 ?_;refine Z87 ?_;refine Z77 ?_;refine Z88 ?_;refine Z174 ?_;refine Z89 ?_;refine Z155 ?_;refine Z90 ?_;refine Z84 ?_;refine Z173 ?_;refine Z290 ?_
  have hno : (false == true) = false := rfl
  refine Z231 ?_;refine Z262 ?_;refine Z262 ?_;refine Z262 ?_;refine Z262 ?_;refine Z262 ?_;refine Z262 ?_;refine Z262 ?_;refine Z262 ?_;refine Z287 ?_
  refine gC ?_ ?_ <;> intro hb9
  · exact absurd hb9 (by simp)
  refine Z58 ?_;refine Z290 ?_;refine Z229 ?_
  exact ⟨by rw [binV, if_neg (by rw [show (decide (nm = andB) || decide (nm = orB)) = false from hb0]; decide), hti]; dsimp only; rw [if_neg (by simpa using hb8), cmpV, hct]; try rfl, rfl⟩
 refine Z189 ?_;refine Z15 ?_;refine Z128 ?_;refine Z15 ?_;refine Z72 ?_;refine Z110 ?_;refine Z80 ?_;refine Z215 ?_;refine Z98 ?_
 rw [mget_tab, mhas_tab, hct]
 dsimp only [Op2.d, Option.isSome]
 refine Z111 ?_;refine Z46 ?_;refine Z77 ?_;refine Z87 ?_;refine Z77 ?_;refine Z88 ?_;refine Z174 ?_;refine Z89 ?_;refine Z155 ?_;refine Z90 ?_;refine Z84 ?_;refine Z173 ?_;refine Z290 ?_
 have hyes : (true == true) = true := rfl
 refine Z231 ?_;refine Z214 ?_
 refine g_callo (xs := [.const (.int .i64 (1))]) rfl hyes (c243 1 a b) ?_
 refine Z214 ?_
 refine g_split 91 false (fun hsp => ?_) (fun hsp => ?_)
 ·
  refine Z95 ?_
  refine g_callo (xs := [.const (.int .i64 (2))]) rfl hsp (c243 2 a b) ?_
  refine Z95 ?_;refine Z50 ?_
  refine sg rfl (fun hg => sP 95 rfl hg (qL u9)) ?_
  refine sg rfl (fun hg => sP 96 rfl hg q_streq) ?_
  refine sg rfl (fun hg => sP 97 rfl hg qM) ?_
  refine Z50 ?_
  refine sg rfl (fun hg => sP 99 rfl hg (qL u9)) ?_
  refine sg rfl (fun hg => sP 100 rfl hg q_streq) ?_
  refine sg rfl (fun hg => sP 98 rfl hg q_or) ?_
  refine sgo rfl hsp y_and ?_
  refine sgo rfl hyes y_or ?_
  refine Z287 ?_
  refine gC ?_ ?_ <;> intro hb10
  ·
   have hcc : ((isV a 1 && isV b 1) || ((isV a 2 && isV b 2) && (decide (nm = eqB) || decide (nm = neB)))) = true := hb10
   have habs : (∃ k, isV a k = true) ∧ ∃ k, isV b k = true := by
    simp only [Bool.or_eq_true, Bool.and_eq_true] at hcc
    rcases hcc with ⟨h1, h2⟩ | ⟨⟨h1, h2⟩, _⟩
    · exact ⟨⟨1, h1⟩, ⟨1, h2⟩⟩
    · exact ⟨⟨2, h1⟩, ⟨2, h2⟩⟩
   obtain ⟨⟨ka, hka⟩, ⟨kb, hkb⟩⟩ := habs
   obtain ⟨ta, rfl, haop⟩ := isV_some hka
   obtain ⟨aop, anm, anu, aks, haa⟩ := ta.d_agg
   have hna : nuV (some ta) = anu := by obtain ⟨o, n, u, l⟩ := ta; rw [Tr.d_mk] at haa; injection haa with ha; injection ha with ha1 ha; injection ha with ha2 ha; injection ha with ha3 ha; injection ha3
   obtain ⟨tb, rfl, hbop⟩ := isV_some hkb
   obtain ⟨bop, bnm, bnu, bks, hab⟩ := tb.d_agg
   have hnb : nuV (some tb) = bnu := by obtain ⟨o, n, u, l⟩ := tb; rw [Tr.d_mk] at hab; injection hab with ha; injection ha with ha1 ha; injection ha with ha2 ha; injection ha with ha3 ha; injection ha3
   rw [show valD (some ta) = .ptr ta.d from rfl, haa]
   rw [show valD (some tb) = .ptr tb.d from rfl, hab]
   refine Z53 ?_;refine Z37 ?_;refine Z152 ?_;refine Z15 ?_;refine Z61 ?_;refine Z15 ?_;refine Z104 ?_;refine Z110 ?_;refine Z101 ?_;refine Z97 ?_;refine Z92 ?_;refine Z111 ?_;refine Z107 ?_;refine Z15 ?_;refine Z105 ?_;refine Z157 ?_;refine Z102 ?_;refine Z119 ?_;refine Z93 ?_;refine Z169 ?_;refine Z108 ?_;refine Z223 ?_;refine Z86 ?_
   refine cP [9, 9] ?_
   refine Z113 ?_;refine Z123 ?_;refine Z59 ?_;refine Z84 ?_;refine Z224 ?_;refine Z4 ?_
   exact Y0
  refine Z58 ?_;refine Z290 ?_;refine Z229 ?_
  exact ⟨by rw [binV, if_neg (by rw [show (decide (nm = andB) || decide (nm = orB)) = false from hb0]; decide), hti]; dsimp only; rw [if_neg (by simpa using hb8), cmpV, hct]; dsimp only; rw [if_neg (by rw [show ((isV a 1 && isV b 1) || ((isV a 2 && isV b 2) && (decide (nm = eqB) || decide (nm = neB)))) = false from hb10]; decide)]; try rfl, rfl⟩
 refine Z264 ?_;refine Z264 ?_;refine Z264 ?_
 refine sgo rfl hyes y_or ?_
 refine Z287 ?_
 refine gC ?_ ?_ <;> intro hb11
 ·
  have hcc : ((isV a 1 && isV b 1) || ((isV a 2 && isV b 2) && (decide (nm = eqB) || decide (nm = neB)))) = true := by simp at hsp; simp [hsp]
  have habs : (∃ k, isV a k = true) ∧ ∃ k, isV b k = true := by
   simp only [Bool.or_eq_true, Bool.and_eq_true] at hcc
   rcases hcc with ⟨h1, h2⟩ | ⟨⟨h1, h2⟩, _⟩
   · exact ⟨⟨1, h1⟩, ⟨1, h2⟩⟩
   · exact ⟨⟨2, h1⟩, ⟨2, h2⟩⟩
  obtain ⟨⟨ka, hka⟩, ⟨kb, hkb⟩⟩ := habs
  obtain ⟨ta, rfl, haop⟩ := isV_some hka
  obtain ⟨aop, anm, anu, aks, haa⟩ := ta.d_agg
  have hna : nuV (some ta) = anu := by obtain ⟨o, n, u, l⟩ := ta; rw [Tr.d_mk] at haa; injection haa with ha; injection ha with ha1 ha; injection ha with ha2 ha; injection ha with ha3 ha; injection ha3
  obtain ⟨tb, rfl, hbop⟩ := isV_some hkb
  obtain ⟨bop, bnm, bnu, bks, hab⟩ := tb.d_agg
  have hnb : nuV (some tb) = bnu := by obtain ⟨o, n, u, l⟩ := tb; rw [Tr.d_mk] at hab; injection hab with ha; injection ha with ha1 ha; injection ha with ha2 ha; injection ha with ha3 ha; injection ha3
  rw [show valD (some ta) = .ptr ta.d from rfl, haa]
  rw [show valD (some tb) = .ptr tb.d from rfl, hab]
  refine Z53 ?_;refine Z37 ?_;refine Z152 ?_;refine Z15 ?_;refine Z61 ?_;refine Z15 ?_;refine Z104 ?_;refine Z110 ?_;refine Z101 ?_;refine Z97 ?_;refine Z92 ?_;refine Z111 ?_;refine Z107 ?_;refine Z15 ?_;refine Z105 ?_;refine Z157 ?_;refine Z102 ?_;refine Z119 ?_;refine Z93 ?_;refine Z169 ?_;refine Z108 ?_;refine Z223 ?_;refine Z86 ?_
  refine cP [9, 9] ?_
  refine Z113 ?_;refine Z123 ?_;refine Z59 ?_;refine Z84 ?_;refine Z224 ?_;refine Z4 ?_
  exact Y0
 exfalso
 simp at hsp hb11
 simp [hsp] at hb11
end
end Go.Proofs.YtklkbfpjimeaoaaGreat
