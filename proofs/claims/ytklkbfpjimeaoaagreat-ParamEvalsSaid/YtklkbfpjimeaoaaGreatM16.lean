import Derived.Test.YtklkbfpjimeaoaaGreatM15
/- Contracts of functions. Conditions: none. -/
namespace Go.Proofs.YtklkbfpjimeaoaaGreat
open Go Go.Proofs.YtklkbfpjimeaoaaGreat.E
def intT (n : Int) : Tr := .mk 1 ⟨#[]⟩ n []
def boolT (b : Bool) : Tr := .mk 2 ⟨#[]⟩ (if b = true then 1 else 0) []
def valD : Option Tr → D
  | none => .nil
  | some t => .ptr t.d
theorem valD_cells (v : Option Tr) : (valD v).cells = [valD v] := by cases v <;> rfl
def isV : Option Tr → Int → Bool
  | none, _ => false
  | some t, k => t.op == k
def nuV : Option Tr → Int
  | none => 0
  | some t => t.nu
def minI : Int := -9223372036854775808
def maxI : Int := 9223372036854775807
def mB : ByteArray := ⟨#[45]⟩
def bangB : ByteArray := ⟨#[33]⟩
def unaryV (nm : ByteArray) : Option Tr → Option Tr
  | none => none
  | some (.mk op _ num _) =>
    if ((decide (nm = mB) && op == 1) && num != minI) = true then some (intT (W (0 - num)))
    else if (decide (nm = bangB) && op == 2) = true then some (boolT (num == 0)) else none
def fitsV (n : Int) (ok : Bool) : Option Tr := if ok = true then some (intT n) else none
def divB (a b : Int) : Bool := b != 0 && (a != minI || b != -1)
def addV (a b : Int) : Option Tr := fitsV (W (a + b)) ((decide (b ≤ 0) || decide (a ≤ W (maxI - b))) && (decide (b ≥ 0) || decide (a ≥ W (minI - b))))
def subV (a b : Int) : Option Tr := fitsV (W (a - b)) ((decide (b ≥ 0) || decide (a ≤ W (maxI + b))) && (decide (b ≤ 0) || decide (a ≥ W (minI + b))))
def mulV (a b : Int) : Option Tr := fitsV (W (a * b)) ((a == 0 || b == 0) || (((a != -1 || b != minI) && (b != -1 || a != minI)) && W ((W (a * b)).tdiv b) == a))
def quoV (a b : Int) : Option Tr := if (!divB a b) = true then none else some (intT (W (a.tdiv b)))
def remV (a b : Int) : Option Tr := if (!divB a b) = true then none else some (intT (a.tmod b))
theorem c186 (n : Int) : Pf Tryz.prog 186 [.int .i64 n] (.d (valD (some (intT n)))) := by
  refine pf_body (rvs := [.tmp 2]) [(0, .d (.int .i64 n))] Tryz.func186 Tryz.ntmps186 Tryz.results186 (fun S0 O0 w0 m0 hm0 => ?_)
  refine gS (gR ?_)
  refine vq rfl qA ?_
  refine gN (tN (gS (gR ?_)))
  refine vq rfl qM ?_
  refine vq rfl (q_buildS pl27 zr27) ?_
  refine sv rfl y_box ?_
  refine gF 0 [] (.agg [.int .i64 1, .str ⟨#[]⟩, .int .i64 n, .sl []]) rfl ?_
  refine vq rfl qA ?_
  refine gN (tN (gT ?_))
  refine fin1 (by simp) ?_
  exact ⟨by rw [valD, intT, Tr.d_mk]; rfl, rfl⟩
theorem c242 (b : Bool) : Pf Tryz.prog 242 [.bool b] (.d (valD (some (boolT b)))) := by
  refine pf_body (rvs := [.tmp 2]) [(0, .d (.bool b))] Tryz.func242 Tryz.ntmps242 Tryz.results242 (fun S0 O0 w0 m0 hm0 => ?_)
  refine gS (gR ?_)
  refine vq rfl qA ?_
  refine gN (tN (gS (gS (gR ?_))))
  refine vq rfl qM ?_
  refine gN (tN ?_)
  refine gC (fun hb0 => ?_) (fun hb0 => ?_)
  ·
    refine gS (gR ?_)
    refine vq rfl (q_buildS pl27 zr27) ?_
    refine sv rfl y_box ?_
    refine gF 0 [] (.agg [.int .i64 2, .str ⟨#[]⟩, .int .i64 1, .sl []]) rfl ?_
    refine vq rfl qA ?_
    refine gN (tN (gT (tR ?_)))
    refine fin1 (by simp) ?_
    exact ⟨by rw [hb0, valD, boolT, Tr.d_mk]; rfl, rfl⟩
  refine gK (tN (gS (gR ?_)))
  refine vq rfl (q_buildS pl27 zr27) ?_
  refine sv rfl y_box ?_
  refine gF 0 [] (.agg [.int .i64 2, .str ⟨#[]⟩, .int .i64 0, .sl []]) rfl ?_
  refine vq rfl qA ?_
  refine gN (tN (gT ?_))
  refine fin1 (by simp) ?_
  exact ⟨by rw [hb0, valD, boolT, Tr.d_mk]; rfl, rfl⟩
theorem c184n (k : Int) : Pf Tryz.prog 184 [.nil, .int .i64 k] (.d (.bool false)) := by
  refine pf_body (rvs := [.tmp 4]) [(0, .d .nil), (1, .d (.int .i64 k))] Tryz.func184 Tryz.ntmps184 Tryz.results184 (fun S0 O0 w0 m0 hm0 => ?_)
  refine gS (gR ?_)
  refine vq rfl qA ?_
  refine gN (tN (gS (gR ?_)))
  have hno : ((!true) == true) = false := rfl
  refine vq rfl qM ?_
  refine vq rfl ((q_ptrneq u139)) ?_
  refine vq rfl qM ?_
  refine sgx rfl ?_ ?_
  · first | exact hno | (rw [hno]; rfl) | simp [hno] | simp_all
  refine sgx rfl ?_ ?_
  · first | exact hno | (rw [hno]; rfl) | simp [hno] | simp_all
  refine sgx rfl ?_ ?_
  · first | exact hno | (rw [hno]; rfl) | simp [hno] | simp_all
  refine sgx rfl ?_ ?_
  · first | exact hno | (rw [hno]; rfl) | simp [hno] | simp_all
  refine sgx rfl ?_ ?_
  · first | exact hno | (rw [hno]; rfl) | simp [hno] | simp_all
  refine sgx rfl ?_ ?_
  · first | exact hno | (rw [hno]; rfl) | simp [hno] | simp_all
  refine vq rfl q_and ?_
  refine vq rfl qA ?_
  refine gN (tN (gT ?_))
  refine fin1 (by simp) ?_
  exact ⟨rfl, rfl⟩
theorem c184s (t : Tr) (k : Int) : Pf Tryz.prog 184 [.ptr t.d, .int .i64 k] (.d (.bool (t.op == k))) := by
  obtain ⟨op, name, num, ks⟩ := t
  rw [Tr.d_mk]
  try simp only [Tr.op_mk]
  refine pf_body (rvs := [.tmp 4]) [(0, .d (.ptr (.agg [.int .i64 op, .str name, .int .i64 num, .sl (ks.map Tr.d)]))), (1, .d (.int .i64 k))] Tryz.func184 Tryz.ntmps184 Tryz.results184 (fun S0 O0 w0 m0 hm0 => ?_)
  refine gS (gR ?_)
  refine vq rfl qA ?_
  refine gN (tN (gS (gR ?_)))
  refine vq rfl qM ?_
  refine vq rfl ((q_ptrneq u139)) ?_
  refine vq rfl qM ?_
  refine sg rfl (fun hg => qM) ?_
  refine sg rfl (fun hg => sP 8 rfl hg q_nilCheck) ?_
  refine sg rfl (fun hg => sP 9 rfl hg (qF u27 rfl sz3)) ?_
  refine sg rfl (fun hg => sP 10 rfl hg (qL u3)) ?_
  refine sg rfl (fun hg => qM) ?_
  refine sg rfl (fun hg => sP 12 rfl hg (sP 11 rfl hg q_eql)) ?_
  refine vq rfl q_and ?_
  refine vq rfl qA ?_
  refine gN (tN (gT ?_))
  refine fin1 (by simp) ?_
  exact ⟨rfl, rfl⟩
theorem c184 (v : Option Tr) (k : Int) : Pf Tryz.prog 184 [valD v, .int .i64 k] (.d (.bool (isV v k))) := by
  cases v with
  | none => exact c184n k
  | some t => exact c184s t k
theorem c182n (nm : ByteArray) : Pf Tryz.prog 182 [.str nm, .nil] (.d .nil) := by
  refine pf_body (rvs := [.tmp 4]) [(0, .d (.str nm)), (1, .d .nil)] Tryz.func182 Tryz.ntmps182 Tryz.results182 (fun S0 O0 w0 m0 hm0 => ?_)
  refine gS (gR ?_)
  refine vq rfl qA ?_
  refine gN (tN (gS (G_block (gS (gR ?_)))))
  have hno : ((decide (nm = mB) && false) == true) = false := by simp
  refine vq rfl qM ?_
  refine vq rfl q_streq ?_
  refine vq rfl qM ?_
  refine sg rfl (fun hg => qM) ?_
  refine g_callg (xs := [.tmp 9, .const (.int .i64 (1))]) rfl (fun hg => c184n 1) ?_
  refine vq rfl q_and ?_
  refine vq rfl qM ?_
  refine sgx rfl ?_ ?_
  · first | exact hno | (rw [hno]; rfl) | simp [hno] | simp_all
  refine sgx rfl ?_ ?_
  · first | exact hno | (rw [hno]; rfl) | simp [hno] | simp_all
  refine sgx rfl ?_ ?_
  · first | exact hno | (rw [hno]; rfl) | simp [hno] | simp_all
  refine sgx rfl ?_ ?_
  · first | exact hno | (rw [hno]; rfl) | simp [hno] | simp_all
  refine sgx rfl ?_ ?_
  · first | exact hno | (rw [hno]; rfl) | simp [hno] | simp_all
  refine vq rfl q_and ?_
  refine vq rfl qA ?_
  refine gN (tN ?_)
  refine gC (fun hb0 => ?_) (fun hb0 => ?_)
  ·
    exact absurd hb0 (by simp)
  refine gS ?_
  refine gP [0, 1, 4] ?_
  refine gR ?_
  refine vq rfl qM ?_
  refine vq rfl q_streq ?_
  refine vq rfl qM ?_
  refine sg rfl (fun hg => qM) ?_
  refine g_callg (xs := [.tmp 29, .const (.int .i64 (2))]) rfl (fun hg => c184n 2) ?_
  refine vq rfl q_and ?_
  refine vq rfl qA ?_
  refine gN (tN ?_)
  refine gC (fun hb1 => ?_) (fun hb1 => ?_)
  ·
    exact absurd hb1 (by simp)
  refine gK (bN (tN (gS (gR ?_))))
  refine vq rfl qA ?_
  refine gN (tN (gT ?_))
  refine fin1 (by simp) ?_
  exact ⟨rfl, rfl⟩
set_option maxHeartbeats 1000000 in
theorem c182s (t : Tr) (nm : ByteArray) : Pf Tryz.prog 182 [.str nm, .ptr t.d] (.d (valD (unaryV nm (some t)))) := by
  obtain ⟨op, name, num, ks⟩ := t
  rw [Tr.d_mk]
  try simp only [Tr.op_mk, Tr.nm_mk, Tr.nu_mk, Tr.kids_mk]
  refine pf_body (rvs := [.tmp 4]) [(0, .d (.str nm)), (1, .d (.ptr (.agg [.int .i64 op, .str name, .int .i64 num, .sl (ks.map Tr.d)])))] Tryz.func182 Tryz.ntmps182 Tryz.results182 (fun S0 O0 w0 m0 hm0 => ?_)
  refine gS (gR ?_)
  refine vq rfl qA ?_
  refine gN (tN (gS (G_block (gS (gR ?_)))))
  refine vq rfl qM ?_
  refine vq rfl q_streq ?_
  refine vq rfl qM ?_
  refine sg rfl (fun hg => qM) ?_
  refine g_callg (xs := [.tmp 9, .const (.int .i64 (1))]) rfl (fun hg => (Tr.d_mk op name num ks ▸ c184s (.mk op name num ks) 1)) ?_
  refine vq rfl q_and ?_
  refine vq rfl qM ?_
  refine sg rfl (fun hg => qM) ?_
  refine sg rfl (fun hg => sP 13 rfl hg q_nilCheck) ?_
  refine sg rfl (fun hg => sP 14 rfl hg (qF u27 rfl sz3)) ?_
  refine sg rfl (fun hg => sP 15 rfl hg (qL u3)) ?_
  refine sg rfl (fun hg => sP 16 rfl hg q_neq) ?_
  refine vq rfl q_and ?_
  refine vq rfl qA ?_
  refine gN (tN ?_)
  refine gC (fun hb0 => ?_) (fun hb0 => ?_)
  ·
    refine gS ?_
    refine gP [0, 1, 4] ?_
    refine gR ?_
    refine vq rfl qM ?_
    refine vq rfl q_nilCheck ?_
    refine vq rfl (qF u27 rfl sz3) ?_
    refine vq rfl (qL u3) ?_
    refine vq rfl ((q_neg (hr := rfl))) ?_
    refine gL (xs := [.tmp 23]) rfl (c186 _) ?_
    refine vq rfl qA ?_
    refine gN (tN (gT (bR (tR ?_))))
    refine fin1 (by simp) ?_
    exact ⟨by rw [unaryV, if_pos (show ((decide (nm = mB) && op == 1) && num != minI) = true from hb0)]; rfl, rfl⟩
  refine gS ?_
  refine gP [0, 1, 4] ?_
  refine gR ?_
  refine vq rfl qM ?_
  refine vq rfl q_streq ?_
  refine vq rfl qM ?_
  refine sg rfl (fun hg => qM) ?_
  refine g_callg (xs := [.tmp 29, .const (.int .i64 (2))]) rfl (fun hg => (Tr.d_mk op name num ks ▸ c184s (.mk op name num ks) 2)) ?_
  refine vq rfl q_and ?_
  refine vq rfl qA ?_
  refine gN (tN ?_)
  refine gC (fun hb1 => ?_) (fun hb1 => ?_)
  ·
    refine gS (gR ?_)
    refine vq rfl qM ?_
    refine vq rfl q_nilCheck ?_
    refine vq rfl (qF u27 rfl sz3) ?_
    refine vq rfl (qL u3) ?_
    refine vq rfl q_eql ?_
    refine gL (xs := [.tmp 36]) rfl (c242 _) ?_
    refine vq rfl qA ?_
    refine gN (tN (gT (bR (tR ?_))))
    refine fin1 (by simp) ?_
    exact ⟨by rw [unaryV, if_neg (by rw [show ((decide (nm = mB) && op == 1) && num != minI) = false from hb0]; decide), if_pos (show (decide (nm = bangB) && op == 2) = true from hb1)], rfl⟩
  refine gK (bN (tN (gS (gR ?_))))
  refine vq rfl qA ?_
  refine gN (tN (gT ?_))
  refine fin1 (by simp) ?_
  exact ⟨by rw [unaryV, if_neg (by rw [show ((decide (nm = mB) && op == 1) && num != minI) = false from hb0]; decide), if_neg (by rw [show (decide (nm = bangB) && op == 2) = false from hb1]; decide)]; rfl, rfl⟩
theorem c182 (nm : ByteArray) (v : Option Tr) : Pf Tryz.prog 182 [.str nm, valD v] (.d (valD (unaryV nm v))) := by
  cases v with
  | none => exact c182n nm
  | some t => exact c182s t nm
theorem c290 (n : Int) (ok : Bool) : Pf Tryz.prog 290 [.int .i64 n, .bool ok] (.d (valD (fitsV n ok))) := by
  refine pf_body (rvs := [.tmp 4]) [(0, .d (.int .i64 n)), (1, .d (.bool ok))] Tryz.func290 Tryz.ntmps290 Tryz.results290 (fun S0 O0 w0 m0 hm0 => ?_)
  refine gS (gR ?_)
  refine vq rfl qA ?_
  refine gN (tN (gS (gS (gR ?_))))
  refine vq rfl qM ?_
  refine vq rfl q_not ?_
  refine gN (tN ?_)
  refine gC (fun hb0 => ?_) (fun hb0 => ?_)
  ·
    refine gS (gR ?_)
    refine vq rfl qA ?_
    refine gN (tN (gT (tR ?_)))
    refine fin1 (by simp) ?_
    exact ⟨by (cases ok <;> first | rfl | cases hb0), rfl⟩
  refine gK (tN (gS (gR ?_)))
  refine vq rfl qM ?_
  refine gL (xs := [.tmp 7]) rfl (c186 n) ?_
  refine vq rfl qA ?_
  refine gN (tN (gT ?_))
  refine fin1 (by simp) ?_
  exact ⟨by (cases ok <;> first | rfl | cases hb0), rfl⟩
theorem c291 (a b : Int) : Pf Tryz.prog 291 [.int .i64 a, .int .i64 b] (.d (.bool (divB a b))) := by
  refine pf_body (rvs := [.tmp 4]) [(0, .d (.int .i64 a)), (1, .d (.int .i64 b))] Tryz.func291 Tryz.ntmps291 Tryz.results291 (fun S0 O0 w0 m0 hm0 => ?_)
  refine gS (gR ?_)
  refine vq rfl qA ?_
  refine gN (tN (gS (gR ?_)))
  refine vq rfl qM ?_
  refine vq rfl q_neq ?_
  refine vq rfl qM ?_
  refine sg rfl (fun hg => qM) ?_
  refine sg rfl (fun hg => sP 8 rfl hg q_neq) ?_
  refine sg rfl (fun hg => sP 9 rfl hg qM) ?_
  refine sg rfl (fun hg => qM) ?_
  refine sg rfl (fun hg => sP 11 rfl hg q_neq) ?_
  refine sg rfl (fun hg => sP 10 rfl hg q_or) ?_
  refine vq rfl q_and ?_
  refine vq rfl qA ?_
  refine gN (tN (gT ?_))
  refine fin1 (by simp) ?_
  exact ⟨rfl, rfl⟩
set_option maxHeartbeats 1000000 in
theorem c292 (a b : Int) : Pf Tryz.prog 292 [.int .i64 a, .int .i64 b, .ptr (.fn (.func 290) [] [])] (.d (valD (addV a b))) := by
  refine pf_body (rvs := [.tmp 5]) [(0, .d (.int .i64 a)), (1, .d (.int .i64 b)), (2, .d (.ptr (.fn (.func 290) [] [])))] Tryz.func292 Tryz.ntmps292 Tryz.results292 (fun S0 O0 w0 m0 hm0 => ?_)
  refine gS (gR ?_)
  refine vq rfl qA ?_
  refine gN (tN (gS (gR ?_)))
  refine vq rfl (qL u283) ?_
  refine vq rfl qM ?_
  refine vq rfl qM ?_
  refine vq rfl (q_add (hw := rfl)) ?_
  refine vq rfl qM ?_
  refine vq rfl q_leq ?_
  refine vq rfl qM ?_
  refine sg rfl (fun hg => qM) ?_
  refine sg rfl (fun hg => qM) ?_
  refine sg rfl (fun hg => sP 14 rfl hg (q_sub (hw := rfl))) ?_
  refine sg rfl (fun hg => sP 15 rfl hg (sP 13 rfl hg q_leq)) ?_
  refine vq rfl q_or ?_
  refine vq rfl qM ?_
  refine sg rfl (fun hg => qM) ?_
  refine sg rfl (fun hg => sP 19 rfl hg q_geq) ?_
  refine sg rfl (fun hg => sP 20 rfl hg qM) ?_
  refine sg rfl (fun hg => qM) ?_
  refine sg rfl (fun hg => qM) ?_
  refine sg rfl (fun hg => sP 23 rfl hg (q_sub (hw := rfl))) ?_
  refine sg rfl (fun hg => sP 24 rfl hg (sP 22 rfl hg q_geq)) ?_
  refine sg rfl (fun hg => sP 21 rfl hg q_or) ?_
  refine vq rfl q_and ?_
  refine gL (xs := [.tmp 9, .tmp 27]) rfl (c290 _ _) ?_
  refine vq rfl qA ?_
  refine gN (tN (gT ?_))
  refine fin1 (by simp) ?_
  exact ⟨rfl, rfl⟩
set_option maxHeartbeats 1000000 in
theorem c293 (a b : Int) : Pf Tryz.prog 293 [.int .i64 a, .int .i64 b, .ptr (.fn (.func 290) [] [])] (.d (valD (subV a b))) := by
  refine pf_body (rvs := [.tmp 5]) [(0, .d (.int .i64 a)), (1, .d (.int .i64 b)), (2, .d (.ptr (.fn (.func 290) [] [])))] Tryz.func293 Tryz.ntmps293 Tryz.results293 (fun S0 O0 w0 m0 hm0 => ?_)
  refine gS (gR ?_)
  refine vq rfl qA ?_
  refine gN (tN (gS (gR ?_)))
  refine vq rfl (qL u283) ?_
  refine vq rfl qM ?_
  refine vq rfl qM ?_
  refine vq rfl (q_sub (hw := rfl)) ?_
  refine vq rfl qM ?_
  refine vq rfl q_geq ?_
  refine vq rfl qM ?_
  refine sg rfl (fun hg => qM) ?_
  refine sg rfl (fun hg => qM) ?_
  refine sg rfl (fun hg => sP 14 rfl hg (q_add (hw := rfl))) ?_
  refine sg rfl (fun hg => sP 15 rfl hg (sP 13 rfl hg q_leq)) ?_
  refine vq rfl q_or ?_
  refine vq rfl qM ?_
  refine sg rfl (fun hg => qM) ?_
  refine sg rfl (fun hg => sP 19 rfl hg q_leq) ?_
  refine sg rfl (fun hg => sP 20 rfl hg qM) ?_
  refine sg rfl (fun hg => qM) ?_
  refine sg rfl (fun hg => qM) ?_
  refine sg rfl (fun hg => sP 23 rfl hg (q_add (hw := rfl))) ?_
  refine sg rfl (fun hg => sP 24 rfl hg (sP 22 rfl hg q_geq)) ?_
  refine sg rfl (fun hg => sP 21 rfl hg q_or) ?_
  refine vq rfl q_and ?_
  refine gL (xs := [.tmp 9, .tmp 27]) rfl (c290 _ _) ?_
  refine vq rfl qA ?_
  refine gN (tN (gT ?_))
  refine fin1 (by simp) ?_
  exact ⟨rfl, rfl⟩
set_option maxHeartbeats 4000000 in
theorem c294 (a b : Int) : Pf Tryz.prog 294 [.int .i64 a, .int .i64 b, .ptr (.fn (.func 290) [] [])] (.d (valD (mulV a b))) := by
  refine pf_body (rvs := [.tmp 5]) [(0, .d (.int .i64 a)), (1, .d (.int .i64 b)), (2, .d (.ptr (.fn (.func 290) [] [])))] Tryz.func294 Tryz.ntmps294 Tryz.results294 (fun S0 O0 w0 m0 hm0 => ?_)
  refine gS (gR ?_)
  refine vq rfl qA ?_
  refine gN (tN (gS ?_))
  by_cases hbz : b = 0
  ·
    refine g_cg0 [6, 7, 8, 9, 10, 11, 12, 13, 14, 15, 16, 17, 18, 19, 20, 21, 22, 23, 24, 25, 26, 27, 28, 29, 30, 31, 32, 33, 34, 35, 36, 37, 38, 39, 40, 41, 5] ?_
    refine cP [] ?_
    refine cS 1 (fun bq rest hc1 hc2 hc3 => vq rfl (qL u283) (gN ⟨rfl, rfl⟩)) ?_
    refine cP [] ?_
    refine cS 2 (fun bq rest hc1 hc2 hc3 => vq rfl qM (gN ⟨rfl, rfl⟩)) ?_
    refine cP [] ?_
    refine cS 3 (fun bq rest hc1 hc2 hc3 => vq rfl qM (gN ⟨rfl, rfl⟩)) ?_
    refine cP [1, 2] ?_
    refine cS 4 (fun bq rest hc1 hc2 hc3 => vq rfl (q_mul (hw := rfl)) (gN ⟨rfl, rfl⟩)) ?_
    refine cP [] ?_
    refine cS 5 (fun bq rest hc1 hc2 hc3 => vq rfl qM (gN ⟨rfl, rfl⟩)) ?_
    refine cP [4] ?_
    refine cS 6 (fun bq rest hc1 hc2 hc3 => vq rfl q_eql (gN ⟨rfl, rfl⟩)) ?_
    refine cP [5] ?_
    refine cS 7 (fun bq rest hc1 hc2 hc3 => vq rfl qM (gN ⟨rfl, rfl⟩)) ?_
    refine cP [6] ?_
    refine cS 8 (fun bq rest hc1 hc2 hc3 => sg rfl (fun hg => qM) (gN ⟨rfl, rfl⟩)) ?_
    refine cP [7, 6] ?_
    refine cS 9 (fun bq rest hc1 hc2 hc3 => sg rfl (fun hg => sP 13 rfl hg q_eql) (gN ⟨rfl, rfl⟩)) ?_
    refine cP [6, 8] ?_
    refine cS 10 (fun bq rest hc1 hc2 hc3 => vq rfl q_or (gN ⟨rfl, rfl⟩)) ?_
    refine cP [9, 6] ?_
    refine cS 11 (fun bq rest hc1 hc2 hc3 => vq rfl qM (gN ⟨rfl, rfl⟩)) ?_
    refine cP [10] ?_
    refine cS 12 (fun bq rest hc1 hc2 hc3 => sg rfl (fun hg => qM) (gN ⟨rfl, rfl⟩)) ?_
    refine cP [11, 10] ?_
    refine cS 13 (fun bq rest hc1 hc2 hc3 => sg rfl (fun hg => sP 17 rfl hg q_neq) (gN ⟨rfl, rfl⟩)) ?_
    refine cP [12, 10, 10] ?_
    refine cS 14 (fun bq rest hc1 hc2 hc3 => sg rfl (fun hg => sP 18 rfl hg qM) (gN ⟨rfl, rfl⟩)) ?_
    refine cP [13] ?_
    refine cS 15 (fun bq rest hc1 hc2 hc3 => sg rfl (fun hg => qM) (gN ⟨rfl, rfl⟩)) ?_
    refine cP [14, 13] ?_
    refine cS 16 (fun bq rest hc1 hc2 hc3 => sg rfl (fun hg => sP 20 rfl hg q_neq) (gN ⟨rfl, rfl⟩)) ?_
    refine cP [13, 15, 10] ?_
    refine cS 17 (fun bq rest hc1 hc2 hc3 => sg rfl (fun hg => sP 19 rfl hg q_or) (gN ⟨rfl, rfl⟩)) ?_
    refine cP [16, 13, 10] ?_
    refine cS 18 (fun bq rest hc1 hc2 hc3 => sg rfl (fun hg => sP 22 rfl hg qM) (gN ⟨rfl, rfl⟩)) ?_
    refine cP [17] ?_
    refine cS 19 (fun bq rest hc1 hc2 hc3 => sg rfl (fun hg => qM) (gN ⟨rfl, rfl⟩)) ?_
    refine cP [18, 17] ?_
    refine cS 20 (fun bq rest hc1 hc2 hc3 => sg rfl (fun hg => sP 24 rfl hg q_neq) (gN ⟨rfl, rfl⟩)) ?_
    refine cP [19, 17, 17] ?_
    refine cS 21 (fun bq rest hc1 hc2 hc3 => sg rfl (fun hg => sP 25 rfl hg qM) (gN ⟨rfl, rfl⟩)) ?_
    refine cP [20] ?_
    refine cS 22 (fun bq rest hc1 hc2 hc3 => sg rfl (fun hg => qM) (gN ⟨rfl, rfl⟩)) ?_
    refine cP [21, 20] ?_
    refine cS 23 (fun bq rest hc1 hc2 hc3 => sg rfl (fun hg => sP 27 rfl hg q_neq) (gN ⟨rfl, rfl⟩)) ?_
    refine cP [20, 22, 17] ?_
    refine cS 24 (fun bq rest hc1 hc2 hc3 => sg rfl (fun hg => sP 26 rfl hg q_or) (gN ⟨rfl, rfl⟩)) ?_
    refine cP [17, 23, 10] ?_
    refine cS 25 (fun bq rest hc1 hc2 hc3 => sg rfl (fun hg => sP 23 rfl hg q_and) (gN ⟨rfl, rfl⟩)) ?_
    refine cP [24, 20, 10] ?_
    refine cS 26 (fun bq rest hc1 hc2 hc3 => sg rfl (fun hg => sP 30 rfl hg qM) (gN ⟨rfl, rfl⟩)) ?_
    refine cP [25] ?_
    refine cS 27 (fun bq rest hc1 hc2 hc3 => sg rfl (fun hg => qM) (gN ⟨rfl, rfl⟩)) ?_
    refine cP [25] ?_
    refine cS 28 (fun bq rest hc1 hc2 hc3 => sg rfl (fun hg => qM) (gN ⟨rfl, rfl⟩)) ?_
    refine cP [26, 27, 25] ?_
    refine cS 29 (fun bq rest hc1 hc2 hc3 => sg rfl (fun hg => sP 33 rfl hg (sP 32 rfl hg (q_mul (hw := rfl)))) (gN ⟨rfl, rfl⟩)) ?_
    refine cP [25] ?_
    refine cS 30 (fun bq rest hc1 hc2 hc3 => sg rfl (fun hg => qM) (gN ⟨rfl, rfl⟩)) ?_
    refine cP [28, 29, 25] ?_
    refine cS 31 (fun bq rest hc1 hc2 hc3 => sgz (.int .i64 0) rfl (hf := by subst hbz; simp) (gN ⟨rfl, rfl⟩)) ?_
    refine cP [25] ?_
    refine cS 32 (fun bq rest hc1 hc2 hc3 => sg rfl (fun hg => qM) (gN ⟨rfl, rfl⟩)) ?_
    refine cP [30, 31, 25] ?_
    refine cS 33 (fun bq rest hc1 hc2 hc3 => sg rfl (fun hg => sP 37 rfl hg (sP 36 rfl hg q_eql)) (gN ⟨rfl, rfl⟩)) ?_
    refine cP [25, 32, 10] ?_
    refine cS 34 (fun bq rest hc1 hc2 hc3 => sg rfl (fun hg => sP 31 rfl hg q_and) (gN ⟨rfl, rfl⟩)) ?_
    refine cP [10, 33] ?_
    refine cS 35 (fun bq rest hc1 hc2 hc3 => vq rfl q_or (gN ⟨rfl, rfl⟩)) ?_
    refine cP [0, 3, 34, 25] ?_
    refine cS 36 (fun bq rest hc1 hc2 hc3 => gL (xs := [.tmp 9, .tmp 40]) rfl (c290 _ _) (gN ⟨rfl, rfl⟩)) ?_
    refine cP [35, 35, 0, 1, 2, 3, 4, 5, 6, 7, 8, 9, 10, 11, 12, 13, 14, 15, 16, 17, 18, 19, 20, 21, 22, 23, 24, 25, 26, 27, 28, 29, 30, 31, 32, 33, 34, 35] ?_
    refine cS 37 (fun bq rest hc1 hc2 hc3 => vq rfl qA (gN ⟨rfl, rfl⟩)) ?_
    refine cg_done ?_
    refine tN (gT ?_)
    refine fin1 (by simp) ?_
    exact ⟨by rw [mulV]; subst hbz; simp; rfl, rfl⟩
  refine g_cg0 [6, 7, 8, 9, 10, 11, 12, 13, 14, 15, 16, 17, 18, 19, 20, 21, 22, 23, 24, 25, 26, 27, 28, 29, 30, 31, 32, 33, 34, 35, 36, 37, 38, 39, 40, 41, 5] ?_
  refine cP [] ?_
  refine cS 1 (fun bq rest hc1 hc2 hc3 => vq rfl (qL u283) (gN ⟨rfl, rfl⟩)) ?_
  refine cP [] ?_
  refine cS 2 (fun bq rest hc1 hc2 hc3 => vq rfl qM (gN ⟨rfl, rfl⟩)) ?_
  refine cP [] ?_
  refine cS 3 (fun bq rest hc1 hc2 hc3 => vq rfl qM (gN ⟨rfl, rfl⟩)) ?_
  refine cP [1, 2] ?_
  refine cS 4 (fun bq rest hc1 hc2 hc3 => vq rfl (q_mul (hw := rfl)) (gN ⟨rfl, rfl⟩)) ?_
  refine cP [] ?_
  refine cS 5 (fun bq rest hc1 hc2 hc3 => vq rfl qM (gN ⟨rfl, rfl⟩)) ?_
  refine cP [4] ?_
  refine cS 6 (fun bq rest hc1 hc2 hc3 => vq rfl q_eql (gN ⟨rfl, rfl⟩)) ?_
  refine cP [5] ?_
  refine cS 7 (fun bq rest hc1 hc2 hc3 => vq rfl qM (gN ⟨rfl, rfl⟩)) ?_
  refine cP [6] ?_
  refine cS 8 (fun bq rest hc1 hc2 hc3 => sg rfl (fun hg => qM) (gN ⟨rfl, rfl⟩)) ?_
  refine cP [7, 6] ?_
  refine cS 9 (fun bq rest hc1 hc2 hc3 => sg rfl (fun hg => sP 13 rfl hg q_eql) (gN ⟨rfl, rfl⟩)) ?_
  refine cP [6, 8] ?_
  refine cS 10 (fun bq rest hc1 hc2 hc3 => vq rfl q_or (gN ⟨rfl, rfl⟩)) ?_
  refine cP [9, 6] ?_
  refine cS 11 (fun bq rest hc1 hc2 hc3 => vq rfl qM (gN ⟨rfl, rfl⟩)) ?_
  refine cP [10] ?_
  refine cS 12 (fun bq rest hc1 hc2 hc3 => sg rfl (fun hg => qM) (gN ⟨rfl, rfl⟩)) ?_
  refine cP [11, 10] ?_
  refine cS 13 (fun bq rest hc1 hc2 hc3 => sg rfl (fun hg => sP 17 rfl hg q_neq) (gN ⟨rfl, rfl⟩)) ?_
  refine cP [12, 10, 10] ?_
  refine cS 14 (fun bq rest hc1 hc2 hc3 => sg rfl (fun hg => sP 18 rfl hg qM) (gN ⟨rfl, rfl⟩)) ?_
  refine cP [13] ?_
  refine cS 15 (fun bq rest hc1 hc2 hc3 => sg rfl (fun hg => qM) (gN ⟨rfl, rfl⟩)) ?_
  refine cP [14, 13] ?_
  refine cS 16 (fun bq rest hc1 hc2 hc3 => sg rfl (fun hg => sP 20 rfl hg q_neq) (gN ⟨rfl, rfl⟩)) ?_
  refine cP [13, 15, 10] ?_
  refine cS 17 (fun bq rest hc1 hc2 hc3 => sg rfl (fun hg => sP 19 rfl hg q_or) (gN ⟨rfl, rfl⟩)) ?_
  refine cP [16, 13, 10] ?_
  refine cS 18 (fun bq rest hc1 hc2 hc3 => sg rfl (fun hg => sP 22 rfl hg qM) (gN ⟨rfl, rfl⟩)) ?_
  refine cP [17] ?_
  refine cS 19 (fun bq rest hc1 hc2 hc3 => sg rfl (fun hg => qM) (gN ⟨rfl, rfl⟩)) ?_
  refine cP [18, 17] ?_
  refine cS 20 (fun bq rest hc1 hc2 hc3 => sg rfl (fun hg => sP 24 rfl hg q_neq) (gN ⟨rfl, rfl⟩)) ?_
  refine cP [19, 17, 17] ?_
  refine cS 21 (fun bq rest hc1 hc2 hc3 => sg rfl (fun hg => sP 25 rfl hg qM) (gN ⟨rfl, rfl⟩)) ?_
  refine cP [20] ?_
  refine cS 22 (fun bq rest hc1 hc2 hc3 => sg rfl (fun hg => qM) (gN ⟨rfl, rfl⟩)) ?_
  refine cP [21, 20] ?_
  refine cS 23 (fun bq rest hc1 hc2 hc3 => sg rfl (fun hg => sP 27 rfl hg q_neq) (gN ⟨rfl, rfl⟩)) ?_
  refine cP [20, 22, 17] ?_
  refine cS 24 (fun bq rest hc1 hc2 hc3 => sg rfl (fun hg => sP 26 rfl hg q_or) (gN ⟨rfl, rfl⟩)) ?_
  refine cP [17, 23, 10] ?_
  refine cS 25 (fun bq rest hc1 hc2 hc3 => sg rfl (fun hg => sP 23 rfl hg q_and) (gN ⟨rfl, rfl⟩)) ?_
  refine cP [24, 20, 10] ?_
  refine cS 26 (fun bq rest hc1 hc2 hc3 => sg rfl (fun hg => sP 30 rfl hg qM) (gN ⟨rfl, rfl⟩)) ?_
  refine cP [25] ?_
  refine cS 27 (fun bq rest hc1 hc2 hc3 => sg rfl (fun hg => qM) (gN ⟨rfl, rfl⟩)) ?_
  refine cP [25] ?_
  refine cS 28 (fun bq rest hc1 hc2 hc3 => sg rfl (fun hg => qM) (gN ⟨rfl, rfl⟩)) ?_
  refine cP [26, 27, 25] ?_
  refine cS 29 (fun bq rest hc1 hc2 hc3 => sg rfl (fun hg => sP 33 rfl hg (sP 32 rfl hg (q_mul (hw := rfl)))) (gN ⟨rfl, rfl⟩)) ?_
  refine cP [25] ?_
  refine cS 30 (fun bq rest hc1 hc2 hc3 => sg rfl (fun hg => qM) (gN ⟨rfl, rfl⟩)) ?_
  refine cP [28, 29, 25] ?_
  refine cS 31 (fun bq rest hc1 hc2 hc3 => sg rfl (fun hg => sP 35 rfl hg (sP 34 rfl hg (q_quo hbz rfl))) (gN ⟨rfl, rfl⟩)) ?_
  refine cP [25] ?_
  refine cS 32 (fun bq rest hc1 hc2 hc3 => sg rfl (fun hg => qM) (gN ⟨rfl, rfl⟩)) ?_
  refine cP [30, 31, 25] ?_
  refine cS 33 (fun bq rest hc1 hc2 hc3 => sg rfl (fun hg => sP 37 rfl hg (sP 36 rfl hg q_eql)) (gN ⟨rfl, rfl⟩)) ?_
  refine cP [25, 32, 10] ?_
  refine cS 34 (fun bq rest hc1 hc2 hc3 => sg rfl (fun hg => sP 31 rfl hg q_and) (gN ⟨rfl, rfl⟩)) ?_
  refine cP [10, 33] ?_
  refine cS 35 (fun bq rest hc1 hc2 hc3 => vq rfl q_or (gN ⟨rfl, rfl⟩)) ?_
  refine cP [0, 3, 34, 25] ?_
  refine cS 36 (fun bq rest hc1 hc2 hc3 => gL (xs := [.tmp 9, .tmp 40]) rfl (c290 _ _) (gN ⟨rfl, rfl⟩)) ?_
  refine cP [35, 35, 0, 1, 2, 3, 4, 5, 6, 7, 8, 9, 10, 11, 12, 13, 14, 15, 16, 17, 18, 19, 20, 21, 22, 23, 24, 25, 26, 27, 28, 29, 30, 31, 32, 33, 34, 35] ?_
  refine cS 37 (fun bq rest hc1 hc2 hc3 => vq rfl qA (gN ⟨rfl, rfl⟩)) ?_
  refine cg_done ?_
  refine tN (gT ?_)
  refine fin1 (by simp) ?_
  exact ⟨rfl, rfl⟩
theorem c295 (a b : Int) : Pf Tryz.prog 295 [.int .i64 a, .int .i64 b, .ptr (.fn (.func 291) [] [])] (.d (valD (quoV a b))) := by
  refine pf_body (rvs := [.tmp 5]) [(0, .d (.int .i64 a)), (1, .d (.int .i64 b)), (2, .d (.ptr (.fn (.func 291) [] [])))] Tryz.func295 Tryz.ntmps295 Tryz.results295 (fun S0 O0 w0 m0 hm0 => ?_)
  refine gS (gR ?_)
  refine vq rfl qA ?_
  refine gN (tN (gS (gS (gR ?_))))
  refine vq rfl (qL u251) ?_
  refine vq rfl qM ?_
  refine vq rfl qM ?_
  refine gL (xs := [.tmp 7, .tmp 8]) rfl (c291 a b) ?_
  refine vq rfl q_not ?_
  refine gN (tN ?_)
  refine gC (fun hb0 => ?_) (fun hb0 => ?_)
  ·
    refine gS (gR ?_)
    refine vq rfl qA ?_
    refine gN (tN (gT (tR ?_)))
    refine fin1 (by simp) ?_
    exact ⟨by (rw [quoV, if_pos hb0] <;> rfl), rfl⟩
  have hz : b ≠ 0 := by
    rintro rfl
    simp [divB] at hb0
  refine gK (tN (gS (gR ?_)))
  refine vq rfl qM ?_
  refine vq rfl qM ?_
  refine vq rfl (q_quo hz rfl) ?_
  refine gL (xs := [.tmp 13]) rfl (c186 _) ?_
  refine vq rfl qA ?_
  refine gN (tN (gT ?_))
  refine fin1 (by simp) ?_
  exact ⟨by (rw [quoV, if_neg (by rw [hb0]; decide)] <;> rfl), rfl⟩
theorem c296 (a b : Int) : Pf Tryz.prog 296 [.int .i64 a, .int .i64 b, .ptr (.fn (.func 291) [] [])] (.d (valD (remV a b))) := by
  refine pf_body (rvs := [.tmp 5]) [(0, .d (.int .i64 a)), (1, .d (.int .i64 b)), (2, .d (.ptr (.fn (.func 291) [] [])))] Tryz.func296 Tryz.ntmps296 Tryz.results296 (fun S0 O0 w0 m0 hm0 => ?_)
  refine gS (gR ?_)
  refine vq rfl qA ?_
  refine gN (tN (gS (gS (gR ?_))))
  refine vq rfl (qL u251) ?_
  refine vq rfl qM ?_
  refine vq rfl qM ?_
  refine gL (xs := [.tmp 7, .tmp 8]) rfl (c291 a b) ?_
  refine vq rfl q_not ?_
  refine gN (tN ?_)
  refine gC (fun hb0 => ?_) (fun hb0 => ?_)
  ·
    refine gS (gR ?_)
    refine vq rfl qA ?_
    refine gN (tN (gT (tR ?_)))
    refine fin1 (by simp) ?_
    exact ⟨by (rw [remV, if_pos hb0] <;> rfl), rfl⟩
  have hz : b ≠ 0 := by
    rintro rfl
    simp [divB] at hb0
  refine gK (tN (gS (gR ?_)))
  refine vq rfl qM ?_
  refine vq rfl qM ?_
  refine vq rfl (q_rem hz rfl) ?_
  refine gL (xs := [.tmp 13]) rfl (c186 _) ?_
  refine vq rfl qA ?_
  refine gN (tN (gT ?_))
  refine fin1 (by simp) ?_
  exact ⟨by (rw [remV, if_neg (by rw [hb0]; decide)] <;> rfl), rfl⟩
theorem c297 (a b : Int) : Pf Tryz.prog 297 [.int .i64 a, .int .i64 b] (.d (.bool (a == b))) := by
  refine pf_body (rvs := [.tmp 4]) [(0, .d (.int .i64 a)), (1, .d (.int .i64 b))] Tryz.func297 Tryz.ntmps297 Tryz.results297 (fun S0 O0 w0 m0 hm0 => ?_)
  refine gS (gR ?_)
  refine vq rfl qA ?_
  refine gN (tN (gS (gR ?_)))
  refine vq rfl qM ?_
  refine vq rfl qM ?_
  refine vq rfl q_eql ?_
  refine vq rfl qA ?_
  refine gN (tN (gT ?_))
  refine fin1 (by simp) ?_
  exact ⟨rfl, rfl⟩
theorem c298 (a b : Int) : Pf Tryz.prog 298 [.int .i64 a, .int .i64 b] (.d (.bool (a != b))) := by
  refine pf_body (rvs := [.tmp 4]) [(0, .d (.int .i64 a)), (1, .d (.int .i64 b))] Tryz.func298 Tryz.ntmps298 Tryz.results298 (fun S0 O0 w0 m0 hm0 => ?_)
  refine gS (gR ?_)
  refine vq rfl qA ?_
  refine gN (tN (gS (gR ?_)))
  refine vq rfl qM ?_
  refine vq rfl qM ?_
  refine vq rfl q_neq ?_
  refine vq rfl qA ?_
  refine gN (tN (gT ?_))
  refine fin1 (by simp) ?_
  exact ⟨rfl, rfl⟩
theorem c299 (a b : Int) : Pf Tryz.prog 299 [.int .i64 a, .int .i64 b] (.d (.bool (decide (a < b)))) := by
  refine pf_body (rvs := [.tmp 4]) [(0, .d (.int .i64 a)), (1, .d (.int .i64 b))] Tryz.func299 Tryz.ntmps299 Tryz.results299 (fun S0 O0 w0 m0 hm0 => ?_)
  refine gS (gR ?_)
  refine vq rfl qA ?_
  refine gN (tN (gS (gR ?_)))
  refine vq rfl qM ?_
  refine vq rfl qM ?_
  refine vq rfl q_lss ?_
  refine vq rfl qA ?_
  refine gN (tN (gT ?_))
  refine fin1 (by simp) ?_
  exact ⟨rfl, rfl⟩
theorem c300 (a b : Int) : Pf Tryz.prog 300 [.int .i64 a, .int .i64 b] (.d (.bool (decide (a ≤ b)))) := by
  refine pf_body (rvs := [.tmp 4]) [(0, .d (.int .i64 a)), (1, .d (.int .i64 b))] Tryz.func300 Tryz.ntmps300 Tryz.results300 (fun S0 O0 w0 m0 hm0 => ?_)
  refine gS (gR ?_)
  refine vq rfl qA ?_
  refine gN (tN (gS (gR ?_)))
  refine vq rfl qM ?_
  refine vq rfl qM ?_
  refine vq rfl q_leq ?_
  refine vq rfl qA ?_
  refine gN (tN (gT ?_))
  refine fin1 (by simp) ?_
  exact ⟨rfl, rfl⟩
theorem c301 (a b : Int) : Pf Tryz.prog 301 [.int .i64 a, .int .i64 b] (.d (.bool (decide (a > b)))) := by
  refine pf_body (rvs := [.tmp 4]) [(0, .d (.int .i64 a)), (1, .d (.int .i64 b))] Tryz.func301 Tryz.ntmps301 Tryz.results301 (fun S0 O0 w0 m0 hm0 => ?_)
  refine gS (gR ?_)
  refine vq rfl qA ?_
  refine gN (tN (gS (gR ?_)))
  refine vq rfl qM ?_
  refine vq rfl qM ?_
  refine vq rfl q_gtr ?_
  refine vq rfl qA ?_
  refine gN (tN (gT ?_))
  refine fin1 (by simp) ?_
  exact ⟨rfl, rfl⟩
theorem c302 (a b : Int) : Pf Tryz.prog 302 [.int .i64 a, .int .i64 b] (.d (.bool (decide (a ≥ b)))) := by
  refine pf_body (rvs := [.tmp 4]) [(0, .d (.int .i64 a)), (1, .d (.int .i64 b))] Tryz.func302 Tryz.ntmps302 Tryz.results302 (fun S0 O0 w0 m0 hm0 => ?_)
  refine gS (gR ?_)
  refine vq rfl qA ?_
  refine gN (tN (gS (gR ?_)))
  refine vq rfl qM ?_
  refine vq rfl qM ?_
  refine vq rfl q_geq ?_
  refine vq rfl qA ?_
  refine gN (tN (gT ?_))
  refine fin1 (by simp) ?_
  exact ⟨rfl, rfl⟩
structure Op2 (α : Type) where
  g : Nat
  caps : List D
  f : Int → Int → α
def Op2.d {α : Type} (o : Op2 α) : D := .fn (.func o.g) [] o.caps
def intTab : List (ByteArray × Op2 (Option Tr)) := [(⟨#[43]⟩, ⟨292, [.ptr (.fn (.func 290) [] [])], addV⟩), (⟨#[45]⟩, ⟨293, [.ptr (.fn (.func 290) [] [])], subV⟩), (⟨#[42]⟩, ⟨294, [.ptr (.fn (.func 290) [] [])], mulV⟩), (⟨#[47]⟩, ⟨295, [.ptr (.fn (.func 291) [] [])], quoV⟩), (⟨#[37]⟩, ⟨296, [.ptr (.fn (.func 291) [] [])], remV⟩)]
def cmpTab : List (ByteArray × Op2 Bool) := [(⟨#[61, 61]⟩, ⟨297, [], fun a b => a == b⟩), (⟨#[33, 61]⟩, ⟨298, [], fun a b => a != b⟩), (⟨#[60]⟩, ⟨299, [], fun a b => decide (a < b)⟩), (⟨#[60, 61]⟩, ⟨300, [], fun a b => decide (a ≤ b)⟩), (⟨#[62]⟩, ⟨301, [], fun a b => decide (a > b)⟩), (⟨#[62, 61]⟩, ⟨302, [], fun a b => decide (a ≥ b)⟩)]
def tabM {α : Type} (l : List (ByteArray × Op2 α)) : List (D × D) := l.map fun x => (.str x.1, x.2.d)
def tabGet {α : Type} (l : List (ByteArray × Op2 α)) (nm : ByteArray) : Option (Op2 α) := (l.find? fun x => decide (x.1 = nm)).map (·.2)
theorem find_tab {α : Type} (l : List (ByteArray × Op2 α)) (nm : ByteArray) : (tabM l).find? (fun x => x.1.keyEq (.str nm)) = (l.find? fun x => decide (x.1 = nm)).map fun x => (D.str x.1, x.2.d) := by
  have h : ((fun x : D × D => x.1.keyEq (.str nm)) ∘ fun x : ByteArray × Op2 α => (D.str x.1, x.2.d)) = fun x => decide (x.1 = nm) := rfl
  unfold tabM
  rw [List.find?_map, h]
theorem mget_tab {α : Type} (l : List (ByteArray × Op2 α)) (nm : ByteArray) (z : D) : mget (tabM l) (.str nm) z = match tabGet l nm with | some s => s.d | none => z := by
  unfold mget tabGet
  rw [find_tab]
  cases l.find? (fun x => decide (x.1 = nm)) <;> rfl
theorem mhas_tab {α : Type} (l : List (ByteArray × Op2 α)) (nm : ByteArray) : mhas (tabM l) (.str nm) = (tabGet l nm).isSome := by
  have h : ((fun x : D × D => x.1.keyEq (.str nm)) ∘ fun x : ByteArray × Op2 α => (D.str x.1, x.2.d)) = fun x => decide (x.1 = nm) := rfl
  unfold mhas tabGet tabM
  rw [List.any_map, h, Option.isSome_map, Bool.eq_iff_iff, List.any_eq_true, List.find?_isSome]
theorem tabGet_mem {α : Type} {l : List (ByteArray × Op2 α)} {nm : ByteArray} {o : Op2 α} (h : tabGet l nm = some o) : ∃ x ∈ l, x.2 = o := by
  unfold tabGet at h
  cases hf : l.find? (fun x => decide (x.1 = nm)) with
  | none => rw [hf] at h; cases h
  | some x =>
    rw [hf] at h
    injection h with h
    exact ⟨x, List.mem_of_find?_eq_some hf, h⟩
theorem intTab_ok {nm : ByteArray} {g : Nat} {caps : List D} {f : Int → Int → Option Tr} (h : tabGet intTab nm = some ⟨g, caps, f⟩) (a b : Int) : Pf Tryz.prog g ([] ++ [.int .i64 a, .int .i64 b] ++ caps) (.d (valD (f a b))) := by
  obtain ⟨x, hx, he⟩ := tabGet_mem h
  simp only [intTab, List.mem_cons, List.not_mem_nil, or_false] at hx
  rcases hx with rfl | rfl | rfl | rfl | rfl <;> (injection he with h1 h2 h3; subst h1; subst h2; subst h3)
  · exact c292 a b
  · exact c293 a b
  · exact c294 a b
  · exact c295 a b
  · exact c296 a b
theorem cmpTab_ok {nm : ByteArray} {g : Nat} {caps : List D} {f : Int → Int → Bool} (h : tabGet cmpTab nm = some ⟨g, caps, f⟩) (a b : Int) : Pf Tryz.prog g ([] ++ [.int .i64 a, .int .i64 b] ++ caps) (.d (.bool (f a b))) := by
  obtain ⟨x, hx, he⟩ := tabGet_mem h
  simp only [cmpTab, List.mem_cons, List.not_mem_nil, or_false] at hx
  rcases hx with rfl | rfl | rfl | rfl | rfl | rfl <;> (injection he with h1 h2 h3; subst h1; subst h2; subst h3)
  · exact c297 a b
  · exact c298 a b
  · exact c299 a b
  · exact c300 a b
  · exact c301 a b
  · exact c302 a b
set_option maxHeartbeats 4000000 in
theorem c244  : Pf Tryz.prog 244 [] (.d (.map (tabM intTab))) := by
  refine pf_body (rvs := [.tmp 0]) [] Tryz.func244 Tryz.ntmps244 Tryz.results244 (fun S0 O0 w0 m0 hm0 => ?_)
  refine gS (gR ?_)
  refine vq rfl qA ?_
  refine gN (tN (gS (gR ?_)))
  refine sv rfl (y_alloc zr283) ?_
  refine sa rfl (dS sz283) ?_
  refine gF 0 [] (.fn (.func 290) [] []) rfl ?_
  refine gN (tN (gS (gR ?_)))
  refine sv rfl (y_alloc zr251) ?_
  refine sa rfl (dS sz251) ?_
  refine gF 0 [] (.fn (.func 291) [] []) rfl ?_
  refine gN (tN (gS (gR ?_)))
  refine sv rfl y_makeMap ?_
  refine vq rfl (q_makeFunc (xs := []) (ys := [.tmp 1])) ?_
  refine sa rfl (d_insert u249 u9) ?_
  refine vq rfl (q_makeFunc (xs := []) (ys := [.tmp 1])) ?_
  refine sa rfl (d_insert u249 u9) ?_
  refine vq rfl (q_makeFunc (xs := []) (ys := [.tmp 1])) ?_
  refine sa rfl (d_insert u249 u9) ?_
  refine vq rfl (q_makeFunc (xs := []) (ys := [.tmp 2])) ?_
  refine sa rfl (d_insert u249 u9) ?_
  refine vq rfl (q_makeFunc (xs := []) (ys := [.tmp 2])) ?_
  refine sa rfl (d_insert u249 u9) ?_
  refine vq rfl qM ?_
  refine vq rfl qA ?_
  refine g_freezeM 0 [] rfl ?_
  refine gN (tN (gT ?_))
  refine fin1 (by simp) ?_
  exact ⟨rfl, rfl⟩
set_option maxHeartbeats 4000000 in
theorem c245  : Pf Tryz.prog 245 [] (.d (.map (tabM cmpTab))) := by
  refine pf_body (rvs := [.tmp 0]) [] Tryz.func245 Tryz.ntmps245 Tryz.results245 (fun S0 O0 w0 m0 hm0 => ?_)
  refine gS (gR ?_)
  refine vq rfl qA ?_
  refine gN (tN (gS (gR ?_)))
  refine sv rfl y_makeMap ?_
  refine sa rfl (d_insert u253 u9) ?_
  refine sa rfl (d_insert u253 u9) ?_
  refine sa rfl (d_insert u253 u9) ?_
  refine sa rfl (d_insert u253 u9) ?_
  refine sa rfl (d_insert u253 u9) ?_
  refine sa rfl (d_insert u253 u9) ?_
  refine vq rfl qM ?_
  refine vq rfl qA ?_
  refine g_freezeM 0 [] rfl ?_
  refine gN (tN (gT ?_))
  refine fin1 (by simp) ?_
  exact ⟨rfl, rfl⟩
end Go.Proofs.YtklkbfpjimeaoaaGreat
