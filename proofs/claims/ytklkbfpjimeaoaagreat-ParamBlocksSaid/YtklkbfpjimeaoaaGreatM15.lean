import Derived.Test.YtklkbfpjimeaoaaGreatM14
/- Contracts of functions. Conditions: none. -/
set_option linter.unusedSimpArgs false
set_option linter.unusedVariables false
set_option maxRecDepth 20000
namespace Go.Proofs.YtklkbfpjimeaoaaGreat
open Go Go.Proofs.YtklkbfpjimeaoaaGreat.E
theorem c160 (op : Int) : Pf Tryz.prog 160 [.int .i64 op] (.d (.bool (op == 66))) := by
 refine pf_body (rvs := [.tmp 2]) [(0, .d (.int .i64 op))] Tryz.func160 Tryz.ntmps160 Tryz.results160 (fun S0 O0 w0 m0 hm0 => ?_)
 refine Z249 ?_;refine Z9 ?_;refine Z195 ?_
 exact ⟨rfl, rfl⟩
theorem c232 (op : Int) : Pf Tryz.prog 232 [.int .i64 op] (.d (.bool (op == 67))) := by
 refine pf_body (rvs := [.tmp 2]) [(0, .d (.int .i64 op))] Tryz.func232 Tryz.ntmps232 Tryz.results232 (fun S0 O0 w0 m0 hm0 => ?_)
 refine Z249 ?_;refine Z9 ?_;refine Z195 ?_
 exact ⟨rfl, rfl⟩
theorem c163 (op : Int) : Pf Tryz.prog 163 [.int .i64 op] (.d (.bool (isExprB op || op == 3))) := by
 refine pf_body (rvs := [.tmp 2]) [(0, .d (.int .i64 op))] Tryz.func163 Tryz.ntmps163 Tryz.results163 (fun S0 O0 w0 m0 hm0 => ?_)
 refine Z249 ?_
 refine gL (xs := [.tmp 3]) rfl (c74 op) ?_
 refine Z205 ?_
 refine sg rfl (fun hg => sP 6 rfl hg q_eql) ?_
 refine Z24 ?_;refine Z195 ?_
 exact ⟨rfl, rfl⟩
theorem c286 (op : Int) : Pf Tryz.prog 286 [.int .i64 op] (.d (.bool (isExprB op || op == 30))) := by
 refine pf_body (rvs := [.tmp 2]) [(0, .d (.int .i64 op))] Tryz.func286 Tryz.ntmps286 Tryz.results286 (fun S0 O0 w0 m0 hm0 => ?_)
 refine Z249 ?_
 refine gL (xs := [.tmp 3]) rfl (c74 op) ?_
 refine Z205 ?_
 refine sg rfl (fun hg => sP 6 rfl hg q_eql) ?_
 refine Z24 ?_;refine Z195 ?_
 exact ⟨rfl, rfl⟩
theorem c233 (t : Tr) (g : FuncId) (p : Int → Bool) (hcb : ∀ op, Pf Tryz.prog g [.int .i64 op] (.d (.bool (p op)))) : Pf Tryz.prog 233 [t.d, .ptr (.fn (.func g) [] [])] (.d (.bool (!p t.op))) := by
 obtain ⟨op, name, num, ks⟩ := t
 rw [Tr.d_mk]
 try simp only [Tr.op_mk, Tr.nm_mk, Tr.nu_mk, Tr.kids_mk]
 refine pf_body (rvs := [.tmp 3]) [(0, .d (.agg [.int .i64 op, .str name, .int .i64 num, .sl (ks.map Tr.d)])), (1, .d (.ptr (.fn (.func g) [] [])))] Tryz.func233 Tryz.ntmps233 Tryz.results233 (fun S0 O0 w0 m0 hm0 => ?_)
 refine Z202 ?_
 refine gF 0 [] (.agg [.int .i64 op, .str name, .int .i64 num, .sl (ks.map Tr.d)]) rfl ?_
 refine Z194 ?_
 refine vq rfl (qL u109) ?_
 refine Z199 ?_
 refine gL (xs := [.tmp 6]) rfl (hcb op) ?_
 refine Z37 ?_;refine Z195 ?_
 exact ⟨rfl, rfl⟩
def everyB (p : Int → Bool) (ks : List Tr) : Bool := !(ks.any fun k => !p k.op)
theorem Tr.kids_len {t : Tr} (h : t.Ok) : t.kids.length ≤ 140737488355328 := by cases h; assumption
theorem Tr.kids_ok {t : Tr} (h : t.Ok) : ∀ k ∈ t.kids, k.Ok := by cases h; assumption
theorem c159 (t : Tr) (g : FuncId) (p : Int → Bool) (hok : t.Ok) (hcb : ∀ op, Pf Tryz.prog g [.int .i64 op] (.d (.bool (p op)))) : Pf Tryz.prog 159 [t.d, .fn (.func g) [] []] (.d (.bool (everyB p t.kids))) := by
 obtain ⟨op, name, num, ks⟩ := t
 rw [Tr.d_mk]
 try simp only [Tr.op_mk, Tr.nm_mk, Tr.nu_mk, Tr.kids_mk]
 refine pf_body (rvs := [.tmp 4]) [(0, .d (.agg [.int .i64 op, .str name, .int .i64 num, .sl (ks.map Tr.d)])), (1, .d (.fn (.func g) [] []))] Tryz.func159 Tryz.ntmps159 Tryz.results159 (fun S0 O0 w0 m0 hm0 => ?_)
 refine Z202 ?_
 refine gF 0 [] (.agg [.int .i64 op, .str name, .int .i64 num, .sl (ks.map Tr.d)]) rfl ?_
 refine Z18 ?_
 refine gF 0 [] (.fn (.func g) [] []) rfl ?_
 refine Z194 ?_;refine Z203 ?_
 refine vq rfl (q_makeFunc (xs := []) (ys := [.tmp 3])) ?_
 refine gL (xs := [.tmp 6, .tmp 7]) rfl (c52 ks 233 [] [.ptr (.fn (.func g) [] [])] (fun k => !p k.op) (Tr.kids_len hok) (fun x hx => c233 x g p hcb)) ?_
 refine Z37 ?_;refine Z195 ?_
 exact ⟨rfl, rfl⟩
theorem c152 (t : Tr) : Pf Tryz.prog 152 [t.d] (.d (.bool true)) := by
 obtain ⟨op, name, num, ks⟩ := t
 rw [Tr.d_mk]
 try simp only [Tr.op_mk, Tr.nm_mk, Tr.nu_mk, Tr.kids_mk]
 refine pf_body (rvs := [.tmp 2]) [(0, .d (.agg [.int .i64 op, .str name, .int .i64 num, .sl (ks.map Tr.d)]))] Tryz.func152 Tryz.ntmps152 Tryz.results152 (fun S0 O0 w0 m0 hm0 => ?_)
 refine Z202 ?_
 refine gF 0 [] (.agg [.int .i64 op, .str name, .int .i64 num, .sl (ks.map Tr.d)]) rfl ?_
 refine Z194 ?_;refine Z195 ?_
 exact ⟨rfl, rfl⟩
def rule154 (t : Tr) : Bool := (t.nu == 0 || t.nu == 1) && (t.kids.length : Int) == 0
def opK (i : Nat) (ks : List Tr) : Int := match ks[i]? with | some k => k.op | none => 0
def ee : ByteArray := ⟨#[101, 101]⟩
def rule155 (t : Tr) : Bool := kidsB t.kids ee && (opK 0 t.kids == 4 || opK 0 t.kids == 12)
def rule158 (t : Tr) : Bool := decide ((t.kids.length : Int) > 0) && everyB (fun op => op == 66) t.kids
def rule161 (t : Tr) : Bool := (t.kids.length : Int) == 1 && (opK 0 t.kids == 13 || opK 0 t.kids == 15)
theorem c154 (t : Tr) : Pf Tryz.prog 154 [t.d] (.d (.bool (rule154 t))) := by
 obtain ⟨op, name, num, ks⟩ := t
 rw [Tr.d_mk]
 try simp only [Tr.op_mk, Tr.nm_mk, Tr.nu_mk, Tr.kids_mk]
 refine pf_body (rvs := [.tmp 2]) [(0, .d (.agg [.int .i64 op, .str name, .int .i64 num, .sl (ks.map Tr.d)]))] Tryz.func154 Tryz.ntmps154 Tryz.results154 (fun S0 O0 w0 m0 hm0 => ?_)
 refine Z202 ?_
 refine gF 0 [] (.agg [.int .i64 op, .str name, .int .i64 num, .sl (ks.map Tr.d)]) rfl ?_
 refine Z194 ?_;refine Z229 ?_;refine Z206 ?_;refine Z108 ?_;refine Z137 ?_;refine Z24 ?_;refine Z237 ?_
 refine sg rfl (fun hg => sP 12 rfl hg (qL u22)) ?_
 refine sg rfl (fun hg => sP 13 rfl hg (q_len u22)) ?_
 refine sg rfl (fun hg => sP 14 rfl hg q_eql) ?_
 refine Z228 ?_
 exact ⟨by simp [rule154, Tr.nu, Tr.kids], rfl⟩
theorem c155 (t : Tr) (hok : t.Ok) : Pf Tryz.prog 155 [t.d] (.d (.bool (rule155 t))) := by
 obtain ⟨op, name, num, ks⟩ := t
 rw [Tr.d_mk]
 try simp only [Tr.op_mk, Tr.nm_mk, Tr.nu_mk, Tr.kids_mk]
 refine pf_body (rvs := [.tmp 2]) [(0, .d (.agg [.int .i64 op, .str name, .int .i64 num, .sl (ks.map Tr.d)]))] Tryz.func155 Tryz.ntmps155 Tryz.results155 (fun S0 O0 w0 m0 hm0 => ?_)
 refine Z202 ?_
 refine gF 0 [] (.agg [.int .i64 op, .str name, .int .i64 num, .sl (ks.map Tr.d)]) rfl ?_
 refine Z194 ?_;refine Z11 ?_
 refine gL (xs := [.tmp 3, .const (.string ⟨#[101, 101]⟩)]) rfl ((Tr.d_mk op name num ks ▸ c156 (.mk op name num ks) ee hok)) ?_
 refine Z1 ?_
 refine g_split 5 true (fun hsp => ?_) (fun hsp => ?_)
 ·
  obtain ⟨k, r, hks⟩ : ∃ k r, ks = k :: r := by
   cases hks : ks with
   | nil => exfalso; have := kidsB_len (by simpa using hsp); rw [show (Tr.mk op name num ks).kids = ks from rfl, hks] at this; exact absurd this (by decide)
   | cons k r => exact ⟨k, r, rfl⟩
  subst hks
  obtain ⟨kop, knm, knu, kks, hka⟩ := k.d_agg
  have hkop : k.op = kop := by obtain ⟨o, n, u, l⟩ := k; rw [Tr.d_mk] at hka; injection hka with hka; injection hka with hka; injection hka
  have hxa : ((k :: r).map Tr.d)[0]? = some (.agg [.int .i64 kop, .str knm, .int .i64 knu, .sl (kks.map Tr.d)]) := by rw [← hka]; rfl
  refine sgo rfl hsp (y_fieldp_leaf u27 rfl sz22) ?_
  refine sgo rfl hsp (y_loadp_leaf u22) ?_
  refine sgo rfl hsp (y_indexAddr u22 sz27) ?_
  refine sgo rfl hsp (y_fieldp_leaf u27 rfl sz3) ?_
  refine sgo rfl hsp (y_loadp_leaf u3) ?_
  refine sgo rfl hsp y_eql ?_
  refine sgo rfl hsp y_move ?_
  refine Z51 ?_
  refine sg rfl (fun hg => sP 13 rfl hg (qL u22)) ?_
  refine sg rfl (fun hg => sP 14 rfl hg (qI u22 sz27)) ?_
  refine sg rfl (fun hg => sP 15 rfl hg (qF u27 rfl sz3)) ?_
  refine sg rfl (fun hg => sP 16 rfl hg (qL u3)) ?_
  refine sg rfl (fun hg => sP 17 rfl hg q_eql) ?_
  refine sgo rfl hsp y_or ?_
  refine Z228 ?_
  exact ⟨by simp [rule155, Tr.kids, opK, hkop], rfl⟩
 skip
 refine sgx rfl ?_ ?_
 · first | exact hsp | (rw [hsp]; rfl) | simp [hsp] | simp_all
 refine sgx rfl ?_ ?_
 · first | exact hsp | (rw [hsp]; rfl) | simp [hsp] | simp_all
 refine sgx rfl ?_ ?_
 · first | exact hsp | (rw [hsp]; rfl) | simp [hsp] | simp_all
 refine sgx rfl ?_ ?_
 · first | exact hsp | (rw [hsp]; rfl) | simp [hsp] | simp_all
 refine sgx rfl ?_ ?_
 · first | exact hsp | (rw [hsp]; rfl) | simp [hsp] | simp_all
 refine sgx rfl ?_ ?_
 · first | exact hsp | (rw [hsp]; rfl) | simp [hsp] | simp_all
 refine sgx rfl ?_ ?_
 · first | exact hsp | (rw [hsp]; rfl) | simp [hsp] | simp_all
 refine sgx rfl ?_ ?_
 · first | exact hsp | (rw [hsp]; rfl) | simp [hsp] | simp_all
 refine sgx rfl ?_ ?_
 · first | exact hsp | (rw [hsp]; rfl) | simp [hsp] | simp_all
 refine sgx rfl ?_ ?_
 · first | exact hsp | (rw [hsp]; rfl) | simp [hsp] | simp_all
 refine sgx rfl ?_ ?_
 · first | exact hsp | (rw [hsp]; rfl) | simp [hsp] | simp_all
 refine sgx rfl ?_ ?_
 · first | exact hsp | (rw [hsp]; rfl) | simp [hsp] | simp_all
 refine sgx rfl ?_ ?_
 · first | exact hsp | (rw [hsp]; rfl) | simp [hsp] | simp_all
 refine sgx rfl ?_ ?_
 · first | exact hsp | (rw [hsp]; rfl) | simp [hsp] | simp_all
 refine Z228 ?_
 exact ⟨by simp [rule155, Tr.kids] at hsp ⊢; simp [hsp], rfl⟩
theorem c158 (t : Tr) (hok : t.Ok) : Pf Tryz.prog 158 [t.d] (.d (.bool (rule158 t))) := by
 obtain ⟨op, name, num, ks⟩ := t
 rw [Tr.d_mk]
 try simp only [Tr.op_mk, Tr.nm_mk, Tr.nu_mk, Tr.kids_mk]
 refine pf_body (rvs := [.tmp 2]) [(0, .d (.agg [.int .i64 op, .str name, .int .i64 num, .sl (ks.map Tr.d)]))] Tryz.func158 Tryz.ntmps158 Tryz.results158 (fun S0 O0 w0 m0 hm0 => ?_)
 refine Z202 ?_
 refine gF 0 [] (.agg [.int .i64 op, .str name, .int .i64 num, .sl (ks.map Tr.d)]) rfl ?_
 refine Z194 ?_;refine Z236 ?_;refine Z62 ?_;refine Z231 ?_
 refine g_callg (xs := [.tmp 8, .func 160]) rfl (fun hg => (Tr.d_mk op name num ks ▸ c159 (.mk op name num ks) 160 (fun op => op == 66) hok c160)) ?_
 refine Z228 ?_
 exact ⟨by simp [rule158, Tr.kids], rfl⟩
theorem c161 (t : Tr) (hok : t.Ok) : Pf Tryz.prog 161 [t.d] (.d (.bool (rule161 t))) := by
 obtain ⟨op, name, num, ks⟩ := t
 rw [Tr.d_mk]
 try simp only [Tr.op_mk, Tr.nm_mk, Tr.nu_mk, Tr.kids_mk]
 refine pf_body (rvs := [.tmp 2]) [(0, .d (.agg [.int .i64 op, .str name, .int .i64 num, .sl (ks.map Tr.d)]))] Tryz.func161 Tryz.ntmps161 Tryz.results161 (fun S0 O0 w0 m0 hm0 => ?_)
 refine Z202 ?_
 refine gF 0 [] (.agg [.int .i64 op, .str name, .int .i64 num, .sl (ks.map Tr.d)]) rfl ?_
 refine Z194 ?_;refine Z236 ?_;refine Z9 ?_;refine Z1 ?_
 refine g_split 7 true (fun hsp => ?_) (fun hsp => ?_)
 ·
  obtain ⟨k, r, hks⟩ : ∃ k r, ks = k :: r := by
   cases hks : ks with
   | nil => exfalso; rw [hks] at hsp; exact absurd hsp (by decide)
   | cons k r => exact ⟨k, r, rfl⟩
  subst hks
  obtain ⟨kop, knm, knu, kks, hka⟩ := k.d_agg
  have hkop : k.op = kop := by obtain ⟨o, n, u, l⟩ := k; rw [Tr.d_mk] at hka; injection hka with hka; injection hka with hka; injection hka
  have hxa : ((k :: r).map Tr.d)[0]? = some (.agg [.int .i64 kop, .str knm, .int .i64 knu, .sl (kks.map Tr.d)]) := by rw [← hka]; rfl
  refine sgo rfl hsp (y_fieldp_leaf u27 rfl sz22) ?_
  refine sgo rfl hsp (y_loadp_leaf u22) ?_
  refine sgo rfl hsp (y_indexAddr u22 sz27) ?_
  refine sgo rfl hsp (y_fieldp_leaf u27 rfl sz3) ?_
  refine sgo rfl hsp (y_loadp_leaf u3) ?_
  refine sgo rfl hsp y_eql ?_
  refine sgo rfl hsp y_move ?_
  refine Z51 ?_
  refine sg rfl (fun hg => sP 15 rfl hg (qL u22)) ?_
  refine sg rfl (fun hg => sP 16 rfl hg (qI u22 sz27)) ?_
  refine sg rfl (fun hg => sP 17 rfl hg (qF u27 rfl sz3)) ?_
  refine sg rfl (fun hg => sP 18 rfl hg (qL u3)) ?_
  refine sg rfl (fun hg => sP 19 rfl hg q_eql) ?_
  refine sgo rfl hsp y_or ?_
  refine Z228 ?_
  exact ⟨by simp [rule161, Tr.kids, opK, hkop], rfl⟩
 skip
 refine sgx rfl ?_ ?_
 · first | exact hsp | (rw [hsp]; rfl) | simp [hsp] | simp_all
 refine sgx rfl ?_ ?_
 · first | exact hsp | (rw [hsp]; rfl) | simp [hsp] | simp_all
 refine sgx rfl ?_ ?_
 · first | exact hsp | (rw [hsp]; rfl) | simp [hsp] | simp_all
 refine sgx rfl ?_ ?_
 · first | exact hsp | (rw [hsp]; rfl) | simp [hsp] | simp_all
 refine sgx rfl ?_ ?_
 · first | exact hsp | (rw [hsp]; rfl) | simp [hsp] | simp_all
 refine sgx rfl ?_ ?_
 · first | exact hsp | (rw [hsp]; rfl) | simp [hsp] | simp_all
 refine sgx rfl ?_ ?_
 · first | exact hsp | (rw [hsp]; rfl) | simp [hsp] | simp_all
 refine sgx rfl ?_ ?_
 · first | exact hsp | (rw [hsp]; rfl) | simp [hsp] | simp_all
 refine sgx rfl ?_ ?_
 · first | exact hsp | (rw [hsp]; rfl) | simp [hsp] | simp_all
 refine sgx rfl ?_ ?_
 · first | exact hsp | (rw [hsp]; rfl) | simp [hsp] | simp_all
 refine sgx rfl ?_ ?_
 · first | exact hsp | (rw [hsp]; rfl) | simp [hsp] | simp_all
 refine sgx rfl ?_ ?_
 · first | exact hsp | (rw [hsp]; rfl) | simp [hsp] | simp_all
 refine sgx rfl ?_ ?_
 · first | exact hsp | (rw [hsp]; rfl) | simp [hsp] | simp_all
 refine sgx rfl ?_ ?_
 · first | exact hsp | (rw [hsp]; rfl) | simp [hsp] | simp_all
 refine Z228 ?_
 exact ⟨by simp [rule161, Tr.kids] at hsp ⊢; simp [hsp], rfl⟩
theorem c162 (t : Tr) (hok : t.Ok) : Pf Tryz.prog 162 [t.d] (.d (.bool (everyB (fun op => isExprB op || op == 3) t.kids))) := by
 obtain ⟨op, name, num, ks⟩ := t
 rw [Tr.d_mk]
 try simp only [Tr.op_mk, Tr.nm_mk, Tr.nu_mk, Tr.kids_mk]
 refine pf_body (rvs := [.tmp 2]) [(0, .d (.agg [.int .i64 op, .str name, .int .i64 num, .sl (ks.map Tr.d)]))] Tryz.func162 Tryz.ntmps162 Tryz.results162 (fun S0 O0 w0 m0 hm0 => ?_)
 refine Z202 ?_
 refine gF 0 [] (.agg [.int .i64 op, .str name, .int .i64 num, .sl (ks.map Tr.d)]) rfl ?_
 refine Z194 ?_;refine Z11 ?_
 refine gL (xs := [.tmp 3, .func 163]) rfl ((Tr.d_mk op name num ks ▸ c159 (.mk op name num ks) 163 (fun op => isExprB op || op == 3) hok c163)) ?_
 refine Z195 ?_
 exact ⟨rfl, rfl⟩
theorem c164 (t : Tr) (hok : t.Ok) : Pf Tryz.prog 164 [t.d] (.d (.bool (everyB isStmtB t.kids))) := by
 obtain ⟨op, name, num, ks⟩ := t
 rw [Tr.d_mk]
 try simp only [Tr.op_mk, Tr.nm_mk, Tr.nu_mk, Tr.kids_mk]
 refine pf_body (rvs := [.tmp 2]) [(0, .d (.agg [.int .i64 op, .str name, .int .i64 num, .sl (ks.map Tr.d)]))] Tryz.func164 Tryz.ntmps164 Tryz.results164 (fun S0 O0 w0 m0 hm0 => ?_)
 refine Z202 ?_
 refine gF 0 [] (.agg [.int .i64 op, .str name, .int .i64 num, .sl (ks.map Tr.d)]) rfl ?_
 refine Z194 ?_;refine Z11 ?_
 refine gL (xs := [.tmp 3, .func 95]) rfl ((Tr.d_mk op name num ks ▸ c159 (.mk op name num ks) 95 isStmtB hok c95)) ?_
 refine Z195 ?_
 exact ⟨rfl, rfl⟩
theorem c153 (ts : List ByteArray) : Pf Tryz.prog 153 [.sl (ts.map .str)] (.d (.fn (.func 229) [] [.ptr (.sl (ts.map .str))])) := by
 refine pf_body (rvs := [.tmp 2]) [(0, .d (.sl (ts.map .str)))] Tryz.func153 Tryz.ntmps153 Tryz.results153 (fun S0 O0 w0 m0 hm0 => ?_)
 refine Z202 ?_
 refine gF 0 [] (.sl (ts.map .str)) rfl ?_
 refine Z194 ?_
 refine vq rfl (q_makeFunc (xs := []) (ys := [.tmp 1])) ?_
 refine Z193 ?_
 refine find1 (by simp) ?_
 exact ⟨rfl, rfl⟩
theorem c231 (t : Tr) (s : ByteArray) (hok : t.Ok) : Pf Tryz.prog 231 [.str s, .ptr t.d] (.d (.bool (kidsB t.kids s))) := by
 obtain ⟨op, name, num, ks⟩ := t
 rw [Tr.d_mk]
 try simp only [Tr.op_mk, Tr.nm_mk, Tr.nu_mk, Tr.kids_mk]
 refine pf_body (rvs := [.tmp 3]) [(0, .d (.str s)), (1, .d (.ptr (.agg [.int .i64 op, .str name, .int .i64 num, .sl (ks.map Tr.d)])))] Tryz.func231 Tryz.ntmps231 Tryz.results231 (fun S0 O0 w0 m0 hm0 => ?_)
 refine Z211 ?_;refine Z11 ?_;refine Z1 ?_
 refine gL (xs := [.tmp 4, .tmp 5]) rfl ((Tr.d_mk op name num ks ▸ c156 (.mk op name num ks) s hok)) ?_
 refine Z195 ?_
 exact ⟨rfl, rfl⟩
def formsB (ts : List ByteArray) (t : Tr) : Bool := ts.any fun s => kidsB t.kids s
theorem c229 (t : Tr) (ts : List ByteArray) (hok : t.Ok) (hlim : ts.length ≤ 140737488355328) : Pf Tryz.prog 229 [t.d, .ptr (.sl (ts.map .str))] (.d (.bool (formsB ts t))) := by
 obtain ⟨op, name, num, ks⟩ := t
 rw [Tr.d_mk]
 try simp only [Tr.op_mk, Tr.nm_mk, Tr.nu_mk, Tr.kids_mk]
 refine pf_body (rvs := [.tmp 3]) [(0, .d (.agg [.int .i64 op, .str name, .int .i64 num, .sl (ks.map Tr.d)])), (1, .d (.ptr (.sl (ts.map .str))))] Tryz.func229 Tryz.ntmps229 Tryz.results229 (fun S0 O0 w0 m0 hm0 => ?_)
 refine Z202 ?_
 refine gF 0 [] (.agg [.int .i64 op, .str name, .int .i64 num, .sl (ks.map Tr.d)]) rfl ?_
 refine Z194 ?_
 refine vq rfl (qL u63) ?_
 refine vq rfl (q_makeFunc (xs := []) (ys := [.tmp 2])) ?_
 refine gL (xs := [.tmp 4, .tmp 5]) rfl (c230 ts 231 [] [.ptr (.agg [.int .i64 op, .str name, .int .i64 num, .sl (ks.map Tr.d)])] (fun s => kidsB ks s) hlim (fun x hx => Tr.d_mk op name num ks ▸ c231 (.mk op name num ks) x hok)) ?_
 refine Z195 ?_
 exact ⟨rfl, rfl⟩
end Go.Proofs.YtklkbfpjimeaoaaGreat
namespace Go.Proofs.YtklkbfpjimeaoaaGreat
open Go Go.Proofs.YtklkbfpjimeaoaaGreat.E
def nn : ByteArray := ⟨#[110, 110]⟩
def eb : ByteArray := ⟨#[101, 98]⟩
def rule157 : Tr → Bool
 | .mk op _ num ks =>
  if (num = 1 ∨ num = 2) ∧ num + 2 ≤ (ks.length : Int) then kidsB (ks.take (num + 2).toNat) (nn.extract 0 num.toNat ++ eb) && (((ks.drop (num + 2).toNat).length : Int) == 0 || (op == 55 && everyB (fun op => op == 67) (ks.drop (num + 2).toNat)))
  else false
theorem nn_size (n : Nat) : (nn.extract 0 n).size ≤ 2 := by rw [ByteArray.size_extract]; have : nn.size = 2 := rfl; omega
theorem Tr.Ok.take {op nu : Int} {nm : ByteArray} {ks : List Tr} (h : (Tr.mk op nm nu ks).Ok) (n : Nat) : (Tr.mk op nm nu (ks.take n)).Ok := by
 cases h with | mk h1 h2 h3 h4 h5 => exact .mk h1 h2 h3 (Nat.le_trans (by rw [List.length_take]; omega) h4) (fun k hk => h5 k (List.mem_of_mem_take hk))
theorem Tr.Ok.drop {op nu : Int} {nm : ByteArray} {ks : List Tr} (h : (Tr.mk op nm nu ks).Ok) (n : Nat) : (Tr.mk op nm nu (ks.drop n)).Ok := by
 cases h with | mk h1 h2 h3 h4 h5 => exact .mk h1 h2 h3 (Nat.le_trans (by rw [List.length_drop]; omega) h4) (fun k hk => h5 k (List.mem_of_mem_drop hk))
set_option maxHeartbeats 4000000 in
theorem c157 (t : Tr) (hok : t.Ok) : Pf Tryz.prog 157 [t.d] (.d (.bool (rule157 t))) := by
 obtain ⟨op, name, num, ks⟩ := t
 rw [Tr.d_mk]
 try simp only [Tr.op_mk, Tr.nm_mk, Tr.nu_mk, Tr.kids_mk]
 refine pf_body (rvs := [.tmp 2]) [(0, .d (.agg [.int .i64 op, .str name, .int .i64 num, .sl (ks.map Tr.d)]))] Tryz.func157 Tryz.ntmps157 Tryz.results157 (fun S0 O0 w0 m0 hm0 => ?_)
 refine Z202 ?_
 refine gF 0 [] (.agg [.int .i64 op, .str name, .int .i64 num, .sl (ks.map Tr.d)]) rfl ?_
 refine Z271 ?_;refine Z46 ?_;refine Z206 ?_;refine Z156 ?_;refine Z167 ?_;refine Z8 ?_;refine Z237 ?_
 refine sg rfl (fun hg => sP 14 rfl hg (qL u22)) ?_
 refine sg rfl (fun hg => sP 15 rfl hg (q_len u22)) ?_
 refine Z28 ?_;refine Z157 ?_
 refine sg rfl (fun hg => sP 18 rfl hg (q_add (hw := rfl))) ?_
 refine sg rfl (fun hg => sP 19 rfl hg (sP 16 rfl hg q_lss)) ?_
 refine Z209 ?_
 refine gC (fun hb0 => ?_) (fun hb0 => ?_)
 ·
  have hn : ¬ ((num = 1 ∨ num = 2) ∧ num + 2 ≤ (ks.length : Int)) := by
   rintro ⟨h7, h8⟩
   simp only [Bool.or_eq_true, Bool.and_eq_true, bne_iff_ne, bne_eq_false_iff_eq, decide_eq_true_eq, decide_eq_false_iff_not, List.length_map] at hb0
   rcases hb0 with hb0 | hb0
   · omega
   · rw [wrap_i64 (by omega) (by omega)] at hb0
     omega
  refine Z15 ?_;refine Z75 ?_;refine Z247 ?_
  exact ⟨by rw [rule157, if_neg hn], rfl⟩
 have hn : (num = 1 ∨ num = 2) ∧ num + 2 ≤ (ks.length : Int) := by
  simp only [Bool.or_eq_false_iff, Bool.and_eq_false_iff, bne_iff_ne, bne_eq_false_iff_eq, decide_eq_true_eq, decide_eq_false_iff_not, List.length_map] at hb0
  obtain ⟨h7, h8⟩ := hb0
  have h9 : num = 1 ∨ num = 2 := by omega
  rw [wrap_i64 (by omega) (by omega)] at h8
  exact ⟨h9, by omega⟩
 have hn1 : 1 ≤ num ∧ num ≤ 2 := by omega
 refine Z43 ?_;refine Z75 ?_;refine Z262 ?_;refine Z218 ?_;refine Z7 ?_;refine Z203 ?_;refine Z199 ?_;refine Z20 ?_
 refine vq rfl ((q_sliceh u22 sz27 (Tr.ds_cells ks))) ?_
 rw [← List.map_take]
 refine Z92 ?_;refine Z114 ?_
 refine gF 0 [] (.agg [.int .i64 op, .str name, .int .i64 num, .sl ((ks.take (num + 2).toNat).map Tr.d)]) rfl ?_
 refine Z95 ?_
 refine g_cg0 [30, 31, 32, 33, 34, 35, 36] ?_
 refine Z12 ?_
 refine cS 1 (fun b rest hc1 hc2 hc3 => vq rfl (qG (by exact sz27) u27 rfl) (gN ⟨rfl, rfl⟩)) ?_
 refine Z12 ?_
 refine cS 2 (fun b rest hc1 hc2 hc3 => vq rfl (qF u27 rfl sz3) (gN ⟨rfl, rfl⟩)) ?_
 refine Z63 ?_
 refine cS 3 (fun b rest hc1 hc2 hc3 => vq rfl (qL u3) (gN ⟨rfl, rfl⟩)) ?_
 refine Z59 ?_
 refine cS 4 (fun b rest hc1 hc2 hc3 => vq rfl ((q_strh u9 (h1 := by show num ≤ 2; omega))) (gN ⟨rfl, rfl⟩)) ?_
 refine Z57 ?_
 refine cS 5 (fun b rest hc1 hc2 hc3 => vq rfl (q_stradd (hl := by have := nn_size num.toNat; show (nn.extract 0 num.toNat).size + 2 ≤ lim; simp only [lim]; omega)) (gN ⟨rfl, rfl⟩)) ?_
 refine cP [0, 4] ?_
 refine cS 6 (fun b rest hc1 hc2 hc3 => gL (xs := [.tmp 30, .tmp 34]) rfl ((Tr.d_mk op name num (ks.take (num + 2).toNat) ▸ c156 (.mk op name num (ks.take (num + 2).toNat)) (nn.extract 0 num.toNat ++ eb) (hok.take _))) (gN ⟨rfl, rfl⟩)) ?_
 refine Z81 ?_
 refine cS 7 (fun b rest hc1 hc2 hc3 => vq rfl q_not (gN ⟨rfl, rfl⟩)) ?_
 refine Z53 ?_;refine Z123 ?_
 refine gC (fun hb1 => ?_) (fun hb1 => ?_)
 ·
  refine Z15 ?_;refine Z75 ?_;refine Z247 ?_
  exact ⟨by rw [rule157, if_pos hn]; simp only [Tr.kids_mk] at hb1 ⊢; simp at hb1; simp [hb1], rfl⟩
 refine Z43 ?_;refine Z75 ?_;refine Z262 ?_;refine Z218 ?_;refine Z7 ?_;refine Z203 ?_;refine Z199 ?_;refine Z20 ?_
 refine vq rfl ((q_slicel u22 sz27 (Tr.ds_cells ks))) ?_
 rw [← List.map_drop]
 refine Z92 ?_;refine Z114 ?_
 refine gF 0 [] (.agg [.int .i64 op, .str name, .int .i64 num, .sl ((ks.drop (num + 2).toNat).map Tr.d)]) rfl ?_
 refine Z7 ?_;refine Z236 ?_;refine Z9 ?_;refine Z206 ?_
 refine sg rfl (fun hg => sP 50 rfl hg (qL u3)) ?_
 refine sg rfl (fun hg => sP 51 rfl hg q_eql) ?_
 refine sg rfl (fun hg => sP 52 rfl hg qM) ?_
 refine Z48 ?_
 refine g_callg (xs := [.tmp 54, .func 232]) rfl (fun hg => (Tr.d_mk op name num (ks.drop (num + 2).toNat) ▸ c159 (.mk op name num (ks.drop (num + 2).toNat)) 232 (fun op => op == 67) (hok.drop _) c232)) ?_
 refine sg rfl (fun hg => sP 53 rfl hg q_and) ?_
 refine Z24 ?_;refine Z195 ?_
 exact ⟨by rw [rule157, if_pos hn]; simp only [Tr.kids_mk] at hb1 ⊢; simp at hb1; simp [hb1], rfl⟩
def andI (a b : Int) : Int := IntKind.i64.wrap (BitVec.ofInt 64 a &&& BitVec.ofInt 64 b).toNat
def voidB : ByteArray := ⟨#[118, 111, 105, 100]⟩
def varTail (nu : Int) (l : List Tr) : Bool := if (andI nu 2 != 0) = true then (match l with | [] => false | k :: r => isExprB k.op && (r.length : Int) == 0) else (l.length : Int) == 0
def varType (k : Tr) : Bool := !(k.op != 31 && (k.op != 30 || decide (k.nm = voidB)))
def varTy (num : Int) : List Tr → Bool
 | [] => false
 | k :: r => varType k && varTail num r
def varB : Tr → Bool
 | .mk _ name num ks =>
  if (((!nameB name || decide (num < 0)) || decide (num > 15)) || andI num 3 == 0) = true then false
  else if (andI num 1 != 0) = true then varTy num ks else varTail num ks
set_option maxHeartbeats 4000000 in
theorem c285 (t : Tr) (hok : t.Ok) : Pf Tryz.prog 285 [t.d] (.d (.bool (varB t))) := by
 obtain ⟨op, name, num, ks⟩ := t
 rw [Tr.d_mk]
 try simp only [Tr.op_mk, Tr.nm_mk, Tr.nu_mk, Tr.kids_mk]
 cases hok with | mk h1 h2 h3 h4 h5 =>
 refine pf_body (rvs := [.tmp 2]) [(0, .d (.agg [.int .i64 op, .str name, .int .i64 num, .sl (ks.map Tr.d)]))] Tryz.func285 Tryz.ntmps285 Tryz.results285 (fun S0 O0 w0 m0 hm0 => ?_)
 refine Z202 ?_
 refine gF 0 [] (.agg [.int .i64 op, .str name, .int .i64 num, .sl (ks.map Tr.d)]) rfl ?_
 refine Z201 ?_;refine Z212 ?_
 refine gL (xs := [.tmp 5]) rfl (c167 name) ?_
 refine Z37 ?_;refine Z206 ?_;refine Z156 ?_
 refine sg rfl (fun hg => sP 10 rfl hg q_lss) ?_
 refine Z24 ?_;refine Z206 ?_
 refine sg rfl (fun hg => sP 14 rfl hg (qL u3)) ?_
 refine sg rfl (fun hg => sP 15 rfl hg q_gtr) ?_
 refine Z24 ?_;refine Z206 ?_;refine Z173 ?_
 refine sg rfl (fun hg => sP 20 rfl hg (q_bits (show _ = pure (Value.int .i64 (andI _ _)) from rfl))) ?_
 refine sg rfl (fun hg => sP 21 rfl hg q_eql) ?_
 refine Z209 ?_
 refine gC (fun hb0 => ?_) (fun hb0 => ?_)
 ·
  refine Z266 ?_;refine Z247 ?_
  exact ⟨by rw [varB, if_pos hb0], rfl⟩
 refine Z43 ?_;refine Z64 ?_;refine Z4 ?_;refine Z203 ?_;refine Z196 ?_
 refine G_seq_cut (α := List Tr) (fun l => ⟨[(1, .d (.ptr (.agg [.int .i64 op, .str name, .int .i64 num, .sl (ks.map Tr.d)]))), (3, .d (.sl (l.map Tr.d)))], []⟩) (fun l => varB (.mk op name num ks) = varTail num l ∧ l.length ≤ 140737488355328) (fun Q' hn he hr => ?_) (fun l hl => ?_)
 ·
  refine Z2 ?_;refine Z199 ?_
  refine vq rfl (q_bits (show _ = pure (Value.int .i64 (andI _ _)) from rfl)) ?_
  refine Z230 ?_
  refine gC (fun hb1 => ?_) (fun hb1 => ?_)
  ·
   refine Z242 ?_;refine Z40 ?_;refine Z9 ?_;refine Z1 ?_
   refine g_split 33 false (fun hsp => ?_) (fun hsp => ?_)
   ·
    obtain ⟨k, r, hks⟩ : ∃ k r, ks = k :: r := by
     cases hks : ks with
     | nil => exfalso; rw [hks] at hsp; exact absurd hsp (by decide)
     | cons k r => exact ⟨k, r, rfl⟩
    obtain ⟨kop, knm, knu, kks, hka⟩ := k.d_agg
    have hkop : k.op = kop ∧ k.nm = knm := by obtain ⟨o, n, u, l⟩ := k; rw [Tr.d_mk] at hka; injection hka with hka; injection hka with hka1 hka; injection hka with hka2 hka; injection hka1 with _ hka1; injection hka2 with hka2; exact ⟨hka1, hka2⟩
    have hxa : (ks.map Tr.d)[0]? = some (.agg [.int .i64 kop, .str knm, .int .i64 knu, .sl (kks.map Tr.d)]) := by rw [hks, ← hka]; rfl
    have hlen : ks.length = r.length + 1 := by rw [hks]; rfl
    have hdr : List.drop (Int.toNat 1) (List.map Tr.d ks) = List.map Tr.d r := by rw [hks]; rfl
    have hne : ((ks.map Tr.d).length : Int) ≠ 0 := by rw [List.length_map]; omega
    refine sgo rfl hsp y_move ?_
    refine sgo rfl hsp (y_indexAddr u22 sz27) ?_
    refine sgo rfl hsp (y_fieldp_leaf u27 rfl sz3) ?_
    refine sgo rfl hsp (y_loadp_leaf u3) ?_
    refine sgo rfl hsp y_neq ?_
    refine sgo rfl hsp y_move ?_
    refine Z21 ?_
    refine sg rfl (fun hg => sP 40 rfl hg (qI u22 sz27)) ?_
    refine sg rfl (fun hg => sP 41 rfl hg (qF u27 rfl sz3)) ?_
    refine sg rfl (fun hg => sP 42 rfl hg (qL u3)) ?_
    refine sg rfl (fun hg => sP 43 rfl hg q_neq) ?_
    refine sg rfl (fun hg => sP 44 rfl hg qM) ?_
    refine Z21 ?_
    refine sg rfl (fun hg => sP 46 rfl hg (qI u22 sz27)) ?_
    refine sg rfl (fun hg => sP 47 rfl hg (qF u27 rfl sz9)) ?_
    refine sg rfl (fun hg => sP 48 rfl hg (qL u9)) ?_
    refine sg rfl (fun hg => sP 49 rfl hg q_streq) ?_
    refine sg rfl (fun hg => sP 45 rfl hg q_or) ?_
    refine sgo rfl hsp y_and ?_
    refine Z209 ?_
    refine gC (fun hb2 => ?_) (fun hb2 => ?_)
    ·
     have hbad : varTy num ks = false := by
      obtain ⟨g1, g2⟩ := hkop
      rw [beq_eq_false_iff_ne.2 hne, Bool.false_or] at hb2
      rw [hks, varTy, varType, g1, g2]
      rw [show (kop != 31 && (kop != 30 || decide (knm = voidB))) = true from hb2]; rfl
     refine Z266 ?_;refine Z4 ?_;refine Z200 ?_
     refine hr _ ?_
     refine Z5 ?_
     exact ⟨by rw [varB, if_neg (by rw [hb0]; decide), if_pos hb1, hbad], rfl⟩
    have hgood : varTy num ks = varTail num r := by
     obtain ⟨g1, g2⟩ := hkop
     rw [beq_eq_false_iff_ne.2 hne, Bool.false_or] at hb2
     rw [hks, varTy, varType, g1, g2]
     rw [show (kop != 31 && (kop != 30 || decide (knm = voidB))) = false from hb2]; rfl
    refine Z68 ?_;refine Z64 ?_;refine Z208 ?_
    refine vq rfl ((q_slicel u22 sz27 (Tr.ds_cells ks))) ?_
    rw [hdr]
    refine Z210 ?_
    refine hn _ r ⟨by rw [varB, if_neg (by rw [hb0]; decide), if_pos hb1, hgood], by omega⟩ le_of
   skip
   refine sgx rfl ?_ ?_
   · first | exact hsp | (rw [hsp]; rfl) | simp [hsp] | simp_all
   refine sgx rfl ?_ ?_
   · first | exact hsp | (rw [hsp]; rfl) | simp [hsp] | simp_all
   refine sgx rfl ?_ ?_
   · first | exact hsp | (rw [hsp]; rfl) | simp [hsp] | simp_all
   refine sgx rfl ?_ ?_
   · first | exact hsp | (rw [hsp]; rfl) | simp [hsp] | simp_all
   refine sgx rfl ?_ ?_
   · first | exact hsp | (rw [hsp]; rfl) | simp [hsp] | simp_all
   refine sgx rfl ?_ ?_
   · first | exact hsp | (rw [hsp]; rfl) | simp [hsp] | simp_all
   refine sgx rfl ?_ ?_
   · first | exact hsp | (rw [hsp]; rfl) | simp [hsp] | simp_all
   refine sgx rfl ?_ ?_
   · first | exact hsp | (rw [hsp]; rfl) | simp [hsp] | simp_all
   refine sgx rfl ?_ ?_
   · first | exact hsp | (rw [hsp]; rfl) | simp [hsp] | simp_all
   refine sgx rfl ?_ ?_
   · first | exact hsp | (rw [hsp]; rfl) | simp [hsp] | simp_all
   refine sgx rfl ?_ ?_
   · first | exact hsp | (rw [hsp]; rfl) | simp [hsp] | simp_all
   refine sgx rfl ?_ ?_
   · first | exact hsp | (rw [hsp]; rfl) | simp [hsp] | simp_all
   refine sgx rfl ?_ ?_
   · first | exact hsp | (rw [hsp]; rfl) | simp [hsp] | simp_all
   refine sgx rfl ?_ ?_
   · first | exact hsp | (rw [hsp]; rfl) | simp [hsp] | simp_all
   refine sgx rfl ?_ ?_
   · first | exact hsp | (rw [hsp]; rfl) | simp [hsp] | simp_all
   refine sgx rfl ?_ ?_
   · first | exact hsp | (rw [hsp]; rfl) | simp [hsp] | simp_all
   refine sgx rfl ?_ ?_
   · first | exact hsp | (rw [hsp]; rfl) | simp [hsp] | simp_all
   refine sgx rfl ?_ ?_
   · first | exact hsp | (rw [hsp]; rfl) | simp [hsp] | simp_all
   refine sgx rfl ?_ ?_
   · first | exact hsp | (rw [hsp]; rfl) | simp [hsp] | simp_all
   refine Z209 ?_
   refine gC (fun hb3 => ?_) (fun hb3 => ?_)
   ·
    have hnil : varTy num ks = false := by
     cases ks with
     | nil => rfl
     | cons k r => exfalso; simp at hsp; omega
    refine Z266 ?_;refine Z4 ?_;refine Z200 ?_
    refine hr _ ?_
    refine Z5 ?_
    exact ⟨by rw [varB, if_neg (by rw [hb0]; decide), if_pos hb1, hnil], rfl⟩
   exfalso
   have h0 : (((ks.map Tr.d).length : Int) == 0) = true := by simpa using hsp
   exact absurd hb3 (by rw [h0, Bool.true_or]; decide)
  refine Z69 ?_
  refine hn _ ks ⟨by rw [varB, if_neg (by rw [hb0]; decide), if_neg (by rw [hb1]; decide)], h4⟩ le_of
 obtain ⟨hl1, hl2⟩ := hl
 refine Z35 ?_;refine Z199 ?_
 refine vq rfl (q_bits (show _ = pure (Value.int .i64 (andI _ _)) from rfl)) ?_
 refine Z230 ?_
 refine gC (fun hb4 => ?_) (fun hb4 => ?_)
 ·
  refine Z242 ?_;refine Z40 ?_;refine Z9 ?_;refine Z1 ?_
  refine g_split 63 false (fun hsp => ?_) (fun hsp => ?_)
  ·
   obtain ⟨k, r, hks⟩ : ∃ k r, l = k :: r := by
    cases hks : l with
    | nil => exfalso; rw [hks] at hsp; exact absurd hsp (by decide)
    | cons k r => exact ⟨k, r, rfl⟩
   obtain ⟨kop, knm, knu, kks, hka⟩ := k.d_agg
   have hkop : k.op = kop ∧ k.nm = knm := by obtain ⟨o, n, u, l⟩ := k; rw [Tr.d_mk] at hka; injection hka with hka; injection hka with hka1 hka; injection hka with hka2 hka; injection hka1 with _ hka1; injection hka2 with hka2; exact ⟨hka1, hka2⟩
   have hxa : (l.map Tr.d)[0]? = some (.agg [.int .i64 kop, .str knm, .int .i64 knu, .sl (kks.map Tr.d)]) := by rw [hks, ← hka]; rfl
   have hlen : l.length = r.length + 1 := by rw [hks]; rfl
   have hdr : List.drop (Int.toNat 1) (List.map Tr.d l) = List.map Tr.d r := by rw [hks]; rfl
   have hne : ((l.map Tr.d).length : Int) ≠ 0 := by rw [List.length_map]; omega
   refine sgo rfl hsp y_move ?_
   refine sgo rfl hsp (y_indexAddr u22 sz27) ?_
   refine sgo rfl hsp (y_fieldp_leaf u27 rfl sz3) ?_
   refine sgo rfl hsp (y_loadp_leaf u3) ?_
   refine g_callo (xs := [.tmp 67]) rfl hsp (c74 kop) ?_
   refine sgo rfl hsp y_not ?_
   refine Z209 ?_
   refine gC (fun hb5 => ?_) (fun hb5 => ?_)
   ·
    have hx : varTail num l = false := by
     rw [beq_eq_false_iff_ne.2 hne, Bool.false_or] at hb5
     unfold varTail
     rw [if_pos hb4, hks]
     obtain ⟨g1, g2⟩ := hkop
     simp [g1] at hb5 ⊢
     simp [hb5]
    refine Z266 ?_;refine Z4 ?_;refine Z0 ?_;refine Z124 ?_;refine Z5 ?_
    exact ⟨by rw [hl1, hx], rfl⟩
   have hx : varTail num l = ((r.length : Int) == 0) := by
    rw [beq_eq_false_iff_ne.2 hne, Bool.false_or] at hb5
    unfold varTail
    rw [if_pos hb4, hks]
    obtain ⟨g1, g2⟩ := hkop
    simp [g1] at hb5 ⊢
    simp [hb5]
   refine Z68 ?_;refine Z64 ?_;refine Z208 ?_
   refine vq rfl ((q_slicel u22 sz27 (Tr.ds_cells l))) ?_
   rw [hdr]
   refine Z244 ?_;refine Z40 ?_;refine Z9 ?_;refine Z195 ?_
   exact ⟨by rw [hl1, hx]; simp, rfl⟩
  skip
  refine sgx rfl ?_ ?_
  · first | exact hsp | (rw [hsp]; rfl) | simp [hsp] | simp_all
  refine sgx rfl ?_ ?_
  · first | exact hsp | (rw [hsp]; rfl) | simp [hsp] | simp_all
  refine sgx rfl ?_ ?_
  · first | exact hsp | (rw [hsp]; rfl) | simp [hsp] | simp_all
  refine sgx rfl ?_ ?_
  · first | exact hsp | (rw [hsp]; rfl) | simp [hsp] | simp_all
  refine sgx rfl ?_ ?_
  · first | exact hsp | (rw [hsp]; rfl) | simp [hsp] | simp_all
  refine sgx rfl ?_ ?_
  · first | exact hsp | (rw [hsp]; rfl) | simp [hsp] | simp_all
  refine Z209 ?_
  refine gC (fun hb6 => ?_) (fun hb6 => ?_)
  ·
   have hx : varTail num l = false := by
    cases l with
    | nil => unfold varTail; rw [if_pos hb4]
    | cons k r => exfalso; simp at hsp; omega
   refine Z266 ?_;refine Z4 ?_;refine Z0 ?_;refine Z124 ?_;refine Z5 ?_
   exact ⟨by rw [hl1, hx], rfl⟩
  exfalso
  have h0 : (((l.map Tr.d).length : Int) == 0) = true := by simpa using hsp
  exact absurd hb6 (by rw [h0, Bool.true_or]; decide)
 refine Z45 ?_;refine Z1 ?_;refine Z40 ?_;refine Z9 ?_;refine Z195 ?_
 exact ⟨by rw [hl1]; unfold varTail; rw [if_neg (by rw [hb4]; decide)]; simp, rfl⟩
theorem decode_wide (b : ByteArray) (i : Nat) : 0 < (Utf8.decode b i).2 := by
 unfold Utf8.decode
 dsimp only
 repeat' split
 all_goals first | decide | simp
def idxRune (p : Int → Bool) (b : ByteArray) (pos : Nat) : Int :=
 if pos < b.size then (if p (Utf8.decode b pos).1 = true then (pos : Int) else idxRune p b (pos + (Utf8.decode b pos).2)) else -1
termination_by b.size - pos
decreasing_by have := decode_wide b pos; omega
variable {pos : Nat}
theorem idxRune_end {p : Int → Bool} {b : ByteArray} (h : ¬ pos < b.size) : idxRune p b pos = -1 := by rw [idxRune, if_neg h]
theorem idxRune_hit {p : Int → Bool} {b : ByteArray} (h : pos < b.size) (h2 : p (Utf8.decode b pos).1 = true) : idxRune p b pos = pos := by rw [idxRune, if_pos h, if_pos h2]
theorem idxRune_miss {p : Int → Bool} {b : ByteArray} (h : pos < b.size) (h2 : p (Utf8.decode b pos).1 = false) : idxRune p b (pos + (Utf8.decode b pos).2) = idxRune p b pos := by
 rw [idxRune.eq_1 p b pos, if_pos h, if_neg (by rw [h2]; decide)]
def badR (r : Int) : Bool := decide (r < 32) || decide (r > 126)
def plainTx (s : ByteArray) : Bool := !decide (idxRune badR s 0 ≥ 0)
theorem c284 (r : Int) : Pf Tryz.prog 284 [.int .i32 r] (.d (.bool (badR r))) := by
 refine pf_body (rvs := [.tmp 2]) [(0, .d (.int .i32 r))] Tryz.func284 Tryz.ntmps284 Tryz.results284 (fun S0 O0 w0 m0 hm0 => ?_)
 refine Z249 ?_;refine Z27 ?_;refine Z205 ?_
 refine sg rfl (fun hg => sP 6 rfl hg q_gtr) ?_
 refine Z24 ?_;refine Z195 ?_
 exact ⟨rfl, rfl⟩
theorem c322 (s : ByteArray) (g : FuncId) (p : Int → Bool) (hcb : ∀ r, Pf Tryz.prog g [.int .i32 r] (.d (.bool (p r)))) : Pf Tryz.prog 322 [.str s, .fn (.func g) [] [], .bool true] (.d (.int .i64 (idxRune p s 0))) := by
 refine pf_body (rvs := [.tmp 6]) [(0, .d (.str s)), (1, .d (.fn (.func g) [] [])), (2, .d (.bool true))] Tryz.func322 Tryz.ntmps322 Tryz.results322 (fun S0 O0 w0 m0 hm0 => ?_)
 refine Z263 ?_
 refine sv rfl (y_rangeStr u9) ?_
 refine Z33 ?_
 refine g_loop (α := Nat) (fun z => ⟨[(10, .ref 0 0), (1, .d (.fn (.func g) [] [])), (2, .d (.bool true))], [[.mapc (iterK s z)]]⟩) (fun z => s.size - z) (fun z => idxRune p s z = idxRune p s 0) 0 rfl (fun z hz Q' hn0 he0 hr0 => ?_) (le_of)
 skip
 refine Z15 ?_
 rcases Nat.lt_or_ge z s.size with hlt | hge
 ·
  refine Z4 ?_
  refine sv rfl (y_next (b := s) (pos := z) (hlt := hlt)) ?_
  refine Z14 ?_;refine Z30 ?_
  refine gC (fun hb0 => ?_) (fun hb0 => ?_)
  ·
   refine gK (tN (G_block (gS (gR ?_))))
   refine Z207 ?_;refine Z0 ?_;refine Z275 ?_
   refine gL (xs := [.tmp 16]) rfl (hcb _) ?_
   refine Z1 ?_;refine Z174 ?_;refine Z3 ?_
   refine gC (fun hb1 => ?_) (fun hb1 => ?_)
   ·
    refine Z220 ?_;refine Z0 ?_
    refine gN (tN (gT (bR ?_)))
    refine hr0 _ ?_
    refine Z265 ?_
    exact ⟨by rw [← hz, idxRune_hit hlt (by simpa using hb1)], rfl⟩
   refine gK (bN ?_)
   refine hn0 _ (z + (Utf8.decode s z).2) (by rw [idxRune_miss hlt (by simpa using hb1)]; exact hz) (by have := decode_wide s z; omega) le_of
  cases hb0
 refine Z4 ?_
 refine sv rfl (y_nextEnd (b := s) (pos := z) (hlt := by omega)) ?_
 refine Z14 ?_;refine Z30 ?_
 refine gC (fun hb2 => ?_) (fun hb2 => ?_)
 ·
  cases hb2
 refine Z34 ?_
 refine he0 _ _ ?_
 refine Z270 ?_
 exact ⟨by rw [← hz, idxRune_end (by omega)], rfl⟩
theorem c318 (s : ByteArray) (g : FuncId) (p : Int → Bool) (hcb : ∀ r, Pf Tryz.prog g [.int .i32 r] (.d (.bool (p r)))) : Pf Tryz.prog 318 [.str s, .fn (.func g) [] []] (.d (.int .i64 (idxRune p s 0))) := by
 refine pf_body (rvs := [.tmp 4]) [(0, .d (.str s)), (1, .d (.fn (.func g) [] []))] Tryz.func318 Tryz.ntmps318 Tryz.results318 (fun S0 O0 w0 m0 hm0 => ?_)
 refine Z254 ?_
 refine gL (xs := [.tmp 5, .tmp 6, .const (.bool true)]) rfl (c322 s g p hcb) ?_
 refine Z195 ?_
 exact ⟨rfl, rfl⟩
theorem c283 (s : ByteArray) (g : FuncId) (p : Int → Bool) (hcb : ∀ r, Pf Tryz.prog g [.int .i32 r] (.d (.bool (p r)))) : Pf Tryz.prog 283 [.str s, .fn (.func g) [] []] (.d (.bool (decide (idxRune p s 0 ≥ 0)))) := by
 refine pf_body (rvs := [.tmp 4]) [(0, .d (.str s)), (1, .d (.fn (.func g) [] []))] Tryz.func283 Tryz.ntmps283 Tryz.results283 (fun S0 O0 w0 m0 hm0 => ?_)
 refine Z254 ?_
 refine gL (xs := [.tmp 5, .tmp 6]) rfl (c318 s g p hcb) ?_
 refine Z52 ?_;refine Z195 ?_
 exact ⟨rfl, rfl⟩
end Go.Proofs.YtklkbfpjimeaoaaGreat
namespace Go.Proofs.YtklkbfpjimeaoaaGreat
open Go Go.Proofs.YtklkbfpjimeaoaaGreat.E
def qmB : ByteArray := ⟨#[63]⟩
def typedB : Tr → Bool
 | .mk op name num ks => ((op == 30 && num == 0) && (ks.length : Int) == 0) && nameB (trimB name qmB)
def opTab : List (ByteArray × ByteArray × ByteArray × Int) :=
 [(⟨#[114, 101, 97, 100, 70, 69]⟩, ⟨#[115, 121, 110, 99]⟩, ⟨#[105, 110, 116]⟩, 0),
  (⟨#[114, 101, 97, 100, 70, 70]⟩, ⟨#[115, 121, 110, 99]⟩, ⟨#[105, 110, 116]⟩, 0),
  (⟨#[114, 101, 97, 100, 88, 88]⟩, ⟨#[115, 121, 110, 99]⟩, ⟨#[105, 110, 116]⟩, 0),
  (⟨#[105, 115, 70, 117, 108, 108]⟩, ⟨#[115, 121, 110, 99]⟩, ⟨#[98, 111, 111, 108]⟩, 0),
  (⟨#[114, 101, 115, 101, 116]⟩, ⟨#[115, 121, 110, 99]⟩, ⟨#[118, 111, 105, 100]⟩, 0),
  (⟨#[119, 114, 105, 116, 101, 69, 70]⟩, ⟨#[115, 121, 110, 99]⟩, ⟨#[118, 111, 105, 100]⟩, 1),
  (⟨#[119, 114, 105, 116, 101, 70, 70]⟩, ⟨#[115, 121, 110, 99]⟩, ⟨#[118, 111, 105, 100]⟩, 1),
  (⟨#[119, 114, 105, 116, 101, 88, 70]⟩, ⟨#[115, 121, 110, 99]⟩, ⟨#[118, 111, 105, 100]⟩, 1),
  (⟨#[114, 101, 97, 100]⟩, ⟨#[97, 116, 111, 109, 105, 99]⟩, ⟨#[105, 110, 116]⟩, 0),
  (⟨#[119, 114, 105, 116, 101]⟩, ⟨#[97, 116, 111, 109, 105, 99]⟩, ⟨#[118, 111, 105, 100]⟩, 1),
  (⟨#[97, 100, 100]⟩, ⟨#[97, 116, 111, 109, 105, 99]⟩, ⟨#[118, 111, 105, 100]⟩, 1),
  (⟨#[102, 101, 116, 99, 104, 65, 100, 100]⟩, ⟨#[97, 116, 111, 109, 105, 99]⟩, ⟨#[105, 110, 116]⟩, 1),
  (⟨#[101, 120, 99, 104, 97, 110, 103, 101]⟩, ⟨#[97, 116, 111, 109, 105, 99]⟩, ⟨#[105, 110, 116]⟩, 1),
  (⟨#[99, 111, 109, 112, 97, 114, 101, 65, 110, 100, 83, 119, 97, 112]⟩, ⟨#[97, 116, 111, 109, 105, 99]⟩, ⟨#[98, 111, 111, 108]⟩, 2)]
def opVal (x : ByteArray × ByteArray × Int) : D := .agg [.str x.1, .str x.2.1, .int .i64 x.2.2]
def opsM : List (D × D) := opTab.map fun x => (.str x.1, opVal x.2)
def opGet (name : ByteArray) : ByteArray × ByteArray × Int := match opTab.find? (fun x => decide (x.1 = name)) with | some x => x.2 | none => (⟨#[]⟩, ⟨#[]⟩, 0)
def opHas (name : ByteArray) : Bool := opTab.any fun x => decide (x.1 = name)
theorem mget_ops (name : ByteArray) : mget opsM (.str name) (.agg [.str ⟨#[]⟩, .str ⟨#[]⟩, .int .i64 0]) = opVal (opGet name) := by
 have h : (opTab.find? ((fun x : D × D => x.1.keyEq (.str name)) ∘ fun x => (D.str x.1, opVal x.2))) = opTab.find? (fun x => decide (x.1 = name)) := rfl
 unfold mget opGet opsM
 rw [List.find?_map, h]
 cases opTab.find? (fun x => decide (x.1 = name)) <;> rfl
theorem mhas_ops (name : ByteArray) : mhas opsM (.str name) = opHas name := by
 unfold mhas opHas opsM
 rw [List.any_map]; rfl
theorem opGet_takes (name : ByteArray) : 0 ≤ (opGet name).2.2 ∧ (opGet name).2.2 ≤ 2 := by
 have hall : (opTab.all fun x => decide (0 ≤ x.2.2.2) && decide (x.2.2.2 ≤ 2)) = true := by decide
 unfold opGet
 cases h : opTab.find? (fun x => decide (x.1 = name)) with
 | none => exact ⟨by decide, by decide⟩
 | some x =>
  have := List.all_eq_true.1 hall x (List.mem_of_find?_eq_some h)
  rw [Bool.and_eq_true, decide_eq_true_eq, decide_eq_true_eq] at this
  exact this
theorem c168 (t : Tr) : Pf Tryz.prog 168 [t.d] (.d (.bool (typedB t))) := by
 obtain ⟨op, name, num, ks⟩ := t
 rw [Tr.d_mk]
 try simp only [Tr.op_mk, Tr.nm_mk, Tr.nu_mk, Tr.kids_mk]
 refine pf_body (rvs := [.tmp 2]) [(0, .d (.agg [.int .i64 op, .str name, .int .i64 num, .sl (ks.map Tr.d)]))] Tryz.func168 Tryz.ntmps168 Tryz.results168 (fun S0 O0 w0 m0 hm0 => ?_)
 refine Z202 ?_
 refine gF 0 [] (.agg [.int .i64 op, .str name, .int .i64 num, .sl (ks.map Tr.d)]) rfl ?_
 refine Z194 ?_;refine Z229 ?_;refine Z206 ?_;refine Z108 ?_;refine Z137 ?_;refine Z8 ?_;refine Z237 ?_
 refine sg rfl (fun hg => sP 12 rfl hg (qL u22)) ?_
 refine sg rfl (fun hg => sP 13 rfl hg (q_len u22)) ?_
 refine sg rfl (fun hg => sP 14 rfl hg q_eql) ?_
 refine Z8 ?_;refine Z277 ?_
 refine sg rfl (fun hg => sP 18 rfl hg (qL u9)) ?_
 refine g_callg (xs := [.tmp 19, .const (.string ⟨#[63]⟩)]) rfl (fun hg => c235 name qmB) ?_
 refine g_callg (xs := [.tmp 20]) rfl (fun hg => c167 _) ?_
 refine Z228 ?_
 exact ⟨by rw [typedB]; simp, rfl⟩
set_option maxHeartbeats 4000000 in
theorem c224  : Pf Tryz.prog 224 [] (.d (.map opsM)) := by
 refine pf_body (rvs := [.tmp 0]) [] Tryz.func224 Tryz.ntmps224 Tryz.results224 (fun S0 O0 w0 m0 hm0 => ?_)
 refine Z211 ?_;refine Z175 ?_;refine Z267 ?_;refine Z267 ?_;refine Z267 ?_;refine Z267 ?_;refine Z267 ?_;refine Z267 ?_;refine Z267 ?_;refine Z267 ?_;refine Z267 ?_;refine Z267 ?_;refine Z267 ?_;refine Z267 ?_;refine Z267 ?_;refine Z267 ?_;refine Z1 ?_;refine Z0 ?_
 refine g_freezeM 0 [] rfl ?_
 refine Z6 ?_;refine Z5 ?_
 exact ⟨rfl, rfl⟩
def eee : ByteArray := ⟨#[101, 101, 101]⟩
def e1 : ByteArray := ⟨#[101]⟩
def bcB : ByteArray := ⟨#[98, 108, 111, 99, 107, 99, 121, 99, 108, 105, 99]⟩
def blB : ByteArray := ⟨#[98, 108, 111, 99, 107]⟩
def cyB : ByteArray := ⟨#[99, 121, 99, 108, 105, 99]⟩
def haB : ByteArray := ⟨#[104, 97, 115, 104, 101, 100]⟩
def otherB : Tr → Bool × Bool
 | .mk op name num ks =>
  if (op == 3) = true then (((num == 0 && (ks.length : Int) == 0) && decide ((name.size : Int) ≤ 200)) && plainTx name, true)
  else if (op == 4) = true then ((nameB name && num == 0) && (ks.length : Int) == 0, true)
  else if (op == 30) = true then (typedB (.mk op name num ks), true)
  else if (op == 50) = true then (varB (.mk op name num ks), true)
  else if (op == 13) = true then ((nameB name && num == 0) && everyB (fun op => isExprB op || op == 30) ks, true)
  else if (op == 15) = true then ((opHas name && num == 0) && kidsB ks (eee.extract 0 ((opGet name).2.2 + 1).toNat), true)
  else if (op == 11) = true then
   (if (decide (name = bcB)) = true then (num == 0 && kidsB ks ee) else (num == 0 && ((decide (name = blB) || decide (name = cyB)) || decide (name = haB))) && kidsB ks e1, true)
  else (false, false)
set_option maxHeartbeats 8000000 in
theorem c234 (t : Tr) (hok : t.Ok) : Pf Tryz.prog 234 [t.d] (.tup [.d (.bool (otherB t).1), .d (.bool (otherB t).2)]) := by
 obtain ⟨op, name, num, ks⟩ := t
 rw [Tr.d_mk]
 try simp only [Tr.op_mk, Tr.nm_mk, Tr.nu_mk, Tr.kids_mk]
 refine pf_body (rvs := [.tmp 2, .tmp 3]) [(0, .d (.agg [.int .i64 op, .str name, .int .i64 num, .sl (ks.map Tr.d)]))] Tryz.func234 Tryz.ntmps234 Tryz.results234 (fun S0 O0 w0 m0 hm0 => ?_)
 refine Z202 ?_
 refine gF 0 [] (.agg [.int .i64 op, .str name, .int .i64 num, .sl (ks.map Tr.d)]) rfl ?_
 refine Z0 ?_;refine Z271 ?_;refine Z103 ?_;refine Z204 ?_
 refine gC (fun hb0 => ?_) (fun hb0 => ?_)
 ·
  refine Z2 ?_;refine Z212 ?_
  refine gL (xs := [.tmp 12, .func 284]) rfl (c283 name 284 badR c284) ?_
  refine Z37 ?_;refine Z245 ?_;refine Z115 ?_;refine Z4 ?_;refine Z229 ?_;refine Z237 ?_
  refine sg rfl (fun hg => sP 19 rfl hg (qL u22)) ?_
  refine sg rfl (fun hg => sP 20 rfl hg (q_len u22)) ?_
  refine sg rfl (fun hg => sP 21 rfl hg q_eql) ?_
  refine Z8 ?_;refine Z277 ?_
  refine sg rfl (fun hg => sP 25 rfl hg (qL u9)) ?_
  refine sg rfl (fun hg => sP 26 rfl hg (q_lenstr u9)) ?_
  refine sg rfl (fun hg => sP 27 rfl hg q_leq) ?_
  refine Z8 ?_;refine Z205 ?_;refine Z8 ?_;refine Z259 ?_
  exact ⟨by rw [otherB, if_pos hb0]; simp [plainTx], rfl⟩
 refine Z222 ?_
 refine gC (fun hb1 => ?_) (fun hb1 => ?_)
 ·
  refine Z2 ?_;refine Z212 ?_
  refine gL (xs := [.tmp 36]) rfl (c167 name) ?_
  refine Z206 ?_
  refine sg rfl (fun hg => sP 39 rfl hg (qL u3)) ?_
  refine sg rfl (fun hg => sP 40 rfl hg q_eql) ?_
  refine Z8 ?_;refine Z237 ?_
  refine sg rfl (fun hg => sP 44 rfl hg (qL u22)) ?_
  refine sg rfl (fun hg => sP 45 rfl hg (q_len u22)) ?_
  refine sg rfl (fun hg => sP 46 rfl hg q_eql) ?_
  refine Z8 ?_;refine Z259 ?_
  exact ⟨by rw [otherB, if_neg (by rw [hb0]; decide), if_pos hb1]; simp, rfl⟩
 refine Z222 ?_
 refine gC (fun hb2 => ?_) (fun hb2 => ?_)
 ·
  refine Z226 ?_
  refine gL (xs := [.tmp 51]) rfl ((Tr.d_mk op name num ks ▸ c168 (.mk op name num ks))) ?_
  refine Z259 ?_
  exact ⟨by rw [otherB, if_neg (by rw [hb0]; decide), if_neg (by rw [hb1]; decide), if_pos hb2], rfl⟩
 refine Z222 ?_
 refine gC (fun hb3 => ?_) (fun hb3 => ?_)
 ·
  refine Z15 ?_;refine Z115 ?_;refine Z262 ?_
  refine gL (xs := [.tmp 55]) rfl ((Tr.d_mk op name num ks ▸ c285 (.mk op name num ks) hok)) ?_
  refine Z259 ?_
  exact ⟨by rw [otherB, if_neg (by rw [hb0]; decide), if_neg (by rw [hb1]; decide), if_neg (by rw [hb2]; decide), if_pos hb3], rfl⟩
 refine Z15 ?_;refine Z115 ?_;refine Z261 ?_
 refine gC (fun hb4 => ?_) (fun hb4 => ?_)
 ·
  refine Z2 ?_;refine Z212 ?_
  refine gL (xs := [.tmp 60]) rfl (c167 name) ?_
  refine Z206 ?_
  refine sg rfl (fun hg => sP 63 rfl hg (qL u3)) ?_
  refine sg rfl (fun hg => sP 64 rfl hg q_eql) ?_
  refine Z288 ?_
  refine g_callg (xs := [.tmp 68, .func 286]) rfl (fun hg => (Tr.d_mk op name num ks ▸ c159 (.mk op name num ks) 286 (fun op => isExprB op || op == 30) hok c286)) ?_
  refine Z8 ?_;refine Z259 ?_
  exact ⟨by rw [otherB, if_neg (by rw [hb0]; decide), if_neg (by rw [hb1]; decide), if_neg (by rw [hb2]; decide), if_neg (by rw [hb3]; decide), if_pos hb4]; simp [Tr.kids_mk], rfl⟩
 refine Z222 ?_
 refine gC (fun hb5 => ?_) (fun hb5 => ?_)
 ·
  refine Z15 ?_
  obtain ⟨mo, mg, mt, hmo⟩ : ∃ mo mg mt, opGet name = (mo, mg, mt) := ⟨_, _, _, rfl⟩
  have hmt := opGet_takes name
  rw [hmo] at hmt
  replace hmt : 0 ≤ mt ∧ mt ≤ 2 := hmt
  have hmg := mget_ops name
  rw [hmo] at hmg
  refine g_cg [74, 75, 76, 77, 73, 78, 79, 5, 6] (fun b => cond (b 7) ([] ++ [cond (b 8) [.d (.str mo), .d (.str mg), .d (.int .i64 mt)] [.d (.str ⟨#[]⟩), .d (.str ⟨#[]⟩), .d (.int .i64 0)]]) []) rfl ?_
  refine Z12 ?_
  refine cS 1 (fun b rest hc1 hc2 hc3 => gL (xs := []) rfl (c224) (gN ⟨rfl, rfl⟩)) ?_
  refine Z12 ?_
  refine cS 2 (fun b rest hc1 hc2 hc3 => vq rfl (qF u27 rfl sz9) (gN ⟨rfl, rfl⟩)) ?_
  refine Z63 ?_
  refine cS 3 (fun b rest hc1 hc2 hc3 => vq rfl (qL u9) (gN ⟨rfl, rfl⟩)) ?_
  refine Z125 ?_
  refine cS 4 (fun b rest hc1 hc2 hc3 => vq rfl ((q_lookup2 (zd := .agg [.str ⟨#[]⟩, .str ⟨#[]⟩, .int .i64 0]) u232 u9 zr231)) (gN ⟨rfl, rfl⟩)) ?_
  rw [hmg, mhas_ops]
  unfold opVal
  refine Z57 ?_
  refine cS 5 (fun b rest hc1 hc2 hc3 => vq rfl qM (gN ⟨rfl, rfl⟩)) ?_
  refine Z61 ?_
  refine cS 6 (fun b rest hc1 hc2 hc3 => vq rfl qE (gN ⟨rfl, rfl⟩)) ?_
  refine Z61 ?_
  refine cS 7 (fun b rest hc1 hc2 hc3 => vq rfl qE (gN ⟨rfl, rfl⟩)) ?_
  refine Z12 ?_
  refine cS 8 (fun b rest hc1 hc2 hc3 => by
   have hs := hc3.no 8 7 hc1
   have e1 : upd b 7 7 = true := rfl
   have e2 : upd b 7 8 = false := hs
   simp only [hc1, cond_false]
   refine sv rfl (y_alloc zr231) ?_
   exact (gN ⟨rfl, by rw [e1, e2]; rfl⟩)) ?_
  refine cP [7, 5, 0, 0, 1, 2, 3, 4, 5, 7] ?_
  refine cg_act 9 (fun b rest hc1 hc2 hc3 => by
   have ha := hc2 7 dep_in
   have e1 : upd b 8 7 = true := ha
   have e2 : upd b 8 8 = true := rfl
   simp only [ha, hc1, cond_true, cond_false]
   refine sa rfl (dS sz231) ?_
   exact (gN ⟨rfl, by rw [e1, e2]; rfl⟩)) ?_
  refine cP [6, 8, 0, 1, 2, 3, 4, 5, 6, 7, 8] ?_
  refine cS 10 (fun b rest hc1 hc2 hc3 => vq rfl qA (gN ⟨rfl, rfl⟩)) ?_
  refine Z53 ?_;refine Z97 ?_;refine Z115 ?_
  refine g_cg0 [80, 81, 82, 83, 84, 85, 86, 87, 88, 89, 90, 91, 92, 93, 2, 3] ?_
  refine Z12 ?_
  refine cS 1 (fun b rest hc1 hc2 hc3 => vq rfl qM (gN ⟨rfl, rfl⟩)) ?_
  refine Z76 ?_
  refine cS 2 (fun b rest hc1 hc2 hc3 => vq rfl qM (gN ⟨rfl, rfl⟩)) ?_
  refine Z63 ?_
  refine cS 3 (fun b rest hc1 hc2 hc3 => sg rfl (fun hg => qF u27 rfl sz3) (gN ⟨rfl, rfl⟩)) ?_
  refine cP [2, 1] ?_
  refine cS 4 (fun b rest hc1 hc2 hc3 => sg rfl (fun hg => sP 82 rfl hg (qL u3)) (gN ⟨rfl, rfl⟩)) ?_
  refine cP [3, 1] ?_
  refine cS 5 (fun b rest hc1 hc2 hc3 => sg rfl (fun hg => sP 83 rfl hg q_eql) (gN ⟨rfl, rfl⟩)) ?_
  refine cP [1, 4] ?_
  refine cS 6 (fun b rest hc1 hc2 hc3 => vq rfl q_and (gN ⟨rfl, rfl⟩)) ?_
  refine cP [5, 1] ?_
  refine cS 7 (fun b rest hc1 hc2 hc3 => vq rfl qM (gN ⟨rfl, rfl⟩)) ?_
  refine Z73 ?_
  refine cS 8 (fun b rest hc1 hc2 hc3 => sg rfl (fun hg => qG (by exact sz27) u27 rfl) (gN ⟨rfl, rfl⟩)) ?_
  refine Z73 ?_
  refine cS 9 (fun b rest hc1 hc2 hc3 => sg rfl (fun hg => q_fieldAddr u231 rfl sz3) (gN ⟨rfl, rfl⟩)) ?_
  refine cP [8, 6] ?_
  refine cS 10 (fun b rest hc1 hc2 hc3 => sg rfl (fun hg => sP 88 rfl hg (qO u3)) (gN ⟨rfl, rfl⟩)) ?_
  refine cP [9, 6] ?_
  refine cS 11 (fun b rest hc1 hc2 hc3 => sg rfl (fun hg => sP 89 rfl hg q_add) (gN ⟨rfl, rfl⟩)) ?_
  refine cP [10, 6] ?_
  refine cS 12 (fun b rest hc1 hc2 hc3 => sg rfl (fun hg => sP 90 rfl hg (q_strh u9 (h1 := by show mt + 1 ≤ 3; omega))) (gN ⟨rfl, rfl⟩)) ?_
  refine cP [7, 11, 6, 6] ?_
  refine cS 13 (fun b rest hc1 hc2 hc3 => g_callg (xs := [.tmp 87, .tmp 91]) rfl (fun hg => (Tr.d_mk op name num ks ▸ c156 (.mk op name num ks) (eee.extract 0 (mt + 1).toNat) hok)) (gN ⟨rfl, rfl⟩)) ?_
  refine cP [6, 12] ?_
  refine cS 14 (fun b rest hc1 hc2 hc3 => vq rfl q_and (gN ⟨rfl, rfl⟩)) ?_
  refine cP [13, 12, 0, 1, 2, 3, 4, 5, 6, 7, 8, 9, 10, 11, 12, 13] ?_
  refine cS 15 (fun b rest hc1 hc2 hc3 => vq rfl qA (gN ⟨rfl, rfl⟩)) ?_
  refine cP [14, 0, 1, 2, 3, 4, 5, 6, 7, 8, 9, 10, 11, 12, 13, 14] ?_
  refine cS 16 (fun b rest hc1 hc2 hc3 => vq rfl qA (gN ⟨rfl, rfl⟩)) ?_
  refine Z53 ?_;refine Z138 ?_;refine Z42 ?_
  exact ⟨by rw [otherB, if_neg (by rw [hb0]; decide), if_neg (by rw [hb1]; decide), if_neg (by rw [hb2]; decide), if_neg (by rw [hb3]; decide), if_neg (by rw [hb4]; decide), if_pos hb5]; rw [hmo]; rfl, rfl⟩
 refine Z222 ?_
 refine gC (fun hb6 => ?_) (fun hb6 => ?_)
 ·
  refine Z35 ?_;refine Z212 ?_;refine Z44 ?_;refine Z3 ?_
  refine gC (fun hb7 => ?_) (fun hb7 => ?_)
  ·
   refine Z2 ?_;refine Z229 ?_;refine Z231 ?_
   refine g_callg (xs := [.tmp 103, .const (.string ⟨#[101, 101]⟩)]) rfl (fun hg => (Tr.d_mk op name num ks ▸ c156 (.mk op name num ks) ee hok)) ?_
   refine Z8 ?_;refine Z221 ?_;refine Z78 ?_;refine Z42 ?_
   exact ⟨by rw [otherB, if_neg (by rw [hb0]; decide), if_neg (by rw [hb1]; decide), if_neg (by rw [hb2]; decide), if_neg (by rw [hb3]; decide), if_neg (by rw [hb4]; decide), if_neg (by rw [hb5]; decide), if_pos hb6]; rw [if_pos (show decide (name = bcB) = true from hb7)]; rfl, rfl⟩
  refine Z45 ?_;refine Z229 ?_;refine Z277 ?_
  refine sg rfl (fun hg => sP 110 rfl hg (qL u9)) ?_
  refine sg rfl (fun hg => sP 111 rfl hg q_streq) ?_
  refine sg rfl (fun hg => sP 112 rfl hg qM) ?_
  refine Z65 ?_
  refine sg rfl (fun hg => sP 114 rfl hg (qL u9)) ?_
  refine sg rfl (fun hg => sP 115 rfl hg q_streq) ?_
  refine sg rfl (fun hg => sP 113 rfl hg q_or) ?_
  refine sg rfl (fun hg => sP 117 rfl hg qM) ?_
  refine Z65 ?_
  refine sg rfl (fun hg => sP 119 rfl hg (qL u9)) ?_
  refine sg rfl (fun hg => sP 120 rfl hg q_streq) ?_
  refine sg rfl (fun hg => sP 118 rfl hg q_or) ?_
  refine Z288 ?_
  refine g_callg (xs := [.tmp 125, .const (.string ⟨#[101]⟩)]) rfl (fun hg => (Tr.d_mk op name num ks ▸ c156 (.mk op name num ks) e1 hok)) ?_
  refine Z8 ?_;refine Z259 ?_
  exact ⟨by rw [otherB, if_neg (by rw [hb0]; decide), if_neg (by rw [hb1]; decide), if_neg (by rw [hb2]; decide), if_neg (by rw [hb3]; decide), if_neg (by rw [hb4]; decide), if_neg (by rw [hb5]; decide), if_pos hb6]; rw [if_neg (show ¬ decide (name = bcB) = true from by rw [show decide (name = bcB) = false from hb7]; decide)]; rfl, rfl⟩
 refine Z71 ?_;refine Z0 ?_;refine Z193 ?_;refine Z42 ?_
 exact ⟨by rw [otherB, if_neg (by rw [hb0]; decide), if_neg (by rw [hb1]; decide), if_neg (by rw [hb2]; decide), if_neg (by rw [hb3]; decide), if_neg (by rw [hb4]; decide), if_neg (by rw [hb5]; decide), if_neg (by rw [hb6]; decide)], rfl⟩
end Go.Proofs.YtklkbfpjimeaoaaGreat
