import Derived.Test.YtklkbfpjimeaoaaM17
import Derived.Test.YtklkbfpjimeaoaaM11
/- Contracts of functions. Conditions: none. -/
set_option linter.unusedSimpArgs false
set_option linter.unusedVariables false
set_option maxRecDepth 20000
namespace Go.Proofs.Ytklkbfpjimeaoaa
open Go Go.Proofs.Ytklkbfpjimeaoaa.E
section
theorem c160 (op : Int) : Pf Try.prog 75 [.int .i64 op] (.d (.bool (op == 66))) := by
 refine pf_body (rvs := [.tmp 2]) [(0, .d (.int .i64 op))] Try.func75 Try.ntmps75 Try.results75 (fun S0 O0 w0 m0 hm0 => ?_)
 refine Z75 ?_;refine Z20 ?_;refine Z64 ?_
 exact ⟨rfl, rfl⟩
theorem c232 (op : Int) : Pf Try.prog 92 [.int .i64 op] (.d (.bool (op == 67))) := by
 refine pf_body (rvs := [.tmp 2]) [(0, .d (.int .i64 op))] Try.func92 Try.ntmps92 Try.results92 (fun S0 O0 w0 m0 hm0 => ?_)
 refine Z75 ?_;refine Z20 ?_;refine Z64 ?_
 exact ⟨rfl, rfl⟩
theorem c163 (op : Int) : Pf Try.prog 78 [.int .i64 op] (.d (.bool (isExprB op || op == 3))) := by
 refine pf_body (rvs := [.tmp 2]) [(0, .d (.int .i64 op))] Try.func78 Try.ntmps78 Try.results78 (fun S0 O0 w0 m0 hm0 => ?_)
 refine Z75 ?_
 refine gL (xs := [.tmp 3]) rfl (c74 op) ?_
 refine Z81 ?_
 refine sg rfl (fun hg => sP 6 rfl hg q_eql) ?_
 refine Z17 ?_;refine Z64 ?_
 exact ⟨rfl, rfl⟩
theorem c286 (op : Int) : Pf Try.prog 102 [.int .i64 op] (.d (.bool (isExprB op || op == 30))) := by
 refine pf_body (rvs := [.tmp 2]) [(0, .d (.int .i64 op))] Try.func102 Try.ntmps102 Try.results102 (fun S0 O0 w0 m0 hm0 => ?_)
 refine Z75 ?_
 refine gL (xs := [.tmp 3]) rfl (c74 op) ?_
 refine Z81 ?_
 refine sg rfl (fun hg => sP 6 rfl hg q_eql) ?_
 refine Z17 ?_;refine Z64 ?_
 exact ⟨rfl, rfl⟩
theorem c233 (t : Tr) (g : FuncId) (p : Int → Bool) (hcb : ∀ op, Pf Try.prog g [.int .i64 op] (.d (.bool (p op)))) : Pf Try.prog 93 [t.d, .ptr (.fn (.func g) [] [])] (.d (.bool (!p t.op))) := by
 obtain ⟨op, name, num, ks⟩ := t
 rw [Tr.d_mk]
 try simp only [Tr.op_mk, Tr.nm_mk, Tr.nu_mk, Tr.kids_mk]
 refine pf_body (rvs := [.tmp 3]) [(0, .d (.agg [.int .i64 op, .str name, .int .i64 num, .sl (ks.map Tr.d)])), (1, .d (.ptr (.fn (.func g) [] [])))] Try.func93 Try.ntmps93 Try.results93 (fun S0 O0 w0 m0 hm0 => ?_)
 refine Z80 ?_
 first | refine sv rfl (y_load_leaf u67) ?_ | refine vq rfl (qL u67) ?_
 first | refine sv rfl (y_fieldAt 0 u27 rfl sz3) ?_ | refine vq rfl (q_fieldAddr u27 rfl sz3) ?_ | refine vq rfl (qF u27 rfl sz3) ?_
 first | refine sv rfl (y_load_leaf u3) ?_ | refine vq rfl (qL u3) ?_
 refine gL (xs := [.tmp 6]) rfl (hcb op) ?_
 refine Z34 ?_;refine Z64 ?_
 exact ⟨rfl, rfl⟩
def everyB (p : Int → Bool) (ks : List Tr) : Bool := !(ks.any fun k => !p k.op)
theorem Tr.kids_len {t : Tr} (h : t.Ok) : t.kids.length ≤ 140737488355328 := by cases h; assumption
theorem c159 (t : Tr) (g : FuncId) (p : Int → Bool) (hok : t.Ok) (hcb : ∀ op, Pf Try.prog g [.int .i64 op] (.d (.bool (p op)))) : Pf Try.prog 74 [t.d, .fn (.func g) [] []] (.d (.bool (everyB p t.kids))) := by
 obtain ⟨op, name, num, ks⟩ := t
 rw [Tr.d_mk]
 try simp only [Tr.op_mk, Tr.nm_mk, Tr.nu_mk, Tr.kids_mk]
 refine pf_body (rvs := [.tmp 4]) [(0, .d (.agg [.int .i64 op, .str name, .int .i64 num, .sl (ks.map Tr.d)])), (1, .d (.fn (.func g) [] []))] Try.func74 Try.ntmps74 Try.results74 (fun S0 O0 w0 m0 hm0 => ?_)
 refine Z70 ?_;refine Z15 ?_
 refine gF 0 [] (.fn (.func g) [] []) rfl ?_
 refine Z65 ?_
 first | refine sv rfl (y_fieldAt 3 u27 rfl sz22) ?_ | refine vq rfl (q_fieldAddr u27 rfl sz22) ?_ | refine vq rfl (qF u27 rfl sz22) ?_
 first | refine sv rfl (y_load_leaf u22) ?_ | refine vq rfl (qL u22) ?_
 refine vq rfl (q_makeFunc (xs := []) (ys := [.tmp 3])) ?_
 refine gL (xs := [.tmp 6, .tmp 7]) rfl (c52 ks 93 [] [.ptr (.fn (.func g) [] [])] (fun k => !p k.op) (Tr.kids_len hok) (fun x hx => c233 x g p hcb)) ?_
 refine Z34 ?_;refine Z64 ?_
 exact ⟨rfl, rfl⟩
theorem c152 (t : Tr) : Pf Try.prog 67 [t.d] (.d (.bool true)) := by
 obtain ⟨op, name, num, ks⟩ := t
 rw [Tr.d_mk]
 try simp only [Tr.op_mk, Tr.nm_mk, Tr.nu_mk, Tr.kids_mk]
 refine pf_body (rvs := [.tmp 2]) [(0, .d (.agg [.int .i64 op, .str name, .int .i64 num, .sl (ks.map Tr.d)]))] Try.func67 Try.ntmps67 Try.results67 (fun S0 O0 w0 m0 hm0 => ?_)
 refine Z80 ?_;refine Z64 ?_
 exact ⟨rfl, rfl⟩
def rule154 (t : Tr) : Bool := (t.nu == 0 || t.nu == 1) && (t.kids.length : Int) == 0
def opK (i : Nat) (ks : List Tr) : Int := match ks[i]? with | some k => k.op | none => 0
def ee : ByteArray := ⟨#[101, 101]⟩
def rule155 (t : Tr) : Bool := kidsB t.kids ee && (opK 0 t.kids == 4 || opK 0 t.kids == 12)
def rule158 (t : Tr) : Bool := decide ((t.kids.length : Int) > 0) && everyB (fun op => op == 66) t.kids
def rule161 (t : Tr) : Bool := (t.kids.length : Int) == 1 && (opK 0 t.kids == 13 || opK 0 t.kids == 15)
theorem c154 (t : Tr) : Pf Try.prog 69 [t.d] (.d (.bool (rule154 t))) := by
 obtain ⟨op, name, num, ks⟩ := t
 rw [Tr.d_mk]
 try simp only [Tr.op_mk, Tr.nm_mk, Tr.nu_mk, Tr.kids_mk]
 refine pf_body (rvs := [.tmp 2]) [(0, .d (.agg [.int .i64 op, .str name, .int .i64 num, .sl (ks.map Tr.d)]))] Try.func69 Try.ntmps69 Try.results69 (fun S0 O0 w0 m0 hm0 => ?_)
 refine Z80 ?_
 first | refine sv rfl (y_fieldAt 2 u27 rfl sz3) ?_ | refine vq rfl (q_fieldAddr u27 rfl sz3) ?_ | refine vq rfl (qF u27 rfl sz3) ?_
 first | refine sv rfl (y_load_leaf u3) ?_ | refine vq rfl (qL u3) ?_
 refine Z20 ?_;refine Z2 ?_
 first | refine sg rfl (fun hg => q_fieldAddr u27 rfl sz3) ?_ | refine sg rfl (fun hg => qF u27 rfl sz3) ?_
 first | refine sg rfl (fun hg => sP 7 rfl hg (qO u3)) ?_ | refine sg rfl (fun hg => sP 7 rfl hg (qL u3)) ?_
 refine sg rfl (fun hg => sP 8 rfl hg q_eql) ?_
 refine Z17 ?_;refine Z2 ?_
 first | refine sg rfl (fun hg => q_fieldAddr u27 rfl sz22) ?_ | refine sg rfl (fun hg => qF u27 rfl sz22) ?_
 first | refine sg rfl (fun hg => sP 12 rfl hg (qO u22)) ?_ | refine sg rfl (fun hg => sP 12 rfl hg (qL u22)) ?_
 refine sg rfl (fun hg => sP 13 rfl hg (q_len u22)) ?_
 refine sg rfl (fun hg => sP 14 rfl hg q_eql) ?_
 refine Z82 ?_
 exact ⟨by simp [rule154, Tr.nu, Tr.kids], rfl⟩
theorem c155 (t : Tr) (hok : t.Ok) : Pf Try.prog 70 [t.d] (.d (.bool (rule155 t))) := by
 obtain ⟨op, name, num, ks⟩ := t
 rw [Tr.d_mk]
 try simp only [Tr.op_mk, Tr.nm_mk, Tr.nu_mk, Tr.kids_mk]
 refine pf_body (rvs := [.tmp 2]) [(0, .d (.agg [.int .i64 op, .str name, .int .i64 num, .sl (ks.map Tr.d)]))] Try.func70 Try.ntmps70 Try.results70 (fun S0 O0 w0 m0 hm0 => ?_)
 refine Z80 ?_
 first | refine sv rfl (y_load_agg sz27 u27 rfl) ?_ | refine vq rfl (qG (by exact sz27) u27 rfl) ?_
 refine gL (xs := [.tmp 3, .const (.string ⟨#[101, 101]⟩)]) rfl ((Tr.d_mk op name num ks ▸ c156 (.mk op name num ks) ee hok)) ?_
 refine Z2 ?_
 refine g_split 5 true (fun hsp => ?_) (fun hsp => ?_)
 ·
  obtain ⟨k, r, hks⟩ : ∃ k r, ks = k :: r := by
   cases hks : ks with
   | nil => exfalso; have := kidsB_len (by simpa using hsp); rw [show (Tr.mk op name num ks).kids = ks from rfl, hks] at this; exact absurd this (by decide)
   | cons k r => exact ⟨k, r, rfl⟩
  subst hks
  obtain ⟨kop, knm, knu, kks, hka⟩ := k.d_agg
  have hkop : k.op = kop := by obtain ⟨o, n, u, l⟩ := k; rw [Tr.d_mk] at hka; injection hka with hka; injection hka with hka; injection hka
  have hxa : ((k :: r).map Tr.d)[0]? = some (.agg [.int .i64 kop, .str knm, .int .i64 knu, .sl (kks.map Tr.d)]) := by rw [← hka]; rfl
  first | refine sgo rfl hsp (y_fieldAddr u27 rfl sz22) ?_ | refine sgo rfl hsp (y_fieldp_leaf u27 rfl sz22) ?_
  first | refine sgo rfl hsp (y_load_leaf u22) ?_ | refine sgo rfl hsp (y_loadp_leaf u22) ?_
  refine Z52 ?_
  first | refine sgo rfl hsp (y_fieldAddr u27 rfl sz3) ?_ | refine sgo rfl hsp (y_fieldp_leaf u27 rfl sz3) ?_
  first | refine sgo rfl hsp (y_load_leaf u3) ?_ | refine sgo rfl hsp (y_loadp_leaf u3) ?_
  refine sgo rfl hsp y_eql ?_
  refine Z41 ?_
  first | refine sg rfl (fun hg => q_fieldAddr u27 rfl sz22) ?_ | refine sg rfl (fun hg => qF u27 rfl sz22) ?_
  first | refine sg rfl (fun hg => sP 13 rfl hg (qO u22)) ?_ | refine sg rfl (fun hg => sP 13 rfl hg (qL u22)) ?_
  refine sg rfl (fun hg => sP 14 rfl hg (qI u22 sz27)) ?_
  first | refine sg rfl (fun hg => sP 15 rfl hg (q_fieldAddr u27 rfl sz3)) ?_ | refine sg rfl (fun hg => sP 15 rfl hg (qF u27 rfl sz3)) ?_
  first | refine sg rfl (fun hg => sP 16 rfl hg (qO u3)) ?_ | refine sg rfl (fun hg => sP 16 rfl hg (qL u3)) ?_
  refine sg rfl (fun hg => sP 17 rfl hg q_eql) ?_
  refine sgo rfl hsp y_or ?_
  refine Z82 ?_
  exact ⟨by simp [rule155, Tr.kids, opK, hkop], rfl⟩
 skip
 refine Z85 ?_;refine Z85 ?_;refine Z85 ?_;refine Z67 ?_;refine Z82 ?_
 exact ⟨by simp [rule155, Tr.kids] at hsp ⊢; simp [hsp], rfl⟩
theorem c158 (t : Tr) (hok : t.Ok) : Pf Try.prog 73 [t.d] (.d (.bool (rule158 t))) := by
 obtain ⟨op, name, num, ks⟩ := t
 rw [Tr.d_mk]
 try simp only [Tr.op_mk, Tr.nm_mk, Tr.nu_mk, Tr.kids_mk]
 refine pf_body (rvs := [.tmp 2]) [(0, .d (.agg [.int .i64 op, .str name, .int .i64 num, .sl (ks.map Tr.d)]))] Try.func73 Try.ntmps73 Try.results73 (fun S0 O0 w0 m0 hm0 => ?_)
 refine Z80 ?_
 first | refine sv rfl (y_fieldAt 3 u27 rfl sz22) ?_ | refine vq rfl (q_fieldAddr u27 rfl sz22) ?_ | refine vq rfl (qF u27 rfl sz22) ?_
 first | refine sv rfl (y_load_leaf u22) ?_ | refine vq rfl (qL u22) ?_
 refine Z28 ?_;refine Z62 ?_;refine Z2 ?_
 first | refine sg rfl (fun hg => q_load_agg sz27 u27 rfl) ?_ | refine sg rfl (fun hg => qG (by exact sz27) u27 rfl) ?_
 refine g_callg (xs := [.tmp 8, .func 75]) rfl (fun hg => (Tr.d_mk op name num ks ▸ c159 (.mk op name num ks) 75 (fun op => op == 66) hok c160)) ?_
 refine Z82 ?_
 exact ⟨by simp [rule158, Tr.kids], rfl⟩
theorem c161 (t : Tr) (hok : t.Ok) : Pf Try.prog 76 [t.d] (.d (.bool (rule161 t))) := by
 obtain ⟨op, name, num, ks⟩ := t
 rw [Tr.d_mk]
 try simp only [Tr.op_mk, Tr.nm_mk, Tr.nu_mk, Tr.kids_mk]
 refine pf_body (rvs := [.tmp 2]) [(0, .d (.agg [.int .i64 op, .str name, .int .i64 num, .sl (ks.map Tr.d)]))] Try.func76 Try.ntmps76 Try.results76 (fun S0 O0 w0 m0 hm0 => ?_)
 refine Z80 ?_
 first | refine sv rfl (y_fieldAt 3 u27 rfl sz22) ?_ | refine vq rfl (q_fieldAddr u27 rfl sz22) ?_ | refine vq rfl (qF u27 rfl sz22) ?_
 first | refine sv rfl (y_load_leaf u22) ?_ | refine vq rfl (qL u22) ?_
 refine Z28 ?_;refine Z20 ?_;refine Z2 ?_
 refine g_split 7 true (fun hsp => ?_) (fun hsp => ?_)
 ·
  obtain ⟨k, r, hks⟩ : ∃ k r, ks = k :: r := by
   cases hks : ks with
   | nil => exfalso; rw [hks] at hsp; exact absurd hsp (by decide)
   | cons k r => exact ⟨k, r, rfl⟩
  subst hks
  obtain ⟨kop, knm, knu, kks, hka⟩ := k.d_agg
  have hkop : k.op = kop := by obtain ⟨o, n, u, l⟩ := k; rw [Tr.d_mk] at hka; injection hka with hka; injection hka with hka; injection hka
  have hxa : ((k :: r).map Tr.d)[0]? = some (.agg [.int .i64 kop, .str knm, .int .i64 knu, .sl (kks.map Tr.d)]) := by rw [← hka]; rfl
  first | refine sgo rfl hsp (y_fieldAddr u27 rfl sz22) ?_ | refine sgo rfl hsp (y_fieldp_leaf u27 rfl sz22) ?_
  first | refine sgo rfl hsp (y_load_leaf u22) ?_ | refine sgo rfl hsp (y_loadp_leaf u22) ?_
  refine Z52 ?_
  first | refine sgo rfl hsp (y_fieldAddr u27 rfl sz3) ?_ | refine sgo rfl hsp (y_fieldp_leaf u27 rfl sz3) ?_
  first | refine sgo rfl hsp (y_load_leaf u3) ?_ | refine sgo rfl hsp (y_loadp_leaf u3) ?_
  refine sgo rfl hsp y_eql ?_
  refine Z41 ?_
  first | refine sg rfl (fun hg => q_fieldAddr u27 rfl sz22) ?_ | refine sg rfl (fun hg => qF u27 rfl sz22) ?_
  first | refine sg rfl (fun hg => sP 15 rfl hg (qO u22)) ?_ | refine sg rfl (fun hg => sP 15 rfl hg (qL u22)) ?_
  refine sg rfl (fun hg => sP 16 rfl hg (qI u22 sz27)) ?_
  first | refine sg rfl (fun hg => sP 17 rfl hg (q_fieldAddr u27 rfl sz3)) ?_ | refine sg rfl (fun hg => sP 17 rfl hg (qF u27 rfl sz3)) ?_
  first | refine sg rfl (fun hg => sP 18 rfl hg (qO u3)) ?_ | refine sg rfl (fun hg => sP 18 rfl hg (qL u3)) ?_
  refine sg rfl (fun hg => sP 19 rfl hg q_eql) ?_
  refine sgo rfl hsp y_or ?_
  refine Z82 ?_
  exact ⟨by simp [rule161, Tr.kids, opK, hkop], rfl⟩
 skip
 refine Z85 ?_;refine Z85 ?_;refine Z85 ?_;refine Z67 ?_;refine Z82 ?_
 exact ⟨by simp [rule161, Tr.kids] at hsp ⊢; simp [hsp], rfl⟩
theorem c162 (t : Tr) (hok : t.Ok) : Pf Try.prog 77 [t.d] (.d (.bool (everyB (fun op => isExprB op || op == 3) t.kids))) := by
 obtain ⟨op, name, num, ks⟩ := t
 rw [Tr.d_mk]
 try simp only [Tr.op_mk, Tr.nm_mk, Tr.nu_mk, Tr.kids_mk]
 refine pf_body (rvs := [.tmp 2]) [(0, .d (.agg [.int .i64 op, .str name, .int .i64 num, .sl (ks.map Tr.d)]))] Try.func77 Try.ntmps77 Try.results77 (fun S0 O0 w0 m0 hm0 => ?_)
 refine Z80 ?_
 first | refine sv rfl (y_load_agg sz27 u27 rfl) ?_ | refine vq rfl (qG (by exact sz27) u27 rfl) ?_
 refine gL (xs := [.tmp 3, .func 78]) rfl ((Tr.d_mk op name num ks ▸ c159 (.mk op name num ks) 78 (fun op => isExprB op || op == 3) hok c163)) ?_
 refine Z64 ?_
 exact ⟨rfl, rfl⟩
theorem c164 (t : Tr) (hok : t.Ok) : Pf Try.prog 79 [t.d] (.d (.bool (everyB isStmtB t.kids))) := by
 obtain ⟨op, name, num, ks⟩ := t
 rw [Tr.d_mk]
 try simp only [Tr.op_mk, Tr.nm_mk, Tr.nu_mk, Tr.kids_mk]
 refine pf_body (rvs := [.tmp 2]) [(0, .d (.agg [.int .i64 op, .str name, .int .i64 num, .sl (ks.map Tr.d)]))] Try.func79 Try.ntmps79 Try.results79 (fun S0 O0 w0 m0 hm0 => ?_)
 refine Z80 ?_
 first | refine sv rfl (y_load_agg sz27 u27 rfl) ?_ | refine vq rfl (qG (by exact sz27) u27 rfl) ?_
 refine gL (xs := [.tmp 3, .func 47]) rfl ((Tr.d_mk op name num ks ▸ c159 (.mk op name num ks) 47 isStmtB hok c95)) ?_
 refine Z64 ?_
 exact ⟨rfl, rfl⟩
theorem c153 (ts : List ByteArray) : Pf Try.prog 68 [.sl (ts.map .str)] (.d (.fn (.func 90) [] [.ptr (.sl (ts.map .str))])) := by
 refine pf_body (rvs := [.tmp 2]) [(0, .d (.sl (ts.map .str)))] Try.func68 Try.ntmps68 Try.results68 (fun S0 O0 w0 m0 hm0 => ?_)
 refine Z69 ?_
 refine gF 0 [] (.sl (ts.map .str)) rfl ?_
 refine Z65 ?_
 refine vq rfl (q_makeFunc (xs := []) (ys := [.tmp 1])) ?_
 refine Z63 ?_
 refine find1 (by simp) ?_
 exact ⟨rfl, rfl⟩
theorem c231 (t : Tr) (s : ByteArray) (hok : t.Ok) : Pf Try.prog 91 [.str s, .ptr t.d] (.d (.bool (kidsB t.kids s))) := by
 obtain ⟨op, name, num, ks⟩ := t
 rw [Tr.d_mk]
 try simp only [Tr.op_mk, Tr.nm_mk, Tr.nu_mk, Tr.kids_mk]
 refine pf_body (rvs := [.tmp 3]) [(0, .d (.str s)), (1, .d (.ptr (.agg [.int .i64 op, .str name, .int .i64 num, .sl (ks.map Tr.d)])))] Try.func91 Try.ntmps91 Try.results91 (fun S0 O0 w0 m0 hm0 => ?_)
 refine Z5 ?_;refine Z65 ?_
 first | refine sv rfl (y_load_agg sz27 u27 rfl) ?_ | refine vq rfl (qG (by exact sz27) u27 rfl) ?_
 refine Z2 ?_
 refine gL (xs := [.tmp 4, .tmp 5]) rfl ((Tr.d_mk op name num ks ▸ c156 (.mk op name num ks) s hok)) ?_
 refine Z64 ?_
 exact ⟨rfl, rfl⟩
def formsB (ts : List ByteArray) (t : Tr) : Bool := ts.any fun s => kidsB t.kids s
theorem c229 (t : Tr) (ts : List ByteArray) (hok : t.Ok) (hlim : ts.length ≤ 140737488355328) : Pf Try.prog 90 [t.d, .ptr (.sl (ts.map .str))] (.d (.bool (formsB ts t))) := by
 obtain ⟨op, name, num, ks⟩ := t
 rw [Tr.d_mk]
 try simp only [Tr.op_mk, Tr.nm_mk, Tr.nu_mk, Tr.kids_mk]
 refine pf_body (rvs := [.tmp 3]) [(0, .d (.agg [.int .i64 op, .str name, .int .i64 num, .sl (ks.map Tr.d)])), (1, .d (.ptr (.sl (ts.map .str))))] Try.func90 Try.ntmps90 Try.results90 (fun S0 O0 w0 m0 hm0 => ?_)
 refine Z80 ?_
 first | refine sv rfl (y_load_leaf u40) ?_ | refine vq rfl (qL u40) ?_
 refine vq rfl (q_makeFunc (xs := []) (ys := [.tmp 2])) ?_
 refine gL (xs := [.tmp 4, .tmp 5]) rfl (c230 ts 91 [] [.ptr (.agg [.int .i64 op, .str name, .int .i64 num, .sl (ks.map Tr.d)])] (fun s => kidsB ks s) hlim (fun x hx => Tr.d_mk op name num ks ▸ c231 (.mk op name num ks) x hok)) ?_
 refine Z64 ?_
 exact ⟨rfl, rfl⟩
end
section
def nn : ByteArray := ⟨#[110, 110]⟩
def eb : ByteArray := ⟨#[101, 98]⟩
def rule157 : Tr → Bool
 | .mk op _ num ks =>
  if (num = 1 ∨ num = 2) ∧ num + 2 ≤ (ks.length : Int) then kidsB (ks.take (num + 2).toNat) (nn.extract 0 num.toNat ++ eb) && (((ks.drop (num + 2).toNat).length : Int) == 0 || (op == 55 && everyB (fun op => op == 67) (ks.drop (num + 2).toNat)))
  else false
theorem nn_size (n : Nat) : (nn.extract 0 n).size ≤ 2 := by rw [ByteArray.size_extract]; have : nn.size = 2 := rfl; omega
theorem Tr.Ok.take {op nu : Int} {nm : ByteArray} {ks : List Tr} (h : (Tr.mk op nm nu ks).Ok) (n : Nat) : (Tr.mk op nm nu (ks.take n)).Ok := by
 cases h with | mk h1 h2 h3 h4 h5 => exact .mk h1 h2 h3 (Nat.le_trans (by rw [List.length_take]; omega) h4) (fun k hk => h5 k (List.mem_of_mem_take hk))
theorem Tr.Ok.drop {op nu : Int} {nm : ByteArray} {ks : List Tr} (h : (Tr.mk op nm nu ks).Ok) (n : Nat) : (Tr.mk op nm nu (ks.drop n)).Ok := by
 cases h with | mk h1 h2 h3 h4 h5 => exact .mk h1 h2 h3 (Nat.le_trans (by rw [List.length_drop]; omega) h4) (fun k hk => h5 k (List.mem_of_mem_drop hk))
set_option maxHeartbeats 4000000 in
theorem c157 (t : Tr) (hok : t.Ok) : Pf Try.prog 72 [t.d] (.d (.bool (rule157 t))) := by
 obtain ⟨op, name, num, ks⟩ := t
 rw [Tr.d_mk]
 try simp only [Tr.op_mk, Tr.nm_mk, Tr.nu_mk, Tr.kids_mk]
 refine pf_body (rvs := [.tmp 2]) [(0, .d (.agg [.int .i64 op, .str name, .int .i64 num, .sl (ks.map Tr.d)]))] Try.func72 Try.ntmps72 Try.results72 (fun S0 O0 w0 m0 hm0 => ?_)
 refine Z70 ?_;refine Z73 ?_
 first | refine sv rfl (y_fieldAt 2 u27 rfl sz3) ?_ | refine vq rfl (q_fieldAddr u27 rfl sz3) ?_ | refine vq rfl (qF u27 rfl sz3) ?_
 first | refine sv rfl (y_load_leaf u3) ?_ | refine vq rfl (qL u3) ?_
 refine Z51 ?_;refine Z2 ?_
 first | refine sg rfl (fun hg => q_fieldAddr u27 rfl sz3) ?_ | refine sg rfl (fun hg => qF u27 rfl sz3) ?_
 first | refine sg rfl (fun hg => sP 9 rfl hg (qO u3)) ?_ | refine sg rfl (fun hg => sP 9 rfl hg (qL u3)) ?_
 refine sg rfl (fun hg => sP 10 rfl hg q_neq) ?_
 refine Z13 ?_;refine Z2 ?_
 first | refine sg rfl (fun hg => q_fieldAddr u27 rfl sz22) ?_ | refine sg rfl (fun hg => qF u27 rfl sz22) ?_
 first | refine sg rfl (fun hg => sP 14 rfl hg (qO u22)) ?_ | refine sg rfl (fun hg => sP 14 rfl hg (qL u22)) ?_
 refine sg rfl (fun hg => sP 15 rfl hg (q_len u22)) ?_
 first | refine sg rfl (fun hg => q_fieldAddr u27 rfl sz3) ?_ | refine sg rfl (fun hg => qF u27 rfl sz3) ?_
 first | refine sg rfl (fun hg => sP 17 rfl hg (qO u3)) ?_ | refine sg rfl (fun hg => sP 17 rfl hg (qL u3)) ?_
 refine sg rfl (fun hg => sP 18 rfl hg (q_add (hw := rfl))) ?_
 refine sg rfl (fun hg => sP 19 rfl hg (sP 16 rfl hg q_lss)) ?_
 refine Z86 ?_
 refine zgC ?_ ?_ <;> intro hb0
 ·
  have hn : ¬ ((num = 1 ∨ num = 2) ∧ num + 2 ≤ (ks.length : Int)) := by
   rintro ⟨h7, h8⟩
   simp only [Bool.or_eq_true, Bool.and_eq_true, bne_iff_ne, bne_eq_false_iff_eq, decide_eq_true_eq, decide_eq_false_iff_not, List.length_map] at hb0
   rcases hb0 with hb0 | hb0
   · omega
   · rw [wrap_i64 (by omega) (by omega)] at hb0
     omega
  refine Z35 ?_
  refine gP [0, 1, 2, 3, 4] ?_
  refine Z18 ?_;refine Z77 ?_
  exact ⟨by rw [rule157, if_neg hn], rfl⟩
 have hn : (num = 1 ∨ num = 2) ∧ num + 2 ≤ (ks.length : Int) := by
  simp only [Bool.or_eq_false_iff, Bool.and_eq_false_iff, bne_iff_ne, bne_eq_false_iff_eq, decide_eq_true_eq, decide_eq_false_iff_not, List.length_map] at hb0
  obtain ⟨h7, h8⟩ := hb0
  have h9 : num = 1 ∨ num = 2 := by omega
  rw [wrap_i64 (by omega) (by omega)] at h8
  exact ⟨h9, by omega⟩
 have hn1 : 1 ≤ num ∧ num ≤ 2 := by omega
 refine Z49 ?_
 refine gP [0, 1, 2, 3, 4] ?_
 refine Z18 ?_
 first | refine sv rfl (y_load_agg sz27 u27 rfl) ?_ | refine vq rfl (qG (by exact sz27) u27 rfl) ?_
 refine Z46 ?_
 first | refine sa rfl (dS sz27) ?_ | refine sa rfl (d_store_take sz27) ?_
 refine Z6 ?_
 first | refine sv rfl (y_fieldAt 3 u27 rfl sz22) ?_ | refine vq rfl (q_fieldAddr u27 rfl sz22) ?_ | refine vq rfl (qF u27 rfl sz22) ?_
 first | refine sv rfl (y_load_leaf u22) ?_ | refine vq rfl (qL u22) ?_
 first | refine sv rfl (y_fieldAt 2 u27 rfl sz3) ?_ | refine vq rfl (q_fieldAddr u27 rfl sz3) ?_ | refine vq rfl (qF u27 rfl sz3) ?_
 first | refine sv rfl (y_load_leaf u3) ?_ | refine vq rfl (qL u3) ?_
 refine Z25 ?_
 refine vq rfl ((q_sliceh u22 sz27 (Tr.ds_cells ks))) ?_
 rw [← List.map_take]
 first | refine sv rfl (y_fieldAt 3 u27 rfl sz22) ?_ | refine vq rfl (q_fieldAddr u27 rfl sz22) ?_ | refine vq rfl (qF u27 rfl sz22) ?_
 first | refine sa rfl (dS sz22) ?_ | refine sa rfl (d_store_take sz22) ?_
 refine gF 0 [] (.agg [.int .i64 op, .str name, .int .i64 num, .sl ((ks.take (num + 2).toNat).map Tr.d)]) rfl ?_
 refine gN (tN (zgS (zgS ?_)))
 refine g_cg0 [30, 31, 32, 33, 34, 35, 36] ?_
 refine Z61 ?_
 first | refine cS 1 (fun b rest hc1 hc2 hc3 => sv rfl (y_load_agg sz27 u27 rfl) (gN ⟨rfl, rfl⟩)) ?_ | refine cS 1 (fun b rest hc1 hc2 hc3 => vq rfl (qG (by exact sz27) u27 rfl) (gN ⟨rfl, rfl⟩)) ?_
 refine Z61 ?_
 first | refine cS 2 (fun b rest hc1 hc2 hc3 => sv rfl (y_fieldAt 2 u27 rfl sz3) (gN ⟨rfl, rfl⟩)) ?_ | refine cS 2 (fun b rest hc1 hc2 hc3 => vq rfl (q_fieldAddr u27 rfl sz3) (gN ⟨rfl, rfl⟩)) ?_ | refine cS 2 (fun b rest hc1 hc2 hc3 => vq rfl (qF u27 rfl sz3) (gN ⟨rfl, rfl⟩)) ?_
 refine cP [1] ?_
 first | refine cS 3 (fun b rest hc1 hc2 hc3 => sv rfl (y_load_leaf u3) (gN ⟨rfl, rfl⟩)) ?_ | refine cS 3 (fun b rest hc1 hc2 hc3 => vq rfl (qL u3) (gN ⟨rfl, rfl⟩)) ?_
 refine cP [2] ?_
 refine cS 4 (fun b rest hc1 hc2 hc3 => vq rfl ((q_strh u9 (h1 := by show num ≤ 2; omega))) (gN ⟨rfl, rfl⟩)) ?_
 refine cP [3] ?_
 refine cS 5 (fun b rest hc1 hc2 hc3 => vq rfl (q_stradd (hl := by have := nn_size num.toNat; show (nn.extract 0 num.toNat).size + 2 ≤ lim; simp only [lim]; omega)) (gN ⟨rfl, rfl⟩)) ?_
 refine cP [0, 4] ?_
 refine cS 6 (fun b rest hc1 hc2 hc3 => gL (xs := [.tmp 30, .tmp 34]) rfl ((Tr.d_mk op name num (ks.take (num + 2).toNat) ▸ c156 (.mk op name num (ks.take (num + 2).toNat)) (nn.extract 0 num.toNat ++ eb) (hok.take _))) (gN ⟨rfl, rfl⟩)) ?_
 refine cP [5] ?_
 refine cS 7 (fun b rest hc1 hc2 hc3 => vq rfl q_not (gN ⟨rfl, rfl⟩)) ?_
 refine cg_done ?_
 refine tN ?_
 refine zgC ?_ ?_ <;> intro hb1
 ·
  refine Z35 ?_
  refine gP [0, 1, 2, 3, 4] ?_
  refine Z18 ?_;refine Z77 ?_
  exact Y3
 refine Z49 ?_
 refine gP [0, 1, 2, 3, 4] ?_
 refine Z18 ?_
 first | refine sv rfl (y_load_agg sz27 u27 rfl) ?_ | refine vq rfl (qG (by exact sz27) u27 rfl) ?_
 refine Z46 ?_
 first | refine sa rfl (dS sz27) ?_ | refine sa rfl (d_store_take sz27) ?_
 refine Z6 ?_
 first | refine sv rfl (y_fieldAt 3 u27 rfl sz22) ?_ | refine vq rfl (q_fieldAddr u27 rfl sz22) ?_ | refine vq rfl (qF u27 rfl sz22) ?_
 first | refine sv rfl (y_load_leaf u22) ?_ | refine vq rfl (qL u22) ?_
 first | refine sv rfl (y_fieldAt 2 u27 rfl sz3) ?_ | refine vq rfl (q_fieldAddr u27 rfl sz3) ?_ | refine vq rfl (qF u27 rfl sz3) ?_
 first | refine sv rfl (y_load_leaf u3) ?_ | refine vq rfl (qL u3) ?_
 refine Z25 ?_
 refine vq rfl ((q_slicel u22 sz27 (Tr.ds_cells ks))) ?_
 rw [← List.map_drop]
 first | refine sv rfl (y_fieldAt 3 u27 rfl sz22) ?_ | refine vq rfl (q_fieldAddr u27 rfl sz22) ?_ | refine vq rfl (qF u27 rfl sz22) ?_
 first | refine sa rfl (dS sz22) ?_ | refine sa rfl (d_store_take sz22) ?_
 refine gF 0 [] (.agg [.int .i64 op, .str name, .int .i64 num, .sl ((ks.drop (num + 2).toNat).map Tr.d)]) rfl ?_
 refine Z6 ?_
 first | refine sv rfl (y_fieldAt 3 u27 rfl sz22) ?_ | refine vq rfl (q_fieldAddr u27 rfl sz22) ?_ | refine vq rfl (qF u27 rfl sz22) ?_
 first | refine sv rfl (y_load_leaf u22) ?_ | refine vq rfl (qL u22) ?_
 refine Z28 ?_;refine Z20 ?_;refine Z2 ?_
 first | refine sg rfl (fun hg => q_fieldAddr u27 rfl sz3) ?_ | refine sg rfl (fun hg => qF u27 rfl sz3) ?_
 first | refine sg rfl (fun hg => sP 50 rfl hg (qO u3)) ?_ | refine sg rfl (fun hg => sP 50 rfl hg (qL u3)) ?_
 refine sg rfl (fun hg => sP 51 rfl hg q_eql) ?_
 refine sg rfl (fun hg => sP 52 rfl hg qM) ?_
 first | refine sg rfl (fun hg => q_load_agg sz27 u27 rfl) ?_ | refine sg rfl (fun hg => qG (by exact sz27) u27 rfl) ?_
 refine g_callg (xs := [.tmp 54, .func 92]) rfl (fun hg => (Tr.d_mk op name num (ks.drop (num + 2).toNat) ▸ c159 (.mk op name num (ks.drop (num + 2).toNat)) 92 (fun op => op == 67) (hok.drop _) c232)) ?_
 refine sg rfl (fun hg => sP 53 rfl hg q_and) ?_
 refine Z17 ?_;refine Z64 ?_
 exact Y3
def voidB : ByteArray := ⟨#[118, 111, 105, 100]⟩
def varTail (nu : Int) (l : List Tr) : Bool := if (andI nu 2 != 0) = true then (match l with | [] => false | k :: r => isExprB k.op && (r.length : Int) == 0) else (l.length : Int) == 0
def varType (k : Tr) : Bool := !(k.op != 31 && (k.op != 30 || decide (k.nm = voidB)))
def varTy (num : Int) : List Tr → Bool
 | [] => false
 | k :: r => varType k && varTail num r
def varB : Tr → Bool
 | .mk _ name num ks =>
  if (((!nameB name || decide (num < 0)) || decide (num > 15)) || andI num 3 == 0) = true then false
  else if (andI num 1 != 0) = true then varTy num ks else varTail num ks
set_option maxHeartbeats 4000000 in
theorem c285 (t : Tr) (hok : t.Ok) : Pf Try.prog 101 [t.d] (.d (.bool (varB t))) := by
 obtain ⟨op, name, num, ks⟩ := t
 rw [Tr.d_mk]
 try simp only [Tr.op_mk, Tr.nm_mk, Tr.nu_mk, Tr.kids_mk]
 cases hok with | mk h1 h2 h3 h4 h5 =>
 refine pf_body (rvs := [.tmp 2]) [(0, .d (.agg [.int .i64 op, .str name, .int .i64 num, .sl (ks.map Tr.d)]))] Try.func101 Try.ntmps101 Try.results101 (fun S0 O0 w0 m0 hm0 => ?_)
 refine Z70 ?_;refine Z73 ?_
 first | refine sv rfl (y_fieldAt 1 u27 rfl sz9) ?_ | refine vq rfl (q_fieldAddr u27 rfl sz9) ?_ | refine vq rfl (qF u27 rfl sz9) ?_
 first | refine sv rfl (y_load_leaf u9) ?_ | refine vq rfl (qL u9) ?_
 refine gL (xs := [.tmp 5]) rfl (c167 name) ?_
 refine Z34 ?_;refine Z2 ?_
 first | refine sg rfl (fun hg => q_fieldAddr u27 rfl sz3) ?_ | refine sg rfl (fun hg => qF u27 rfl sz3) ?_
 first | refine sg rfl (fun hg => sP 9 rfl hg (qO u3)) ?_ | refine sg rfl (fun hg => sP 9 rfl hg (qL u3)) ?_
 refine sg rfl (fun hg => sP 10 rfl hg q_lss) ?_
 refine Z17 ?_;refine Z2 ?_
 first | refine sg rfl (fun hg => q_fieldAddr u27 rfl sz3) ?_ | refine sg rfl (fun hg => qF u27 rfl sz3) ?_
 first | refine sg rfl (fun hg => sP 14 rfl hg (qO u3)) ?_ | refine sg rfl (fun hg => sP 14 rfl hg (qL u3)) ?_
 refine sg rfl (fun hg => sP 15 rfl hg q_gtr) ?_
 refine Z17 ?_;refine Z2 ?_
 first | refine sg rfl (fun hg => q_fieldAddr u27 rfl sz3) ?_ | refine sg rfl (fun hg => qF u27 rfl sz3) ?_
 first | refine sg rfl (fun hg => sP 19 rfl hg (qO u3)) ?_ | refine sg rfl (fun hg => sP 19 rfl hg (qL u3)) ?_
 refine sg rfl (fun hg => sP 20 rfl hg (q_bits (show _ = pure (Value.int .i64 (andI _ _)) from rfl))) ?_
 refine sg rfl (fun hg => sP 21 rfl hg q_eql) ?_
 refine Z86 ?_
 refine zgC ?_ ?_ <;> intro hb0
 ·
  refine Z35 ?_;refine Z38 ?_;refine Z18 ?_;refine Z77 ?_
  exact ⟨by rw [varB, if_pos hb0], rfl⟩
 refine Z49 ?_;refine Z38 ?_;refine Z18 ?_
 first | refine sv rfl (y_fieldAt 3 u27 rfl sz22) ?_ | refine vq rfl (q_fieldAddr u27 rfl sz22) ?_ | refine vq rfl (qF u27 rfl sz22) ?_
 first | refine sv rfl (y_load_leaf u22) ?_ | refine vq rfl (qL u22) ?_
 first | refine sv rfl y_assign_take ?_ | refine vq rfl qA ?_
 refine Z12 ?_
 refine G_seq_cut (α := List Tr) (fun l => ⟨[(1, .d (.ptr (.agg [.int .i64 op, .str name, .int .i64 num, .sl (ks.map Tr.d)]))), (3, .d (.sl (l.map Tr.d)))], []⟩) (fun l => varB (.mk op name num ks) = varTail num l ∧ l.length ≤ 140737488355328) (fun Q' hn he hr => ?_) (fun l hl => ?_)
 ·
  refine Z5 ?_
  first | refine sv rfl (y_fieldAt 2 u27 rfl sz3) ?_ | refine vq rfl (q_fieldAddr u27 rfl sz3) ?_ | refine vq rfl (qF u27 rfl sz3) ?_
  first | refine sv rfl (y_load_leaf u3) ?_ | refine vq rfl (qL u3) ?_
  refine vq rfl (q_bits (show _ = pure (Value.int .i64 (andI _ _)) from rfl)) ?_
  refine Z51 ?_;refine Z12 ?_
  refine zgC ?_ ?_ <;> intro hb1
  ·
   refine Z59 ?_;refine Z2 ?_;refine Z28 ?_;refine Z20 ?_;refine Z2 ?_
   refine g_split 33 false (fun hsp => ?_) (fun hsp => ?_)
   ·
    obtain ⟨k, r, hks⟩ : ∃ k r, ks = k :: r := by
     cases hks : ks with
     | nil => exfalso; rw [hks] at hsp; exact absurd hsp (by decide)
     | cons k r => exact ⟨k, r, rfl⟩
    obtain ⟨kop, knm, knu, kks, hka⟩ := k.d_agg
    have hkop : k.op = kop ∧ k.nm = knm := by obtain ⟨o, n, u, l⟩ := k; rw [Tr.d_mk] at hka; injection hka with hka; injection hka with hka1 hka; injection hka with hka2 hka; injection hka1 with _ hka1; injection hka2 with hka2; exact ⟨hka1, hka2⟩
    have hxa : (ks.map Tr.d)[0]? = some (.agg [.int .i64 kop, .str knm, .int .i64 knu, .sl (kks.map Tr.d)]) := by rw [hks, ← hka]; rfl
    have hlen : ks.length = r.length + 1 := by rw [hks]; rfl
    have hdr : List.drop (Int.toNat 1) (List.map Tr.d ks) = List.map Tr.d r := by rw [hks]; rfl
    have hne : ((ks.map Tr.d).length : Int) ≠ 0 := by rw [List.length_map]; omega
    refine Z41 ?_;refine Z52 ?_
    first | refine sgo rfl hsp (y_fieldAddr u27 rfl sz3) ?_ | refine sgo rfl hsp (y_fieldp_leaf u27 rfl sz3) ?_
    first | refine sgo rfl hsp (y_load_leaf u3) ?_ | refine sgo rfl hsp (y_loadp_leaf u3) ?_
    refine sgo rfl hsp y_neq ?_
    refine Z41 ?_;refine Z19 ?_
    refine sg rfl (fun hg => sP 40 rfl hg (qI u22 sz27)) ?_
    first | refine sg rfl (fun hg => sP 41 rfl hg (q_fieldAddr u27 rfl sz3)) ?_ | refine sg rfl (fun hg => sP 41 rfl hg (qF u27 rfl sz3)) ?_
    first | refine sg rfl (fun hg => sP 42 rfl hg (qO u3)) ?_ | refine sg rfl (fun hg => sP 42 rfl hg (qL u3)) ?_
    refine sg rfl (fun hg => sP 43 rfl hg q_neq) ?_
    refine sg rfl (fun hg => sP 44 rfl hg qM) ?_
    refine Z19 ?_
    refine sg rfl (fun hg => sP 46 rfl hg (qI u22 sz27)) ?_
    first | refine sg rfl (fun hg => sP 47 rfl hg (q_fieldAddr u27 rfl sz9)) ?_ | refine sg rfl (fun hg => sP 47 rfl hg (qF u27 rfl sz9)) ?_
    first | refine sg rfl (fun hg => sP 48 rfl hg (qO u9)) ?_ | refine sg rfl (fun hg => sP 48 rfl hg (qL u9)) ?_
    refine sg rfl (fun hg => sP 49 rfl hg q_streq) ?_
    refine sg rfl (fun hg => sP 45 rfl hg q_or) ?_
    refine sgo rfl hsp y_and ?_
    refine Z86 ?_
    refine zgC ?_ ?_ <;> intro hb2
    ·
     have hbad : varTy num ks = false := by
      obtain ⟨g1, g2⟩ := hkop
      rw [beq_eq_false_iff_ne.2 hne, Bool.false_or] at hb2
      rw [hks, varTy, varType, g1, g2]
      rw [show (kop != 31 && (kop != 30 || decide (knm = voidB))) = true from hb2]; rfl
     refine Z35 ?_;refine Z38 ?_;refine Z18 ?_;refine Z74 ?_
     refine hr _ ?_
     refine Z4 ?_
     exact ⟨by rw [varB, if_neg (by rw [hb0]; decide), if_pos hb1, hbad], rfl⟩
    have hgood : varTy num ks = varTail num r := by
     obtain ⟨g1, g2⟩ := hkop
     rw [beq_eq_false_iff_ne.2 hne, Bool.false_or] at hb2
     rw [hks, varTy, varType, g1, g2]
     rw [show (kop != 31 && (kop != 30 || decide (knm = voidB))) = false from hb2]; rfl
    refine gK (tN ?_)
    refine Z38 ?_;refine Z18 ?_;refine Z2 ?_
    refine vq rfl ((q_slicel u22 sz27 (Tr.ds_cells ks))) ?_
    rw [hdr]
    first | refine sv rfl y_assign_take ?_ | refine vq rfl qA ?_
    refine Z45 ?_
    refine hn _ r ⟨by rw [varB, if_neg (by rw [hb0]; decide), if_pos hb1, hgood], by omega⟩ le_of
   skip
   refine Z85 ?_;refine Z85 ?_;refine Z85 ?_;refine Z85 ?_;refine Z67 ?_;refine Z0 ?_;refine Z86 ?_
   refine zgC ?_ ?_ <;> intro hb3
   ·
    have hnil : varTy num ks = false := by
     cases ks with
     | nil => rfl
     | cons k r => exfalso; simp at hsp; omega
    refine Z35 ?_;refine Z38 ?_;refine Z18 ?_;refine Z74 ?_
    refine hr _ ?_
    refine Z4 ?_
    exact ⟨by rw [varB, if_neg (by rw [hb0]; decide), if_pos hb1, hnil], rfl⟩
   exfalso
   have h0 : (((ks.map Tr.d).length : Int) == 0) = true := by simpa using hsp
   exact absurd hb3 (by rw [h0, Bool.true_or]; decide)
  refine gK ?_
  refine hn _ ks ⟨by rw [varB, if_neg (by rw [hb0]; decide), if_neg (by rw [hb1]; decide)], h4⟩ le_of
 obtain ⟨hl1, hl2⟩ := hl
 refine Z59 ?_
 first | refine sv rfl (y_fieldAt 2 u27 rfl sz3) ?_ | refine vq rfl (q_fieldAddr u27 rfl sz3) ?_ | refine vq rfl (qF u27 rfl sz3) ?_
 first | refine sv rfl (y_load_leaf u3) ?_ | refine vq rfl (qL u3) ?_
 refine vq rfl (q_bits (show _ = pure (Value.int .i64 (andI _ _)) from rfl)) ?_
 refine Z51 ?_;refine Z12 ?_
 refine zgC ?_ ?_ <;> intro hb4
 ·
  refine Z59 ?_;refine Z2 ?_;refine Z28 ?_;refine Z20 ?_;refine Z2 ?_
  refine g_split 63 false (fun hsp => ?_) (fun hsp => ?_)
  ·
   obtain ⟨k, r, hks⟩ : ∃ k r, l = k :: r := by
    cases hks : l with
    | nil => exfalso; rw [hks] at hsp; exact absurd hsp (by decide)
    | cons k r => exact ⟨k, r, rfl⟩
   obtain ⟨kop, knm, knu, kks, hka⟩ := k.d_agg
   have hkop : k.op = kop ∧ k.nm = knm := by obtain ⟨o, n, u, l⟩ := k; rw [Tr.d_mk] at hka; injection hka with hka; injection hka with hka1 hka; injection hka with hka2 hka; injection hka1 with _ hka1; injection hka2 with hka2; exact ⟨hka1, hka2⟩
   have hxa : (l.map Tr.d)[0]? = some (.agg [.int .i64 kop, .str knm, .int .i64 knu, .sl (kks.map Tr.d)]) := by rw [hks, ← hka]; rfl
   have hlen : l.length = r.length + 1 := by rw [hks]; rfl
   have hdr : List.drop (Int.toNat 1) (List.map Tr.d l) = List.map Tr.d r := by rw [hks]; rfl
   have hne : ((l.map Tr.d).length : Int) ≠ 0 := by rw [List.length_map]; omega
   refine Z41 ?_;refine Z52 ?_
   first | refine sgo rfl hsp (y_fieldAddr u27 rfl sz3) ?_ | refine sgo rfl hsp (y_fieldp_leaf u27 rfl sz3) ?_
   first | refine sgo rfl hsp (y_load_leaf u3) ?_ | refine sgo rfl hsp (y_loadp_leaf u3) ?_
   refine g_callo (xs := [.tmp 67]) rfl hsp (c74 kop) ?_
   refine sgo rfl hsp y_not ?_
   refine Z86 ?_
   refine zgC ?_ ?_ <;> intro hb5
   ·
    have hx : varTail num l = false := by
     rw [beq_eq_false_iff_ne.2 hne, Bool.false_or] at hb5
     unfold varTail
     rw [if_pos hb4, hks]
     obtain ⟨g1, g2⟩ := hkop
     simp [g1] at hb5 ⊢
     simp [hb5]
    refine Z35 ?_;refine Z38 ?_;refine Z18 ?_;refine Z1 ?_
    refine gN (tN (gT (tR (tR ?_))))
    refine Z4 ?_
    exact ⟨by rw [hl1, hx], rfl⟩
   have hx : varTail num l = ((r.length : Int) == 0) := by
    rw [beq_eq_false_iff_ne.2 hne, Bool.false_or] at hb5
    unfold varTail
    rw [if_pos hb4, hks]
    obtain ⟨g1, g2⟩ := hkop
    simp [g1] at hb5 ⊢
    simp [hb5]
   refine gK (tN ?_)
   refine Z38 ?_;refine Z18 ?_;refine Z2 ?_
   refine vq rfl ((q_slicel u22 sz27 (Tr.ds_cells l))) ?_
   rw [hdr]
   first | refine sv rfl y_assign_take ?_ | refine vq rfl qA ?_
   refine Z6 ?_;refine Z2 ?_;refine Z28 ?_;refine Z20 ?_;refine Z64 ?_
   exact ⟨by rw [hl1, hx]; simp, rfl⟩
  skip
  refine Z85 ?_;refine Z67 ?_;refine Z86 ?_
  refine zgC ?_ ?_ <;> intro hb6
  ·
   have hx : varTail num l = false := by
    cases l with
    | nil => unfold varTail; rw [if_pos hb4]
    | cons k r => exfalso; simp at hsp; omega
   refine Z35 ?_;refine Z38 ?_;refine Z18 ?_;refine Z1 ?_
   refine gN (tN (gT (tR (tR ?_))))
   refine Z4 ?_
   exact ⟨by rw [hl1, hx], rfl⟩
  exfalso
  have h0 : (((l.map Tr.d).length : Int) == 0) = true := by simpa using hsp
  exact absurd hb6 (by rw [h0, Bool.true_or]; decide)
 refine gK (tN (zgS (gR ?_)))
 refine Z2 ?_;refine Z28 ?_;refine Z20 ?_;refine Z64 ?_
 exact ⟨by rw [hl1]; unfold varTail; rw [if_neg (by rw [hb4]; decide)]; simp, rfl⟩
theorem decode_wide (b : ByteArray) (i : Nat) : 0 < (Utf8.decode b i).2 := by
 unfold Utf8.decode
 dsimp only
 repeat' split
 all_goals first | decide | simp
def idxRune (p : Int → Bool) (b : ByteArray) (pos : Nat) : Int :=
 if pos < b.size then (if p (Utf8.decode b pos).1 = true then (pos : Int) else idxRune p b (pos + (Utf8.decode b pos).2)) else -1
termination_by b.size - pos
decreasing_by have := decode_wide b pos; omega
variable {pos : Nat}
theorem idxRune_end {p : Int → Bool} {b : ByteArray} (h : ¬ pos < b.size) : idxRune p b pos = -1 := by rw [idxRune, if_neg h]
theorem idxRune_hit {p : Int → Bool} {b : ByteArray} (h : pos < b.size) (h2 : p (Utf8.decode b pos).1 = true) : idxRune p b pos = pos := by rw [idxRune, if_pos h, if_pos h2]
theorem idxRune_miss {p : Int → Bool} {b : ByteArray} (h : pos < b.size) (h2 : p (Utf8.decode b pos).1 = false) : idxRune p b (pos + (Utf8.decode b pos).2) = idxRune p b pos := by
 rw [idxRune.eq_1 p b pos, if_pos h, if_neg (by rw [h2]; decide)]
def badR (r : Int) : Bool := decide (r < 32) || decide (r > 126)
def plainTx (s : ByteArray) : Bool := !decide (idxRune badR s 0 ≥ 0)
theorem c284 (r : Int) : Pf Try.prog 98 [.int .i32 r] (.d (.bool (badR r))) := by
 refine pf_body (rvs := [.tmp 2]) [(0, .d (.int .i32 r))] Try.func98 Try.ntmps98 Try.results98 (fun S0 O0 w0 m0 hm0 => ?_)
 refine Z75 ?_;refine Z40 ?_;refine Z81 ?_
 refine sg rfl (fun hg => sP 6 rfl hg q_gtr) ?_
 refine Z17 ?_;refine Z64 ?_
 exact ⟨rfl, rfl⟩
theorem c322 (s : ByteArray) (g : FuncId) (p : Int → Bool) (hcb : ∀ r, Pf Try.prog g [.int .i32 r] (.d (.bool (p r)))) : Pf Try.prog 105 [.str s, .fn (.func g) [] [], .bool true] (.d (.int .i64 (idxRune p s 0))) := by
 refine pf_body (rvs := [.tmp 6]) [(0, .d (.str s)), (1, .d (.fn (.func g) [] [])), (2, .d (.bool true))] Try.func105 Try.ntmps105 Try.results105 (fun S0 O0 w0 m0 hm0 => ?_)
 refine Z5 ?_;refine Z73 ?_;refine Z2 ?_
 refine sv rfl (y_rangeStr u9) ?_
 refine Z36 ?_
 refine g_loop (α := Nat) (fun z => ⟨[(10, .ref 0 0), (1, .d (.fn (.func g) [] [])), (2, .d (.bool true))], [[.mapc (iterK s z)]]⟩) (fun z => s.size - z) (fun z => idxRune p s z = idxRune p s 0) 0 rfl (fun z hz Q' hn0 he0 hr0 => ?_) (le_of)
 skip
 refine Z35 ?_
 rcases Nat.lt_or_ge z s.size with hlt | hge
 ·
  refine Z18 ?_
  refine sv rfl (y_next (b := s) (pos := z) (hlt := hlt)) ?_
  refine Z29 ?_;refine Z31 ?_
  refine zgC ?_ ?_ <;> intro hb0
  ·
   refine gK (tN (G_block (zgS (gR ?_))))
   refine Z29 ?_;refine Z29 ?_;refine Z1 ?_;refine Z71 ?_;refine Z2 ?_
   refine gL (xs := [.tmp 16]) rfl (hcb _) ?_
   refine Z2 ?_
   refine vq rfl (q_booleq u4) ?_
   refine Z12 ?_
   refine zgC ?_ ?_ <;> intro hb1
   ·
    refine Z83 ?_;refine Z1 ?_
    refine gN (tN (gT (bR ?_)))
    refine Z54 ?_;refine Z50 ?_;refine Z4 ?_
    exact ⟨by rw [← hz, idxRune_hit hlt (by simpa using hb1)], rfl⟩
   refine gK (bN ?_)
   refine hn0 _ (z + (Utf8.decode s z).2) (by rw [idxRune_miss hlt (by simpa using hb1)]; exact hz) (by have := decode_wide s z; omega) le_of
  cases hb0
 refine Z18 ?_
 refine sv rfl (y_nextEnd (b := s) (pos := z) (hlt := by omega)) ?_
 refine Z29 ?_;refine Z31 ?_
 refine zgC ?_ ?_ <;> intro hb2
 · cases hb2
 refine Z37 ?_;refine Z43 ?_;refine Z30 ?_;refine Z64 ?_
 exact ⟨by rw [← hz, idxRune_end (by omega)], rfl⟩
theorem c318 (s : ByteArray) (g : FuncId) (p : Int → Bool) (hcb : ∀ r, Pf Try.prog g [.int .i32 r] (.d (.bool (p r)))) : Pf Try.prog 103 [.str s, .fn (.func g) [] []] (.d (.int .i64 (idxRune p s 0))) := by
 refine pf_body (rvs := [.tmp 4]) [(0, .d (.str s)), (1, .d (.fn (.func g) [] []))] Try.func103 Try.ntmps103 Try.results103 (fun S0 O0 w0 m0 hm0 => ?_)
 refine Z75 ?_;refine Z2 ?_
 refine gL (xs := [.tmp 5, .tmp 6, .const (.bool true)]) rfl (c322 s g p hcb) ?_
 refine Z64 ?_
 exact ⟨rfl, rfl⟩
theorem c283 (s : ByteArray) (g : FuncId) (p : Int → Bool) (hcb : ∀ r, Pf Try.prog g [.int .i32 r] (.d (.bool (p r)))) : Pf Try.prog 97 [.str s, .fn (.func g) [] []] (.d (.bool (decide (idxRune p s 0 ≥ 0)))) := by
 refine pf_body (rvs := [.tmp 4]) [(0, .d (.str s)), (1, .d (.fn (.func g) [] []))] Try.func97 Try.ntmps97 Try.results97 (fun S0 O0 w0 m0 hm0 => ?_)
 refine Z75 ?_;refine Z2 ?_
 refine gL (xs := [.tmp 5, .tmp 6]) rfl (c318 s g p hcb) ?_
 refine Z47 ?_;refine Z64 ?_
 exact ⟨rfl, rfl⟩
end
end Go.Proofs.Ytklkbfpjimeaoaa
