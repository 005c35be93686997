/- Contracts of functions. Conditions: none. -/
import Derived.Test.YtklkbfpjimeaoaaGreatPb
namespace Go.Proofs.YtklkbfpjimeaoaaGreat
open Go Go.Proofs.YtklkbfpjimeaoaaGreat.E
theorem c160 (op : Int) : Pf Tryz.prog 160 [.int .i64 op] (.d (.bool (op == 66))) := by
  refine pf_body (rvs := [.tmp 2]) [(0, .d (.int .i64 op))] Tryz.func160 Tryz.ntmps160 Tryz.results160 (fun S0 O0 w0 m0 hm0 => ?_)
  refine G_seq ?_
  refine g_region ?_
  refine sv rfl (y_assign) ?_
  refine GOps_nil ?_
  refine thn_normal ?_
  refine G_seq ?_
  refine g_region ?_
  refine sv rfl (y_move) ?_
  refine sv rfl (y_eql) ?_
  refine sv rfl (y_assign) ?_
  refine GOps_nil ?_
  refine thn_normal ?_
  refine G_ret ?_
  refine fin1 (by simp) ?_
  exact ⟨rfl, rfl⟩
theorem c232 (op : Int) : Pf Tryz.prog 232 [.int .i64 op] (.d (.bool (op == 67))) := by
  refine pf_body (rvs := [.tmp 2]) [(0, .d (.int .i64 op))] Tryz.func232 Tryz.ntmps232 Tryz.results232 (fun S0 O0 w0 m0 hm0 => ?_)
  refine G_seq ?_
  refine g_region ?_
  refine sv rfl (y_assign) ?_
  refine GOps_nil ?_
  refine thn_normal ?_
  refine G_seq ?_
  refine g_region ?_
  refine sv rfl (y_move) ?_
  refine sv rfl (y_eql) ?_
  refine sv rfl (y_assign) ?_
  refine GOps_nil ?_
  refine thn_normal ?_
  refine G_ret ?_
  refine fin1 (by simp) ?_
  exact ⟨rfl, rfl⟩
theorem c163 (op : Int) : Pf Tryz.prog 163 [.int .i64 op] (.d (.bool (isExprB op || op == 3))) := by
  refine pf_body (rvs := [.tmp 2]) [(0, .d (.int .i64 op))] Tryz.func163 Tryz.ntmps163 Tryz.results163 (fun S0 O0 w0 m0 hm0 => ?_)
  refine G_seq ?_
  refine g_region ?_
  refine sv rfl (y_assign) ?_
  refine GOps_nil ?_
  refine thn_normal ?_
  refine G_seq ?_
  refine g_region ?_
  refine sv rfl (y_move) ?_
  refine g_call (xs := [.tmp 3]) rfl (c74 op) ?_
  refine sv rfl (y_move) ?_
  refine sg rfl (fun hg => q_move) ?_
  refine sg rfl (fun hg => strip 6 (by simp only [GS.set, GS.get, List.lookup_cons, Nat.reduceBEq] <;> rfl) hg (q_eql)) ?_
  refine sv rfl (y_or) ?_
  refine sv rfl (y_assign) ?_
  refine GOps_nil ?_
  refine thn_normal ?_
  refine G_ret ?_
  refine fin1 (by simp) ?_
  exact ⟨rfl, rfl⟩
theorem c286 (op : Int) : Pf Tryz.prog 286 [.int .i64 op] (.d (.bool (isExprB op || op == 30))) := by
  refine pf_body (rvs := [.tmp 2]) [(0, .d (.int .i64 op))] Tryz.func286 Tryz.ntmps286 Tryz.results286 (fun S0 O0 w0 m0 hm0 => ?_)
  refine G_seq ?_
  refine g_region ?_
  refine sv rfl (y_assign) ?_
  refine GOps_nil ?_
  refine thn_normal ?_
  refine G_seq ?_
  refine g_region ?_
  refine sv rfl (y_move) ?_
  refine g_call (xs := [.tmp 3]) rfl (c74 op) ?_
  refine sv rfl (y_move) ?_
  refine sg rfl (fun hg => q_move) ?_
  refine sg rfl (fun hg => strip 6 (by simp only [GS.set, GS.get, List.lookup_cons, Nat.reduceBEq] <;> rfl) hg (q_eql)) ?_
  refine sv rfl (y_or) ?_
  refine sv rfl (y_assign) ?_
  refine GOps_nil ?_
  refine thn_normal ?_
  refine G_ret ?_
  refine fin1 (by simp) ?_
  exact ⟨rfl, rfl⟩
theorem c233 (t : Tr) (g : FuncId) (p : Int → Bool) (hcb : ∀ op, Pf Tryz.prog g [.int .i64 op] (.d (.bool (p op)))) : Pf Tryz.prog 233 [t.d, .ptr (.fn (.func g) [] [])] (.d (.bool (!p t.op))) := by
  obtain ⟨op, name, num, ks⟩ := t
  rw [Tr.d_mk]
  try simp only [Tr.op_mk, Tr.nm_mk, Tr.nu_mk, Tr.kids_mk]
  refine pf_body (rvs := [.tmp 3]) [(0, .d (.agg [.int .i64 op, .str name, .int .i64 num, .sl (ks.map Tr.d)])), (1, .d (.ptr (.fn (.func g) [] [])))] Tryz.func233 Tryz.ntmps233 Tryz.results233 (fun S0 O0 w0 m0 hm0 => ?_)
  refine G_seq ?_
  refine g_region ?_
  refine sv rfl (y_box) ?_
  refine g_freeze 0 [] (.agg [.int .i64 op, .str name, .int .i64 num, .sl (ks.map Tr.d)]) rfl ?_
  refine sv rfl (y_assign) ?_
  refine GOps_nil ?_
  refine thn_normal ?_
  refine G_seq ?_
  refine g_region ?_
  first | refine sv rfl (y_load_leaf Tryz.underlying109) ?_ | refine sv rfl (y_loadp_leaf Tryz.underlying109) ?_
  first | refine sv rfl (y_fieldAt 0 Tryz.underlying27 rfl sz3) ?_ | refine sv rfl (y_fieldAddr Tryz.underlying27 rfl sz3) ?_ | refine sv rfl (y_fieldp_leaf Tryz.underlying27 rfl sz3) ?_
  first | refine sv rfl (y_load_leaf Tryz.underlying3) ?_ | refine sv rfl (y_loadp_leaf Tryz.underlying3) ?_
  refine g_call (xs := [.tmp 6]) rfl (hcb op) ?_
  refine sv rfl (y_not) ?_
  refine sv rfl (y_assign) ?_
  refine GOps_nil ?_
  refine thn_normal ?_
  refine G_ret ?_
  refine fin1 (by simp) ?_
  exact ⟨rfl, rfl⟩
/-- All Kids have an Op for which something holds. -/
def everyB (p : Int → Bool) (ks : List Tr) : Bool := !(ks.any fun k => !p k.op)
theorem Tr.kids_len {t : Tr} (h : t.Ok) : t.kids.length ≤ 140737488355328 := by cases h; assumption
theorem Tr.kids_ok {t : Tr} (h : t.Ok) : ∀ k ∈ t.kids, k.Ok := by cases h; assumption
theorem c159 (t : Tr) (g : FuncId) (p : Int → Bool) (hok : t.Ok) (hcb : ∀ op, Pf Tryz.prog g [.int .i64 op] (.d (.bool (p op)))) : Pf Tryz.prog 159 [t.d, .fn (.func g) [] []] (.d (.bool (everyB p t.kids))) := by
  obtain ⟨op, name, num, ks⟩ := t
  rw [Tr.d_mk]
  try simp only [Tr.op_mk, Tr.nm_mk, Tr.nu_mk, Tr.kids_mk]
  refine pf_body (rvs := [.tmp 4]) [(0, .d (.agg [.int .i64 op, .str name, .int .i64 num, .sl (ks.map Tr.d)])), (1, .d (.fn (.func g) [] []))] Tryz.func159 Tryz.ntmps159 Tryz.results159 (fun S0 O0 w0 m0 hm0 => ?_)
  refine G_seq ?_
  refine g_region ?_
  refine sv rfl (y_box) ?_
  refine g_freeze 0 [] (.agg [.int .i64 op, .str name, .int .i64 num, .sl (ks.map Tr.d)]) rfl ?_
  refine sv rfl (y_box) ?_
  refine g_freeze 0 [] (.fn (.func g) [] []) rfl ?_
  refine sv rfl (y_assign) ?_
  refine GOps_nil ?_
  refine thn_normal ?_
  refine G_seq ?_
  refine g_region ?_
  first | refine sv rfl (y_fieldAt 3 Tryz.underlying27 rfl sz22) ?_ | refine sv rfl (y_fieldAddr Tryz.underlying27 rfl sz22) ?_ | refine sv rfl (y_fieldp_leaf Tryz.underlying27 rfl sz22) ?_
  first | refine sv rfl (y_load_leaf Tryz.underlying22) ?_ | refine sv rfl (y_loadp_leaf Tryz.underlying22) ?_
  refine sv rfl (y_makeFunc (xs := []) (ys := [.tmp 3])) ?_
  refine g_call (xs := [.tmp 6, .tmp 7]) rfl (c52 ks 233 [] [.ptr (.fn (.func g) [] [])] (fun k => !p k.op) (Tr.kids_len hok) (fun x hx => c233 x g p hcb)) ?_
  refine sv rfl (y_not) ?_
  refine sv rfl (y_assign) ?_
  refine GOps_nil ?_
  refine thn_normal ?_
  refine G_ret ?_
  refine fin1 (by simp) ?_
  exact ⟨rfl, rfl⟩
theorem c152 (t : Tr) : Pf Tryz.prog 152 [t.d] (.d (.bool true)) := by
  obtain ⟨op, name, num, ks⟩ := t
  rw [Tr.d_mk]
  try simp only [Tr.op_mk, Tr.nm_mk, Tr.nu_mk, Tr.kids_mk]
  refine pf_body (rvs := [.tmp 2]) [(0, .d (.agg [.int .i64 op, .str name, .int .i64 num, .sl (ks.map Tr.d)]))] Tryz.func152 Tryz.ntmps152 Tryz.results152 (fun S0 O0 w0 m0 hm0 => ?_)
  refine G_seq ?_
  refine g_region ?_
  refine sv rfl (y_box) ?_
  refine g_freeze 0 [] (.agg [.int .i64 op, .str name, .int .i64 num, .sl (ks.map Tr.d)]) rfl ?_
  refine sv rfl (y_assign) ?_
  refine GOps_nil ?_
  refine thn_normal ?_
  refine G_seq ?_
  refine g_region ?_
  refine sv rfl (y_assign) ?_
  refine GOps_nil ?_
  refine thn_normal ?_
  refine G_ret ?_
  refine fin1 (by simp) ?_
  exact ⟨rfl, rfl⟩
def rule154 (t : Tr) : Bool := (t.nu == 0 || t.nu == 1) && (t.kids.length : Int) == 0
def opK (i : Nat) (ks : List Tr) : Int := match ks[i]? with | some k => k.op | none => 0
def ee : ByteArray := ⟨#[101, 101]⟩
def rule155 (t : Tr) : Bool := kidsB t.kids ee && (opK 0 t.kids == 4 || opK 0 t.kids == 12)
def rule158 (t : Tr) : Bool := decide ((t.kids.length : Int) > 0) && everyB (fun op => op == 66) t.kids
def rule161 (t : Tr) : Bool := (t.kids.length : Int) == 1 && (opK 0 t.kids == 13 || opK 0 t.kids == 15)
theorem c154 (t : Tr) : Pf Tryz.prog 154 [t.d] (.d (.bool (rule154 t))) := by
  obtain ⟨op, name, num, ks⟩ := t
  rw [Tr.d_mk]
  try simp only [Tr.op_mk, Tr.nm_mk, Tr.nu_mk, Tr.kids_mk]
  refine pf_body (rvs := [.tmp 2]) [(0, .d (.agg [.int .i64 op, .str name, .int .i64 num, .sl (ks.map Tr.d)]))] Tryz.func154 Tryz.ntmps154 Tryz.results154 (fun S0 O0 w0 m0 hm0 => ?_)
  refine G_seq ?_
  refine g_region ?_
  refine sv rfl (y_box) ?_
  refine g_freeze 0 [] (.agg [.int .i64 op, .str name, .int .i64 num, .sl (ks.map Tr.d)]) rfl ?_
  refine sv rfl (y_assign) ?_
  refine GOps_nil ?_
  refine thn_normal ?_
  refine G_seq ?_
  refine g_region ?_
  first | refine sv rfl (y_fieldAt 2 Tryz.underlying27 rfl sz3) ?_ | refine sv rfl (y_fieldAddr Tryz.underlying27 rfl sz3) ?_ | refine sv rfl (y_fieldp_leaf Tryz.underlying27 rfl sz3) ?_
  first | refine sv rfl (y_load_leaf Tryz.underlying3) ?_ | refine sv rfl (y_loadp_leaf Tryz.underlying3) ?_
  refine sv rfl (y_eql) ?_
  refine sv rfl (y_move) ?_
  first | refine sg rfl (fun hg => q_fieldAddr Tryz.underlying27 rfl sz3) ?_ | refine sg rfl (fun hg => q_fieldp_leaf Tryz.underlying27 rfl sz3) ?_
  first | refine sg rfl (fun hg => strip 7 (by simp only [GS.set, GS.get, List.lookup_cons, Nat.reduceBEq] <;> rfl) hg (q_load_leaf Tryz.underlying3)) ?_ | refine sg rfl (fun hg => strip 7 (by simp only [GS.set, GS.get, List.lookup_cons, Nat.reduceBEq] <;> rfl) hg (q_loadp_leaf Tryz.underlying3)) ?_
  refine sg rfl (fun hg => strip 8 (by simp only [GS.set, GS.get, List.lookup_cons, Nat.reduceBEq] <;> rfl) hg (q_eql)) ?_
  refine sv rfl (y_or) ?_
  refine sv rfl (y_move) ?_
  first | refine sg rfl (fun hg => q_fieldAddr Tryz.underlying27 rfl sz22) ?_ | refine sg rfl (fun hg => q_fieldp_leaf Tryz.underlying27 rfl sz22) ?_
  first | refine sg rfl (fun hg => strip 12 (by simp only [GS.set, GS.get, List.lookup_cons, Nat.reduceBEq] <;> rfl) hg (q_load_leaf Tryz.underlying22)) ?_ | refine sg rfl (fun hg => strip 12 (by simp only [GS.set, GS.get, List.lookup_cons, Nat.reduceBEq] <;> rfl) hg (q_loadp_leaf Tryz.underlying22)) ?_
  refine sg rfl (fun hg => strip 13 (by simp only [GS.set, GS.get, List.lookup_cons, Nat.reduceBEq] <;> rfl) hg (q_len Tryz.underlying22)) ?_
  refine sg rfl (fun hg => strip 14 (by simp only [GS.set, GS.get, List.lookup_cons, Nat.reduceBEq] <;> rfl) hg (q_eql)) ?_
  refine sv rfl (y_and) ?_
  refine sv rfl (y_assign) ?_
  refine GOps_nil ?_
  refine thn_normal ?_
  refine G_ret ?_
  refine fin1 (by simp) ?_
  exact ⟨by simp [rule154, Tr.nu, Tr.kids], rfl⟩
theorem c155 (t : Tr) (hok : t.Ok) : Pf Tryz.prog 155 [t.d] (.d (.bool (rule155 t))) := by
  obtain ⟨op, name, num, ks⟩ := t
  rw [Tr.d_mk]
  try simp only [Tr.op_mk, Tr.nm_mk, Tr.nu_mk, Tr.kids_mk]
  refine pf_body (rvs := [.tmp 2]) [(0, .d (.agg [.int .i64 op, .str name, .int .i64 num, .sl (ks.map Tr.d)]))] Tryz.func155 Tryz.ntmps155 Tryz.results155 (fun S0 O0 w0 m0 hm0 => ?_)
  refine G_seq ?_
  refine g_region ?_
  refine sv rfl (y_box) ?_
  refine g_freeze 0 [] (.agg [.int .i64 op, .str name, .int .i64 num, .sl (ks.map Tr.d)]) rfl ?_
  refine sv rfl (y_assign) ?_
  refine GOps_nil ?_
  refine thn_normal ?_
  refine G_seq ?_
  refine g_region ?_
  first | refine sv rfl (y_load_agg sz27 Tryz.underlying27 rfl) ?_ | refine sv rfl (y_loadp_agg (by exact sz27) Tryz.underlying27 rfl) ?_
  refine g_call (xs := [.tmp 3, .const (.string ⟨#[101, 101]⟩)]) rfl ((Tr.d_mk op name num ks ▸ c156 (.mk op name num ks) ee hok)) ?_
  refine sv rfl (y_move) ?_
  refine g_split 5 true (fun hsp => ?_) (fun hsp => ?_)
  ·
    obtain ⟨k, r, hks⟩ : ∃ k r, ks = k :: r := by
      cases hks : ks with
      | nil => exfalso; have := kidsB_len (by simpa using hsp); rw [show (Tr.mk op name num ks).kids = ks from rfl, hks] at this; exact absurd this (by decide)
      | cons k r => exact ⟨k, r, rfl⟩
    subst hks
    obtain ⟨kop, knm, knu, kks, hka⟩ := k.d_agg
    have hkop : k.op = kop := by obtain ⟨o, n, u, l⟩ := k; rw [Tr.d_mk] at hka; injection hka with hka; injection hka with hka; injection hka
    have hxa : ((k :: r).map Tr.d)[0]? = some (.agg [.int .i64 kop, .str knm, .int .i64 knu, .sl (kks.map Tr.d)]) := by rw [← hka]; rfl
    first | refine sgo rfl hsp (y_fieldAddr Tryz.underlying27 rfl sz22) ?_ | refine sgo rfl hsp (y_fieldp_leaf Tryz.underlying27 rfl sz22) ?_
    first | refine sgo rfl hsp (y_load_leaf Tryz.underlying22) ?_ | refine sgo rfl hsp (y_loadp_leaf Tryz.underlying22) ?_
    refine sgo rfl hsp (y_indexAddr Tryz.underlying22 sz27) ?_
    first | refine sgo rfl hsp (y_fieldAddr Tryz.underlying27 rfl sz3) ?_ | refine sgo rfl hsp (y_fieldp_leaf Tryz.underlying27 rfl sz3) ?_
    first | refine sgo rfl hsp (y_load_leaf Tryz.underlying3) ?_ | refine sgo rfl hsp (y_loadp_leaf Tryz.underlying3) ?_
    refine sgo rfl hsp (y_eql) ?_
    refine sgo rfl hsp (y_move) ?_
    first | refine sg rfl (fun hg => q_fieldAddr Tryz.underlying27 rfl sz22) ?_ | refine sg rfl (fun hg => q_fieldp_leaf Tryz.underlying27 rfl sz22) ?_
    first | refine sg rfl (fun hg => strip 13 (by simp only [GS.set, GS.get, List.lookup_cons, Nat.reduceBEq] <;> rfl) hg (q_load_leaf Tryz.underlying22)) ?_ | refine sg rfl (fun hg => strip 13 (by simp only [GS.set, GS.get, List.lookup_cons, Nat.reduceBEq] <;> rfl) hg (q_loadp_leaf Tryz.underlying22)) ?_
    refine sg rfl (fun hg => strip 14 (by simp only [GS.set, GS.get, List.lookup_cons, Nat.reduceBEq] <;> rfl) hg (q_indexAddr Tryz.underlying22 sz27)) ?_
    first | refine sg rfl (fun hg => strip 15 (by simp only [GS.set, GS.get, List.lookup_cons, Nat.reduceBEq] <;> rfl) hg (q_fieldAddr Tryz.underlying27 rfl sz3)) ?_ | refine sg rfl (fun hg => strip 15 (by simp only [GS.set, GS.get, List.lookup_cons, Nat.reduceBEq] <;> rfl) hg (q_fieldp_leaf Tryz.underlying27 rfl sz3)) ?_
    first | refine sg rfl (fun hg => strip 16 (by simp only [GS.set, GS.get, List.lookup_cons, Nat.reduceBEq] <;> rfl) hg (q_load_leaf Tryz.underlying3)) ?_ | refine sg rfl (fun hg => strip 16 (by simp only [GS.set, GS.get, List.lookup_cons, Nat.reduceBEq] <;> rfl) hg (q_loadp_leaf Tryz.underlying3)) ?_
    refine sg rfl (fun hg => strip 17 (by simp only [GS.set, GS.get, List.lookup_cons, Nat.reduceBEq] <;> rfl) hg (q_eql)) ?_
    refine sgo rfl hsp (y_or) ?_
    refine sv rfl (y_and) ?_
    refine sv rfl (y_assign) ?_
    refine GOps_nil ?_
    refine thn_normal ?_
    refine G_ret ?_
    refine fin1 (by simp) ?_
    exact ⟨by simp [rule155, Tr.kids, opK, hkop], rfl⟩
  ·
    skip
    refine sgx rfl ?_ ?_
    · first | exact hsp | (rw [hsp]; rfl) | simp [hsp] | simp_all
    refine sgx rfl ?_ ?_
    · first | exact hsp | (rw [hsp]; rfl) | simp [hsp] | simp_all
    refine sgx rfl ?_ ?_
    · first | exact hsp | (rw [hsp]; rfl) | simp [hsp] | simp_all
    refine sgx rfl ?_ ?_
    · first | exact hsp | (rw [hsp]; rfl) | simp [hsp] | simp_all
    refine sgx rfl ?_ ?_
    · first | exact hsp | (rw [hsp]; rfl) | simp [hsp] | simp_all
    refine sgx rfl ?_ ?_
    · first | exact hsp | (rw [hsp]; rfl) | simp [hsp] | simp_all
    refine sgx rfl ?_ ?_
    · first | exact hsp | (rw [hsp]; rfl) | simp [hsp] | simp_all
    refine sgx rfl ?_ ?_
    · first | exact hsp | (rw [hsp]; rfl) | simp [hsp] | simp_all
    refine sgx rfl ?_ ?_
    · first | exact hsp | (rw [hsp]; rfl) | simp [hsp] | simp_all
    refine sgx rfl ?_ ?_
    · first | exact hsp | (rw [hsp]; rfl) | simp [hsp] | simp_all
    refine sgx rfl ?_ ?_
    · first | exact hsp | (rw [hsp]; rfl) | simp [hsp] | simp_all
    refine sgx rfl ?_ ?_
    · first | exact hsp | (rw [hsp]; rfl) | simp [hsp] | simp_all
    refine sgx rfl ?_ ?_
    · first | exact hsp | (rw [hsp]; rfl) | simp [hsp] | simp_all
    refine sgx rfl ?_ ?_
    · first | exact hsp | (rw [hsp]; rfl) | simp [hsp] | simp_all
    refine sv rfl (y_and) ?_
    refine sv rfl (y_assign) ?_
    refine GOps_nil ?_
    refine thn_normal ?_
    refine G_ret ?_
    refine fin1 (by simp) ?_
    exact ⟨by simp [rule155, Tr.kids] at hsp ⊢; simp [hsp], rfl⟩
theorem c158 (t : Tr) (hok : t.Ok) : Pf Tryz.prog 158 [t.d] (.d (.bool (rule158 t))) := by
  obtain ⟨op, name, num, ks⟩ := t
  rw [Tr.d_mk]
  try simp only [Tr.op_mk, Tr.nm_mk, Tr.nu_mk, Tr.kids_mk]
  refine pf_body (rvs := [.tmp 2]) [(0, .d (.agg [.int .i64 op, .str name, .int .i64 num, .sl (ks.map Tr.d)]))] Tryz.func158 Tryz.ntmps158 Tryz.results158 (fun S0 O0 w0 m0 hm0 => ?_)
  refine G_seq ?_
  refine g_region ?_
  refine sv rfl (y_box) ?_
  refine g_freeze 0 [] (.agg [.int .i64 op, .str name, .int .i64 num, .sl (ks.map Tr.d)]) rfl ?_
  refine sv rfl (y_assign) ?_
  refine GOps_nil ?_
  refine thn_normal ?_
  refine G_seq ?_
  refine g_region ?_
  first | refine sv rfl (y_fieldAt 3 Tryz.underlying27 rfl sz22) ?_ | refine sv rfl (y_fieldAddr Tryz.underlying27 rfl sz22) ?_ | refine sv rfl (y_fieldp_leaf Tryz.underlying27 rfl sz22) ?_
  first | refine sv rfl (y_load_leaf Tryz.underlying22) ?_ | refine sv rfl (y_loadp_leaf Tryz.underlying22) ?_
  refine sv rfl (y_len Tryz.underlying22) ?_
  refine sv rfl (y_gtr) ?_
  refine sv rfl (y_move) ?_
  first | refine sg rfl (fun hg => q_load_agg sz27 Tryz.underlying27 rfl) ?_ | refine sg rfl (fun hg => q_loadp_agg (by exact sz27) Tryz.underlying27 rfl) ?_
  refine g_callg (xs := [.tmp 8, .func 160]) rfl (fun hg => (Tr.d_mk op name num ks ▸ c159 (.mk op name num ks) 160 (fun op => op == 66) hok c160)) ?_
  refine sv rfl (y_and) ?_
  refine sv rfl (y_assign) ?_
  refine GOps_nil ?_
  refine thn_normal ?_
  refine G_ret ?_
  refine fin1 (by simp) ?_
  exact ⟨by simp [rule158, Tr.kids], rfl⟩
theorem c161 (t : Tr) (hok : t.Ok) : Pf Tryz.prog 161 [t.d] (.d (.bool (rule161 t))) := by
  obtain ⟨op, name, num, ks⟩ := t
  rw [Tr.d_mk]
  try simp only [Tr.op_mk, Tr.nm_mk, Tr.nu_mk, Tr.kids_mk]
  refine pf_body (rvs := [.tmp 2]) [(0, .d (.agg [.int .i64 op, .str name, .int .i64 num, .sl (ks.map Tr.d)]))] Tryz.func161 Tryz.ntmps161 Tryz.results161 (fun S0 O0 w0 m0 hm0 => ?_)
  refine G_seq ?_
  refine g_region ?_
  refine sv rfl (y_box) ?_
  refine g_freeze 0 [] (.agg [.int .i64 op, .str name, .int .i64 num, .sl (ks.map Tr.d)]) rfl ?_
  refine sv rfl (y_assign) ?_
  refine GOps_nil ?_
  refine thn_normal ?_
  refine G_seq ?_
  refine g_region ?_
  first | refine sv rfl (y_fieldAt 3 Tryz.underlying27 rfl sz22) ?_ | refine sv rfl (y_fieldAddr Tryz.underlying27 rfl sz22) ?_ | refine sv rfl (y_fieldp_leaf Tryz.underlying27 rfl sz22) ?_
  first | refine sv rfl (y_load_leaf Tryz.underlying22) ?_ | refine sv rfl (y_loadp_leaf Tryz.underlying22) ?_
  refine sv rfl (y_len Tryz.underlying22) ?_
  refine sv rfl (y_eql) ?_
  refine sv rfl (y_move) ?_
  refine g_split 7 true (fun hsp => ?_) (fun hsp => ?_)
  ·
    obtain ⟨k, r, hks⟩ : ∃ k r, ks = k :: r := by
      cases hks : ks with
      | nil => exfalso; rw [hks] at hsp; exact absurd hsp (by decide)
      | cons k r => exact ⟨k, r, rfl⟩
    subst hks
    obtain ⟨kop, knm, knu, kks, hka⟩ := k.d_agg
    have hkop : k.op = kop := by obtain ⟨o, n, u, l⟩ := k; rw [Tr.d_mk] at hka; injection hka with hka; injection hka with hka; injection hka
    have hxa : ((k :: r).map Tr.d)[0]? = some (.agg [.int .i64 kop, .str knm, .int .i64 knu, .sl (kks.map Tr.d)]) := by rw [← hka]; rfl
    first | refine sgo rfl hsp (y_fieldAddr Tryz.underlying27 rfl sz22) ?_ | refine sgo rfl hsp (y_fieldp_leaf Tryz.underlying27 rfl sz22) ?_
    first | refine sgo rfl hsp (y_load_leaf Tryz.underlying22) ?_ | refine sgo rfl hsp (y_loadp_leaf Tryz.underlying22) ?_
    refine sgo rfl hsp (y_indexAddr Tryz.underlying22 sz27) ?_
    first | refine sgo rfl hsp (y_fieldAddr Tryz.underlying27 rfl sz3) ?_ | refine sgo rfl hsp (y_fieldp_leaf Tryz.underlying27 rfl sz3) ?_
    first | refine sgo rfl hsp (y_load_leaf Tryz.underlying3) ?_ | refine sgo rfl hsp (y_loadp_leaf Tryz.underlying3) ?_
    refine sgo rfl hsp (y_eql) ?_
    refine sgo rfl hsp (y_move) ?_
    first | refine sg rfl (fun hg => q_fieldAddr Tryz.underlying27 rfl sz22) ?_ | refine sg rfl (fun hg => q_fieldp_leaf Tryz.underlying27 rfl sz22) ?_
    first | refine sg rfl (fun hg => strip 15 (by simp only [GS.set, GS.get, List.lookup_cons, Nat.reduceBEq] <;> rfl) hg (q_load_leaf Tryz.underlying22)) ?_ | refine sg rfl (fun hg => strip 15 (by simp only [GS.set, GS.get, List.lookup_cons, Nat.reduceBEq] <;> rfl) hg (q_loadp_leaf Tryz.underlying22)) ?_
    refine sg rfl (fun hg => strip 16 (by simp only [GS.set, GS.get, List.lookup_cons, Nat.reduceBEq] <;> rfl) hg (q_indexAddr Tryz.underlying22 sz27)) ?_
    first | refine sg rfl (fun hg => strip 17 (by simp only [GS.set, GS.get, List.lookup_cons, Nat.reduceBEq] <;> rfl) hg (q_fieldAddr Tryz.underlying27 rfl sz3)) ?_ | refine sg rfl (fun hg => strip 17 (by simp only [GS.set, GS.get, List.lookup_cons, Nat.reduceBEq] <;> rfl) hg (q_fieldp_leaf Tryz.underlying27 rfl sz3)) ?_
    first | refine sg rfl (fun hg => strip 18 (by simp only [GS.set, GS.get, List.lookup_cons, Nat.reduceBEq] <;> rfl) hg (q_load_leaf Tryz.underlying3)) ?_ | refine sg rfl (fun hg => strip 18 (by simp only [GS.set, GS.get, List.lookup_cons, Nat.reduceBEq] <;> rfl) hg (q_loadp_leaf Tryz.underlying3)) ?_
    refine sg rfl (fun hg => strip 19 (by simp only [GS.set, GS.get, List.lookup_cons, Nat.reduceBEq] <;> rfl) hg (q_eql)) ?_
    refine sgo rfl hsp (y_or) ?_
    refine sv rfl (y_and) ?_
    refine sv rfl (y_assign) ?_
    refine GOps_nil ?_
    refine thn_normal ?_
    refine G_ret ?_
    refine fin1 (by simp) ?_
    exact ⟨by simp [rule161, Tr.kids, opK, hkop], rfl⟩
  ·
    skip
    refine sgx rfl ?_ ?_
    · first | exact hsp | (rw [hsp]; rfl) | simp [hsp] | simp_all
    refine sgx rfl ?_ ?_
    · first | exact hsp | (rw [hsp]; rfl) | simp [hsp] | simp_all
    refine sgx rfl ?_ ?_
    · first | exact hsp | (rw [hsp]; rfl) | simp [hsp] | simp_all
    refine sgx rfl ?_ ?_
    · first | exact hsp | (rw [hsp]; rfl) | simp [hsp] | simp_all
    refine sgx rfl ?_ ?_
    · first | exact hsp | (rw [hsp]; rfl) | simp [hsp] | simp_all
    refine sgx rfl ?_ ?_
    · first | exact hsp | (rw [hsp]; rfl) | simp [hsp] | simp_all
    refine sgx rfl ?_ ?_
    · first | exact hsp | (rw [hsp]; rfl) | simp [hsp] | simp_all
    refine sgx rfl ?_ ?_
    · first | exact hsp | (rw [hsp]; rfl) | simp [hsp] | simp_all
    refine sgx rfl ?_ ?_
    · first | exact hsp | (rw [hsp]; rfl) | simp [hsp] | simp_all
    refine sgx rfl ?_ ?_
    · first | exact hsp | (rw [hsp]; rfl) | simp [hsp] | simp_all
    refine sgx rfl ?_ ?_
    · first | exact hsp | (rw [hsp]; rfl) | simp [hsp] | simp_all
    refine sgx rfl ?_ ?_
    · first | exact hsp | (rw [hsp]; rfl) | simp [hsp] | simp_all
    refine sgx rfl ?_ ?_
    · first | exact hsp | (rw [hsp]; rfl) | simp [hsp] | simp_all
    refine sgx rfl ?_ ?_
    · first | exact hsp | (rw [hsp]; rfl) | simp [hsp] | simp_all
    refine sv rfl (y_and) ?_
    refine sv rfl (y_assign) ?_
    refine GOps_nil ?_
    refine thn_normal ?_
    refine G_ret ?_
    refine fin1 (by simp) ?_
    exact ⟨by simp [rule161, Tr.kids] at hsp ⊢; simp [hsp], rfl⟩
theorem c162 (t : Tr) (hok : t.Ok) : Pf Tryz.prog 162 [t.d] (.d (.bool (everyB (fun op => isExprB op || op == 3) t.kids))) := by
  obtain ⟨op, name, num, ks⟩ := t
  rw [Tr.d_mk]
  try simp only [Tr.op_mk, Tr.nm_mk, Tr.nu_mk, Tr.kids_mk]
  refine pf_body (rvs := [.tmp 2]) [(0, .d (.agg [.int .i64 op, .str name, .int .i64 num, .sl (ks.map Tr.d)]))] Tryz.func162 Tryz.ntmps162 Tryz.results162 (fun S0 O0 w0 m0 hm0 => ?_)
  refine G_seq ?_
  refine g_region ?_
  refine sv rfl (y_box) ?_
  refine g_freeze 0 [] (.agg [.int .i64 op, .str name, .int .i64 num, .sl (ks.map Tr.d)]) rfl ?_
  refine sv rfl (y_assign) ?_
  refine GOps_nil ?_
  refine thn_normal ?_
  refine G_seq ?_
  refine g_region ?_
  first | refine sv rfl (y_load_agg sz27 Tryz.underlying27 rfl) ?_ | refine sv rfl (y_loadp_agg (by exact sz27) Tryz.underlying27 rfl) ?_
  refine g_call (xs := [.tmp 3, .func 163]) rfl ((Tr.d_mk op name num ks ▸ c159 (.mk op name num ks) 163 (fun op => isExprB op || op == 3) hok c163)) ?_
  refine sv rfl (y_assign) ?_
  refine GOps_nil ?_
  refine thn_normal ?_
  refine G_ret ?_
  refine fin1 (by simp) ?_
  exact ⟨rfl, rfl⟩
theorem c164 (t : Tr) (hok : t.Ok) : Pf Tryz.prog 164 [t.d] (.d (.bool (everyB isStmtB t.kids))) := by
  obtain ⟨op, name, num, ks⟩ := t
  rw [Tr.d_mk]
  try simp only [Tr.op_mk, Tr.nm_mk, Tr.nu_mk, Tr.kids_mk]
  refine pf_body (rvs := [.tmp 2]) [(0, .d (.agg [.int .i64 op, .str name, .int .i64 num, .sl (ks.map Tr.d)]))] Tryz.func164 Tryz.ntmps164 Tryz.results164 (fun S0 O0 w0 m0 hm0 => ?_)
  refine G_seq ?_
  refine g_region ?_
  refine sv rfl (y_box) ?_
  refine g_freeze 0 [] (.agg [.int .i64 op, .str name, .int .i64 num, .sl (ks.map Tr.d)]) rfl ?_
  refine sv rfl (y_assign) ?_
  refine GOps_nil ?_
  refine thn_normal ?_
  refine G_seq ?_
  refine g_region ?_
  first | refine sv rfl (y_load_agg sz27 Tryz.underlying27 rfl) ?_ | refine sv rfl (y_loadp_agg (by exact sz27) Tryz.underlying27 rfl) ?_
  refine g_call (xs := [.tmp 3, .func 95]) rfl ((Tr.d_mk op name num ks ▸ c159 (.mk op name num ks) 95 isStmtB hok c95)) ?_
  refine sv rfl (y_assign) ?_
  refine GOps_nil ?_
  refine thn_normal ?_
  refine G_ret ?_
  refine fin1 (by simp) ?_
  exact ⟨rfl, rfl⟩
theorem c153 (ts : List ByteArray) : Pf Tryz.prog 153 [.sl (ts.map .str)] (.d (.fn (.func 229) [] [.ptr (.sl (ts.map .str))])) := by
  refine pf_body (rvs := [.tmp 2]) [(0, .d (.sl (ts.map .str)))] Tryz.func153 Tryz.ntmps153 Tryz.results153 (fun S0 O0 w0 m0 hm0 => ?_)
  refine G_seq ?_
  refine g_region ?_
  refine sv rfl (y_box) ?_
  refine g_freeze 0 [] (.sl (ts.map .str)) rfl ?_
  refine sv rfl (y_assign) ?_
  refine GOps_nil ?_
  refine thn_normal ?_
  refine G_seq ?_
  refine g_region ?_
  refine sv rfl (y_makeFunc (xs := []) (ys := [.tmp 1])) ?_
  refine sv rfl (y_assign) ?_
  refine GOps_nil ?_
  refine thn_normal ?_
  refine G_ret ?_
  refine find1 (by simp) ?_
  exact ⟨rfl, rfl⟩
theorem c231 (t : Tr) (s : ByteArray) (hok : t.Ok) : Pf Tryz.prog 231 [.str s, .ptr t.d] (.d (.bool (kidsB t.kids s))) := by
  obtain ⟨op, name, num, ks⟩ := t
  rw [Tr.d_mk]
  try simp only [Tr.op_mk, Tr.nm_mk, Tr.nu_mk, Tr.kids_mk]
  refine pf_body (rvs := [.tmp 3]) [(0, .d (.str s)), (1, .d (.ptr (.agg [.int .i64 op, .str name, .int .i64 num, .sl (ks.map Tr.d)])))] Tryz.func231 Tryz.ntmps231 Tryz.results231 (fun S0 O0 w0 m0 hm0 => ?_)
  refine G_seq ?_
  refine g_region ?_
  refine sv rfl (y_assign) ?_
  refine GOps_nil ?_
  refine thn_normal ?_
  refine G_seq ?_
  refine g_region ?_
  first | refine sv rfl (y_load_agg sz27 Tryz.underlying27 rfl) ?_ | refine sv rfl (y_loadp_agg (by exact sz27) Tryz.underlying27 rfl) ?_
  refine sv rfl (y_move) ?_
  refine g_call (xs := [.tmp 4, .tmp 5]) rfl ((Tr.d_mk op name num ks ▸ c156 (.mk op name num ks) s hok)) ?_
  refine sv rfl (y_assign) ?_
  refine GOps_nil ?_
  refine thn_normal ?_
  refine G_ret ?_
  refine fin1 (by simp) ?_
  exact ⟨rfl, rfl⟩
def formsB (ts : List ByteArray) (t : Tr) : Bool := ts.any fun s => kidsB t.kids s
theorem c229 (t : Tr) (ts : List ByteArray) (hok : t.Ok) (hlim : ts.length ≤ 140737488355328) : Pf Tryz.prog 229 [t.d, .ptr (.sl (ts.map .str))] (.d (.bool (formsB ts t))) := by
  obtain ⟨op, name, num, ks⟩ := t
  rw [Tr.d_mk]
  try simp only [Tr.op_mk, Tr.nm_mk, Tr.nu_mk, Tr.kids_mk]
  refine pf_body (rvs := [.tmp 3]) [(0, .d (.agg [.int .i64 op, .str name, .int .i64 num, .sl (ks.map Tr.d)])), (1, .d (.ptr (.sl (ts.map .str))))] Tryz.func229 Tryz.ntmps229 Tryz.results229 (fun S0 O0 w0 m0 hm0 => ?_)
  refine G_seq ?_
  refine g_region ?_
  refine sv rfl (y_box) ?_
  refine g_freeze 0 [] (.agg [.int .i64 op, .str name, .int .i64 num, .sl (ks.map Tr.d)]) rfl ?_
  refine sv rfl (y_assign) ?_
  refine GOps_nil ?_
  refine thn_normal ?_
  refine G_seq ?_
  refine g_region ?_
  first | refine sv rfl (y_load_leaf Tryz.underlying63) ?_ | refine sv rfl (y_loadp_leaf Tryz.underlying63) ?_
  refine sv rfl (y_makeFunc (xs := []) (ys := [.tmp 2])) ?_
  refine g_call (xs := [.tmp 4, .tmp 5]) rfl (c230 ts 231 [] [.ptr (.agg [.int .i64 op, .str name, .int .i64 num, .sl (ks.map Tr.d)])] (fun s => kidsB ks s) hlim (fun x hx => Tr.d_mk op name num ks ▸ c231 (.mk op name num ks) x hok)) ?_
  refine sv rfl (y_assign) ?_
  refine GOps_nil ?_
  refine thn_normal ?_
  refine G_ret ?_
  refine fin1 (by simp) ?_
  exact ⟨rfl, rfl⟩
end Go.Proofs.YtklkbfpjimeaoaaGreat
