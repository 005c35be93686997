import Derived.Test.YtklkbfpjimeaoaaGreatM23
import Derived.Test.YtklkbfpjimeaoaaGreatM21
import Derived.Test.YtklkbfpjimeaoaaGreatM10
/- Contracts of functions. Conditions: none. -/
set_option linter.unusedSimpArgs false
set_option linter.unusedVariables false
set_option maxRecDepth 20000
namespace Go.Proofs.YtklkbfpjimeaoaaGreat
open Go Go.Proofs.YtklkbfpjimeaoaaGreat.E
set_option maxHeartbeats 16000000 in
theorem c238 (t : Tr) (hok : t.Ok) (hE : isStmtB t.op = true) : Pf Tryz.prog 238 [t.d] (.d (.bool (rightB t))) := by
 obtain ⟨op, name, num, ks⟩ := t
 rw [Tr.d_mk]
 try simp only [Tr.op_mk, Tr.nm_mk, Tr.nu_mk, Tr.kids_mk]
 replace hE : isStmtB op = true := hE
 have h4 : ks.length ≤ 140737488355328 := Tr.kids_len hok
 refine pf_body (rvs := [.tmp 2]) [(0, .d (.agg [.int .i64 op, .str name, .int .i64 num, .sl (ks.map Tr.d)]))] Tryz.func238 Tryz.ntmps238 Tryz.results238 (fun S0 O0 w0 m0 hm0 => ?_)
 refine Z202 ?_
 refine gF 0 [] (.agg [.int .i64 op, .str name, .int .i64 num, .sl (ks.map Tr.d)]) rfl ?_
 refine Z271 ?_;refine Z103 ?_;refine Z204 ?_
 refine gC (fun hb0 => ?_) (fun hb0 => ?_)
 ·
  refine Z226 ?_
  refine gL (xs := [.tmp 10]) rfl ((Tr.d_mk op name num ks ▸ c288 (.mk op name num ks) hok)) ?_
  refine Z197 ?_
  obtain rfl := eq_of_beq hb0
  refine Z5 ?_
  exact ⟨by (first | rw [right1] | rw [right2] | rw [right5] | rw [right6] | rw [right7] | rw [right8] | rw [right9] | rw [right10] | rw [right12] | rw [right14] | rw [right16] | rw [right17] | rw [right18] | rw [right19] | rw [right31] | rw [right51] | rw [right52] | rw [right53] | rw [right54] | rw [right55] | rw [right56] | rw [right57] | rw [right58] | rw [right59] | rw [right60] | rw [right61] | rw [right62] | rw [right63] | rw [right64] | rw [right65] | rw [right66] | rw [right67] | rw [right3] | rw [right4] | rw [right30] | rw [right50] | rw [right13] | rw [right15] | rw [right11]) <;> first | rfl | (rw [List.length_map]; rfl) | rw [List.length_map], rfl⟩
 refine Z222 ?_
 refine gC (fun hb1 => ?_) (fun hb1 => ?_)
 ·
  refine Z2 ?_
  refine sv rfl (y_buildSlice (xs := [.const (.string ⟨#[61]⟩), .const (.string ⟨#[43, 61]⟩), .const (.string ⟨#[45, 61]⟩), .const (.string ⟨#[42, 61]⟩)]) u63 inf9) ?_
  refine Z212 ?_
  refine gL (xs := [.tmp 14, .tmp 16]) rfl (c176 [⟨#[61]⟩, ⟨#[43, 61]⟩, ⟨#[45, 61]⟩, ⟨#[42, 61]⟩] name (by decide)) ?_
  refine Z206 ?_;refine Z173 ?_
  refine sg rfl (fun hg => sP 20 rfl hg q_eql) ?_
  refine Z288 ?_
  refine g_callg (xs := [.tmp 24, .const (.string ⟨#[101, 101]⟩)]) rfl (fun hg => (Tr.d_mk op name num ks ▸ c239 (.mk op name num ks) ⟨#[101, 101]⟩ hok)) ?_
  refine Z8 ?_;refine Z1 ?_
  refine g_split 27 true (fun hsp => ?_) (fun hsp => ?_)
  ·
   have hkd : kidsB ks ⟨#[101, 101]⟩ = true := by
    rw [beq_iff_eq, Bool.and_eq_true] at hsp
    exact hsp.2
   have hl2 : ks.length = 2 := kidsB_len hkd
   obtain ⟨a, hka⟩ : ∃ k, ks[0]? = some k := ⟨_, List.getElem?_eq_getElem (by omega)⟩
   have hmem := List.mem_of_getElem? hka
   obtain ⟨aop, anm, anu, aks, hke⟩ : ∃ op nm nu ks', a = .mk op nm nu ks' := by cases a; exact ⟨_, _, _, _, rfl⟩
   subst hke
   have hxa := Tr.ds_get hka
   rw [Tr.d_mk] at hxa
   refine sgo rfl hsp (y_fieldp_leaf u27 rfl sz22) ?_
   refine sgo rfl hsp (y_loadp_leaf u22) ?_
   refine sgo rfl hsp (y_indexAddr u22 sz27) ?_
   refine sgo rfl hsp (y_fieldp_leaf u27 rfl sz3) ?_
   refine sgo rfl hsp (y_loadp_leaf u3) ?_
   refine sgo rfl hsp y_eql ?_
   refine sgo rfl hsp y_move ?_
   refine Z51 ?_
   refine sg rfl (fun hg => sP 35 rfl hg (qL u22)) ?_
   refine sg rfl (fun hg => sP 36 rfl hg (qI u22 sz27)) ?_
   refine sg rfl (fun hg => sP 37 rfl hg (qF u27 rfl sz3)) ?_
   refine sg rfl (fun hg => sP 38 rfl hg (qL u3)) ?_
   refine sg rfl (fun hg => sP 39 rfl hg q_eql) ?_
   refine sgo rfl hsp y_or ?_
   refine Z225 ?_
   obtain rfl := eq_of_beq hb1
   refine Z5 ?_
   exact ⟨by rw [right51, opK_get hka] <;> first | rfl | (rw [List.length_map]; rfl), rfl⟩
  skip
  refine sgx rfl ?_ ?_
  · first | exact hsp | (rw [hsp]; rfl) | simp [hsp] | simp_all
  refine sgx rfl ?_ ?_
  · first | exact hsp | (rw [hsp]; rfl) | simp [hsp] | simp_all
  refine sgx rfl ?_ ?_
  · first | exact hsp | (rw [hsp]; rfl) | simp [hsp] | simp_all
  refine sgx rfl ?_ ?_
  · first | exact hsp | (rw [hsp]; rfl) | simp [hsp] | simp_all
  refine sgx rfl ?_ ?_
  · first | exact hsp | (rw [hsp]; rfl) | simp [hsp] | simp_all
  refine sgx rfl ?_ ?_
  · first | exact hsp | (rw [hsp]; rfl) | simp [hsp] | simp_all
  refine sgx rfl ?_ ?_
  · first | exact hsp | (rw [hsp]; rfl) | simp [hsp] | simp_all
  refine sgx rfl ?_ ?_
  · first | exact hsp | (rw [hsp]; rfl) | simp [hsp] | simp_all
  refine sgx rfl ?_ ?_
  · first | exact hsp | (rw [hsp]; rfl) | simp [hsp] | simp_all
  refine sgx rfl ?_ ?_
  · first | exact hsp | (rw [hsp]; rfl) | simp [hsp] | simp_all
  refine sgx rfl ?_ ?_
  · first | exact hsp | (rw [hsp]; rfl) | simp [hsp] | simp_all
  refine sgx rfl ?_ ?_
  · first | exact hsp | (rw [hsp]; rfl) | simp [hsp] | simp_all
  refine sgx rfl ?_ ?_
  · first | exact hsp | (rw [hsp]; rfl) | simp [hsp] | simp_all
  refine sgx rfl ?_ ?_
  · first | exact hsp | (rw [hsp]; rfl) | simp [hsp] | simp_all
  refine Z225 ?_
  obtain rfl := eq_of_beq hb1
  have hk : (((hasB [⟨#[61]⟩, ⟨#[43, 61]⟩, ⟨#[45, 61]⟩, ⟨#[42, 61]⟩] name && num == 0) && kidsB ks ⟨#[101, 101]⟩)) = false := by
   revert hsp
   try rw [List.length_map]
   show ((((hasB [⟨#[61]⟩, ⟨#[43, 61]⟩, ⟨#[45, 61]⟩, ⟨#[42, 61]⟩] name && num == 0) && kidsB ks ⟨#[101, 101]⟩)) == true) = false → _
   cases (((hasB [⟨#[61]⟩, ⟨#[43, 61]⟩, ⟨#[45, 61]⟩, ⟨#[42, 61]⟩] name && num == 0) && kidsB ks ⟨#[101, 101]⟩)) <;> simp
  refine Z5 ?_
  exact ⟨by rw [right51, hk]; try rw [List.length_map]
            show PV.d (.bool ((((hasB [⟨#[61]⟩, ⟨#[43, 61]⟩, ⟨#[45, 61]⟩, ⟨#[42, 61]⟩] name && num == 0) && kidsB ks ⟨#[101, 101]⟩)) && _)) = _
            rw [hk]; rfl, rfl⟩
 refine Z222 ?_
 refine gC (fun hb2 => ?_) (fun hb2 => ?_)
 ·
  refine Z226 ?_
  refine gL (xs := [.tmp 45]) rfl ((Tr.d_mk op name num ks ▸ c177 (.mk op name num ks))) ?_
  refine Z231 ?_
  refine g_callg (xs := [.tmp 48, .const (.string ⟨#[101, 98]⟩)]) rfl (fun hg => (Tr.d_mk op name num ks ▸ c239 (.mk op name num ks) ⟨#[101, 98]⟩ hok)) ?_
  refine sg rfl (fun hg => sP 49 rfl hg qM) ?_
  refine Z48 ?_
  refine g_callg (xs := [.tmp 51, .const (.string ⟨#[101, 98, 98]⟩)]) rfl (fun hg => (Tr.d_mk op name num ks ▸ c239 (.mk op name num ks) ⟨#[101, 98, 98]⟩ hok)) ?_
  refine sg rfl (fun hg => sP 50 rfl hg q_or) ?_
  refine Z225 ?_
  obtain rfl := eq_of_beq hb2
  refine Z5 ?_
  exact ⟨by (first | rw [right1] | rw [right2] | rw [right5] | rw [right6] | rw [right7] | rw [right8] | rw [right9] | rw [right10] | rw [right12] | rw [right14] | rw [right16] | rw [right17] | rw [right18] | rw [right19] | rw [right31] | rw [right51] | rw [right52] | rw [right53] | rw [right54] | rw [right55] | rw [right56] | rw [right57] | rw [right58] | rw [right59] | rw [right60] | rw [right61] | rw [right62] | rw [right63] | rw [right64] | rw [right65] | rw [right66] | rw [right67] | rw [right3] | rw [right4] | rw [right30] | rw [right50] | rw [right13] | rw [right15] | rw [right11]) <;> first | rfl | (rw [List.length_map]; rfl) | rw [List.length_map], rfl⟩
 refine Z35 ?_;refine Z204 ?_
 refine gC (fun hb3 => ?_) (fun hb3 => ?_)
 ·
  refine Z68 ?_
  refine gC (fun hb4 => ?_) (fun hb4 => ?_)
  ·
   refine Z15 ?_;refine Z98 ?_;refine Z262 ?_
   refine gL (xs := [.tmp 58]) rfl ((Tr.d_mk op name num ks ▸ c177 (.mk op name num ks))) ?_
   refine Z231 ?_
   refine g_callg (xs := [.tmp 61, .const (.string ⟨#[101, 98]⟩)]) rfl (fun hg => (Tr.d_mk op name num ks ▸ c239 (.mk op name num ks) ⟨#[101, 98]⟩ hok)) ?_
   refine Z225 ?_
   obtain rfl := eq_of_beq hb4
   refine Z5 ?_
   exact ⟨by (first | rw [right1] | rw [right2] | rw [right5] | rw [right6] | rw [right7] | rw [right8] | rw [right9] | rw [right10] | rw [right12] | rw [right14] | rw [right16] | rw [right17] | rw [right18] | rw [right19] | rw [right31] | rw [right51] | rw [right52] | rw [right53] | rw [right54] | rw [right55] | rw [right56] | rw [right57] | rw [right58] | rw [right59] | rw [right60] | rw [right61] | rw [right62] | rw [right63] | rw [right64] | rw [right65] | rw [right66] | rw [right67] | rw [right3] | rw [right4] | rw [right30] | rw [right50] | rw [right13] | rw [right15] | rw [right11]) <;> first | rfl | (rw [List.length_map]; rfl) | rw [List.length_map], rfl⟩
  exact absurd (hb3.symm.trans hb4) (by decide)
 refine Z98 ?_;refine Z261 ?_
 refine gC (fun hb5 => ?_) (fun hb5 => ?_)
 ·
  refine Z226 ?_
  refine gL (xs := [.tmp 58]) rfl ((Tr.d_mk op name num ks ▸ c177 (.mk op name num ks))) ?_
  refine Z231 ?_
  refine g_callg (xs := [.tmp 61, .const (.string ⟨#[101, 98]⟩)]) rfl (fun hg => (Tr.d_mk op name num ks ▸ c239 (.mk op name num ks) ⟨#[101, 98]⟩ hok)) ?_
  refine Z225 ?_
  obtain rfl := eq_of_beq hb5
  refine Z5 ?_
  exact ⟨by (first | rw [right1] | rw [right2] | rw [right5] | rw [right6] | rw [right7] | rw [right8] | rw [right9] | rw [right10] | rw [right12] | rw [right14] | rw [right16] | rw [right17] | rw [right18] | rw [right19] | rw [right31] | rw [right51] | rw [right52] | rw [right53] | rw [right54] | rw [right55] | rw [right56] | rw [right57] | rw [right58] | rw [right59] | rw [right60] | rw [right61] | rw [right62] | rw [right63] | rw [right64] | rw [right65] | rw [right66] | rw [right67] | rw [right3] | rw [right4] | rw [right30] | rw [right50] | rw [right13] | rw [right15] | rw [right11]) <;> first | rfl | (rw [List.length_map]; rfl) | rw [List.length_map], rfl⟩
 refine Z35 ?_;refine Z204 ?_
 refine gC (fun hb6 => ?_) (fun hb6 => ?_)
 ·
  refine Z68 ?_
  refine gC (fun hb7 => ?_) (fun hb7 => ?_)
  ·
   refine Z226 ?_
   refine gL (xs := [.tmp 68]) rfl ((Tr.d_mk op name num ks ▸ c289 (.mk op name num ks) hok)) ?_
   refine Z197 ?_
   obtain rfl := eq_of_beq hb7
   refine Z5 ?_
   exact ⟨by (first | rw [right1] | rw [right2] | rw [right5] | rw [right6] | rw [right7] | rw [right8] | rw [right9] | rw [right10] | rw [right12] | rw [right14] | rw [right16] | rw [right17] | rw [right18] | rw [right19] | rw [right31] | rw [right51] | rw [right52] | rw [right53] | rw [right54] | rw [right55] | rw [right56] | rw [right57] | rw [right58] | rw [right59] | rw [right60] | rw [right61] | rw [right62] | rw [right63] | rw [right64] | rw [right65] | rw [right66] | rw [right67] | rw [right3] | rw [right4] | rw [right30] | rw [right50] | rw [right13] | rw [right15] | rw [right11]) <;> first | rfl | (rw [List.length_map]; rfl) | rw [List.length_map], rfl⟩
  exact absurd (hb6.symm.trans hb7) (by decide)
 refine Z222 ?_
 refine gC (fun hb8 => ?_) (fun hb8 => ?_)
 ·
  refine Z68 ?_
  refine gC (fun hb9 => ?_) (fun hb9 => ?_)
  ·
   refine Z226 ?_
   refine gL (xs := [.tmp 68]) rfl ((Tr.d_mk op name num ks ▸ c289 (.mk op name num ks) hok)) ?_
   refine Z197 ?_
   obtain rfl := eq_of_beq hb9
   refine Z5 ?_
   exact ⟨by (first | rw [right1] | rw [right2] | rw [right5] | rw [right6] | rw [right7] | rw [right8] | rw [right9] | rw [right10] | rw [right12] | rw [right14] | rw [right16] | rw [right17] | rw [right18] | rw [right19] | rw [right31] | rw [right51] | rw [right52] | rw [right53] | rw [right54] | rw [right55] | rw [right56] | rw [right57] | rw [right58] | rw [right59] | rw [right60] | rw [right61] | rw [right62] | rw [right63] | rw [right64] | rw [right65] | rw [right66] | rw [right67] | rw [right3] | rw [right4] | rw [right30] | rw [right50] | rw [right13] | rw [right15] | rw [right11]) <;> first | rfl | (rw [List.length_map]; rfl) | rw [List.length_map], rfl⟩
  exact absurd (hb8.symm.trans hb9) (by decide)
 refine Z261 ?_
 refine gC (fun hb10 => ?_) (fun hb10 => ?_)
 ·
  refine Z226 ?_
  refine gL (xs := [.tmp 68]) rfl ((Tr.d_mk op name num ks ▸ c289 (.mk op name num ks) hok)) ?_
  refine Z197 ?_
  obtain rfl := eq_of_beq hb10
  refine Z5 ?_
  exact ⟨by (first | rw [right1] | rw [right2] | rw [right5] | rw [right6] | rw [right7] | rw [right8] | rw [right9] | rw [right10] | rw [right12] | rw [right14] | rw [right16] | rw [right17] | rw [right18] | rw [right19] | rw [right31] | rw [right51] | rw [right52] | rw [right53] | rw [right54] | rw [right55] | rw [right56] | rw [right57] | rw [right58] | rw [right59] | rw [right60] | rw [right61] | rw [right62] | rw [right63] | rw [right64] | rw [right65] | rw [right66] | rw [right67] | rw [right3] | rw [right4] | rw [right30] | rw [right50] | rw [right13] | rw [right15] | rw [right11]) <;> first | rfl | (rw [List.length_map]; rfl) | rw [List.length_map], rfl⟩
 refine Z35 ?_;refine Z204 ?_
 refine gC (fun hb11 => ?_) (fun hb11 => ?_)
 ·
  refine Z68 ?_
  refine gC (fun hb12 => ?_) (fun hb12 => ?_)
  ·
   refine Z226 ?_
   refine gL (xs := [.tmp 73]) rfl ((Tr.d_mk op name num ks ▸ c177 (.mk op name num ks))) ?_
   refine Z231 ?_
   refine g_callg (xs := [.tmp 76, .const (.string ⟨#[98]⟩)]) rfl (fun hg => (Tr.d_mk op name num ks ▸ c239 (.mk op name num ks) ⟨#[98]⟩ hok)) ?_
   refine Z225 ?_
   obtain rfl := eq_of_beq hb12
   refine Z5 ?_
   exact ⟨by (first | rw [right1] | rw [right2] | rw [right5] | rw [right6] | rw [right7] | rw [right8] | rw [right9] | rw [right10] | rw [right12] | rw [right14] | rw [right16] | rw [right17] | rw [right18] | rw [right19] | rw [right31] | rw [right51] | rw [right52] | rw [right53] | rw [right54] | rw [right55] | rw [right56] | rw [right57] | rw [right58] | rw [right59] | rw [right60] | rw [right61] | rw [right62] | rw [right63] | rw [right64] | rw [right65] | rw [right66] | rw [right67] | rw [right3] | rw [right4] | rw [right30] | rw [right50] | rw [right13] | rw [right15] | rw [right11]) <;> first | rfl | (rw [List.length_map]; rfl) | rw [List.length_map], rfl⟩
  exact absurd (hb11.symm.trans hb12) (by decide)
 refine Z261 ?_
 refine gC (fun hb13 => ?_) (fun hb13 => ?_)
 ·
  refine Z15 ?_;refine Z98 ?_;refine Z262 ?_
  refine gL (xs := [.tmp 73]) rfl ((Tr.d_mk op name num ks ▸ c177 (.mk op name num ks))) ?_
  refine Z231 ?_
  refine g_callg (xs := [.tmp 76, .const (.string ⟨#[98]⟩)]) rfl (fun hg => (Tr.d_mk op name num ks ▸ c239 (.mk op name num ks) ⟨#[98]⟩ hok)) ?_
  refine Z225 ?_
  obtain rfl := eq_of_beq hb13
  refine Z5 ?_
  exact ⟨by (first | rw [right1] | rw [right2] | rw [right5] | rw [right6] | rw [right7] | rw [right8] | rw [right9] | rw [right10] | rw [right12] | rw [right14] | rw [right16] | rw [right17] | rw [right18] | rw [right19] | rw [right31] | rw [right51] | rw [right52] | rw [right53] | rw [right54] | rw [right55] | rw [right56] | rw [right57] | rw [right58] | rw [right59] | rw [right60] | rw [right61] | rw [right62] | rw [right63] | rw [right64] | rw [right65] | rw [right66] | rw [right67] | rw [right3] | rw [right4] | rw [right30] | rw [right50] | rw [right13] | rw [right15] | rw [right11]) <;> first | rfl | (rw [List.length_map]; rfl) | rw [List.length_map], rfl⟩
 refine Z15 ?_;refine Z98 ?_;refine Z261 ?_
 refine gC (fun hb14 => ?_) (fun hb14 => ?_)
 ·
  refine Z35 ?_;refine Z243 ?_
  refine g_loop (α := Nat) (fun z => ⟨[(3, .d (.int .i64 (z : Nat))), (1, .d (.ptr (.agg [.int .i64 op, .str name, .int .i64 num, .sl (ks.map Tr.d)])))], []⟩) (fun z => ks.length - z) (fun z => z ≤ ks.length ∧ ∀ i, i < z → ∀ k, ks[i]? = some k → (fun o : Int => o == 66) k.op = true) 0 ⟨Nat.zero_le _, by simp⟩ (fun z hz Q' hn0 he0 hr0 => ?_) (le_of)
  obtain ⟨hz1, hz2⟩ := hz
  refine Z242 ?_;refine Z281 ?_
  refine gC (fun hb15 => ?_) (fun hb15 => ?_)
  ·
   have hlt : z < ks.length := by simpa using hb15
   obtain ⟨a, hka⟩ : ∃ k, ks[z]? = some k := ⟨_, List.getElem?_eq_getElem (by omega)⟩
   have hmem := List.mem_of_getElem? hka
   obtain ⟨aop, anm, anu, aks, hke⟩ : ∃ op nm nu ks', a = .mk op nm nu ks' := by cases a; exact ⟨_, _, _, _, rfl⟩
   subst hke
   have hxa := Tr.ds_get hka
   rw [Tr.d_mk] at hxa
   refine Z41 ?_;refine Z252 ?_;refine Z32 ?_;refine Z199 ?_;refine Z230 ?_
   refine gC (fun hb16 => ?_) (fun hb16 => ?_)
   ·
    refine Z15 ?_;refine Z98 ?_;refine Z4 ?_;refine Z197 ?_
    refine hr0 _ ?_
    refine Z188 ?_
    obtain rfl := eq_of_beq hb14
    refine Z5 ?_
    exact ⟨by rw [right58, every_no hmem (by show (fun o : Int => o == 66) aop = false; revert hb16; show (aop != 66) = true → (aop == 66) = false; cases h : (aop == 66) <;> simp [bne, h])]; rfl, rfl⟩
   refine Z102 ?_;refine Z98 ?_;refine Z291 ?_
   refine hn0 _ (z + 1) ⟨by omega, upto_step (p := fun _ (k : Tr) => (fun o : Int => o == 66) k.op) hz2 hka (by show (fun o : Int => o == 66) aop = true; revert hb16; show (aop != 66) = false → (aop == 66) = true; cases h : (aop == 66) <;> simp [bne, h])⟩ (by omega) le_of
  have hge : z = ks.length := by
   have : ¬ (z : Int) < ((ks.map Tr.d).length : Nat) := by simpa using hb15
   rw [List.length_map] at this
   omega
  refine Z34 ?_
  refine he0 _ _ ?_
  refine Z38 ?_;refine Z11 ?_
  refine gL (xs := [.tmp 95]) rfl ((Tr.d_mk op name num ks ▸ c177 (.mk op name num ks))) ?_
  refine Z237 ?_
  refine sg rfl (fun hg => sP 98 rfl hg (qL u22)) ?_
  refine sg rfl (fun hg => sP 99 rfl hg (q_len u22)) ?_
  refine sg rfl (fun hg => sP 100 rfl hg q_gtr) ?_
  refine Z225 ?_
  obtain rfl := eq_of_beq hb14
  refine Z5 ?_
  exact ⟨by rw [right58, every_yes (fun i hi => hz2 i (by omega))] <;> first | rfl | (rw [List.length_map]; rfl), rfl⟩
 refine Z222 ?_
 refine gC (fun hb17 => ?_) (fun hb17 => ?_)
 ·
  refine Z226 ?_
  refine gL (xs := [.tmp 105]) rfl ((Tr.d_mk op name num ks ▸ c177 (.mk op name num ks))) ?_
  refine Z237 ?_
  refine sg rfl (fun hg => sP 108 rfl hg (qL u22)) ?_
  refine sg rfl (fun hg => sP 109 rfl hg (q_len u22)) ?_
  refine sg rfl (fun hg => sP 110 rfl hg q_eql) ?_
  refine sg rfl (fun hg => sP 111 rfl hg qM) ?_
  refine Z48 ?_
  refine g_callg (xs := [.tmp 113, .const (.string ⟨#[101]⟩)]) rfl (fun hg => (Tr.d_mk op name num ks ▸ c239 (.mk op name num ks) ⟨#[101]⟩ hok)) ?_
  refine sg rfl (fun hg => sP 112 rfl hg q_or) ?_
  refine Z225 ?_
  obtain rfl := eq_of_beq hb17
  refine Z5 ?_
  exact ⟨by (first | rw [right1] | rw [right2] | rw [right5] | rw [right6] | rw [right7] | rw [right8] | rw [right9] | rw [right10] | rw [right12] | rw [right14] | rw [right16] | rw [right17] | rw [right18] | rw [right19] | rw [right31] | rw [right51] | rw [right52] | rw [right53] | rw [right54] | rw [right55] | rw [right56] | rw [right57] | rw [right58] | rw [right59] | rw [right60] | rw [right61] | rw [right62] | rw [right63] | rw [right64] | rw [right65] | rw [right66] | rw [right67] | rw [right3] | rw [right4] | rw [right30] | rw [right50] | rw [right13] | rw [right15] | rw [right11]) <;> first | rfl | (rw [List.length_map]; rfl) | rw [List.length_map], rfl⟩
 refine Z35 ?_;refine Z204 ?_
 refine gC (fun hb18 => ?_) (fun hb18 => ?_)
 ·
  refine Z68 ?_
  refine gC (fun hb19 => ?_) (fun hb19 => ?_)
  ·
   refine Z226 ?_
   refine gL (xs := [.tmp 120]) rfl ((Tr.d_mk op name num ks ▸ c177 (.mk op name num ks))) ?_
   refine Z231 ?_
   refine g_callg (xs := [.tmp 123, .const (.string ⟨#[101]⟩)]) rfl (fun hg => (Tr.d_mk op name num ks ▸ c239 (.mk op name num ks) ⟨#[101]⟩ hok)) ?_
   refine Z225 ?_
   obtain rfl := eq_of_beq hb19
   refine Z5 ?_
   exact ⟨by (first | rw [right1] | rw [right2] | rw [right5] | rw [right6] | rw [right7] | rw [right8] | rw [right9] | rw [right10] | rw [right12] | rw [right14] | rw [right16] | rw [right17] | rw [right18] | rw [right19] | rw [right31] | rw [right51] | rw [right52] | rw [right53] | rw [right54] | rw [right55] | rw [right56] | rw [right57] | rw [right58] | rw [right59] | rw [right60] | rw [right61] | rw [right62] | rw [right63] | rw [right64] | rw [right65] | rw [right66] | rw [right67] | rw [right3] | rw [right4] | rw [right30] | rw [right50] | rw [right13] | rw [right15] | rw [right11]) <;> first | rfl | (rw [List.length_map]; rfl) | rw [List.length_map], rfl⟩
  exact absurd (hb18.symm.trans hb19) (by decide)
 refine Z261 ?_
 refine gC (fun hb20 => ?_) (fun hb20 => ?_)
 ·
  refine Z226 ?_
  refine gL (xs := [.tmp 120]) rfl ((Tr.d_mk op name num ks ▸ c177 (.mk op name num ks))) ?_
  refine Z231 ?_
  refine g_callg (xs := [.tmp 123, .const (.string ⟨#[101]⟩)]) rfl (fun hg => (Tr.d_mk op name num ks ▸ c239 (.mk op name num ks) ⟨#[101]⟩ hok)) ?_
  refine Z225 ?_
  obtain rfl := eq_of_beq hb20
  refine Z5 ?_
  exact ⟨by (first | rw [right1] | rw [right2] | rw [right5] | rw [right6] | rw [right7] | rw [right8] | rw [right9] | rw [right10] | rw [right12] | rw [right14] | rw [right16] | rw [right17] | rw [right18] | rw [right19] | rw [right31] | rw [right51] | rw [right52] | rw [right53] | rw [right54] | rw [right55] | rw [right56] | rw [right57] | rw [right58] | rw [right59] | rw [right60] | rw [right61] | rw [right62] | rw [right63] | rw [right64] | rw [right65] | rw [right66] | rw [right67] | rw [right3] | rw [right4] | rw [right30] | rw [right50] | rw [right13] | rw [right15] | rw [right11]) <;> first | rfl | (rw [List.length_map]; rfl) | rw [List.length_map], rfl⟩
 refine Z222 ?_
 refine gC (fun hb21 => ?_) (fun hb21 => ?_)
 ·
  refine Z226 ?_
  refine gL (xs := [.tmp 128]) rfl ((Tr.d_mk op name num ks ▸ c177 (.mk op name num ks))) ?_
  refine Z237 ?_
  refine sg rfl (fun hg => sP 131 rfl hg (qL u22)) ?_
  refine sg rfl (fun hg => sP 132 rfl hg (q_len u22)) ?_
  refine sg rfl (fun hg => sP 133 rfl hg q_eql) ?_
  refine Z8 ?_;refine Z1 ?_
  refine g_split 136 true (fun hsp => ?_) (fun hsp => ?_)
  ·
   have hl1 : ks.length = 1 := by
    rw [beq_iff_eq, Bool.and_eq_true, beq_iff_eq, List.length_map] at hsp
    omega
   obtain ⟨a, hka⟩ : ∃ k, ks[0]? = some k := ⟨_, List.getElem?_eq_getElem (by omega)⟩
   have hmem := List.mem_of_getElem? hka
   obtain ⟨aop, anm, anu, aks, hke⟩ : ∃ op nm nu ks', a = .mk op nm nu ks' := by cases a; exact ⟨_, _, _, _, rfl⟩
   subst hke
   have hxa := Tr.ds_get hka
   rw [Tr.d_mk] at hxa
   refine sgo rfl hsp (y_fieldp_leaf u27 rfl sz22) ?_
   refine sgo rfl hsp (y_loadp_leaf u22) ?_
   refine sgo rfl hsp (y_indexAddr u22 sz27) ?_
   refine sgo rfl hsp (y_fieldp_leaf u27 rfl sz3) ?_
   refine sgo rfl hsp (y_loadp_leaf u3) ?_
   refine sgo rfl hsp y_eql ?_
   refine sgo rfl hsp y_move ?_
   refine Z51 ?_
   refine sg rfl (fun hg => sP 144 rfl hg (qL u22)) ?_
   refine sg rfl (fun hg => sP 145 rfl hg (qI u22 sz27)) ?_
   refine sg rfl (fun hg => sP 146 rfl hg (qF u27 rfl sz3)) ?_
   refine sg rfl (fun hg => sP 147 rfl hg (qL u3)) ?_
   refine sg rfl (fun hg => sP 148 rfl hg q_eql) ?_
   refine sgo rfl hsp y_or ?_
   refine Z225 ?_
   obtain rfl := eq_of_beq hb21
   refine Z5 ?_
   exact ⟨by rw [right63, opK_get hka] <;> first | rfl | (rw [List.length_map]; rfl), rfl⟩
  skip
  refine sgx rfl ?_ ?_
  · first | exact hsp | (rw [hsp]; rfl) | simp [hsp] | simp_all
  refine sgx rfl ?_ ?_
  · first | exact hsp | (rw [hsp]; rfl) | simp [hsp] | simp_all
  refine sgx rfl ?_ ?_
  · first | exact hsp | (rw [hsp]; rfl) | simp [hsp] | simp_all
  refine sgx rfl ?_ ?_
  · first | exact hsp | (rw [hsp]; rfl) | simp [hsp] | simp_all
  refine sgx rfl ?_ ?_
  · first | exact hsp | (rw [hsp]; rfl) | simp [hsp] | simp_all
  refine sgx rfl ?_ ?_
  · first | exact hsp | (rw [hsp]; rfl) | simp [hsp] | simp_all
  refine sgx rfl ?_ ?_
  · first | exact hsp | (rw [hsp]; rfl) | simp [hsp] | simp_all
  refine sgx rfl ?_ ?_
  · first | exact hsp | (rw [hsp]; rfl) | simp [hsp] | simp_all
  refine sgx rfl ?_ ?_
  · first | exact hsp | (rw [hsp]; rfl) | simp [hsp] | simp_all
  refine sgx rfl ?_ ?_
  · first | exact hsp | (rw [hsp]; rfl) | simp [hsp] | simp_all
  refine sgx rfl ?_ ?_
  · first | exact hsp | (rw [hsp]; rfl) | simp [hsp] | simp_all
  refine sgx rfl ?_ ?_
  · first | exact hsp | (rw [hsp]; rfl) | simp [hsp] | simp_all
  refine sgx rfl ?_ ?_
  · first | exact hsp | (rw [hsp]; rfl) | simp [hsp] | simp_all
  refine sgx rfl ?_ ?_
  · first | exact hsp | (rw [hsp]; rfl) | simp [hsp] | simp_all
  refine Z225 ?_
  obtain rfl := eq_of_beq hb21
  have hk : (bareB (.mk 63 name num ks) && (ks.length : Int) == 1) = false := by
   revert hsp
   try rw [List.length_map]
   show ((bareB (.mk 63 name num ks) && (ks.length : Int) == 1) == true) = false → _
   cases (bareB (.mk 63 name num ks) && (ks.length : Int) == 1) <;> simp
  refine Z5 ?_
  exact ⟨by rw [right63, hk]; try rw [List.length_map]
            show PV.d (.bool ((bareB (.mk 63 name num ks) && (ks.length : Int) == 1) && _)) = _
            rw [hk]; rfl, rfl⟩
 refine Z222 ?_
 refine gC (fun hb22 => ?_) (fun hb22 => ?_)
 ·
  refine Z145 ?_;refine Z98 ?_;refine Z4 ?_;refine Z243 ?_
  refine g_loop (α := Nat) (fun z => ⟨[(4, .d (.int .i64 (z : Nat))), (1, .d (.ptr (.agg [.int .i64 op, .str name, .int .i64 num, .sl (ks.map Tr.d)])))], []⟩) (fun z => ks.length - z) (fun z => z ≤ ks.length ∧ ∀ i, i < z → ∀ k, ks[i]? = some k → (fun o : Int => isExprB o || o == 3) k.op = true) 0 ⟨Nat.zero_le _, by simp⟩ (fun z hz Q' hn1 he1 hr1 => ?_) (le_of)
  obtain ⟨hz1, hz2⟩ := hz
  refine Z242 ?_;refine Z281 ?_
  refine gC (fun hb23 => ?_) (fun hb23 => ?_)
  ·
   have hlt : z < ks.length := by simpa using hb23
   obtain ⟨a, hka⟩ : ∃ k, ks[z]? = some k := ⟨_, List.getElem?_eq_getElem (by omega)⟩
   have hmem := List.mem_of_getElem? hka
   obtain ⟨aop, anm, anu, aks, hke⟩ : ∃ op nm nu ks', a = .mk op nm nu ks' := by cases a; exact ⟨_, _, _, _, rfl⟩
   subst hke
   have hxa := Tr.ds_get hka
   rw [Tr.d_mk] at hxa
   refine Z41 ?_;refine Z252 ?_;refine Z32 ?_;refine Z199 ?_
   refine gL (xs := [.tmp 166]) rfl (c81 _) ?_
   refine Z37 ?_;refine Z237 ?_
   refine sg rfl (fun hg => sP 170 rfl hg (qL u22)) ?_
   refine Z21 ?_
   refine sg rfl (fun hg => sP 172 rfl hg (sP 171 rfl hg (qI u22 sz27))) ?_
   refine sg rfl (fun hg => sP 173 rfl hg (qF u27 rfl sz3)) ?_
   refine sg rfl (fun hg => sP 174 rfl hg (qL u3)) ?_
   refine sg rfl (fun hg => sP 175 rfl hg q_neq) ?_
   refine Z238 ?_
   refine gC (fun hb24 => ?_) (fun hb24 => ?_)
   ·
    refine Z15 ?_;refine Z98 ?_;refine Z4 ?_;refine Z197 ?_
    refine hr1 _ ?_
    refine Z188 ?_
    obtain rfl := eq_of_beq hb22
    refine Z5 ?_
    exact ⟨by rw [right64, every_no hmem (by show (fun o : Int => isExprB o || o == 3) aop = false; revert hb24; show (!isExprB aop && aop != 3) = true → (isExprB aop || aop == 3) = false; cases isExprB aop <;> cases h : (aop == 3) <;> simp [bne, h])]; rfl, rfl⟩
   refine Z102 ?_;refine Z98 ?_;refine Z291 ?_
   refine hn1 _ (z + 1) ⟨by omega, upto_step (p := fun _ (k : Tr) => (fun o : Int => isExprB o || o == 3) k.op) hz2 hka (by show (fun o : Int => isExprB o || o == 3) aop = true; revert hb24; show (!isExprB aop && aop != 3) = false → (isExprB aop || aop == 3) = true; cases isExprB aop <;> cases h : (aop == 3) <;> simp [bne, h])⟩ (by omega) le_of
  have hge : z = ks.length := by
   have : ¬ (z : Int) < ((ks.map Tr.d).length : Nat) := by simpa using hb23
   rw [List.length_map] at this
   omega
  refine Z34 ?_
  refine he1 _ _ ?_
  refine Z38 ?_;refine Z11 ?_
  refine gL (xs := [.tmp 178]) rfl ((Tr.d_mk op name num ks ▸ c177 (.mk op name num ks))) ?_
  refine Z197 ?_
  obtain rfl := eq_of_beq hb22
  refine Z5 ?_
  exact ⟨by rw [right64, every_yes (fun i hi => hz2 i (by omega))] <;> first | rfl | (rw [List.length_map]; rfl), rfl⟩
 refine Z15 ?_;refine Z98 ?_;refine Z261 ?_
 refine gC (fun hb25 => ?_) (fun hb25 => ?_)
 ·
  refine Z35 ?_;refine Z243 ?_
  refine g_loop (α := Nat) (fun z => ⟨[(5, .d (.int .i64 (z : Nat))), (1, .d (.ptr (.agg [.int .i64 op, .str name, .int .i64 num, .sl (ks.map Tr.d)])))], []⟩) (fun z => ks.length - z) (fun z => z ≤ ks.length ∧ ∀ i, i < z → ∀ k, ks[i]? = some k → isStmtB k.op = true) 0 ⟨Nat.zero_le _, by simp⟩ (fun z hz Q' hn2 he2 hr2 => ?_) (le_of)
  obtain ⟨hz1, hz2⟩ := hz
  refine Z242 ?_;refine Z281 ?_
  refine gC (fun hb26 => ?_) (fun hb26 => ?_)
  ·
   have hlt : z < ks.length := by simpa using hb26
   obtain ⟨a, hka⟩ : ∃ k, ks[z]? = some k := ⟨_, List.getElem?_eq_getElem (by omega)⟩
   have hmem := List.mem_of_getElem? hka
   obtain ⟨aop, anm, anu, aks, hke⟩ : ∃ op nm nu ks', a = .mk op nm nu ks' := by cases a; exact ⟨_, _, _, _, rfl⟩
   subst hke
   have hxa := Tr.ds_get hka
   rw [Tr.d_mk] at hxa
   refine Z41 ?_;refine Z252 ?_;refine Z32 ?_;refine Z199 ?_
   refine gL (xs := [.tmp 194]) rfl (c96 _) ?_
   refine Z248 ?_
   refine gC (fun hb27 => ?_) (fun hb27 => ?_)
   ·
    refine Z15 ?_;refine Z98 ?_;refine Z4 ?_;refine Z197 ?_
    refine hr2 _ ?_
    refine Z188 ?_
    obtain rfl := eq_of_beq hb25
    refine Z5 ?_
    exact ⟨by rw [right66, every_no hmem (by show isStmtB aop = false; revert hb27; show (!isStmtB aop) = true → isStmtB aop = false; cases isStmtB aop <;> simp)]; rfl, rfl⟩
   refine Z102 ?_;refine Z98 ?_;refine Z291 ?_
   refine hn2 _ (z + 1) ⟨by omega, upto_step (p := fun _ (k : Tr) => isStmtB k.op) hz2 hka (by show isStmtB aop = true; revert hb27; show (!isStmtB aop) = false → isStmtB aop = true; cases isStmtB aop <;> simp)⟩ (by omega) le_of
  have hge : z = ks.length := by
   have : ¬ (z : Int) < ((ks.map Tr.d).length : Nat) := by simpa using hb26
   rw [List.length_map] at this
   omega
  refine Z34 ?_
  refine he2 _ _ ?_
  refine Z38 ?_;refine Z11 ?_
  refine gL (xs := [.tmp 197]) rfl ((Tr.d_mk op name num ks ▸ c177 (.mk op name num ks))) ?_
  refine Z197 ?_
  obtain rfl := eq_of_beq hb25
  refine Z5 ?_
  exact ⟨by rw [right66, every_yes (fun i hi => hz2 i (by omega))] <;> first | rfl | (rw [List.length_map]; rfl), rfl⟩
 refine Z71 ?_;refine Z193 ?_
 exfalso
 simp only [isStmtB, Bool.and_eq_true, decide_eq_true_eq, bne_iff_ne] at hE
 simp only [beq_eq_false_iff_ne] at hb0 hb1 hb2 hb3 hb5 hb6 hb8 hb10 hb11 hb13 hb14 hb17 hb18 hb20 hb21 hb22 hb25
 omega
end Go.Proofs.YtklkbfpjimeaoaaGreat
namespace Go.Proofs.YtklkbfpjimeaoaaGreat
open Go Go.Proofs.YtklkbfpjimeaoaaGreat.E
theorem right_none {op num : Int} {nm : ByteArray} {ks : List Tr} (h1 : isExprB op = false) (h2 : isStmtB op = false) (h3 : (op == 3) = false) (h30 : (op == 30) = false) (h31 : (op == 31) = false) (h67 : (op == 67) = false) : rightB (.mk op nm num ks) = false := by
 have hne : ∀ k : Int, isExprB k = true → (op == k) = false := fun k hk => by
  rw [beq_eq_false_iff_ne]; rintro rfl; rw [h1] at hk; cases hk
 have hns : ∀ k : Int, isStmtB k = true → (op == k) = false := fun k hk => by
  rw [beq_eq_false_iff_ne]; rintro rfl; rw [h2] at hk; cases hk
 have ho : otherB (.mk op nm num ks) = (false, false) := by
  rw [otherB, h3, h30, hne 4 rfl, hne 13 rfl, hne 15 rfl, hne 11 rfl, hns 50 rfl]
  simp only [Bool.false_eq_true, if_false]
 rw [rightB, ho, if_neg (by decide)]
 cases hs : shGet op with
 | none => rfl
 | some s =>
  obtain ⟨x, hx, rfl, rfl⟩ := shGet_tab hs
  simp only [shapeTab, List.mem_cons, List.not_mem_nil, or_false] at hx
  rcases hx with rfl | rfl | rfl | rfl | rfl | rfl | rfl | rfl | rfl | rfl | rfl | rfl | rfl | rfl | rfl | rfl | rfl | rfl | rfl | rfl | rfl | rfl | rfl | rfl | rfl | rfl | rfl | rfl | rfl | rfl | rfl | rfl | rfl <;> first | rfl | (cases h1; done) | (cases h2; done) | (cases h31; done) | (cases h67; done)
set_option maxHeartbeats 4000000 in
theorem c173 (t : Tr) (hok : t.Ok) : Pf Tryz.prog 173 [t.d] (.d (.bool (rightB t))) := by
 obtain ⟨op, name, num, ks⟩ := t
 rw [Tr.d_mk]
 try simp only [Tr.op_mk, Tr.nm_mk, Tr.nu_mk, Tr.kids_mk]
 refine pf_body (rvs := [.tmp 2]) [(0, .d (.agg [.int .i64 op, .str name, .int .i64 num, .sl (ks.map Tr.d)]))] Tryz.func173 Tryz.ntmps173 Tryz.results173 (fun S0 O0 w0 m0 hm0 => ?_)
 refine Z202 ?_
 refine gF 0 [] (.agg [.int .i64 op, .str name, .int .i64 num, .sl (ks.map Tr.d)]) rfl ?_
 refine Z0 ?_;refine Z160 ?_;refine Z199 ?_;refine Z204 ?_
 refine gC (fun hb0 => ?_) (fun hb0 => ?_)
 ·
  refine Z226 ?_
  refine gL (xs := [.tmp 7]) rfl ((Tr.d_mk op name num ks ▸ c236 (.mk op name num ks))) ?_
  refine Z197 ?_
  obtain rfl := eq_of_beq hb0
  refine Z5 ?_
  exact ⟨by rw [right3] <;> rfl, rfl⟩
 refine Z2 ?_;refine Z199 ?_
 refine gL (xs := [.tmp 11]) rfl (c81 _) ?_
 refine Z196 ?_
 refine gC (fun hb1 => ?_) (fun hb1 => ?_)
 ·
  refine Z226 ?_
  refine gL (xs := [.tmp 13]) rfl ((Tr.d_mk op name num ks ▸ c237 (.mk op name num ks) hok hb1)) ?_
  refine Z197 ?_;refine Z5 ?_
  exact ⟨rfl, rfl⟩
 refine Z2 ?_;refine Z199 ?_
 refine gL (xs := [.tmp 17]) rfl (c96 _) ?_
 refine Z196 ?_
 refine gC (fun hb2 => ?_) (fun hb2 => ?_)
 ·
  refine Z15 ?_;refine Z104 ?_;refine Z262 ?_
  refine gL (xs := [.tmp 19]) rfl ((Tr.d_mk op name num ks ▸ c238 (.mk op name num ks) hok hb2)) ?_
  refine Z197 ?_;refine Z5 ?_
  exact ⟨rfl, rfl⟩
 refine Z15 ?_;refine Z104 ?_;refine Z4 ?_;refine Z199 ?_;refine Z204 ?_
 refine gC (fun hb3 => ?_) (fun hb3 => ?_)
 ·
  refine Z226 ?_
  refine gL (xs := [.tmp 25]) rfl ((Tr.d_mk op name num ks ▸ c175 (.mk op name num ks))) ?_
  refine Z197 ?_
  obtain rfl := eq_of_beq hb3
  refine Z5 ?_
  exact ⟨by rw [right30] <;> rfl, rfl⟩
 refine Z2 ?_;refine Z199 ?_;refine Z204 ?_
 refine gC (fun hb4 => ?_) (fun hb4 => ?_)
 ·
  refine Z226 ?_
  refine gL (xs := [.tmp 31]) rfl ((Tr.d_mk op name num ks ▸ c177 (.mk op name num ks))) ?_
  refine Z231 ?_
  refine g_callg (xs := [.tmp 34, .const (.string ⟨#[101]⟩)]) rfl (fun hg => (Tr.d_mk op name num ks ▸ c239 (.mk op name num ks) ⟨#[101]⟩ hok)) ?_
  refine Z225 ?_
  obtain rfl := eq_of_beq hb4
  refine Z5 ?_
  exact ⟨by rw [right31] <;> rfl, rfl⟩
 refine Z2 ?_;refine Z199 ?_;refine Z204 ?_
 refine gC (fun hb5 => ?_) (fun hb5 => ?_)
 ·
  refine Z15 ?_;refine Z104 ?_;refine Z4 ?_
  refine sv rfl (y_buildSlice (xs := [.const (.string ⟨#[43]⟩), .const (.string ⟨#[42]⟩), .const (.string ⟨#[109, 105, 110]⟩), .const (.string ⟨#[109, 97, 120]⟩), .const (.string ⟨#[38, 38]⟩), .const (.string ⟨#[124, 124]⟩)]) u63 inf9) ?_
  refine Z212 ?_
  refine gL (xs := [.tmp 41, .tmp 43]) rfl (c176 [⟨#[43]⟩, ⟨#[42]⟩, ⟨#[109, 105, 110]⟩, ⟨#[109, 97, 120]⟩, ⟨#[38, 38]⟩, ⟨#[124, 124]⟩] name (by decide)) ?_
  refine Z206 ?_
  refine sg rfl (fun hg => sP 46 rfl hg (qL u3)) ?_
  refine sg rfl (fun hg => sP 47 rfl hg q_eql) ?_
  refine Z288 ?_
  refine g_callg (xs := [.tmp 51, .const (.string ⟨#[110]⟩)]) rfl (fun hg => (Tr.d_mk op name num ks ▸ c239 (.mk op name num ks) ⟨#[110]⟩ hok)) ?_
  refine Z225 ?_
  obtain rfl := eq_of_beq hb5
  refine Z5 ?_
  exact ⟨by rw [right67] <;> rfl, rfl⟩
 refine gK (bN (tN (gS ?_)))
 refine Z104 ?_;refine Z4 ?_;refine Z195 ?_
 exact ⟨by rw [right_none hb1 hb2 hb0 hb3 hb4 hb5], rfl⟩
set_option maxHeartbeats 4000000 in
theorem c93n : ∀ (n : Nat) (t : Tr), t.size ≤ n → t.Ok → Pf Tryz.prog 93 [t.d] (.d (.bool t.shaped)) := by
 intro n
 induction n with
 | zero => intro t h; exact absurd t.size_pos (by omega)
 | succ n ih =>
  intro t hsz hok
  obtain ⟨op, name, num, ks⟩ := t
  have hkd : ∀ k ∈ ks, k.size ≤ n := fun k hk => by
   have := Tr.size_mem hk
   rw [Tr.size] at hsz
   omega
  rw [Tr.d_mk]
  have hok' := hok
  cases hok' with | mk h1 h2 h3 h4 h5 =>
  refine pf_body (rvs := [.tmp 2]) [(0, .d (.agg [.int .i64 op, .str name, .int .i64 num, .sl (ks.map Tr.d)]))] Tryz.func93 Tryz.ntmps93 Tryz.results93 (fun S0 O0 w0 m0 hm0 => ?_)
  refine Z202 ?_
  refine gF 0 [] (.agg [.int .i64 op, .str name, .int .i64 num, .sl (ks.map Tr.d)]) rfl ?_
  refine Z201 ?_;refine Z11 ?_
  refine gL (xs := [.tmp 4]) rfl ((Tr.d_mk op name num ks ▸ c173 (.mk op name num ks) hok)) ?_
  refine Z248 ?_
  refine gC (fun hb0 => ?_) (fun hb0 => ?_)
  ·
   refine Z264 ?_
   exact ⟨by rw [Tr.shaped, show rightB (.mk op name num ks) = false from by simpa using hb0, Bool.false_and], rfl⟩
  refine Z58 ?_;refine Z243 ?_
  refine g_loop (α := Nat) (fun z => ⟨[(3, .d (.int .i64 (z : Nat))), (1, .d (.ptr (.agg [.int .i64 op, .str name, .int .i64 num, .sl (ks.map Tr.d)])))], []⟩) (fun z => ks.length - z) (fun z => z ≤ ks.length ∧ ∀ i, i < z → ∀ k, ks[i]? = some k → k.shaped = true) 0 ⟨Nat.zero_le _, by simp⟩ (fun z hz Q' hn0 he0 hr0 => ?_) (le_of)
  obtain ⟨hz1, hz2⟩ := hz
  refine Z242 ?_;refine Z281 ?_
  refine gC (fun hb1 => ?_) (fun hb1 => ?_)
  ·
   have hlt : z < ks.length := by simpa using hb1
   obtain ⟨a, hka⟩ : ∃ k, ks[z]? = some k := ⟨_, List.getElem?_eq_getElem (by omega)⟩
   have hmem := List.mem_of_getElem? hka
   obtain ⟨aop, anm, anu, aks, hke⟩ : ∃ op nm nu ks', a = .mk op nm nu ks' := by cases a; exact ⟨_, _, _, _, rfl⟩
   subst hke
   have hxa := Tr.ds_get hka
   rw [Tr.d_mk] at hxa
   refine Z41 ?_;refine Z252 ?_;refine Z213 ?_
   refine gL (xs := [.tmp 18]) rfl ((Tr.d_mk aop anm anu aks ▸ ih (.mk aop anm anu aks) (hkd _ hmem) (h5 _ hmem))) ?_
   refine Z248 ?_
   refine gC (fun hb2 => ?_) (fun hb2 => ?_)
   ·
    refine Z266 ?_;refine Z4 ?_;refine Z197 ?_
    refine hr0 _ ?_
    refine Z265 ?_
    exact ⟨by rw [Tr.shaped, Tr.shapeds_all, show (ks.any fun k => !k.shaped) = true from List.any_eq_true.2 ⟨_, hmem, by simpa using hb2⟩]; simp, rfl⟩
   refine Z102 ?_;refine Z64 ?_;refine Z291 ?_
   refine hn0 _ (z + 1) ⟨by omega, upto_step (p := fun _ (k : Tr) => k.shaped) hz2 hka (by simpa using hb2)⟩ (by omega) le_of
  have hge : z = ks.length := by
   have : ¬ (z : Int) < ((ks.map Tr.d).length : Nat) := by simpa using hb1
   rw [List.length_map] at this
   omega
  refine Z34 ?_
  refine he0 _ _ ?_
  refine Z270 ?_
  exact ⟨by rw [Tr.shaped, Tr.shapeds_all, show rightB (.mk op name num ks) = true from by simpa using hb0, show (ks.any fun k => !k.shaped) = false from List.any_eq_false.2 (fun k hk => by obtain ⟨i, hi⟩ := List.getElem?_of_mem hk; rw [hz2 i (by have := (List.getElem?_eq_some_iff.1 hi).1; omega) k hi]; decide)]; rfl, rfl⟩
theorem limits_one (t : Tr) : limitsE [t] = if (t.size : Int) > 4000 then 5 else if t.depth > 60 then 6 else 0 := by
 have hd := Tr.depth_bd t
 unfold limitsE
 rw [show Tr.sizes [t] = t.size from by simp [Tr.sizes], show Tr.deeps [t] 0 = t.depth from by rw [Tr.deeps, Tr.deeps, if_pos (by omega)]]
set_option maxHeartbeats 1000000 in
theorem c25 (t : Tr) (hok : t.Ok) (hszb : t.size ≤ 1000000000) : Pf Tryz.prog 25 [t.d] (.d (.int .i64 (nodeE t))) := by
 obtain ⟨op, name, num, ks⟩ := t
 rw [Tr.d_mk]
 try simp only [Tr.op_mk, Tr.nm_mk, Tr.nu_mk, Tr.kids_mk]
 refine pf_body (rvs := [.tmp 2]) [(0, .d (.agg [.int .i64 op, .str name, .int .i64 num, .sl (ks.map Tr.d)]))] Tryz.func25 Tryz.ntmps25 Tryz.results25 (fun S0 O0 w0 m0 hm0 => ?_)
 refine Z202 ?_
 refine gF 0 [] (.agg [.int .i64 op, .str name, .int .i64 num, .sl (ks.map Tr.d)]) rfl ?_
 refine Z194 ?_;refine Z11 ?_
 refine gL (xs := [.tmp 6]) rfl ((Tr.d_mk op name num ks ▸ c92n _ (.mk op name num ks) (Nat.le_refl _) hok hszb)) ?_
 refine Z279 ?_;refine Z219 ?_;refine Z62 ?_;refine Z3 ?_
 refine gC (fun hb0 => ?_) (fun hb0 => ?_)
 ·
  refine Z264 ?_
  exact ⟨by rw [nodeE, show limitsE [(.mk op name num ks)] = 5 from by rw [limits_one, if_pos (of_decide_eq_true hb0)], if_pos (by decide)], rfl⟩
 refine Z286 ?_;refine Z62 ?_;refine Z3 ?_
 refine gC (fun hb1 => ?_) (fun hb1 => ?_)
 ·
  refine Z15 ?_;refine Z75 ?_;refine Z247 ?_
  exact ⟨by rw [nodeE, show limitsE [(.mk op name num ks)] = 6 from by rw [limits_one, if_neg (of_decide_eq_false hb0), if_pos (of_decide_eq_true hb1)], if_pos (by decide)], rfl⟩
 refine Z74 ?_;refine Z75 ?_;refine Z4 ?_;refine Z199 ?_
 refine gL (xs := [.tmp 15]) rfl (c81 _) ?_
 refine Z37 ?_;refine Z206 ?_;refine Z173 ?_
 refine g_callg (xs := [.tmp 20]) rfl (fun hg => c96 _) ?_
 refine sg rfl (fun hg => sP 21 rfl hg q_not) ?_
 refine Z8 ?_;refine Z206 ?_;refine Z189 ?_
 refine sg rfl (fun hg => sP 26 rfl hg q_neq) ?_
 refine Z8 ?_;refine Z206 ?_;refine Z185 ?_
 refine sg rfl (fun hg => sP 31 rfl hg q_neq) ?_
 refine Z288 ?_
 refine g_callg (xs := [.tmp 35]) rfl (fun hg => (Tr.d_mk op name num ks ▸ c93n _ (.mk op name num ks) (Nat.le_refl _) hok)) ?_
 refine sg rfl (fun hg => sP 36 rfl hg q_not) ?_
 refine Z209 ?_
 refine gC (fun hb2 => ?_) (fun hb2 => ?_)
 ·
  refine Z15 ?_;refine Z75 ?_;refine Z247 ?_
  exact ⟨by rw [nodeE, show limitsE [(.mk op name num ks)] = 0 from by rw [limits_one, if_neg (of_decide_eq_false hb0), if_neg (of_decide_eq_false hb1)], if_neg (by decide), if_pos hb2], rfl⟩
 refine Z43 ?_;refine Z75 ?_;refine Z4 ?_;refine Z195 ?_
 exact ⟨by rw [nodeE, show limitsE [(.mk op name num ks)] = 0 from by rw [limits_one, if_neg (of_decide_eq_false hb0), if_neg (of_decide_eq_false hb1)], if_neg (by decide), if_neg (by rw [hb2]; decide)], rfl⟩
end Go.Proofs.YtklkbfpjimeaoaaGreat
namespace Go.Proofs.YtklkbfpjimeaoaaGreat
open Go Go.Proofs.YtklkbfpjimeaoaaGreat.E
theorem c113 (ts : List (ByteArray × Tr)) (g : FuncId) (fa fc : List D) (p : ByteArray × Tr → Bool) (hlim : ts.length ≤ 140737488355328)
 (hcb : ∀ x ∈ ts, Pf Tryz.prog g (fa ++ [cD x] ++ fc) (.d (.bool (p x)))) : Pf Tryz.prog 113 [.sl (ts.map cD), .fn (.func g) fa fc] (.d (.int .i64 (idxL p ts))) := by
 refine pf_body (rvs := [.tmp 4]) [(0, .d (.sl (ts.map cD))), (1, .d (.fn (.func g) fa fc))] Tryz.func113 Tryz.ntmps113 Tryz.results113 (fun S0 O0 w0 m0 hm0 => ?_)
 refine Z263 ?_;refine Z131 ?_;refine Z232 ?_
 refine g_loop (α := Nat) (fun z => ⟨[(8, .d (.int .i64 (z : Nat))), (7, .d (.int .i64 ((ts.map cD).length : Nat))), (6, .d (.sl (ts.map cD))), (1, .d (.fn (.func g) fa fc)), (0, .d (.sl (ts.map cD)))], []⟩) (fun z => ts.length - z) (fun z => z ≤ ts.length ∧ ∀ i, i < z → ∀ x, ts[i]? = some x → p x = false) 0 ⟨Nat.zero_le _, by simp⟩ (fun z hz Q' hn0 he0 hr0 => ?_) (le_of)
 obtain ⟨hz1, hz2⟩ := hz
 refine Z234 ?_
 refine gC (fun hb0 => ?_) (fun hb0 => ?_)
 ·
  have hlt : z < ts.length := by simpa using hb0
  obtain ⟨x, hx⟩ : ∃ x, ts[z]? = some x := ⟨_, List.getElem?_eq_getElem hlt⟩
  have hmem := List.mem_of_getElem? hx
  have hxd := cD_get hx
  have hcx := hcb x hmem
  obtain ⟨op, name, num, kids, _, hca⟩ := cD_agg x
  rw [hca] at hxd hcx
  refine Z257 ?_;refine Z275 ?_;refine Z1 ?_;refine Z132 ?_;refine Z190 ?_
  refine gL (xs := [.tmp 15]) rfl (hcx) ?_
  refine Z3 ?_
  refine gC (fun hb1 => ?_) (fun hb1 => ?_)
  ·
   refine Z220 ?_;refine Z197 ?_
   refine hr0 _ ?_
   refine Z55 ?_
   exact fin1 (by simp) ⟨idxL_found hz2 hx hb1, rfl⟩
  refine Z285 ?_
  refine hn0 _ (z + 1) ⟨by omega, idxL_step hz2 hx hb1⟩ (by omega) le_of
 have hge : z = ts.length := by
  have : ¬ (z : Int) < (ts.map cD).length := by simpa using hb0
  rw [List.length_map] at this
  omega
 refine Z34 ?_
 refine he0 _ _ ?_
 refine Z38 ?_;refine Z193 ?_
 exact fin1 (by simp) ⟨idxL_none (hge ▸ hz2), rfl⟩
theorem c40 (ts : List (ByteArray × Tr)) (g : FuncId) (fa fc : List D) (p : ByteArray × Tr → Bool) (hlim : ts.length ≤ 140737488355328)
 (hcb : ∀ x ∈ ts, Pf Tryz.prog g (fa ++ [cD x] ++ fc) (.d (.bool (p x)))) : Pf Tryz.prog 40 [.sl (ts.map cD), .fn (.func g) fa fc] (.d (.bool (ts.any p))) := by
 refine pf_body (rvs := [.tmp 4]) [(0, .d (.sl (ts.map cD))), (1, .d (.fn (.func g) fa fc))] Tryz.func40 Tryz.ntmps40 Tryz.results40 (fun S0 O0 w0 m0 hm0 => ?_)
 refine Z254 ?_
 refine gL (xs := [.tmp 5, .tmp 6]) rfl (c113 ts g fa fc p hlim hcb) ?_
 refine Z52 ?_;refine Z195 ?_
 exact ⟨by rw [idxL_any], rfl⟩
def badF (c : ByteArray × Tr) : Bool := decide ((c.1.size : Int) > 100) || !c.2.few 10
def fewL (l : List (ByteArray × Tr)) : Bool := decide ((l.length : Int) ≤ 10) && !(l.any badF)
theorem fewL_ok {l : List (ByteArray × Tr)} (h : fewL l = true) : l.length ≤ 10 ∧ ∀ c ∈ l, c.2.size ≤ 10 := by
 unfold fewL at h
 rw [Bool.and_eq_true, decide_eq_true_eq, Bool.not_eq_true', List.any_eq_false] at h
 refine ⟨by omega, fun c hc => ?_⟩
 have h1 := h.2 c hc
 unfold badF at h1
 rw [Bool.or_eq_true, not_or, Bool.not_eq_true', Bool.not_eq_false] at h1
 have := (Tr.few_size (by decide) h1.2).1
 omega
theorem badC_val {cn : ByteArray} {op : Int} {name : ByteArray} {num : Int} {ks : List Tr} : ((op == 1 || op == 2) && nodeE (.mk op name num ks) == 0) = !badC (cn, .mk op name num ks) := by
 simp only [badC]
 cases h1 : (op == 1) <;> cases h2 : (op == 2) <;> cases h3 : (nodeE (Tr.mk op name num ks) == 0) <;> simp_all [bne]
theorem c106 (cn : ByteArray) (op : Int) (name : ByteArray) (num : Int) (ks : List Tr) (hok : (Tr.mk op name num ks).Ok) : Pf Tryz.prog 106 [.agg [.str cn, .int .i64 op, .str name, .int .i64 num, .sl (ks.map Tr.d)]] (.d (.bool (badF (cn, .mk op name num ks)))) := by
 refine pf_body (rvs := [.tmp 2]) [(0, .d (.agg [.str cn, .int .i64 op, .str name, .int .i64 num, .sl (ks.map Tr.d)]))] Tryz.func106 Tryz.ntmps106 Tryz.results106 (fun S0 O0 w0 m0 hm0 => ?_)
 refine Z202 ?_
 refine gF 0 [] (.agg [.str cn, .int .i64 op, .str name, .int .i64 num, .sl (ks.map Tr.d)]) rfl ?_
 refine Z194 ?_
 refine vq rfl (qF u59 rfl sz9) ?_
 refine Z31 ?_;refine Z84 ?_;refine Z62 ?_;refine Z1 ?_
 refine sg rfl (fun hg => q_fieldp_agg u59 rfl sz27) ?_
 refine sg rfl (fun hg => sP 8 rfl hg (qG (ds := [.int .i64 op, .str name, .int .i64 num, .sl (ks.map Tr.d)]) (by exact sz27) u27 rfl)) ?_
 refine g_callg (xs := [.tmp 9, .const (.int .i64 (10))]) rfl (fun hg => (Tr.d_mk op name num ks ▸ c26 (.mk op name num ks) 10 hok (by decide) (by decide))) ?_
 refine sg rfl (fun hg => sP 10 rfl hg q_not) ?_
 refine Z24 ?_;refine Z195 ?_
 exact ⟨rfl, rfl⟩
theorem c31 (l : List (ByteArray × Tr)) (hl : ∀ c ∈ l, c.2.Ok) (hlim : l.length ≤ 140737488355328) : Pf Tryz.prog 31 [.sl (l.map cD)] (.d (.bool (fewL l))) := by
 refine pf_body (rvs := [.tmp 2]) [(0, .d (.sl (l.map cD)))] Tryz.func31 Tryz.ntmps31 Tryz.results31 (fun S0 O0 w0 m0 hm0 => ?_)
 refine Z249 ?_;refine Z131 ?_;refine Z112 ?_;refine Z205 ?_
 refine g_callg (xs := [.tmp 7, .func 106]) rfl (fun hg => c40 l 106 [] [] badF hlim (fun x hx => by obtain ⟨op, name, num, ks, h1, h2⟩ := cD_agg x; have h3 := hl x hx; rw [h1] at h3; rw [h2, show x = (x.1, .mk op name num ks) from by rw [← h1]]; exact c106 x.1 op name num ks h3)) ?_
 refine sg rfl (fun hg => sP 8 rfl hg q_not) ?_
 refine Z228 ?_
 exact ⟨by rw [fewL, List.length_map], rfl⟩
set_option maxHeartbeats 1000000 in
theorem c32 (l : List (ByteArray × Tr)) (hlim : l.length ≤ 1000000) : Pf Tryz.prog 32 [.sl (l.map cD)] (.d (.sl (l.map cD))) := by
 refine pf_body (rvs := [.tmp 2]) [(0, .d (.sl (l.map cD)))] Tryz.func32 Tryz.ntmps32 Tryz.results32 (fun S0 O0 w0 m0 hm0 => ?_)
 refine Z211 ?_;refine Z219 ?_;refine Z131 ?_;refine Z232 ?_
 refine g_loop (α := Nat) (fun z => ⟨[(8, .d (.int .i64 (z : Nat))), (7, .d (.int .i64 ((l.map cD).length : Nat))), (6, .d (.sl (l.map cD))), (3, .osl 5 ((l.take z).map cD))], []⟩) (fun z => l.length - z) (fun z => z ≤ l.length) 0 (Nat.zero_le _) (fun z hz Q' hn0 he0 hr0 => ?_) (le_of)
 have hll : (l.take z).length = z := by rw [List.length_take]; omega
 refine Z234 ?_
 refine gC (fun hb0 => ?_) (fun hb0 => ?_)
 ·
  have hlt : z < l.length := by simpa using hb0
  obtain ⟨c, hc⟩ : ∃ c, l[z]? = some c := ⟨_, List.getElem?_eq_getElem hlt⟩
  have hxd := cD_get hc
  obtain ⟨op, name, num, ks, _, hca⟩ := cD_agg c
  rw [hca] at hxd
  refine Z41 ?_;refine Z132 ?_;refine Z190 ?_;refine Z191 ?_;refine Z101 ?_
  refine gF 0 [] (.agg [.str c.1, .int .i64 op, .str name, .int .i64 num, .sl (ks.map Tr.d)]) rfl ?_
  refine Z100 ?_;refine Z129 ?_;refine Z190 ?_
  refine sv rfl (y_buildSlice (xs := [.tmp 13]) u51 inf66) ?_
  refine sv rfl (y_append u51 inf66 (hk := by first | exact cD_cells _ | (intro x hx; simp at hx; subst hx; simp [D.cells])) (hlen := by simp [lim]; omega) (hB := by simp [lim]; omega)) ?_
  rw [← hca, show (l.take z).map cD ++ [cD c] = (l.take (z + 1)).map cD from by rw [List.take_add_one, hc, List.map_append]; rfl]
  refine Z80 ?_;refine Z87 ?_;refine Z217 ?_
  refine hn0 _ (z + 1) (by omega) (by omega) le_of
 have hge : z = l.length := by
  have : ¬ (z : Int) < (l.map cD).length := by simpa using hb0
  rw [List.length_map] at this
  omega
 refine Z34 ?_
 refine he0 _ _ ?_
 refine Z38 ?_
 rw [hge, List.take_length]
 refine Z1 ?_;refine Z195 ?_
 exact ⟨rfl, rfl⟩
end Go.Proofs.YtklkbfpjimeaoaaGreat
