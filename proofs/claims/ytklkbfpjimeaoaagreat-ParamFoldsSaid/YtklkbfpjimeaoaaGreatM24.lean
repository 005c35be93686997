import Derived.Test.YtklkbfpjimeaoaaGreatM23
import Derived.Test.YtklkbfpjimeaoaaGreatM21
import Derived.Test.YtklkbfpjimeaoaaGreatM10
/- Contracts of functions. Conditions: none. -/
set_option linter.unusedSimpArgs false
set_option linter.unusedVariables false
set_option maxRecDepth 20000
namespace Go.Proofs.YtklkbfpjimeaoaaGreat
open Go Go.Proofs.YtklkbfpjimeaoaaGreat.E
section
set_option maxHeartbeats 16000000 in
theorem c238 (t : Tr) (hok : t.Ok) (hE : isStmtB t.op = true) : Pf Tryz.prog 238 [t.d] (.d (.bool (rightB t))) := by
 obtain ⟨op, name, num, ks⟩ := t
 rw [Tr.d_mk]
 try simp only [Tr.op_mk, Tr.nm_mk, Tr.nu_mk, Tr.kids_mk]
 replace hE : isStmtB op = true := hE
 have h4 : ks.length ≤ 140737488355328 := Tr.kids_len hok
 refine pf_body (rvs := [.tmp 2]) [(0, .d (.agg [.int .i64 op, .str name, .int .i64 num, .sl (ks.map Tr.d)]))] Tryz.func238 Tryz.ntmps238 Tryz.results238 (fun S0 O0 w0 m0 hm0 => ?_)
 refine Z404 ?_;refine Z323 ?_;refine Z139 ?_;refine Z330 ?_
 refine gC ?_ ?_ <;> intro hb0
 ·
  refine Z358 ?_
  refine gL (xs := [.tmp 10]) rfl ((Tr.d_mk op name num ks ▸ c288 (.mk op name num ks) hok)) ?_
  refine Z322 ?_
  obtain rfl := eq_of_beq hb0
  refine Z4 ?_
  exact Y0
 refine Z354 ?_
 refine gC ?_ ?_ <;> intro hb1
 ·
  refine Z3 ?_
  refine sv rfl (y_buildSlice (xs := [.const (.string ⟨#[61]⟩), .const (.string ⟨#[43, 61]⟩), .const (.string ⟨#[45, 61]⟩), .const (.string ⟨#[42, 61]⟩)]) u63 inf9) ?_
  refine Z336 ?_
  refine gL (xs := [.tmp 14, .tmp 16]) rfl (c176 [⟨#[61]⟩, ⟨#[43, 61]⟩, ⟨#[45, 61]⟩, ⟨#[42, 61]⟩] name (by decide)) ?_
  refine Z337 ?_
  refine sg rfl (fun hg => sP 19 rfl hg (qL u3)) ?_
  refine sg rfl (fun hg => sP 20 rfl hg q_eql) ?_
  refine Z353 ?_;refine Z31 ?_
  refine g_callg (xs := [.tmp 24, .const (.string ⟨#[101, 101]⟩)]) rfl (fun hg => (Tr.d_mk op name num ks ▸ c239 (.mk op name num ks) ⟨#[101, 101]⟩ hok)) ?_
  refine Z353 ?_
  refine g_split 27 true (fun hsp => ?_) (fun hsp => ?_)
  ·
   have hkd : kidsB ks ⟨#[101, 101]⟩ = true := by
    rw [beq_iff_eq, Bool.and_eq_true] at hsp
    exact hsp.2
   have hl2 : ks.length = 2 := kidsB_len hkd
   obtain ⟨a, hka⟩ : ∃ k, ks[0]? = some k := ⟨_, gE (by omega)⟩
   have hmem := mG hka
   obtain ⟨aop, anm, anu, aks, hke⟩ : ∃ op nm nu ks', a = .mk op nm nu ks' := by cases a; exact ⟨_, _, _, _, rfl⟩
   subst hke
   have hxa := Tr.ds_get hka
   rw [Tr.d_mk] at hxa
   refine Z207 ?_;refine Z231 ?_;refine Z169 ?_;refine Z151 ?_;refine Z186 ?_;refine Z302 ?_;refine Z117 ?_;refine Z49 ?_
   refine sg rfl (fun hg => sP 35 rfl hg (qL u22)) ?_
   refine sg rfl (fun hg => sP 36 rfl hg (qI u22 sz27)) ?_
   refine sg rfl (fun hg => sP 37 rfl hg (qF u27 rfl sz3)) ?_
   refine sg rfl (fun hg => sP 38 rfl hg (qL u3)) ?_
   refine sg rfl (fun hg => sP 39 rfl hg q_eql) ?_
   refine Z304 ?_;refine Z351 ?_
   obtain rfl := eq_of_beq hb1
   refine Z4 ?_
   exact ⟨by rw [right51, opK_get hka] <;> first | rfl | (rw [List.length_map]; rfl), rfl⟩
  skip
  refine Z435 ?_;refine Z359 ?_;refine Z329 ?_;refine Z351 ?_
  obtain rfl := eq_of_beq hb1
  have hk : (((hasB [⟨#[61]⟩, ⟨#[43, 61]⟩, ⟨#[45, 61]⟩, ⟨#[42, 61]⟩] name && num == 0) && kidsB ks ⟨#[101, 101]⟩)) = false := by
   revert hsp
   try rw [List.length_map]
   show ((((hasB [⟨#[61]⟩, ⟨#[43, 61]⟩, ⟨#[45, 61]⟩, ⟨#[42, 61]⟩] name && num == 0) && kidsB ks ⟨#[101, 101]⟩)) == true) = false → _
   cases (((hasB [⟨#[61]⟩, ⟨#[43, 61]⟩, ⟨#[45, 61]⟩, ⟨#[42, 61]⟩] name && num == 0) && kidsB ks ⟨#[101, 101]⟩)) <;> simp
  refine Z4 ?_
  exact ⟨by rw [right51, hk]; try rw [List.length_map]
            show PV.d (.bool ((((hasB [⟨#[61]⟩, ⟨#[43, 61]⟩, ⟨#[45, 61]⟩, ⟨#[42, 61]⟩] name && num == 0) && kidsB ks ⟨#[101, 101]⟩)) && _)) = _
            rw [hk]; rfl, rfl⟩
 refine Z354 ?_
 refine gC ?_ ?_ <;> intro hb2
 ·
  refine Z358 ?_
  refine gL (xs := [.tmp 45]) rfl ((Tr.d_mk op name num ks ▸ c177 (.mk op name num ks))) ?_
  refine Z382 ?_
  refine g_callg (xs := [.tmp 48, .const (.string ⟨#[101, 98]⟩)]) rfl (fun hg => (Tr.d_mk op name num ks ▸ c239 (.mk op name num ks) ⟨#[101, 98]⟩ hok)) ?_
  refine sg rfl (fun hg => sP 49 rfl hg qM) ?_
  refine Z31 ?_
  refine g_callg (xs := [.tmp 51, .const (.string ⟨#[101, 98, 98]⟩)]) rfl (fun hg => (Tr.d_mk op name num ks ▸ c239 (.mk op name num ks) ⟨#[101, 98, 98]⟩ hok)) ?_
  refine sg rfl (fun hg => sP 50 rfl hg q_or) ?_
  refine Z351 ?_
  obtain rfl := eq_of_beq hb2
  refine Z4 ?_
  exact Y0
 refine Z44 ?_;refine Z330 ?_
 refine gC ?_ ?_ <;> intro hb3
 ·
  refine Z127 ?_
  refine gC ?_ ?_ <;> intro hb4
  ·
   refine Z51 ?_;refine Z96 ?_;refine Z401 ?_
   refine gL (xs := [.tmp 58]) rfl ((Tr.d_mk op name num ks ▸ c177 (.mk op name num ks))) ?_
   refine Z382 ?_
   refine g_callg (xs := [.tmp 61, .const (.string ⟨#[101, 98]⟩)]) rfl (fun hg => (Tr.d_mk op name num ks ▸ c239 (.mk op name num ks) ⟨#[101, 98]⟩ hok)) ?_
   refine Z351 ?_
   obtain rfl := eq_of_beq hb4
   refine Z4 ?_
   exact Y0
  exact absurd (hb3.symm.trans hb4) (by decide)
 refine Z96 ?_;refine Z400 ?_
 refine gC ?_ ?_ <;> intro hb5
 ·
  refine Z358 ?_
  refine gL (xs := [.tmp 58]) rfl ((Tr.d_mk op name num ks ▸ c177 (.mk op name num ks))) ?_
  refine Z382 ?_
  refine g_callg (xs := [.tmp 61, .const (.string ⟨#[101, 98]⟩)]) rfl (fun hg => (Tr.d_mk op name num ks ▸ c239 (.mk op name num ks) ⟨#[101, 98]⟩ hok)) ?_
  refine Z351 ?_
  obtain rfl := eq_of_beq hb5
  refine Z4 ?_
  exact Y0
 refine Z44 ?_;refine Z330 ?_
 refine gC ?_ ?_ <;> intro hb6
 ·
  refine Z127 ?_
  refine gC ?_ ?_ <;> intro hb7
  ·
   refine Z358 ?_;refine Z239 ?_;refine Z322 ?_
   obtain rfl := eq_of_beq hb7
   refine Z4 ?_
   exact Y0
  exact absurd (hb6.symm.trans hb7) (by decide)
 refine Z354 ?_
 refine gC ?_ ?_ <;> intro hb8
 ·
  refine Z127 ?_
  refine gC ?_ ?_ <;> intro hb9
  ·
   refine Z358 ?_;refine Z239 ?_;refine Z322 ?_
   obtain rfl := eq_of_beq hb9
   refine Z4 ?_
   exact Y0
  exact absurd (hb8.symm.trans hb9) (by decide)
 refine Z400 ?_
 refine gC ?_ ?_ <;> intro hb10
 ·
  refine Z358 ?_;refine Z239 ?_;refine Z322 ?_
  obtain rfl := eq_of_beq hb10
  refine Z4 ?_
  exact Y0
 refine Z44 ?_;refine Z330 ?_
 refine gC ?_ ?_ <;> intro hb11
 ·
  refine Z127 ?_
  refine gC ?_ ?_ <;> intro hb12
  ·
   refine Z358 ?_
   refine gL (xs := [.tmp 73]) rfl ((Tr.d_mk op name num ks ▸ c177 (.mk op name num ks))) ?_
   refine Z382 ?_
   refine g_callg (xs := [.tmp 76, .const (.string ⟨#[98]⟩)]) rfl (fun hg => (Tr.d_mk op name num ks ▸ c239 (.mk op name num ks) ⟨#[98]⟩ hok)) ?_
   refine Z351 ?_
   obtain rfl := eq_of_beq hb12
   refine Z4 ?_
   exact Y0
  exact absurd (hb11.symm.trans hb12) (by decide)
 refine Z400 ?_
 refine gC ?_ ?_ <;> intro hb13
 ·
  refine Z51 ?_;refine Z96 ?_;refine Z401 ?_
  refine gL (xs := [.tmp 73]) rfl ((Tr.d_mk op name num ks ▸ c177 (.mk op name num ks))) ?_
  refine Z382 ?_
  refine g_callg (xs := [.tmp 76, .const (.string ⟨#[98]⟩)]) rfl (fun hg => (Tr.d_mk op name num ks ▸ c239 (.mk op name num ks) ⟨#[98]⟩ hok)) ?_
  refine Z351 ?_
  obtain rfl := eq_of_beq hb13
  refine Z4 ?_
  exact Y0
 refine Z51 ?_;refine Z96 ?_;refine Z400 ?_
 refine gC ?_ ?_ <;> intro hb14
 ·
  refine Z44 ?_;refine Z357 ?_
  refine g_loop (α := Nat) (fun z => ⟨[(3, .d (.int .i64 (z : Nat))), (1, .d (.ptr (.agg [.int .i64 op, .str name, .int .i64 num, .sl (ks.map Tr.d)])))], []⟩) (fun z => ks.length - z) (fun z => z ≤ ks.length ∧ ∀ i, i < z → ∀ k, ks[i]? = some k → (fun o : Int => o == 66) k.op = true) 0 ⟨Nat.zero_le _, by simp⟩ (fun z hz Q' hn0 he0 hr0 => ?_) (le_of)
  obtain ⟨hz1, hz2⟩ := hz
  refine Z355 ?_;refine Z428 ?_
  refine gC ?_ ?_ <;> intro hb15
  ·
   have hlt : z < ks.length := by simpa using hb15
   obtain ⟨a, hka⟩ : ∃ k, ks[z]? = some k := ⟨_, gE (by omega)⟩
   have hmem := mG hka
   obtain ⟨aop, anm, anu, aks, hke⟩ : ∃ op nm nu ks', a = .mk op nm nu ks' := by cases a; exact ⟨_, _, _, _, rfl⟩
   subst hke
   have hxa := Tr.ds_get hka
   rw [Tr.d_mk] at hxa
   refine Z26 ?_;refine Z386 ?_;refine Z40 ?_;refine Z323 ?_;refine Z350 ?_
   refine gC ?_ ?_ <;> intro hb16
   ·
    refine Z51 ?_;refine Z96 ?_;refine Z14 ?_;refine Z322 ?_;refine Z107 ?_
    refine bR (tR (bR (tR ?_)))
    obtain rfl := eq_of_beq hb14
    refine Z4 ?_
    exact ⟨by rw [right58, every_no hmem (by show (fun o : Int => o == 66) aop = false; revert hb16; show (aop != 66) = true → (aop == 66) = false; cases h : (aop == 66) <;> simp [bne, h])]; rfl, rfl⟩
   refine Z248 ?_;refine Z96 ?_;refine Z426 ?_
   refine hn0 _ (z + 1) ⟨by omega, upto_step (p := fun _ (k : Tr) => (fun o : Int => o == 66) k.op) hz2 hka (by show (fun o : Int => o == 66) aop = true; revert hb16; show (aop != 66) = false → (aop == 66) = true; cases h : (aop == 66) <;> simp [bne, h])⟩ (by omega) le_of
  have hge : z = ks.length := by
   have : ¬ (z : Int) < ((ks.map Tr.d).length : Nat) := by simpa using hb15
   rw [List.length_map] at this
   omega
  refine Z347 ?_;refine Z6 ?_;refine Z188 ?_;refine Z391 ?_
  refine sg rfl (fun hg => sP 98 rfl hg (qL u22)) ?_
  refine sg rfl (fun hg => sP 99 rfl hg (q_len u22)) ?_
  refine sg rfl (fun hg => sP 100 rfl hg q_gtr) ?_
  refine Z351 ?_
  obtain rfl := eq_of_beq hb14
  refine Z4 ?_
  exact ⟨by rw [right58, every_yes (fun i hi => hz2 i (by omega))] <;> first | rfl | (rw [List.length_map]; rfl), rfl⟩
 refine Z354 ?_
 refine gC ?_ ?_ <;> intro hb17
 ·
  refine Z358 ?_
  refine gL (xs := [.tmp 105]) rfl ((Tr.d_mk op name num ks ▸ c177 (.mk op name num ks))) ?_
  refine Z391 ?_
  refine sg rfl (fun hg => sP 108 rfl hg (qL u22)) ?_
  refine sg rfl (fun hg => sP 109 rfl hg (q_len u22)) ?_
  refine sg rfl (fun hg => sP 110 rfl hg q_eql) ?_
  refine sg rfl (fun hg => sP 111 rfl hg qM) ?_
  refine Z31 ?_
  refine g_callg (xs := [.tmp 113, .const (.string ⟨#[101]⟩)]) rfl (fun hg => (Tr.d_mk op name num ks ▸ c239 (.mk op name num ks) ⟨#[101]⟩ hok)) ?_
  refine sg rfl (fun hg => sP 112 rfl hg q_or) ?_
  refine Z351 ?_
  obtain rfl := eq_of_beq hb17
  refine Z4 ?_
  exact Y0
 refine Z44 ?_;refine Z330 ?_
 refine gC ?_ ?_ <;> intro hb18
 ·
  refine Z127 ?_
  refine gC ?_ ?_ <;> intro hb19
  ·
   refine Z358 ?_
   refine gL (xs := [.tmp 120]) rfl ((Tr.d_mk op name num ks ▸ c177 (.mk op name num ks))) ?_
   refine Z382 ?_
   refine g_callg (xs := [.tmp 123, .const (.string ⟨#[101]⟩)]) rfl (fun hg => (Tr.d_mk op name num ks ▸ c239 (.mk op name num ks) ⟨#[101]⟩ hok)) ?_
   refine Z351 ?_
   obtain rfl := eq_of_beq hb19
   refine Z4 ?_
   exact Y0
  exact absurd (hb18.symm.trans hb19) (by decide)
 refine Z400 ?_
 refine gC ?_ ?_ <;> intro hb20
 ·
  refine Z358 ?_
  refine gL (xs := [.tmp 120]) rfl ((Tr.d_mk op name num ks ▸ c177 (.mk op name num ks))) ?_
  refine Z382 ?_
  refine g_callg (xs := [.tmp 123, .const (.string ⟨#[101]⟩)]) rfl (fun hg => (Tr.d_mk op name num ks ▸ c239 (.mk op name num ks) ⟨#[101]⟩ hok)) ?_
  refine Z351 ?_
  obtain rfl := eq_of_beq hb20
  refine Z4 ?_
  exact Y0
 refine Z354 ?_
 refine gC ?_ ?_ <;> intro hb21
 ·
  refine Z358 ?_
  refine gL (xs := [.tmp 128]) rfl ((Tr.d_mk op name num ks ▸ c177 (.mk op name num ks))) ?_
  refine Z391 ?_
  refine sg rfl (fun hg => sP 131 rfl hg (qL u22)) ?_
  refine sg rfl (fun hg => sP 132 rfl hg (q_len u22)) ?_
  refine sg rfl (fun hg => sP 133 rfl hg q_eql) ?_
  refine Z353 ?_
  refine g_split 136 true (fun hsp => ?_) (fun hsp => ?_)
  ·
   have hl1 : ks.length = 1 := by
    rw [beq_iff_eq, Bool.and_eq_true, beq_iff_eq, List.length_map] at hsp
    omega
   obtain ⟨a, hka⟩ : ∃ k, ks[0]? = some k := ⟨_, gE (by omega)⟩
   have hmem := mG hka
   obtain ⟨aop, anm, anu, aks, hke⟩ : ∃ op nm nu ks', a = .mk op nm nu ks' := by cases a; exact ⟨_, _, _, _, rfl⟩
   subst hke
   have hxa := Tr.ds_get hka
   rw [Tr.d_mk] at hxa
   refine Z207 ?_;refine Z231 ?_;refine Z169 ?_;refine Z151 ?_;refine Z186 ?_;refine Z302 ?_;refine Z117 ?_;refine Z49 ?_
   refine sg rfl (fun hg => sP 144 rfl hg (qL u22)) ?_
   refine sg rfl (fun hg => sP 145 rfl hg (qI u22 sz27)) ?_
   refine sg rfl (fun hg => sP 146 rfl hg (qF u27 rfl sz3)) ?_
   refine sg rfl (fun hg => sP 147 rfl hg (qL u3)) ?_
   refine sg rfl (fun hg => sP 148 rfl hg q_eql) ?_
   refine Z304 ?_;refine Z351 ?_
   obtain rfl := eq_of_beq hb21
   refine Z4 ?_
   exact ⟨by rw [right63, opK_get hka] <;> first | rfl | (rw [List.length_map]; rfl), rfl⟩
  skip
  refine Z435 ?_;refine Z359 ?_;refine Z329 ?_;refine Z351 ?_
  obtain rfl := eq_of_beq hb21
  have hk : (bareB (.mk 63 name num ks) && (ks.length : Int) == 1) = false := by
   revert hsp
   try rw [List.length_map]
   show ((bareB (.mk 63 name num ks) && (ks.length : Int) == 1) == true) = false → _
   cases (bareB (.mk 63 name num ks) && (ks.length : Int) == 1) <;> simp
  refine Z4 ?_
  exact ⟨by rw [right63, hk]; try rw [List.length_map]
            show PV.d (.bool ((bareB (.mk 63 name num ks) && (ks.length : Int) == 1) && _)) = _
            rw [hk]; rfl, rfl⟩
 refine Z354 ?_
 refine gC ?_ ?_ <;> intro hb22
 ·
  refine Z311 ?_;refine Z96 ?_;refine Z14 ?_;refine Z357 ?_
  refine g_loop (α := Nat) (fun z => ⟨[(4, .d (.int .i64 (z : Nat))), (1, .d (.ptr (.agg [.int .i64 op, .str name, .int .i64 num, .sl (ks.map Tr.d)])))], []⟩) (fun z => ks.length - z) (fun z => z ≤ ks.length ∧ ∀ i, i < z → ∀ k, ks[i]? = some k → (fun o : Int => isExprB o || o == 3) k.op = true) 0 ⟨Nat.zero_le _, by simp⟩ (fun z hz Q' hn1 he1 hr1 => ?_) (le_of)
  obtain ⟨hz1, hz2⟩ := hz
  refine Z355 ?_;refine Z428 ?_
  refine gC ?_ ?_ <;> intro hb23
  ·
   have hlt : z < ks.length := by simpa using hb23
   obtain ⟨a, hka⟩ : ∃ k, ks[z]? = some k := ⟨_, gE (by omega)⟩
   have hmem := mG hka
   obtain ⟨aop, anm, anu, aks, hke⟩ : ∃ op nm nu ks', a = .mk op nm nu ks' := by cases a; exact ⟨_, _, _, _, rfl⟩
   subst hke
   have hxa := Tr.ds_get hka
   rw [Tr.d_mk] at hxa
   refine Z26 ?_;refine Z386 ?_;refine Z40 ?_;refine Z323 ?_
   refine gL (xs := [.tmp 166]) rfl (c81 _) ?_
   refine Z52 ?_;refine Z391 ?_
   refine sg rfl (fun hg => sP 170 rfl hg (qL u22)) ?_
   refine Z18 ?_
   refine sg rfl (fun hg => sP 172 rfl hg (sP 171 rfl hg (qI u22 sz27))) ?_
   refine sg rfl (fun hg => sP 173 rfl hg (qF u27 rfl sz3)) ?_
   refine sg rfl (fun hg => sP 174 rfl hg (qL u3)) ?_
   refine sg rfl (fun hg => sP 175 rfl hg q_neq) ?_
   refine Z369 ?_
   refine gC ?_ ?_ <;> intro hb24
   ·
    refine Z51 ?_;refine Z96 ?_;refine Z14 ?_;refine Z322 ?_
    refine hr1 _ ?_
    refine bR (tR (bR (tR ?_)))
    obtain rfl := eq_of_beq hb22
    refine Z4 ?_
    exact ⟨by rw [right64, every_no hmem (by show (fun o : Int => isExprB o || o == 3) aop = false; revert hb24; show (!isExprB aop && aop != 3) = true → (isExprB aop || aop == 3) = false; cases isExprB aop <;> cases h : (aop == 3) <;> simp [bne, h])]; rfl, rfl⟩
   refine Z248 ?_;refine Z96 ?_;refine Z426 ?_
   refine hn1 _ (z + 1) ⟨by omega, upto_step (p := fun _ (k : Tr) => (fun o : Int => isExprB o || o == 3) k.op) hz2 hka (by show (fun o : Int => isExprB o || o == 3) aop = true; revert hb24; show (!isExprB aop && aop != 3) = false → (isExprB aop || aop == 3) = true; cases isExprB aop <;> cases h : (aop == 3) <;> simp [bne, h])⟩ (by omega) le_of
  have hge : z = ks.length := by
   have : ¬ (z : Int) < ((ks.map Tr.d).length : Nat) := by simpa using hb23
   rw [List.length_map] at this
   omega
  refine Z439 ?_;refine Z38 ?_;refine Z6 ?_
  refine gL (xs := [.tmp 178]) rfl ((Tr.d_mk op name num ks ▸ c177 (.mk op name num ks))) ?_
  refine Z322 ?_
  obtain rfl := eq_of_beq hb22
  refine Z4 ?_
  exact ⟨by rw [right64, every_yes (fun i hi => hz2 i (by omega))] <;> first | rfl | (rw [List.length_map]; rfl), rfl⟩
 refine Z51 ?_;refine Z96 ?_;refine Z400 ?_
 refine gC ?_ ?_ <;> intro hb25
 ·
  refine Z44 ?_;refine Z357 ?_
  refine g_loop (α := Nat) (fun z => ⟨[(5, .d (.int .i64 (z : Nat))), (1, .d (.ptr (.agg [.int .i64 op, .str name, .int .i64 num, .sl (ks.map Tr.d)])))], []⟩) (fun z => ks.length - z) (fun z => z ≤ ks.length ∧ ∀ i, i < z → ∀ k, ks[i]? = some k → isStmtB k.op = true) 0 ⟨Nat.zero_le _, by simp⟩ (fun z hz Q' hn2 he2 hr2 => ?_) (le_of)
  obtain ⟨hz1, hz2⟩ := hz
  refine Z355 ?_;refine Z428 ?_
  refine gC ?_ ?_ <;> intro hb26
  ·
   have hlt : z < ks.length := by simpa using hb26
   obtain ⟨a, hka⟩ : ∃ k, ks[z]? = some k := ⟨_, gE (by omega)⟩
   have hmem := mG hka
   obtain ⟨aop, anm, anu, aks, hke⟩ : ∃ op nm nu ks', a = .mk op nm nu ks' := by cases a; exact ⟨_, _, _, _, rfl⟩
   subst hke
   have hxa := Tr.ds_get hka
   rw [Tr.d_mk] at hxa
   refine Z26 ?_;refine Z386 ?_;refine Z40 ?_;refine Z323 ?_
   refine gL (xs := [.tmp 194]) rfl (c96 _) ?_
   refine Z381 ?_
   refine gC ?_ ?_ <;> intro hb27
   ·
    refine Z51 ?_;refine Z96 ?_;refine Z14 ?_;refine Z322 ?_
    refine hr2 _ ?_
    refine bR (tR (bR (tR ?_)))
    obtain rfl := eq_of_beq hb25
    refine Z4 ?_
    exact ⟨by rw [right66, every_no hmem (by show isStmtB aop = false; revert hb27; show (!isStmtB aop) = true → isStmtB aop = false; cases isStmtB aop <;> simp)]; rfl, rfl⟩
   refine Z248 ?_;refine Z96 ?_;refine Z426 ?_
   refine hn2 _ (z + 1) ⟨by omega, upto_step (p := fun _ (k : Tr) => isStmtB k.op) hz2 hka (by show isStmtB aop = true; revert hb27; show (!isStmtB aop) = false → isStmtB aop = true; cases isStmtB aop <;> simp)⟩ (by omega) le_of
  have hge : z = ks.length := by
   have : ¬ (z : Int) < ((ks.map Tr.d).length : Nat) := by simpa using hb26
   rw [List.length_map] at this
   omega
  refine Z37 ?_;refine Z312 ?_;refine Z38 ?_;refine Z6 ?_
  refine gL (xs := [.tmp 197]) rfl ((Tr.d_mk op name num ks ▸ c177 (.mk op name num ks))) ?_
  refine Z322 ?_
  obtain rfl := eq_of_beq hb25
  refine Z4 ?_
  exact ⟨by rw [right66, every_yes (fun i hi => hz2 i (by omega))] <;> first | rfl | (rw [List.length_map]; rfl), rfl⟩
 refine Z82 ?_;refine Z317 ?_
 exfalso
 simp only [isStmtB, Bool.and_eq_true, decide_eq_true_eq, bne_iff_ne] at hE
 simp only [beq_eq_false_iff_ne] at hb0 hb1 hb2 hb3 hb5 hb6 hb8 hb10 hb11 hb13 hb14 hb17 hb18 hb20 hb21 hb22 hb25
 omega
end
section
theorem right_none {op num : Int} {nm : ByteArray} {ks : List Tr} (h1 : isExprB op = false) (h2 : isStmtB op = false) (h3 : (op == 3) = false) (h30 : (op == 30) = false) (h31 : (op == 31) = false) (h67 : (op == 67) = false) : rightB (.mk op nm num ks) = false := by
 have hne : ∀ k : Int, isExprB k = true → (op == k) = false := fun k hk => by
  rw [beq_eq_false_iff_ne]; rintro rfl; rw [h1] at hk; cases hk
 have hns : ∀ k : Int, isStmtB k = true → (op == k) = false := fun k hk => by
  rw [beq_eq_false_iff_ne]; rintro rfl; rw [h2] at hk; cases hk
 have ho : otherB (.mk op nm num ks) = (false, false) := by
  rw [otherB, h3, h30, hne 4 rfl, hne 13 rfl, hne 15 rfl, hne 11 rfl, hns 50 rfl]
  simp only [Bool.false_eq_true, if_false]
 rw [rightB, ho, if_neg (by decide)]
 cases hs : shGet op with
 | none => rfl
 | some s =>
  obtain ⟨x, hx, rfl, rfl⟩ := shGet_tab hs
  simp only [shapeTab, List.mem_cons, List.not_mem_nil, or_false] at hx
  rcases hx with rfl | rfl | rfl | rfl | rfl | rfl | rfl | rfl | rfl | rfl | rfl | rfl | rfl | rfl | rfl | rfl | rfl | rfl | rfl | rfl | rfl | rfl | rfl | rfl | rfl | rfl | rfl | rfl | rfl | rfl | rfl | rfl | rfl <;> first | rfl | (cases h1; done) | (cases h2; done) | (cases h31; done) | (cases h67; done)
set_option maxHeartbeats 4000000 in
theorem c173 (t : Tr) (hok : t.Ok) : Pf Tryz.prog 173 [t.d] (.d (.bool (rightB t))) := by
 obtain ⟨op, name, num, ks⟩ := t
 rw [Tr.d_mk]
 try simp only [Tr.op_mk, Tr.nm_mk, Tr.nu_mk, Tr.kids_mk]
 refine pf_body (rvs := [.tmp 2]) [(0, .d (.agg [.int .i64 op, .str name, .int .i64 num, .sl (ks.map Tr.d)]))] Tryz.func173 Tryz.ntmps173 Tryz.results173 (fun S0 O0 w0 m0 hm0 => ?_)
 refine Z345 ?_;refine Z1 ?_;refine Z260 ?_;refine Z323 ?_;refine Z330 ?_
 refine gC ?_ ?_ <;> intro hb0
 ·
  refine Z358 ?_
  refine gL (xs := [.tmp 7]) rfl ((Tr.d_mk op name num ks ▸ c236 (.mk op name num ks))) ?_
  refine Z322 ?_
  obtain rfl := eq_of_beq hb0
  refine Z4 ?_
  exact ⟨by rw [right3] <;> rfl, rfl⟩
 refine Z3 ?_;refine Z323 ?_
 refine gL (xs := [.tmp 11]) rfl (c81 _) ?_
 refine Z319 ?_
 refine gC ?_ ?_ <;> intro hb1
 ·
  refine Z358 ?_
  refine gL (xs := [.tmp 13]) rfl ((Tr.d_mk op name num ks ▸ c237 (.mk op name num ks) hok hb1)) ?_
  refine Z322 ?_;refine Z4 ?_
  exact ⟨rfl, rfl⟩
 refine Z3 ?_;refine Z323 ?_
 refine gL (xs := [.tmp 17]) rfl (c96 _) ?_
 refine Z319 ?_
 refine gC ?_ ?_ <;> intro hb2
 ·
  refine Z51 ?_;refine Z233 ?_;refine Z401 ?_
  refine gL (xs := [.tmp 19]) rfl ((Tr.d_mk op name num ks ▸ c238 (.mk op name num ks) hok hb2)) ?_
  refine Z322 ?_;refine Z4 ?_
  exact ⟨rfl, rfl⟩
 refine Z51 ?_;refine Z233 ?_;refine Z14 ?_;refine Z323 ?_;refine Z330 ?_
 refine gC ?_ ?_ <;> intro hb3
 ·
  refine Z358 ?_
  refine gL (xs := [.tmp 25]) rfl ((Tr.d_mk op name num ks ▸ c175 (.mk op name num ks))) ?_
  refine Z322 ?_
  obtain rfl := eq_of_beq hb3
  refine Z4 ?_
  exact ⟨by rw [right30] <;> rfl, rfl⟩
 refine Z3 ?_;refine Z323 ?_;refine Z330 ?_
 refine gC ?_ ?_ <;> intro hb4
 ·
  refine Z358 ?_
  refine gL (xs := [.tmp 31]) rfl ((Tr.d_mk op name num ks ▸ c177 (.mk op name num ks))) ?_
  refine Z382 ?_
  refine g_callg (xs := [.tmp 34, .const (.string ⟨#[101]⟩)]) rfl (fun hg => (Tr.d_mk op name num ks ▸ c239 (.mk op name num ks) ⟨#[101]⟩ hok)) ?_
  refine Z351 ?_
  obtain rfl := eq_of_beq hb4
  refine Z4 ?_
  exact ⟨by rw [right31] <;> rfl, rfl⟩
 refine Z3 ?_;refine Z323 ?_;refine Z330 ?_
 refine gC ?_ ?_ <;> intro hb5
 ·
  refine Z51 ?_;refine Z233 ?_;refine Z14 ?_
  refine sv rfl (y_buildSlice (xs := [.const (.string ⟨#[43]⟩), .const (.string ⟨#[42]⟩), .const (.string ⟨#[109, 105, 110]⟩), .const (.string ⟨#[109, 97, 120]⟩), .const (.string ⟨#[38, 38]⟩), .const (.string ⟨#[124, 124]⟩)]) u63 inf9) ?_
  refine Z336 ?_
  refine gL (xs := [.tmp 41, .tmp 43]) rfl (c176 [⟨#[43]⟩, ⟨#[42]⟩, ⟨#[109, 105, 110]⟩, ⟨#[109, 97, 120]⟩, ⟨#[38, 38]⟩, ⟨#[124, 124]⟩] name (by decide)) ?_
  refine Z337 ?_
  refine sg rfl (fun hg => sP 46 rfl hg (qL u3)) ?_
  refine sg rfl (fun hg => sP 47 rfl hg q_eql) ?_
  refine Z353 ?_;refine Z31 ?_
  refine g_callg (xs := [.tmp 51, .const (.string ⟨#[110]⟩)]) rfl (fun hg => (Tr.d_mk op name num ks ▸ c239 (.mk op name num ks) ⟨#[110]⟩ hok)) ?_
  refine Z351 ?_
  obtain rfl := eq_of_beq hb5
  refine Z4 ?_
  exact ⟨by rw [right67] <;> rfl, rfl⟩
 refine gK (bN (tN (gS ?_)))
 refine Z233 ?_;refine Z14 ?_;refine Z320 ?_
 exact ⟨by rw [right_none hb1 hb2 hb0 hb3 hb4 hb5], rfl⟩
set_option maxHeartbeats 4000000 in
theorem c93n : ∀ (n : Nat) (t : Tr), t.size ≤ n → t.Ok → Pf Tryz.prog 93 [t.d] (.d (.bool t.shaped)) := by
 intro n
 induction n with
 | zero => intro t h; exact absurd t.size_pos (by omega)
 | succ n ih =>
  intro t hsz hok
  obtain ⟨op, name, num, ks⟩ := t
  have hkd : ∀ k ∈ ks, k.size ≤ n := fun k hk => by
   have := Tr.size_mem hk
   rw [Tr.size] at hsz
   omega
  rw [Tr.d_mk]
  have hok' := hok
  cases hok' with | mk h1 h2 h3 h4 h5 =>
  refine pf_body (rvs := [.tmp 2]) [(0, .d (.agg [.int .i64 op, .str name, .int .i64 num, .sl (ks.map Tr.d)]))] Tryz.func93 Tryz.ntmps93 Tryz.results93 (fun S0 O0 w0 m0 hm0 => ?_)
  refine Z404 ?_;refine Z6 ?_
  refine gL (xs := [.tmp 4]) rfl ((Tr.d_mk op name num ks ▸ c173 (.mk op name num ks) hok)) ?_
  refine Z381 ?_
  refine gC ?_ ?_ <;> intro hb0
  ·
   refine Z375 ?_
   exact ⟨by rw [Tr.shaped, show rightB (.mk op name num ks) = false from by simpa using hb0, Bool.false_and], rfl⟩
  refine Z59 ?_;refine Z357 ?_
  refine g_loop (α := Nat) (fun z => ⟨[(3, .d (.int .i64 (z : Nat))), (1, .d (.ptr (.agg [.int .i64 op, .str name, .int .i64 num, .sl (ks.map Tr.d)])))], []⟩) (fun z => ks.length - z) (fun z => z ≤ ks.length ∧ ∀ i, i < z → ∀ k, ks[i]? = some k → k.shaped = true) 0 ⟨Nat.zero_le _, by simp⟩ (fun z hz Q' hn0 he0 hr0 => ?_) (le_of)
  obtain ⟨hz1, hz2⟩ := hz
  refine Z355 ?_;refine Z428 ?_
  refine gC ?_ ?_ <;> intro hb1
  ·
   have hlt : z < ks.length := by simpa using hb1
   obtain ⟨a, hka⟩ : ∃ k, ks[z]? = some k := ⟨_, gE (by omega)⟩
   have hmem := mG hka
   obtain ⟨aop, anm, anu, aks, hke⟩ : ∃ op nm nu ks', a = .mk op nm nu ks' := by cases a; exact ⟨_, _, _, _, rfl⟩
   subst hke
   have hxa := Tr.ds_get hka
   rw [Tr.d_mk] at hxa
   refine Z26 ?_;refine Z386 ?_;refine Z343 ?_
   refine gL (xs := [.tmp 18]) rfl ((Tr.d_mk aop anm anu aks ▸ ih (.mk aop anm anu aks) (hkd _ hmem) (h5 _ hmem))) ?_
   refine Z381 ?_
   refine gC ?_ ?_ <;> intro hb2
   ·
    refine Z405 ?_;refine Z14 ?_;refine Z322 ?_;refine Z394 ?_
    exact ⟨by rw [Tr.shaped, Tr.shapeds_all, show (ks.any fun k => !k.shaped) = true from List.any_eq_true.2 ⟨_, hmem, by simpa using hb2⟩]; simp, rfl⟩
   refine Z248 ?_;refine Z92 ?_;refine Z426 ?_
   refine hn0 _ (z + 1) ⟨by omega, upto_step (p := fun _ (k : Tr) => k.shaped) hz2 hka (by simpa using hb2)⟩ (by omega) le_of
  have hge : z = ks.length := by
   have : ¬ (z : Int) < ((ks.map Tr.d).length : Nat) := by simpa using hb1
   rw [List.length_map] at this
   omega
  refine Z419 ?_
  exact ⟨by rw [Tr.shaped, Tr.shapeds_all, show rightB (.mk op name num ks) = true from by simpa using hb0, show (ks.any fun k => !k.shaped) = false from List.any_eq_false.2 (fun k hk => by obtain ⟨i, hi⟩ := List.getElem?_of_mem hk; rw [hz2 i (by have := (lG hi); omega) k hi]; decide)]; rfl, rfl⟩
end
section
theorem c193 (n : Int) : Pf Tryz.prog 193 [.int .i64 n] (.d (.agg [.int .i64 1, .str ⟨#[]⟩, .int .i64 n, .sl []])) := by
 refine pf_body (rvs := [.cell 2 27]) [(0, .d (.int .i64 n))] Tryz.func193 Tryz.ntmps193 Tryz.results193 (fun S0 O0 w0 m0 hm0 => ?_)
 refine Z3 ?_;refine Z29 ?_;refine Z7 ?_;refine Z0 ?_;refine Z392 ?_;refine Z8 ?_;refine Z102 ?_
 exact ⟨by rfl, rfl⟩
theorem c251 (b : Bool) : Pf Tryz.prog 251 [.bool b] (.d (.agg [.int .i64 2, .str ⟨#[]⟩, .int .i64 (if b = true then 1 else 0), .sl []])) := by
 refine pf_body (rvs := [.cell 2 27]) [(0, .d (.bool b))] Tryz.func251 Tryz.ntmps251 Tryz.results251 (fun S0 O0 w0 m0 hm0 => ?_)
 refine Z3 ?_;refine Z29 ?_;refine Z11 ?_;refine Z0 ?_;refine Z5 ?_
 refine gC ?_ ?_ <;> intro hb0
 ·
  refine Z3 ?_;refine Z392 ?_;refine Z20 ?_;refine Z102 ?_
  exact ⟨by rw [hb0]; rfl, rfl⟩
 refine Z46 ?_;refine Z392 ?_;refine Z8 ?_;refine Z102 ?_
 exact ⟨by rw [hb0]; rfl, rfl⟩
def unaryR (nm : ByteArray) : Tr → Tr × Bool
 | .mk op _ num _ =>
  if ((decide (nm = mB) && op == 1) && num != minI) = true then (intT (W (0 - num)), true)
  else if (decide (nm = bangB) && op == 2) = true then (boolT (num == 0), true) else (z0, false)
def cmpR (nm : ByteArray) (a b : Int) : Bool × Bool :=
 if decide (nm = ⟨#[61, 61]⟩) = true then (a == b, true) else if decide (nm = ⟨#[33, 61]⟩) = true then (a != b, true) else if decide (nm = ⟨#[60]⟩) = true then (decide (a < b), true)
 else if decide (nm = ⟨#[60, 61]⟩) = true then (decide (a ≤ b), true) else if decide (nm = ⟨#[62]⟩) = true then (decide (a > b), true) else if decide (nm = ⟨#[62, 61]⟩) = true then (decide (a ≥ b), true) else (false, false)
def quoBad (a b : Int) : Bool := b == 0 || (a == minI && b == -1)
def mulBad (a b : Int) : Bool := (a == minI && b == -1) || (b == minI && a == -1)
def ariR (nm : ByteArray) (a b : Int) : Int × Bool :=
 if decide (nm = ⟨#[43]⟩) = true then (W (a + b), decide (b ≥ 0) == decide (W (a + b) ≥ a))
 else if decide (nm = ⟨#[45]⟩) = true then (W (a - b), decide (b ≥ 0) == decide (W (a - b) ≤ a))
 else if decide (nm = ⟨#[42]⟩) = true then (if (a == 0 || b == 0) = true then (0, true) else if mulBad a b = true then (0, false) else (W (a * b), W ((W (a * b)).tdiv b) == a))
 else if decide (nm = ⟨#[47]⟩) = true then (if quoBad a b = true then (0, false) else (W (a.tdiv b), true))
 else if decide (nm = ⟨#[37]⟩) = true then (if quoBad a b = true then (0, false) else (a.tmod b, true))
 else (0, false)
def binR (nm : ByteArray) : Tr → Tr → Tr × Bool
 | .mk xop _ xnu _, .mk yop _ ynu _ =>
  if (xop != yop) = true then (z0, false)
  else if ((xop == 2 && !decide (nm = ⟨#[61, 61]⟩)) && !decide (nm = ⟨#[33, 61]⟩)) = true then (z0, false)
  else if (cmpR nm xnu ynu).2 = true then (boolT (cmpR nm xnu ynu).1, true) else (intT (ariR nm xnu ynu).1, (ariR nm xnu ynu).2)
theorem z0_d : z0.d = .agg [.int .i64 0, .str ⟨#[]⟩, .int .i64 0, .sl []] := by rw [z0, Tr.d_mk]; rfl
theorem intT_d (n : Int) : (intT n).d = .agg [.int .i64 1, .str ⟨#[]⟩, .int .i64 n, .sl []] := by rw [intT, Tr.d_mk]; rfl
theorem boolT_d (b : Bool) : (boolT b).d = .agg [.int .i64 2, .str ⟨#[]⟩, .int .i64 (if b = true then 1 else 0), .sl []] := by rw [boolT, Tr.d_mk]; rfl
set_option maxHeartbeats 1000000 in
theorem c189 (t : Tr) (nm : ByteArray) : Pf Tryz.prog 189 [.str nm, t.d] (.tup [.d (unaryR nm t).1.d, .d (.bool (unaryR nm t).2)]) := by
 obtain ⟨op, name, num, ks⟩ := t
 rw [Tr.d_mk]
 try simp only [Tr.op_mk, Tr.nm_mk, Tr.nu_mk, Tr.kids_mk]
 refine pf_body (rvs := [.cell 4 27, .tmp 5]) [(0, .d (.str nm)), (1, .d (.agg [.int .i64 op, .str name, .int .i64 num, .sl (ks.map Tr.d)]))] Tryz.func189 Tryz.ntmps189 Tryz.results189 (fun S0 O0 w0 m0 hm0 => ?_)
 refine Z345 ?_;refine Z29 ?_;refine Z373 ?_;refine Z54 ?_;refine Z337 ?_;refine Z236 ?_
 refine sg rfl (fun hg => sP 10 rfl hg q_eql) ?_
 refine Z13 ?_;refine Z337 ?_
 refine sg rfl (fun hg => sP 14 rfl hg (qL u3)) ?_
 refine sg rfl (fun hg => sP 15 rfl hg q_neq) ?_
 refine Z369 ?_
 refine gC ?_ ?_ <;> intro hb0
 ·
  refine Z51 ?_
  refine gP [0, 1, 3, 4, 5] ?_
  refine Z14 ?_;refine Z323 ?_;refine Z190 ?_
  refine gL (xs := [.tmp 20]) rfl (c193 _) ?_
  refine Z19 ?_;refine Z413 ?_
  exact ⟨by simp only [unaryR, show ((decide (nm = mB) && op == 1) && num != minI) = true from hb0, if_true] <;> rfl, rfl⟩
 refine Z110 ?_
 refine gP [0, 1, 3, 4, 5] ?_
 refine Z335 ?_;refine Z54 ?_;refine Z337 ?_
 refine sg rfl (fun hg => sP 25 rfl hg (qL u3)) ?_
 refine sg rfl (fun hg => sP 26 rfl hg q_eql) ?_
 refine Z369 ?_
 refine gC ?_ ?_ <;> intro hb1
 ·
  refine Z3 ?_;refine Z364 ?_
  refine gL (xs := [.tmp 31]) rfl (c251 _) ?_
  refine Z19 ?_;refine Z413 ?_
  exact ⟨by simp only [unaryR, show ((decide (nm = mB) && op == 1) && num != minI) = false from hb0, show (decide (nm = bangB) && op == 2) = true from hb1, Bool.false_eq_true, if_true, if_false]; rw [boolT_d], rfl⟩
 refine Z46 ?_;refine Z392 ?_;refine Z438 ?_
 exact ⟨by simp only [unaryR, show ((decide (nm = mB) && op == 1) && num != minI) = false from hb0, show (decide (nm = bangB) && op == 2) = false from hb1, Bool.false_eq_true, if_false]; rw [z0_d], rfl⟩
set_option maxHeartbeats 1000000 in
theorem c252 (nm : ByteArray) (a b : Int) : Pf Tryz.prog 252 [.str nm, .int .i64 a, .int .i64 b] (.tup [.d (.bool (cmpR nm a b).1), .d (.bool (cmpR nm a b).2)]) := by
 refine pf_body (rvs := [.tmp 6, .tmp 7]) [(0, .d (.str nm)), (1, .d (.int .i64 a)), (2, .d (.int .i64 b))] Tryz.func252 Tryz.ntmps252 Tryz.results252 (fun S0 O0 w0 m0 hm0 => ?_)
 refine Z318 ?_;refine Z373 ?_;refine Z139 ?_;refine Z367 ?_
 refine gC ?_ ?_ <;> intro hb0
 ·
  refine Z420 ?_;refine Z17 ?_;refine Z395 ?_
  exact ⟨by simp only [cmpR, mulBad, quoBad, minI, hb0, Bool.false_eq_true, if_true, if_false] <;> rfl, rfl⟩
 refine Z410 ?_
 refine gC ?_ ?_ <;> intro hb1
 ·
  refine Z420 ?_;refine Z56 ?_;refine Z395 ?_
  exact ⟨by simp only [cmpR, mulBad, quoBad, minI, hb0, hb1, Bool.false_eq_true, if_true, if_false] <;> rfl, rfl⟩
 refine Z410 ?_
 refine gC ?_ ?_ <;> intro hb2
 ·
  refine Z420 ?_;refine Z34 ?_;refine Z395 ?_
  exact ⟨by simp only [cmpR, mulBad, quoBad, minI, hb0, hb1, hb2, Bool.false_eq_true, if_true, if_false] <;> rfl, rfl⟩
 refine Z410 ?_
 refine gC ?_ ?_ <;> intro hb3
 ·
  refine Z420 ?_;refine Z301 ?_;refine Z395 ?_
  exact ⟨by simp only [cmpR, mulBad, quoBad, minI, hb0, hb1, hb2, hb3, Bool.false_eq_true, if_true, if_false] <;> rfl, rfl⟩
 refine Z410 ?_
 refine gC ?_ ?_ <;> intro hb4
 ·
  refine Z51 ?_;refine Z181 ?_;refine Z402 ?_;refine Z94 ?_;refine Z395 ?_
  exact ⟨by simp only [cmpR, mulBad, quoBad, minI, hb0, hb1, hb2, hb3, hb4, Bool.false_eq_true, if_true, if_false] <;> rfl, rfl⟩
 refine Z51 ?_;refine Z181 ?_;refine Z14 ?_;refine Z367 ?_
 refine gC ?_ ?_ <;> intro hb5
 ·
  refine Z420 ?_;refine Z93 ?_;refine Z395 ?_
  exact Y10
 refine Z82 ?_;refine Z1 ?_;refine Z317 ?_;refine Z71 ?_
 exact Y10
set_option maxHeartbeats 4000000 in
theorem c253 (nm : ByteArray) (a b : Int) : Pf Tryz.prog 253 [.str nm, .int .i64 a, .int .i64 b] (.tup [.d (.int .i64 (ariR nm a b).1), .d (.bool (ariR nm a b).2)]) := by
 refine pf_body (rvs := [.tmp 6, .tmp 7]) [(0, .d (.str nm)), (1, .d (.int .i64 a)), (2, .d (.int .i64 b))] Tryz.func253 Tryz.ntmps253 Tryz.results253 (fun S0 O0 w0 m0 hm0 => ?_)
 refine Z318 ?_;refine Z373 ?_;refine Z139 ?_;refine Z367 ?_
 refine gC ?_ ?_ <;> intro hb0
 ·
  refine Z420 ?_;refine Z177 ?_;refine Z0 ?_;refine Z93 ?_;refine Z321 ?_;refine Z177 ?_;refine Z0 ?_;refine Z93 ?_
  refine vq rfl (q_booleq u4) ?_
  refine Z395 ?_
  exact ⟨by simp only [ariR, mulBad, quoBad, minI, hb0, Bool.false_eq_true, if_true, if_false] <;> rfl, rfl⟩
 refine Z410 ?_
 refine gC ?_ ?_ <;> intro hb1
 ·
  refine Z420 ?_;refine Z246 ?_;refine Z0 ?_;refine Z93 ?_;refine Z321 ?_;refine Z246 ?_;refine Z0 ?_;refine Z301 ?_
  refine vq rfl (q_booleq u4) ?_
  refine Z395 ?_
  exact ⟨by simp only [ariR, mulBad, quoBad, minI, hb0, hb1, Bool.false_eq_true, if_true, if_false] <;> rfl, rfl⟩
 refine Z410 ?_
 refine gC ?_ ?_ <;> intro hb2
 ·
  refine Z355 ?_;refine Z17 ?_;refine Z332 ?_
  refine sg rfl (fun hg => sP 40 rfl hg q_eql) ?_
  refine Z333 ?_
  refine gC ?_ ?_ <;> intro hb3
  ·
   refine Z51 ?_;refine Z181 ?_;refine Z14 ?_;refine Z1 ?_;refine Z396 ?_;refine Z71 ?_
   exact ⟨by simp only [ariR, mulBad, quoBad, minI, hb0, hb1, hb2, hb3, Bool.false_eq_true, if_true, if_false] <;> rfl, rfl⟩
  have hnz : b ≠ 0 := by
   rintro rfl
   revert hb3
   simp
  refine Z110 ?_;refine Z181 ?_;refine Z335 ?_;refine Z17 ?_;refine Z332 ?_
  refine sg rfl (fun hg => sP 46 rfl hg q_eql) ?_
  refine Z13 ?_;refine Z332 ?_
  refine sg rfl (fun hg => sP 50 rfl hg q_eql) ?_
  refine sg rfl (fun hg => sP 51 rfl hg qM) ?_
  refine Z18 ?_
  refine sg rfl (fun hg => sP 53 rfl hg q_eql) ?_
  refine sg rfl (fun hg => sP 52 rfl hg q_and) ?_
  refine Z333 ?_
  refine gC ?_ ?_ <;> intro hb4
  ·
   refine Z51 ?_;refine Z181 ?_;refine Z14 ?_;refine Z1 ?_;refine Z396 ?_;refine Z71 ?_
   exact Y12
  refine Z67 ?_;refine Z181 ?_
  refine G_draw 12 [0, 1, 2, 3, 4, 5, 6, 7, 8, 9, 10, 11] rfl rfl (by kernel_rfl) ?_
  refine Z256 ?_;refine Z256 ?_
  refine sq rfl (q_mul (hw := rfl)) ?_
  refine Z256 ?_;refine Z256 ?_
  refine sq rfl (q_mul (hw := rfl)) ?_
  refine Z256 ?_
  refine sq rfl (q_quo hnz rfl) ?_
  refine Z256 ?_
  refine sq rfl q_eql ?_
  refine sq rfl qA ?_
  refine sq rfl qA ?_
  refine GQ_nil (by kernel_rfl) (tN (gT (bR (tR ?_))))
  refine Z71 ?_
  exact Y12
 refine Z410 ?_
 refine gC ?_ ?_ <;> intro hb5
 ·
  refine Z355 ?_;refine Z17 ?_;refine Z332 ?_
  refine sg rfl (fun hg => sP 72 rfl hg q_eql) ?_
  refine sg rfl (fun hg => sP 73 rfl hg qM) ?_
  refine Z18 ?_
  refine sg rfl (fun hg => sP 75 rfl hg q_eql) ?_
  refine sg rfl (fun hg => sP 74 rfl hg q_and) ?_
  refine Z333 ?_
  refine gC ?_ ?_ <;> intro hb6
  ·
   refine Z51 ?_;refine Z181 ?_;refine Z14 ?_;refine Z1 ?_;refine Z396 ?_;refine Z71 ?_
   exact Y13
  have hnz : b ≠ 0 := by
   rintro rfl
   revert hb6
   simp
  refine Z67 ?_;refine Z181 ?_;refine Z402 ?_
  refine vq rfl (q_quo hnz rfl) ?_
  refine Z395 ?_
  exact Y13
 refine Z410 ?_
 refine gC ?_ ?_ <;> intro hb7
 ·
  refine Z311 ?_;refine Z181 ?_;refine Z335 ?_;refine Z17 ?_;refine Z332 ?_
  refine sg rfl (fun hg => sP 87 rfl hg q_eql) ?_
  refine sg rfl (fun hg => sP 88 rfl hg qM) ?_
  refine Z18 ?_
  refine sg rfl (fun hg => sP 90 rfl hg q_eql) ?_
  refine sg rfl (fun hg => sP 89 rfl hg q_and) ?_
  refine Z333 ?_
  refine gC ?_ ?_ <;> intro hb8
  ·
   refine Z318 ?_;refine Z396 ?_;refine Z71 ?_
   exact Y11
  have hnz : b ≠ 0 := by
   rintro rfl
   revert hb8
   simp
  refine Z46 ?_;refine Z321 ?_
  refine vq rfl (q_rem hnz rfl) ?_
  refine Z395 ?_
  exact Y11
 refine gK (bN (tN (gS ?_)))
 refine Z181 ?_;refine Z14 ?_;refine Z1 ?_;refine Z317 ?_;refine Z71 ?_
 exact ⟨by simp only [ariR, mulBad, quoBad, minI, hb0, hb1, hb2, hb5, hb7, Bool.false_eq_true, if_true, if_false] <;> rfl, rfl⟩
set_option maxHeartbeats 1000000 in
theorem c191 (nm : ByteArray) (xop xnu yop ynu : Int) (xnm ynm : ByteArray) (xks yks : List Tr) : Pf Tryz.prog 191 [.str nm, .agg [.int .i64 xop, .str xnm, .int .i64 xnu, .sl (xks.map Tr.d)], .agg [.int .i64 yop, .str ynm, .int .i64 ynu, .sl (yks.map Tr.d)]] (.tup [.d (binR nm (.mk xop xnm xnu xks) (.mk yop ynm ynu yks)).1.d, .d (.bool (binR nm (.mk xop xnm xnu xks) (.mk yop ynm ynu yks)).2)]) := by
 refine pf_body (rvs := [.cell 6 27, .tmp 7]) [(0, .d (.str nm)), (1, .d (.agg [.int .i64 xop, .str xnm, .int .i64 xnu, .sl (xks.map Tr.d)])), (2, .d (.agg [.int .i64 yop, .str ynm, .int .i64 ynu, .sl (yks.map Tr.d)]))] Tryz.func191 Tryz.ntmps191 Tryz.results191 (fun S0 O0 w0 m0 hm0 => ?_)
 refine Z325 ?_
 refine gF 0 [] (.agg [.int .i64 xop, .str xnm, .int .i64 xnu, .sl (xks.map Tr.d)]) rfl ?_
 refine Z24 ?_
 refine gF 0 [] (.agg [.int .i64 yop, .str ynm, .int .i64 ynu, .sl (yks.map Tr.d)]) rfl ?_
 refine Z29 ?_;refine Z328 ?_;refine Z323 ?_;refine Z323 ?_;refine Z350 ?_
 refine gC ?_ ?_ <;> intro hb0
 ·
  refine Z3 ?_;refine Z392 ?_;refine Z413 ?_
  exact ⟨by simp only [binR, hb0, Bool.false_eq_true, if_true, if_false]; rw [z0_d], rfl⟩
 refine Z59 ?_;refine Z364 ?_;refine Z332 ?_
 refine sg rfl (fun hg => sP 22 rfl hg q_strne) ?_
 refine Z13 ?_;refine Z332 ?_
 refine sg rfl (fun hg => sP 26 rfl hg q_strne) ?_
 refine Z369 ?_
 refine gC ?_ ?_ <;> intro hb1
 ·
  refine Z51 ?_;refine Z275 ?_;refine Z14 ?_;refine Z392 ?_;refine Z413 ?_
  exact ⟨by simp only [binR, hb0, hb1, Bool.false_eq_true, if_true, if_false]; rw [z0_d], rfl⟩
 refine Z110 ?_;refine Z275 ?_;refine Z335 ?_;refine Z323 ?_;refine Z323 ?_
 refine gL (xs := [.tmp 31, .tmp 33, .tmp 35]) rfl (c252 nm xnu ynu) ?_
 refine Z389 ?_;refine Z378 ?_;refine Z5 ?_
 refine gC ?_ ?_ <;> intro hb2
 ·
  refine Z51 ?_;refine Z275 ?_;refine Z335 ?_
  refine gL (xs := [.tmp 40]) rfl (c251 _) ?_
  refine Z19 ?_;refine Z413 ?_
  exact ⟨by simp only [binR, hb0, hb1, hb2, Bool.false_eq_true, if_true, if_false]; rw [boolT_d], rfl⟩
 refine Z67 ?_;refine Z275 ?_;refine Z335 ?_;refine Z323 ?_;refine Z323 ?_
 refine gL (xs := [.tmp 43, .tmp 45, .tmp 47]) rfl (c253 nm xnu ynu) ?_
 refine Z389 ?_;refine Z378 ?_
 refine gL (xs := [.tmp 51]) rfl (c193 _) ?_
 refine Z0 ?_;refine Z19 ?_;refine Z438 ?_
 exact ⟨by simp only [binR, hb0, hb1, hb2, Bool.false_eq_true, if_true, if_false]; rw [intT_d], rfl⟩
end
end Go.Proofs.YtklkbfpjimeaoaaGreat
