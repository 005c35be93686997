import Derived.Test.YtklkbfpjimeaoaaGreatM23
import Derived.Test.YtklkbfpjimeaoaaGreatM21
import Derived.Test.YtklkbfpjimeaoaaGreatM10
import Derived.Test.YtklkbfpjimeaoaaGreatM11
/- Contracts of functions. Conditions: none. -/
set_option linter.unusedSimpArgs false
set_option linter.unusedVariables false
set_option maxRecDepth 20000
namespace Go.Proofs.YtklkbfpjimeaoaaGreat
open Go Go.Proofs.YtklkbfpjimeaoaaGreat.E
section
set_option maxHeartbeats 16000000 in
theorem c238 (t : Tr) (hok : t.Ok) (hE : isStmtB t.op = true) : Pf Tryz.prog 238 [t.d] (.d (.bool (rightB t))) := by
 obtain ⟨op, name, num, ks⟩ := t
 rw [Tr.d_mk]
 try simp only [Tr.op_mk, Tr.nm_mk, Tr.nu_mk, Tr.kids_mk]
 replace hE : isStmtB op = true := hE
 have h4 : ks.length ≤ 140737488355328 := Tr.kids_len hok
 refine pf_body (rvs := [.tmp 2]) [(0, .d (.agg [.int .i64 op, .str name, .int .i64 num, .sl (ks.map Tr.d)]))] Tryz.func238 Tryz.ntmps238 Tryz.results238 (fun S0 O0 w0 m0 hm0 => ?_)
 refine Z186 ?_;refine Z137 ?_;refine Z119 ?_;refine Z136 ?_
 refine zgC ?_ ?_ <;> intro hb0
 ·
  refine Z156 ?_
  refine gL (xs := [.tmp 10]) rfl ((Tr.d_mk op name num ks ▸ c288 (.mk op name num ks) hok)) ?_
  refine Z130 ?_
  obtain rfl := eq_of_beq hb0
  refine Z4 ?_
  exact Y0
 refine Z159 ?_
 refine zgC ?_ ?_ <;> intro hb1
 ·
  refine Z5 ?_
  refine sv rfl (y_buildSlice (xs := [.const (.string ⟨#[61]⟩), .const (.string ⟨#[43, 61]⟩), .const (.string ⟨#[45, 61]⟩), .const (.string ⟨#[42, 61]⟩)]) u63 inf9) ?_
  refine Z150 ?_
  refine gL (xs := [.tmp 14, .tmp 16]) rfl (c176 [⟨#[61]⟩, ⟨#[43, 61]⟩, ⟨#[45, 61]⟩, ⟨#[42, 61]⟩] name (by decide)) ?_
  refine Z147 ?_;refine Z110 ?_
  refine sg rfl (fun hg => sP 20 rfl hg q_eql) ?_
  refine Z149 ?_;refine Z13 ?_
  refine g_callg (xs := [.tmp 24, .const (.string ⟨#[101, 101]⟩)]) rfl (fun hg => (Tr.d_mk op name num ks ▸ c239 (.mk op name num ks) ⟨#[101, 101]⟩ hok)) ?_
  refine Z149 ?_
  refine g_split 27 true (fun hsp => ?_) (fun hsp => ?_)
  ·
   have hkd : kidsB ks ⟨#[101, 101]⟩ = true := by
    rw [beq_iff_eq, Bool.and_eq_true] at hsp
    exact hsp.2
   have hl2 : ks.length = 2 := kidsB_len hkd
   obtain ⟨a, hka⟩ : ∃ k, ks[0]? = some k := ⟨_, gE (by omega)⟩
   have hmem := mG hka
   obtain ⟨aop, anm, anu, aks, hke⟩ : ∃ op nm nu ks', a = .mk op nm nu ks' := by cases a; exact ⟨_, _, _, _, rfl⟩
   subst hke
   have hxa := Tr.ds_get hka
   rw [Tr.d_mk] at hxa
   refine Z86 ?_;refine Z97 ?_;refine Z75 ?_;refine Z71 ?_;refine Z79 ?_;refine Z123 ?_;refine Z72 ?_;refine Z19 ?_
   refine sg rfl (fun hg => sP 35 rfl hg (qL u22)) ?_
   refine sg rfl (fun hg => sP 36 rfl hg (qI u22 sz27)) ?_
   refine sg rfl (fun hg => sP 37 rfl hg (qF u27 rfl sz3)) ?_
   refine sg rfl (fun hg => sP 38 rfl hg (qL u3)) ?_
   refine sg rfl (fun hg => sP 39 rfl hg q_eql) ?_
   refine Z126 ?_;refine Z145 ?_
   obtain rfl := eq_of_beq hb1
   refine Z4 ?_
   exact ⟨by rw [right51, opK_get hka] <;> first | rfl | (rw [List.length_map]; rfl), rfl⟩
  skip
  refine Z154 ?_;refine Z154 ?_;refine Z154 ?_;refine Z135 ?_;refine Z145 ?_
  obtain rfl := eq_of_beq hb1
  have hk : (((hasB [⟨#[61]⟩, ⟨#[43, 61]⟩, ⟨#[45, 61]⟩, ⟨#[42, 61]⟩] name && num == 0) && kidsB ks ⟨#[101, 101]⟩)) = false := by
   revert hsp
   try rw [List.length_map]
   show ((((hasB [⟨#[61]⟩, ⟨#[43, 61]⟩, ⟨#[45, 61]⟩, ⟨#[42, 61]⟩] name && num == 0) && kidsB ks ⟨#[101, 101]⟩)) == true) = false → _
   cases (((hasB [⟨#[61]⟩, ⟨#[43, 61]⟩, ⟨#[45, 61]⟩, ⟨#[42, 61]⟩] name && num == 0) && kidsB ks ⟨#[101, 101]⟩)) <;> simp
  refine Z4 ?_
  exact ⟨by rw [right51, hk]; try rw [List.length_map]
            show PV.d (.bool ((((hasB [⟨#[61]⟩, ⟨#[43, 61]⟩, ⟨#[45, 61]⟩, ⟨#[42, 61]⟩] name && num == 0) && kidsB ks ⟨#[101, 101]⟩)) && _)) = _
            rw [hk]; rfl, rfl⟩
 refine Z159 ?_
 refine zgC ?_ ?_ <;> intro hb2
 ·
  refine Z156 ?_
  refine gL (xs := [.tmp 45]) rfl ((Tr.d_mk op name num ks ▸ c177 (.mk op name num ks))) ?_
  refine Z167 ?_
  refine g_callg (xs := [.tmp 48, .const (.string ⟨#[101, 98]⟩)]) rfl (fun hg => (Tr.d_mk op name num ks ▸ c239 (.mk op name num ks) ⟨#[101, 98]⟩ hok)) ?_
  refine sg rfl (fun hg => sP 49 rfl hg qM) ?_
  refine Z13 ?_
  refine g_callg (xs := [.tmp 51, .const (.string ⟨#[101, 98, 98]⟩)]) rfl (fun hg => (Tr.d_mk op name num ks ▸ c239 (.mk op name num ks) ⟨#[101, 98, 98]⟩ hok)) ?_
  refine sg rfl (fun hg => sP 50 rfl hg q_or) ?_
  refine Z145 ?_
  obtain rfl := eq_of_beq hb2
  refine Z4 ?_
  exact Y0
 refine Z39 ?_;refine Z136 ?_
 refine zgC ?_ ?_ <;> intro hb3
 ·
  refine Z77 ?_
  refine zgC ?_ ?_ <;> intro hb4
  ·
   refine Z38 ?_;refine Z46 ?_;refine Z17 ?_;refine Z7 ?_
   refine gL (xs := [.tmp 58]) rfl ((Tr.d_mk op name num ks ▸ c177 (.mk op name num ks))) ?_
   refine Z167 ?_
   refine g_callg (xs := [.tmp 61, .const (.string ⟨#[101, 98]⟩)]) rfl (fun hg => (Tr.d_mk op name num ks ▸ c239 (.mk op name num ks) ⟨#[101, 98]⟩ hok)) ?_
   refine Z145 ?_
   obtain rfl := eq_of_beq hb4
   refine Z4 ?_
   exact Y0
  exact absurd (hb3.symm.trans hb4) (by decide)
 refine Z46 ?_;refine Z187 ?_
 refine zgC ?_ ?_ <;> intro hb5
 ·
  refine Z156 ?_
  refine gL (xs := [.tmp 58]) rfl ((Tr.d_mk op name num ks ▸ c177 (.mk op name num ks))) ?_
  refine Z167 ?_
  refine g_callg (xs := [.tmp 61, .const (.string ⟨#[101, 98]⟩)]) rfl (fun hg => (Tr.d_mk op name num ks ▸ c239 (.mk op name num ks) ⟨#[101, 98]⟩ hok)) ?_
  refine Z145 ?_
  obtain rfl := eq_of_beq hb5
  refine Z4 ?_
  exact Y0
 refine Z39 ?_;refine Z136 ?_
 refine zgC ?_ ?_ <;> intro hb6
 ·
  refine Z77 ?_
  refine zgC ?_ ?_ <;> intro hb7
  ·
   refine Z156 ?_;refine Z100 ?_;refine Z130 ?_
   obtain rfl := eq_of_beq hb7
   refine Z4 ?_
   exact Y0
  exact absurd (hb6.symm.trans hb7) (by decide)
 refine Z159 ?_
 refine zgC ?_ ?_ <;> intro hb8
 ·
  refine Z77 ?_
  refine zgC ?_ ?_ <;> intro hb9
  ·
   refine Z156 ?_;refine Z100 ?_;refine Z130 ?_
   obtain rfl := eq_of_beq hb9
   refine Z4 ?_
   exact Y0
  exact absurd (hb8.symm.trans hb9) (by decide)
 refine Z187 ?_
 refine zgC ?_ ?_ <;> intro hb10
 ·
  refine Z156 ?_;refine Z100 ?_;refine Z130 ?_
  obtain rfl := eq_of_beq hb10
  refine Z4 ?_
  exact Y0
 refine Z39 ?_;refine Z136 ?_
 refine zgC ?_ ?_ <;> intro hb11
 ·
  refine Z77 ?_
  refine zgC ?_ ?_ <;> intro hb12
  ·
   refine Z156 ?_
   refine gL (xs := [.tmp 73]) rfl ((Tr.d_mk op name num ks ▸ c177 (.mk op name num ks))) ?_
   refine Z167 ?_
   refine g_callg (xs := [.tmp 76, .const (.string ⟨#[98]⟩)]) rfl (fun hg => (Tr.d_mk op name num ks ▸ c239 (.mk op name num ks) ⟨#[98]⟩ hok)) ?_
   refine Z145 ?_
   obtain rfl := eq_of_beq hb12
   refine Z4 ?_
   exact Y0
  exact absurd (hb11.symm.trans hb12) (by decide)
 refine Z187 ?_
 refine zgC ?_ ?_ <;> intro hb13
 ·
  refine Z38 ?_;refine Z46 ?_;refine Z17 ?_;refine Z7 ?_
  refine gL (xs := [.tmp 73]) rfl ((Tr.d_mk op name num ks ▸ c177 (.mk op name num ks))) ?_
  refine Z167 ?_
  refine g_callg (xs := [.tmp 76, .const (.string ⟨#[98]⟩)]) rfl (fun hg => (Tr.d_mk op name num ks ▸ c239 (.mk op name num ks) ⟨#[98]⟩ hok)) ?_
  refine Z145 ?_
  obtain rfl := eq_of_beq hb13
  refine Z4 ?_
  exact Y0
 refine Z38 ?_;refine Z46 ?_;refine Z187 ?_
 refine zgC ?_ ?_ <;> intro hb14
 ·
  refine Z39 ?_;refine Z198 ?_
  refine g_loop (α := Nat) (fun z => ⟨[(3, .d (.int .i64 (z : Nat))), (1, .d (.ptr (.agg [.int .i64 op, .str name, .int .i64 num, .sl (ks.map Tr.d)])))], []⟩) (fun z => ks.length - z) (fun z => z ≤ ks.length ∧ ∀ i, i < z → ∀ k, ks[i]? = some k → (fun o : Int => o == 66) k.op = true) 0 ⟨Nat.zero_le _, by simp⟩ (fun z hz Q' hn0 he0 hr0 => ?_) (le_of)
  obtain ⟨hz1, hz2⟩ := hz
  refine Z196 ?_;refine Z165 ?_;refine Z192 ?_
  refine zgC ?_ ?_ <;> intro hb15
  ·
   have hlt : z < ks.length := by simpa using hb15
   obtain ⟨a, hka⟩ : ∃ k, ks[z]? = some k := ⟨_, gE (by omega)⟩
   have hmem := mG hka
   obtain ⟨aop, anm, anu, aks, hke⟩ : ∃ op nm nu ks', a = .mk op nm nu ks' := by cases a; exact ⟨_, _, _, _, rfl⟩
   subst hke
   have hxa := Tr.ds_get hka
   rw [Tr.d_mk] at hxa
   refine Z24 ?_;refine Z146 ?_;refine Z2 ?_;refine Z58 ?_;refine Z137 ?_;refine Z84 ?_;refine Z9 ?_
   refine zgC ?_ ?_ <;> intro hb16
   ·
    refine Z38 ?_;refine Z46 ?_;refine Z17 ?_;refine Z130 ?_;refine Z85 ?_
    refine bR (tR (bR (tR ?_)))
    obtain rfl := eq_of_beq hb14
    refine Z4 ?_
    exact ⟨by rw [right58, every_no hmem (by show (fun o : Int => o == 66) aop = false; revert hb16; show (aop != 66) = true → (aop == 66) = false; cases h : (aop == 66) <;> simp [bne, h])]; rfl, rfl⟩
   refine Z103 ?_;refine Z46 ?_;refine Z17 ?_;refine Z179 ?_
   refine hn0 _ (z + 1) ⟨by omega, upto_step (p := fun _ (k : Tr) => (fun o : Int => o == 66) k.op) hz2 hka (by show (fun o : Int => o == 66) aop = true; revert hb16; show (aop != 66) = false → (aop == 66) = true; cases h : (aop == 66) <;> simp [bne, h])⟩ (by omega) le_of
  have hge : z = ks.length := by
   have : ¬ (z : Int) < ((ks.map Tr.d).length : Nat) := by simpa using hb15
   rw [List.length_map] at this
   omega
  refine Z164 ?_;refine Z7 ?_;refine Z80 ?_;refine Z166 ?_
  refine sg rfl (fun hg => sP 98 rfl hg (qL u22)) ?_
  refine sg rfl (fun hg => sP 99 rfl hg (q_len u22)) ?_
  refine sg rfl (fun hg => sP 100 rfl hg q_gtr) ?_
  refine Z145 ?_
  obtain rfl := eq_of_beq hb14
  refine Z4 ?_
  exact ⟨by rw [right58, every_yes (fun i hi => hz2 i (by omega))] <;> first | rfl | (rw [List.length_map]; rfl), rfl⟩
 refine Z159 ?_
 refine zgC ?_ ?_ <;> intro hb17
 ·
  refine Z156 ?_
  refine gL (xs := [.tmp 105]) rfl ((Tr.d_mk op name num ks ▸ c177 (.mk op name num ks))) ?_
  refine Z166 ?_
  refine sg rfl (fun hg => sP 108 rfl hg (qL u22)) ?_
  refine sg rfl (fun hg => sP 109 rfl hg (q_len u22)) ?_
  refine sg rfl (fun hg => sP 110 rfl hg q_eql) ?_
  refine sg rfl (fun hg => sP 111 rfl hg qM) ?_
  refine Z13 ?_
  refine g_callg (xs := [.tmp 113, .const (.string ⟨#[101]⟩)]) rfl (fun hg => (Tr.d_mk op name num ks ▸ c239 (.mk op name num ks) ⟨#[101]⟩ hok)) ?_
  refine sg rfl (fun hg => sP 112 rfl hg q_or) ?_
  refine Z145 ?_
  obtain rfl := eq_of_beq hb17
  refine Z4 ?_
  exact Y0
 refine Z39 ?_;refine Z136 ?_
 refine zgC ?_ ?_ <;> intro hb18
 ·
  refine Z77 ?_
  refine zgC ?_ ?_ <;> intro hb19
  ·
   refine Z156 ?_
   refine gL (xs := [.tmp 120]) rfl ((Tr.d_mk op name num ks ▸ c177 (.mk op name num ks))) ?_
   refine Z167 ?_
   refine g_callg (xs := [.tmp 123, .const (.string ⟨#[101]⟩)]) rfl (fun hg => (Tr.d_mk op name num ks ▸ c239 (.mk op name num ks) ⟨#[101]⟩ hok)) ?_
   refine Z145 ?_
   obtain rfl := eq_of_beq hb19
   refine Z4 ?_
   exact Y0
  exact absurd (hb18.symm.trans hb19) (by decide)
 refine Z187 ?_
 refine zgC ?_ ?_ <;> intro hb20
 ·
  refine Z156 ?_
  refine gL (xs := [.tmp 120]) rfl ((Tr.d_mk op name num ks ▸ c177 (.mk op name num ks))) ?_
  refine Z167 ?_
  refine g_callg (xs := [.tmp 123, .const (.string ⟨#[101]⟩)]) rfl (fun hg => (Tr.d_mk op name num ks ▸ c239 (.mk op name num ks) ⟨#[101]⟩ hok)) ?_
  refine Z145 ?_
  obtain rfl := eq_of_beq hb20
  refine Z4 ?_
  exact Y0
 refine Z159 ?_
 refine zgC ?_ ?_ <;> intro hb21
 ·
  refine Z156 ?_
  refine gL (xs := [.tmp 128]) rfl ((Tr.d_mk op name num ks ▸ c177 (.mk op name num ks))) ?_
  refine Z166 ?_
  refine sg rfl (fun hg => sP 131 rfl hg (qL u22)) ?_
  refine sg rfl (fun hg => sP 132 rfl hg (q_len u22)) ?_
  refine sg rfl (fun hg => sP 133 rfl hg q_eql) ?_
  refine Z149 ?_
  refine g_split 136 true (fun hsp => ?_) (fun hsp => ?_)
  ·
   have hl1 : ks.length = 1 := by
    rw [beq_iff_eq, Bool.and_eq_true, beq_iff_eq, List.length_map] at hsp
    omega
   obtain ⟨a, hka⟩ : ∃ k, ks[0]? = some k := ⟨_, gE (by omega)⟩
   have hmem := mG hka
   obtain ⟨aop, anm, anu, aks, hke⟩ : ∃ op nm nu ks', a = .mk op nm nu ks' := by cases a; exact ⟨_, _, _, _, rfl⟩
   subst hke
   have hxa := Tr.ds_get hka
   rw [Tr.d_mk] at hxa
   refine Z86 ?_;refine Z97 ?_;refine Z75 ?_;refine Z71 ?_;refine Z79 ?_;refine Z123 ?_;refine Z72 ?_;refine Z19 ?_
   refine sg rfl (fun hg => sP 144 rfl hg (qL u22)) ?_
   refine sg rfl (fun hg => sP 145 rfl hg (qI u22 sz27)) ?_
   refine sg rfl (fun hg => sP 146 rfl hg (qF u27 rfl sz3)) ?_
   refine sg rfl (fun hg => sP 147 rfl hg (qL u3)) ?_
   refine sg rfl (fun hg => sP 148 rfl hg q_eql) ?_
   refine Z126 ?_;refine Z145 ?_
   obtain rfl := eq_of_beq hb21
   refine Z4 ?_
   exact ⟨by rw [right63, opK_get hka] <;> first | rfl | (rw [List.length_map]; rfl), rfl⟩
  skip
  refine Z154 ?_;refine Z154 ?_;refine Z154 ?_;refine Z135 ?_;refine Z145 ?_
  obtain rfl := eq_of_beq hb21
  have hk : (bareB (.mk 63 name num ks) && (ks.length : Int) == 1) = false := by
   revert hsp
   try rw [List.length_map]
   show ((bareB (.mk 63 name num ks) && (ks.length : Int) == 1) == true) = false → _
   cases (bareB (.mk 63 name num ks) && (ks.length : Int) == 1) <;> simp
  refine Z4 ?_
  exact ⟨by rw [right63, hk]; try rw [List.length_map]
            show PV.d (.bool ((bareB (.mk 63 name num ks) && (ks.length : Int) == 1) && _)) = _
            rw [hk]; rfl, rfl⟩
 refine Z159 ?_
 refine zgC ?_ ?_ <;> intro hb22
 ·
  refine zgS (zgS ?_)
  refine Z46 ?_;refine Z17 ?_;refine Z198 ?_
  refine g_loop (α := Nat) (fun z => ⟨[(4, .d (.int .i64 (z : Nat))), (1, .d (.ptr (.agg [.int .i64 op, .str name, .int .i64 num, .sl (ks.map Tr.d)])))], []⟩) (fun z => ks.length - z) (fun z => z ≤ ks.length ∧ ∀ i, i < z → ∀ k, ks[i]? = some k → (fun o : Int => isExprB o || o == 3) k.op = true) 0 ⟨Nat.zero_le _, by simp⟩ (fun z hz Q' hn1 he1 hr1 => ?_) (le_of)
  obtain ⟨hz1, hz2⟩ := hz
  refine Z196 ?_;refine Z165 ?_;refine Z192 ?_
  refine zgC ?_ ?_ <;> intro hb23
  ·
   have hlt : z < ks.length := by simpa using hb23
   obtain ⟨a, hka⟩ : ∃ k, ks[z]? = some k := ⟨_, gE (by omega)⟩
   have hmem := mG hka
   obtain ⟨aop, anm, anu, aks, hke⟩ : ∃ op nm nu ks', a = .mk op nm nu ks' := by cases a; exact ⟨_, _, _, _, rfl⟩
   subst hke
   have hxa := Tr.ds_get hka
   rw [Tr.d_mk] at hxa
   refine Z24 ?_;refine Z146 ?_;refine Z2 ?_;refine Z58 ?_;refine Z137 ?_
   refine gL (xs := [.tmp 166]) rfl (c81 _) ?_
   refine Z54 ?_;refine Z166 ?_
   refine sg rfl (fun hg => sP 170 rfl hg (qL u22)) ?_
   refine Z18 ?_
   refine sg rfl (fun hg => sP 172 rfl hg (sP 171 rfl hg (qI u22 sz27))) ?_
   refine sg rfl (fun hg => sP 173 rfl hg (qF u27 rfl sz3)) ?_
   refine sg rfl (fun hg => sP 174 rfl hg (qL u3)) ?_
   refine sg rfl (fun hg => sP 175 rfl hg q_neq) ?_
   refine Z11 ?_;refine Z9 ?_
   refine zgC ?_ ?_ <;> intro hb24
   ·
    refine Z38 ?_;refine Z46 ?_;refine Z17 ?_;refine Z130 ?_
    refine hr1 _ ?_
    refine bR (tR (bR (tR ?_)))
    obtain rfl := eq_of_beq hb22
    refine Z4 ?_
    exact ⟨by rw [right64, every_no hmem (by show (fun o : Int => isExprB o || o == 3) aop = false; revert hb24; show (!isExprB aop && aop != 3) = true → (isExprB aop || aop == 3) = false; cases isExprB aop <;> cases h : (aop == 3) <;> simp [bne, h])]; rfl, rfl⟩
   refine Z103 ?_;refine Z46 ?_;refine Z17 ?_;refine Z179 ?_
   refine hn1 _ (z + 1) ⟨by omega, upto_step (p := fun _ (k : Tr) => (fun o : Int => isExprB o || o == 3) k.op) hz2 hka (by show (fun o : Int => isExprB o || o == 3) aop = true; revert hb24; show (!isExprB aop && aop != 3) = false → (isExprB aop || aop == 3) = true; cases isExprB aop <;> cases h : (aop == 3) <;> simp [bne, h])⟩ (by omega) le_of
  have hge : z = ks.length := by
   have : ¬ (z : Int) < ((ks.map Tr.d).length : Nat) := by simpa using hb23
   rw [List.length_map] at this
   omega
  refine Z42 ?_
  refine he1 _ _ ?_
  refine Z35 ?_;refine Z7 ?_
  refine gL (xs := [.tmp 178]) rfl ((Tr.d_mk op name num ks ▸ c177 (.mk op name num ks))) ?_
  refine Z130 ?_
  obtain rfl := eq_of_beq hb22
  refine Z4 ?_
  exact ⟨by rw [right64, every_yes (fun i hi => hz2 i (by omega))] <;> first | rfl | (rw [List.length_map]; rfl), rfl⟩
 refine Z38 ?_;refine Z46 ?_;refine Z187 ?_
 refine zgC ?_ ?_ <;> intro hb25
 ·
  refine Z39 ?_;refine Z198 ?_
  refine g_loop (α := Nat) (fun z => ⟨[(5, .d (.int .i64 (z : Nat))), (1, .d (.ptr (.agg [.int .i64 op, .str name, .int .i64 num, .sl (ks.map Tr.d)])))], []⟩) (fun z => ks.length - z) (fun z => z ≤ ks.length ∧ ∀ i, i < z → ∀ k, ks[i]? = some k → isStmtB k.op = true) 0 ⟨Nat.zero_le _, by simp⟩ (fun z hz Q' hn2 he2 hr2 => ?_) (le_of)
  obtain ⟨hz1, hz2⟩ := hz
  refine Z196 ?_;refine Z165 ?_;refine Z192 ?_
  refine zgC ?_ ?_ <;> intro hb26
  ·
   have hlt : z < ks.length := by simpa using hb26
   obtain ⟨a, hka⟩ : ∃ k, ks[z]? = some k := ⟨_, gE (by omega)⟩
   have hmem := mG hka
   obtain ⟨aop, anm, anu, aks, hke⟩ : ∃ op nm nu ks', a = .mk op nm nu ks' := by cases a; exact ⟨_, _, _, _, rfl⟩
   subst hke
   have hxa := Tr.ds_get hka
   rw [Tr.d_mk] at hxa
   refine Z24 ?_;refine Z146 ?_;refine Z2 ?_;refine Z58 ?_;refine Z137 ?_
   refine gL (xs := [.tmp 194]) rfl (c96 _) ?_
   refine Z54 ?_;refine Z9 ?_
   refine zgC ?_ ?_ <;> intro hb27
   ·
    refine Z38 ?_;refine Z46 ?_;refine Z17 ?_;refine Z130 ?_
    refine hr2 _ ?_
    refine bR (tR (bR (tR ?_)))
    obtain rfl := eq_of_beq hb25
    refine Z4 ?_
    exact ⟨by rw [right66, every_no hmem (by show isStmtB aop = false; revert hb27; show (!isStmtB aop) = true → isStmtB aop = false; cases isStmtB aop <;> simp)]; rfl, rfl⟩
   refine Z103 ?_;refine Z46 ?_;refine Z17 ?_;refine Z179 ?_
   refine hn2 _ (z + 1) ⟨by omega, upto_step (p := fun _ (k : Tr) => isStmtB k.op) hz2 hka (by show isStmtB aop = true; revert hb27; show (!isStmtB aop) = false → isStmtB aop = true; cases isStmtB aop <;> simp)⟩ (by omega) le_of
  have hge : z = ks.length := by
   have : ¬ (z : Int) < ((ks.map Tr.d).length : Nat) := by simpa using hb26
   rw [List.length_map] at this
   omega
  refine Z42 ?_
  refine he2 _ _ ?_
  refine Z35 ?_;refine Z7 ?_
  refine gL (xs := [.tmp 197]) rfl ((Tr.d_mk op name num ks ▸ c177 (.mk op name num ks))) ?_
  refine Z130 ?_
  obtain rfl := eq_of_beq hb25
  refine Z4 ?_
  exact ⟨by rw [right66, every_yes (fun i hi => hz2 i (by omega))] <;> first | rfl | (rw [List.length_map]; rfl), rfl⟩
 refine Z116 ?_;refine Z131 ?_
 exfalso
 simp only [isStmtB, Bool.and_eq_true, decide_eq_true_eq, bne_iff_ne] at hE
 simp only [beq_eq_false_iff_ne] at hb0 hb1 hb2 hb3 hb5 hb6 hb8 hb10 hb11 hb13 hb14 hb17 hb18 hb20 hb21 hb22 hb25
 omega
end
section
theorem right_none {op num : Int} {nm : ByteArray} {ks : List Tr} (h1 : isExprB op = false) (h2 : isStmtB op = false) (h3 : (op == 3) = false) (h30 : (op == 30) = false) (h31 : (op == 31) = false) (h67 : (op == 67) = false) : rightB (.mk op nm num ks) = false := by
 have hne : ∀ k : Int, isExprB k = true → (op == k) = false := fun k hk => by
  rw [beq_eq_false_iff_ne]; rintro rfl; rw [h1] at hk; cases hk
 have hns : ∀ k : Int, isStmtB k = true → (op == k) = false := fun k hk => by
  rw [beq_eq_false_iff_ne]; rintro rfl; rw [h2] at hk; cases hk
 have ho : otherB (.mk op nm num ks) = (false, false) := by
  rw [otherB, h3, h30, hne 4 rfl, hne 13 rfl, hne 15 rfl, hne 11 rfl, hns 50 rfl]
  simp only [Bool.false_eq_true, if_false]
 rw [rightB, ho, if_neg (by decide)]
 cases hs : shGet op with
 | none => rfl
 | some s =>
  obtain ⟨x, hx, rfl, rfl⟩ := shGet_tab hs
  simp only [shapeTab, List.mem_cons, List.not_mem_nil, or_false] at hx
  rcases hx with rfl | rfl | rfl | rfl | rfl | rfl | rfl | rfl | rfl | rfl | rfl | rfl | rfl | rfl | rfl | rfl | rfl | rfl | rfl | rfl | rfl | rfl | rfl | rfl | rfl | rfl | rfl | rfl | rfl | rfl | rfl | rfl | rfl <;> first | rfl | (cases h1; done) | (cases h2; done) | (cases h31; done) | (cases h67; done)
set_option maxHeartbeats 4000000 in
theorem c173 (t : Tr) (hok : t.Ok) : Pf Tryz.prog 173 [t.d] (.d (.bool (rightB t))) := by
 obtain ⟨op, name, num, ks⟩ := t
 rw [Tr.d_mk]
 try simp only [Tr.op_mk, Tr.nm_mk, Tr.nu_mk, Tr.kids_mk]
 refine pf_body (rvs := [.tmp 2]) [(0, .d (.agg [.int .i64 op, .str name, .int .i64 num, .sl (ks.map Tr.d)]))] Tryz.func173 Tryz.ntmps173 Tryz.results173 (fun S0 O0 w0 m0 hm0 => ?_)
 refine Z140 ?_;refine Z1 ?_
 refine gN (tN (zgS (G_block (zgS (gR ?_)))))
 refine Z137 ?_;refine Z136 ?_
 refine zgC ?_ ?_ <;> intro hb0
 ·
  refine Z156 ?_
  refine gL (xs := [.tmp 7]) rfl ((Tr.d_mk op name num ks ▸ c236 (.mk op name num ks))) ?_
  refine Z130 ?_
  obtain rfl := eq_of_beq hb0
  refine Z4 ?_
  exact ⟨by rw [right3] <;> rfl, rfl⟩
 refine Z195 ?_
 refine gL (xs := [.tmp 11]) rfl (c81 _) ?_
 refine Z132 ?_
 refine zgC ?_ ?_ <;> intro hb1
 ·
  refine Z156 ?_
  refine gL (xs := [.tmp 13]) rfl ((Tr.d_mk op name num ks ▸ c237 (.mk op name num ks) hok hb1)) ?_
  refine Z130 ?_;refine Z4 ?_
  exact ⟨rfl, rfl⟩
 refine Z195 ?_
 refine gL (xs := [.tmp 17]) rfl (c96 _) ?_
 refine Z132 ?_
 refine zgC ?_ ?_ <;> intro hb2
 ·
  refine Z38 ?_;refine Z122 ?_;refine Z17 ?_;refine Z7 ?_
  refine gL (xs := [.tmp 19]) rfl ((Tr.d_mk op name num ks ▸ c238 (.mk op name num ks) hok hb2)) ?_
  refine Z130 ?_;refine Z4 ?_
  exact ⟨rfl, rfl⟩
 refine Z38 ?_;refine Z122 ?_;refine Z17 ?_;refine Z137 ?_;refine Z136 ?_
 refine zgC ?_ ?_ <;> intro hb3
 ·
  refine Z156 ?_
  refine gL (xs := [.tmp 25]) rfl ((Tr.d_mk op name num ks ▸ c175 (.mk op name num ks))) ?_
  refine Z130 ?_
  obtain rfl := eq_of_beq hb3
  refine Z4 ?_
  exact ⟨by rw [right30] <;> rfl, rfl⟩
 refine Z195 ?_;refine Z136 ?_
 refine zgC ?_ ?_ <;> intro hb4
 ·
  refine Z156 ?_
  refine gL (xs := [.tmp 31]) rfl ((Tr.d_mk op name num ks ▸ c177 (.mk op name num ks))) ?_
  refine Z167 ?_
  refine g_callg (xs := [.tmp 34, .const (.string ⟨#[101]⟩)]) rfl (fun hg => (Tr.d_mk op name num ks ▸ c239 (.mk op name num ks) ⟨#[101]⟩ hok)) ?_
  refine Z145 ?_
  obtain rfl := eq_of_beq hb4
  refine Z4 ?_
  exact ⟨by rw [right31] <;> rfl, rfl⟩
 refine Z195 ?_;refine Z136 ?_
 refine zgC ?_ ?_ <;> intro hb5
 ·
  refine Z38 ?_;refine Z122 ?_;refine Z17 ?_
  refine sv rfl (y_buildSlice (xs := [.const (.string ⟨#[43]⟩), .const (.string ⟨#[42]⟩), .const (.string ⟨#[109, 105, 110]⟩), .const (.string ⟨#[109, 97, 120]⟩), .const (.string ⟨#[38, 38]⟩), .const (.string ⟨#[124, 124]⟩)]) u63 inf9) ?_
  refine Z150 ?_
  refine gL (xs := [.tmp 41, .tmp 43]) rfl (c176 [⟨#[43]⟩, ⟨#[42]⟩, ⟨#[109, 105, 110]⟩, ⟨#[109, 97, 120]⟩, ⟨#[38, 38]⟩, ⟨#[124, 124]⟩] name (by decide)) ?_
  refine Z147 ?_
  refine sg rfl (fun hg => sP 46 rfl hg (qL u3)) ?_
  refine sg rfl (fun hg => sP 47 rfl hg q_eql) ?_
  refine Z149 ?_;refine Z13 ?_
  refine g_callg (xs := [.tmp 51, .const (.string ⟨#[110]⟩)]) rfl (fun hg => (Tr.d_mk op name num ks ▸ c239 (.mk op name num ks) ⟨#[110]⟩ hok)) ?_
  refine Z145 ?_
  obtain rfl := eq_of_beq hb5
  refine Z4 ?_
  exact ⟨by rw [right67] <;> rfl, rfl⟩
 refine gK (bN (tN (zgS ?_)))
 refine Z122 ?_;refine Z17 ?_;refine Z133 ?_
 exact ⟨by rw [right_none hb1 hb2 hb0 hb3 hb4 hb5], rfl⟩
set_option maxHeartbeats 4000000 in
theorem c93n : ∀ (n : Nat) (t : Tr), t.size ≤ n → t.Ok → Pf Tryz.prog 93 [t.d] (.d (.bool t.shaped)) := by
 intro n
 induction n with
 | zero => intro t h; exact absurd t.size_pos (by omega)
 | succ n ih =>
  intro t hsz hok
  obtain ⟨op, name, num, ks⟩ := t
  have hkd : ∀ k ∈ ks, k.size ≤ n := fun k hk => by
   have := Tr.size_mem hk
   rw [Tr.size] at hsz
   omega
  rw [Tr.d_mk]
  have hok' := hok
  cases hok' with | mk h1 h2 h3 h4 h5 =>
  refine pf_body (rvs := [.tmp 2]) [(0, .d (.agg [.int .i64 op, .str name, .int .i64 num, .sl (ks.map Tr.d)]))] Tryz.func93 Tryz.ntmps93 Tryz.results93 (fun S0 O0 w0 m0 hm0 => ?_)
  refine Z186 ?_;refine Z7 ?_
  refine gL (xs := [.tmp 4]) rfl ((Tr.d_mk op name num ks ▸ c173 (.mk op name num ks) hok)) ?_
  refine Z54 ?_;refine Z9 ?_
  refine zgC ?_ ?_ <;> intro hb0
  ·
   refine Z5 ?_;refine Z151 ?_
   exact ⟨by rw [Tr.shaped, show rightB (.mk op name num ks) = false from by simpa using hb0, Bool.false_and], rfl⟩
  refine Z95 ?_;refine Z198 ?_
  refine g_loop (α := Nat) (fun z => ⟨[(3, .d (.int .i64 (z : Nat))), (1, .d (.ptr (.agg [.int .i64 op, .str name, .int .i64 num, .sl (ks.map Tr.d)])))], []⟩) (fun z => ks.length - z) (fun z => z ≤ ks.length ∧ ∀ i, i < z → ∀ k, ks[i]? = some k → k.shaped = true) 0 ⟨Nat.zero_le _, by simp⟩ (fun z hz Q' hn0 he0 hr0 => ?_) (le_of)
  obtain ⟨hz1, hz2⟩ := hz
  refine Z196 ?_;refine Z165 ?_;refine Z192 ?_
  refine zgC ?_ ?_ <;> intro hb1
  ·
   have hlt : z < ks.length := by simpa using hb1
   obtain ⟨a, hka⟩ : ∃ k, ks[z]? = some k := ⟨_, gE (by omega)⟩
   have hmem := mG hka
   obtain ⟨aop, anm, anu, aks, hke⟩ : ∃ op nm nu ks', a = .mk op nm nu ks' := by cases a; exact ⟨_, _, _, _, rfl⟩
   subst hke
   have hxa := Tr.ds_get hka
   rw [Tr.d_mk] at hxa
   refine Z24 ?_;refine Z146 ?_;refine Z2 ?_;refine Z58 ?_;refine Z7 ?_
   refine gL (xs := [.tmp 18]) rfl ((Tr.d_mk aop anm anu aks ▸ ih (.mk aop anm anu aks) (hkd _ hmem) (h5 _ hmem))) ?_
   refine Z54 ?_;refine Z9 ?_
   refine zgC ?_ ?_ <;> intro hb2
   ·
    refine Z176 ?_;refine Z190 ?_;refine Z4 ?_
    exact ⟨by rw [Tr.shaped, Tr.shapeds_all, show (ks.any fun k => !k.shaped) = true from List.any_eq_true.2 ⟨_, hmem, by simpa using hb2⟩]; simp, rfl⟩
   refine Z103 ?_;refine Z155 ?_;refine Z179 ?_
   refine hn0 _ (z + 1) ⟨by omega, upto_step (p := fun _ (k : Tr) => k.shaped) hz2 hka (by simpa using hb2)⟩ (by omega) le_of
  have hge : z = ks.length := by
   have : ¬ (z : Int) < ((ks.map Tr.d).length : Nat) := by simpa using hb1
   rw [List.length_map] at this
   omega
  refine Z164 ?_;refine Z133 ?_
  exact ⟨by rw [Tr.shaped, Tr.shapeds_all, show rightB (.mk op name num ks) = true from by simpa using hb0, show (ks.any fun k => !k.shaped) = false from List.any_eq_false.2 (fun k hk => by obtain ⟨i, hi⟩ := List.getElem?_of_mem hk; rw [hz2 i (by have := (lG hi); omega) k hi]; decide)]; rfl, rfl⟩
theorem limits_one (t : Tr) : limitsE [t] = if (t.size : Int) > 4000 then 5 else if t.depth > 60 then 6 else 0 := by
 have hd := Tr.depth_bd t
 unfold limitsE
 rw [show Tr.sizes [t] = t.size from by simp [Tr.sizes], show Tr.deeps [t] 0 = t.depth from by rw [Tr.deeps, Tr.deeps, if_pos (by omega)]]
set_option maxHeartbeats 1000000 in
theorem c25 (t : Tr) (hok : t.Ok) (hszb : t.size ≤ 1000000000) : Pf Tryz.prog 25 [t.d] (.d (.int .i64 (nodeE t))) := by
 obtain ⟨op, name, num, ks⟩ := t
 rw [Tr.d_mk]
 try simp only [Tr.op_mk, Tr.nm_mk, Tr.nu_mk, Tr.kids_mk]
 refine pf_body (rvs := [.tmp 2]) [(0, .d (.agg [.int .i64 op, .str name, .int .i64 num, .sl (ks.map Tr.d)]))] Tryz.func25 Tryz.ntmps25 Tryz.results25 (fun S0 O0 w0 m0 hm0 => ?_)
 refine Z174 ?_;refine Z7 ?_
 refine gL (xs := [.tmp 6]) rfl ((Tr.d_mk op name num ks ▸ c92n _ (.mk op name num ks) (Nat.le_refl _) hok hszb)) ?_
 refine Z2 ?_;refine Z197 ?_;refine Z1 ?_;refine Z189 ?_;refine Z88 ?_;refine Z9 ?_
 refine zgC ?_ ?_ <;> intro hb0
 ·
  refine Z5 ?_;refine Z151 ?_
  exact ⟨by rw [nodeE, show limitsE [(.mk op name num ks)] = 5 from by rw [limits_one, if_pos (oR hb0)], if_pos (by decide)], rfl⟩
 refine Z95 ?_;refine Z2 ?_;refine Z88 ?_;refine Z9 ?_
 refine zgC ?_ ?_ <;> intro hb1
 ·
  refine Z38 ?_;refine Z175 ?_;refine Z151 ?_
  exact ⟨by rw [nodeE, show limitsE [(.mk op name num ks)] = 6 from by rw [limits_one, if_neg (of_decide_eq_false hb0), if_pos (oR hb1)], if_pos (by decide)], rfl⟩
 refine Z96 ?_;refine Z175 ?_;refine Z137 ?_
 refine gL (xs := [.tmp 15]) rfl (c81 _) ?_
 refine Z54 ?_;refine Z147 ?_;refine Z110 ?_
 refine g_callg (xs := [.tmp 20]) rfl (fun hg => c96 _) ?_
 refine sg rfl (fun hg => sP 21 rfl hg q_not) ?_
 refine Z11 ?_;refine Z147 ?_
 refine sg rfl (fun hg => sP 25 rfl hg (qL u3)) ?_
 refine sg rfl (fun hg => sP 26 rfl hg q_neq) ?_
 refine Z11 ?_;refine Z147 ?_
 refine sg rfl (fun hg => sP 30 rfl hg (qL u3)) ?_
 refine sg rfl (fun hg => sP 31 rfl hg q_neq) ?_
 refine Z149 ?_;refine Z13 ?_
 refine g_callg (xs := [.tmp 35]) rfl (fun hg => (Tr.d_mk op name num ks ▸ c93n _ (.mk op name num ks) (Nat.le_refl _) hok)) ?_
 refine sg rfl (fun hg => sP 36 rfl hg q_not) ?_
 refine Z152 ?_
 refine zgC ?_ ?_ <;> intro hb2
 ·
  refine Z38 ?_;refine Z175 ?_;refine Z151 ?_
  exact ⟨by rw [nodeE, show limitsE [(.mk op name num ks)] = 0 from by rw [limits_one, if_neg (of_decide_eq_false hb0), if_neg (of_decide_eq_false hb1)], if_neg (by decide), if_pos hb2], rfl⟩
 refine Z94 ?_;refine Z175 ?_;refine Z133 ?_
 exact ⟨by rw [nodeE, show limitsE [(.mk op name num ks)] = 0 from by rw [limits_one, if_neg (of_decide_eq_false hb0), if_neg (of_decide_eq_false hb1)], if_neg (by decide), if_neg (by rw [hb2]; decide)], rfl⟩
end
section
def ab (d : Int) : Int := if d < 0 then -d else d
def mx (x y : Int) : Int := if y > x then y else x
structure GR (lo hi st a d c : Int) : Prop where
 hc : 1 ≤ c
 hd0 : d ≠ 0
 h1 : c = 1 → d = 1
 ha : -1000000 ≤ a ∧ a ≤ 1000000
 hl : -1000000 ≤ a + d * (c - 1) ∧ a + d * (c - 1) ≤ 1000000
 hlo : lo = if d < 0 then a + d * (c - 1) else a
 hhi : hi = if d < 0 then a else a + d * (c - 1)
 hst : st = d
def Good (lo hi st : Int) : Prop := (lo = 1 ∧ hi = 0 ∧ st = 1) ∨ ∃ a d c, GR lo hi st a d c
theorem W_id {n : Int} (h1 : -9223372036854775808 ≤ n) (h2 : n ≤ 9223372036854775807) : W n = n := wrap_i64 h1 h2
variable {d : Int}
theorem step_facts {k : Int} (hk : 0 ≤ k) (hd : d ≠ 0) (hb : -2000000 ≤ d * k ∧ d * k ≤ 2000000) : (0 < d → k ≤ d * k) ∧ (d < 0 → k ≤ -(d * k)) ∧ (1 ≤ k → -2000000 ≤ d ∧ d ≤ 2000000) ∧ (d * k = 0 ↔ k = 0) := by
 have hp : 0 < d → k ≤ d * k := fun h => by
  have := Int.mul_le_mul_of_nonneg_right (show 1 ≤ d by omega) hk
  omega
 have hn : d < 0 → k ≤ -(d * k) := fun h => by
  have := Int.mul_le_mul_of_nonneg_right (show 1 ≤ -d by omega) hk
  rw [Int.neg_mul] at this
  omega
 refine ⟨hp, hn, fun h => ?_, fun h => ?_, fun h => by rw [h, Int.mul_zero]⟩
 · rcases Int.lt_or_lt_of_ne hd with h2 | h2
   · have := Int.mul_le_mul_of_nonneg_left h (show 0 ≤ -d by omega)
     simp only [Int.neg_mul, Int.mul_one] at this
     omega
   · have := Int.mul_le_mul_of_nonneg_left h (show 0 ≤ d by omega)
     omega
 · rcases Int.mul_eq_zero.1 h with h | h
   · exact absurd h hd
   · exact h
variable {lo hi st a c : Int}
theorem GR.facts (h : GR lo hi st a d c) : (0 < d → c - 1 ≤ d * (c - 1)) ∧ (d < 0 → c - 1 ≤ -(d * (c - 1))) ∧ (-2000000 ≤ d ∧ d ≤ 2000000) ∧ (d * (c - 1) = 0 ↔ c - 1 = 0) ∧ c ≤ 2000001 := by
 have hc := h.hc
 have ha := h.ha
 have hl := h.hl
 obtain ⟨g1, g2, g3, g4⟩ := step_facts (show 0 ≤ c - 1 by omega) h.hd0 (by omega)
 refine ⟨g1, g2, ?_, g4, ?_⟩
 · by_cases hc1 : c = 1
   · have := h.h1 hc1; omega
   · exact g3 (by omega)
 · rcases Int.lt_or_lt_of_ne h.hd0 with h2 | h2
   · have := g2 h2; omega
   · have := g1 h2; omega
theorem GR.diff (h : GR lo hi st a d c) : hi - lo = ab d * (c - 1) ∧ 0 ≤ ab d * (c - 1) ∧ ab d * (c - 1) ≤ 2000000 := by
 obtain ⟨g1, g2, _⟩ := h.facts
 have hl := h.hl
 have ha := h.ha
 have hc := h.hc
 rw [h.hhi, h.hlo]
 unfold ab
 by_cases hd : d < 0
 · rw [if_pos hd, if_pos hd, if_pos hd, Int.neg_mul]
   have := g2 hd
   omega
 · rw [if_neg hd, if_neg hd, if_neg hd]
   have := g1 (by have := h.hd0; omega)
   omega
theorem ab_pos (h : d ≠ 0) : 0 < ab d := by unfold ab; split <;> omega
theorem stepS_ab (h : -2000000 ≤ d ∧ d ≤ 2000000) (h0 : d ≠ 0) : stepS d = ab d := by
 unfold stepS ab U IntKind.wrap
 simp only [IntKind.signed, IntKind.bits, Bool.false_and, Bool.false_eq_true, if_false]
 split <;> omega
theorem GR.check (h : GR lo hi st a d c) : checkS lo hi st = 0 := by
 obtain ⟨g1, g2, g3, g4, g5⟩ := h.facts
 obtain ⟨e1, e2, e3⟩ := h.diff
 have hl := h.hl
 have ha := h.ha
 have hc := h.hc
 have hd0 := h.hd0
 have hlo := h.hlo
 have hhi := h.hhi
 have hw : limS lo hi = 0 := by
  unfold limS withinB
  rw [if_neg]
  simp only [Bool.or_eq_true, Bool.not_eq_true', Bool.and_eq_false_iff, decide_eq_false_iff_not]
  by_cases hd : d < 0
  · rw [if_pos hd] at hlo hhi; omega
  · rw [if_neg hd] at hlo hhi; omega
 unfold checkS
 by_cases hc1 : c = 1
 · have hd := h.h1 hc1
   rw [if_neg]
   · exact hw
   · have hst := h.hst
     have : lo = hi := by
      have : c - 1 = 0 := by omega
      rw [this] at e1
      omega
     rw [this, hst, hd]; simp
 · have hlt : lo < hi := by
    have hp : 0 < ab d * (c - 1) := Int.mul_pos (ab_pos hd0) (by omega)
    omega
   have hmod : ((U (W (hi - lo))).tmod (stepS st) != 0) = false := by
    rw [h.hst, stepS_ab g3 hd0, W_id (by omega) (by omega), e1, show U (ab d * (c - 1)) = ab d * (c - 1) from by
     unfold U IntKind.wrap
     simp only [IntKind.signed, IntKind.bits, Bool.false_and, Bool.false_eq_true, if_false]
     omega, Int.mul_tmod_right]
    rfl
   split
   · rw [if_neg (by rw [h.hst]; simp; omega), hmod, if_neg (by decide)]
     exact hw
   · exact hw
theorem GR.series (h : GR lo hi st a d c) : seriesS lo hi st = (a, d, c) := by
 obtain ⟨g1, g2, g3, g4, g5⟩ := h.facts
 obtain ⟨e1, e2, e3⟩ := h.diff
 have hd0 := h.hd0
 have hlo := h.hlo
 have hhi := h.hhi
 have hc := h.hc
 have hst := h.hst
 have hab0 := ab_pos hd0
 have e4 : W (hi - lo) = ab d * (c - 1) := by rw [W_id (by omega) (by omega), e1]
 have e6 : W (W (c - 1) + 1) = c := by
  rw [W_id (n := c - 1) (by omega) (by omega), show c - 1 + 1 = c from by omega, W_id (by omega) (by omega)]
 unfold seriesS
 rw [if_neg (by omega), hst, e4]
 by_cases hd : d < 0
 · rw [if_pos hd] at hlo hhi
   have hab : ab d = -d := by unfold ab; rw [if_pos hd]
   have e5 : W (0 - d) = ab d := by rw [W_id (by omega) (by omega), hab]; omega
   rw [if_pos hd, e5, Int.mul_tdiv_cancel_left _ (by omega), e6, hhi]
 · rw [if_neg hd] at hlo hhi
   have hab : ab d = d := by unfold ab; rw [if_neg hd]
   rw [if_neg hd, hab, Int.mul_tdiv_cancel_left _ hd0, e6, hlo]
end
section
theorem GR.wf {lo hi st a d c : Int} (h : GR lo hi st a d c) : (-1000000 ≤ lo ∧ lo ≤ 1000000) ∧ (-1000000 ≤ hi ∧ hi ≤ 1000000) ∧ (-2000000 ≤ st ∧ st ≤ 2000000) ∧ st ≠ 0 ∧ lo ≤ hi ∧ (lo = hi → st = 1) ∧ hi % ab st = lo % ab st ∧ 0 < ab st ∧ ab st ≤ 2000000 := by
 obtain ⟨g1, g2, g3, g4, g5⟩ := h.facts
 obtain ⟨e1, e2, e3⟩ := h.diff
 have hl := h.hl
 have ha := h.ha
 have hlo := h.hlo
 have hhi := h.hhi
 have hst := h.hst
 have hd0 := h.hd0
 have hab := ab_pos hd0
 refine ⟨?_, ?_, by omega, by omega, by omega, fun he => ?_, ?_, by rw [hst]; exact hab, ?_⟩
 · split at hlo <;> omega
 · split at hhi <;> omega
 · rw [hst]
   apply h.h1
   have : ab d * (c - 1) = 0 := by omega
   rcases Int.mul_eq_zero.1 this with h1 | h1 <;> omega
 · rw [hst, show hi = lo + ab d * (c - 1) from by omega, Int.add_mul_emod_self_left]
 · rw [hst]; unfold ab; split <;> omega
end
section
variable {lo hi st : Int}
theorem GR.size {a d c : Int} (h : GR lo hi st a d c) : sizeS lo hi st = c := by
 rw [sizeS, h.check, if_neg (by decide), h.series]
theorem GR.nth {a d c k : Int} (h : GR lo hi st a d c) (hk : 0 ≤ k ∧ k ≤ c - 1) : (-1000000 ≤ a + k * d ∧ a + k * d ≤ 1000000) ∧ -2000000 ≤ k * d ∧ k * d ≤ 2000000 := by
 have hl := h.hl
 have ha := h.ha
 have hd0 := h.hd0
 rw [Int.mul_comm k d]
 rcases Int.lt_or_lt_of_ne hd0 with hd | hd
 · have e1 := Int.mul_le_mul_of_nonneg_left hk.2 (show 0 ≤ -d by omega)
   have e2 := Int.mul_nonneg (show 0 ≤ -d by omega) hk.1
   simp only [Int.neg_mul] at e1 e2
   omega
 · have e1 := Int.mul_le_mul_of_nonneg_left hk.2 (show 0 ≤ d by omega)
   have e2 := Int.mul_nonneg (show 0 ≤ d by omega) hk.1
   omega
theorem Good.size (h : Good lo hi st) : 0 ≤ sizeS lo hi st ∧ sizeS lo hi st ≤ 2000001 ∧ (sizeS lo hi st = 0 → lo = 1 ∧ hi = 0 ∧ st = 1) := by
 rcases h with ⟨rfl, rfl, rfl⟩ | ⟨a, d, c, hg⟩
 · decide
 · obtain ⟨_, _, _, _, g5⟩ := hg.facts
   have := hg.hc
   rw [hg.size]
   omega
end
section
def woL (l : List (ByteArray × Tr)) (nm : ByteArray) : List (ByteArray × Tr) := l.filter fun c => !decide (c.1 = nm)
end
section
def Agree (K : KL) (l : List (ByteArray × Tr)) : Prop := ∀ nm, findK nm K = findK nm (kl l)
theorem findK_filter (x nm : ByteArray) : ∀ K : KL, findK nm (K.filter fun c => !decide (c.1 = x)) = if x = nm then none else findK nm K
 | [] => by simp [findK]
 | c :: r => by
  rw [List.filter_cons]
  by_cases hc : c.1 = x
  · rw [if_neg (by simp [hc]), findK_filter x nm r]
    by_cases hx : x = nm
    · rw [if_pos hx, if_pos hx]
    · rw [if_neg hx, if_neg hx, findK, if_neg (by rw [hc]; exact hx)]
  · rw [if_pos (by simp [hc]), findK, findK, findK_filter x nm r]
    by_cases hx : x = nm
    · rw [if_pos hx, if_pos hx, if_neg (by rw [← hx]; exact hc)]
    · rw [if_neg hx, if_neg hx]
theorem kl_wo (l : List (ByteArray × Tr)) (x : ByteArray) : kl (woL l x) = (kl l).filter fun c => !decide (c.1 = x) := by
 unfold kl woL
 rw [List.filter_reverse, List.filter_map]
 rfl
theorem Agree.hide {K : KL} {l : List (ByteArray × Tr)} (h : Agree K l) (x : ByteArray) : Agree (hideK x K) (woL l x) := fun nm => by
 rw [kl_wo, findK_filter, ← h nm]
 rfl
end
section
def x0 (xs : List (Tr × Bool)) (i : Nat) : Tr × Bool := xs.getD i (z0, false)
end
section
def KOkT (l : KL) : Prop := ∀ x ∈ l, ∀ t, x.2 = some t → t.Ok
theorem KOkT.hide {l : KL} (h : KOkT l) (nm : ByteArray) : KOkT (hideK nm l) := fun x hx t ht => by
 rcases List.mem_cons.1 hx with rfl | hx
 · cases ht
 · exact h x hx t ht
theorem KOkT.hideV {l : KL} (h : KOkT l) (k : Tr) : KOkT (hideV k l) := by
 unfold Go.Proofs.YtklkbfpjimeaoaaGreat.hideV
 split
 · exact h.hide _
 · exact h
theorem KOkT.bind : ∀ (ks : List Tr) {l : KL}, KOkT l → KOkT (bindK ks l)
 | [], l, h => h
 | k :: r, l, h => by
  show KOkT (bindK r (hideK k.nm l))
  exact KOkT.bind r (h.hide _)
end
section
def isVarP (op num : Int) : Bool := op == 50 && andI num 8 != 0
def intTy : ByteArray := ⟨#[105, 110, 116]⟩
def boolTy : ByteArray := ⟨#[98, 111, 111, 108]⟩
def wantB (op : Int) : ByteArray := if (op == 2) = true then boolTy else intTy
def lastV (l : KL) (ks : List Tr) : Option Tr := match ks.getLast? with
 | some k => k.value l
 | none => none
def unfit (ks : List Tr) (v : Tr) : Bool := match ks with
 | [] => true
 | t :: _ => t.op != 30 || !decide (t.nm = wantB v.op)
def staticV (l : KL) : Tr → Option Tr
 | .mk _ _ num ks =>
  if (andI num 2 == 0) = true then none
  else match lastV l ks with
   | none => none
   | some v => if (andI num 1 == 0) = true then some v else if unfit ks v = true then none else some v
def part (vs : List (Option Tr)) : Int := 2 - nuV (v0 vs 0)
mutual
/-- A statement without params, or an error. -/
def Tr.fold : Tr → KL → Tr × Int
 | .mk op nm num ks, l =>
  if (op == 52 && isV (v0 (Tr.values l ks) 0) 2) = true then
   (if decide (part (Tr.values l ks) < ks.length) = true then
    (if (((Tr.kblocks ks l).getD (part (Tr.values l ks)).toNat ([], 0)).2 != 0) = true then (z0, ((Tr.kblocks ks l).getD (part (Tr.values l ks)).toNat ([], 0)).2) else (.mk 66 ⟨#[]⟩ 0 ((Tr.kblocks ks l).getD (part (Tr.values l ks)).toNat ([], 0)).1, 0))
    else (.mk 66 ⟨#[]⟩ 0 [], 0))
  else if (op == 66) = true then (.mk 66 ⟨#[]⟩ 0 (Tr.block ks l).1, (Tr.block ks l).2)
  else if ((Tr.bodies ks (if loopsB op num ks.length = true then bindK (ks.take num.toNat) l else l) (Tr.puts op num ks l 0 l ks)).2 != 0) = true then (z0, (Tr.bodies ks (if loopsB op num ks.length = true then bindK (ks.take num.toNat) l else l) (Tr.puts op num ks l 0 l ks)).2)
  else (.mk op nm num (Tr.bodies ks (if loopsB op num ks.length = true then bindK (ks.take num.toNat) l else l) (Tr.puts op num ks l 0 l ks)).1, 0)
def Tr.kblock : Tr → KL → List Tr × Int
 | .mk _ _ _ ks, l => Tr.block ks l
def Tr.kblocks : List Tr → KL → List (List Tr × Int)
 | [], _ => []
 | k :: r, l => k.kblock l :: Tr.kblocks r l
/-- The Kids of a statement, those that are blocks folded. -/
def Tr.bodies : List Tr → KL → List Tr → List Tr × Int
 | [], _, _ => ([], 0)
 | k :: r, l, ps =>
  if (k.op != 66) = true then (ps.headD z0 :: (Tr.bodies r l ps.tail).1, (Tr.bodies r l ps.tail).2)
  else if ((k.kblock l).2 != 0) = true then ([], (k.kblock l).2)
  else (.mk 66 ⟨#[]⟩ 0 (k.kblock l).1 :: (Tr.bodies r l ps.tail).1, (Tr.bodies r l ps.tail).2)
def Tr.block : List Tr → KL → List Tr × Int
 | [], _ => ([], 0)
 | t :: r, l =>
  if isVarP t.op t.nu = true then (match staticV l t with
   | none => ([], 140)
   | some v => Tr.block r ((t.nm, some v) :: l))
  else if ((t.fold l).2 != 0) = true then ([], (t.fold l).2)
  else if ((Tr.block r (hideV t l)).2 != 0) = true then ([], (Tr.block r (hideV t l)).2)
  else ((t.fold l).1 :: (Tr.block r (hideV t l)).1, 0)
end
theorem var_facts {nm : ByteArray} {num : Int} {ks : List Tr} (h : (Tr.mk 50 nm num ks).shaped = true) : 0 ≤ num ∧ num ≤ 15 ∧ (andI num 2 ≠ 0 → ∃ pre k, ks = pre ++ [k] ∧ isExprB k.op = true) ∧ (andI num 1 ≠ 0 → ∃ t r, ks = t :: r) := by
 have h1 := (Tr.shaped_mk h).1
 have h2 : varB (.mk 50 nm num ks) = true := by
  rw [rightB, if_pos (show (otherB (.mk 50 nm num ks)).2 = true from rfl)] at h1
  exact h1
 rw [varB] at h2
 split at h2
 · cases h2
 · rename_i h3
   simp only [Bool.or_eq_true, Bool.not_eq_true', decide_eq_true_eq, beq_iff_eq, not_or] at h3
   refine ⟨by omega, by omega, fun hn => ?_, fun hn => ?_⟩
   · have tail : ∀ l : List Tr, varTail num l = true → ∃ k, l = [k] ∧ isExprB k.op = true := fun l hl => by
      unfold varTail at hl
      rw [if_pos (by simpa using hn)] at hl
      match l, hl with
      | [k], hl => exact ⟨k, rfl, by simpa using hl⟩
      | _ :: _ :: _, hl => simp at hl; omega
     split at h2
     · match ks, h2 with
       | k :: r, h2 =>
        unfold varTy at h2
        obtain ⟨x, hx, hx2⟩ := tail r (Bool.and_eq_true_iff.1 h2).2
        exact ⟨[k], x, by rw [hx]; rfl, hx2⟩
     · obtain ⟨x, hx, hx2⟩ := tail ks h2
       exact ⟨[], x, hx, hx2⟩
   · rw [if_pos (by simpa using hn)] at h2
     match ks, h2 with
     | k :: r, _ => exact ⟨k, r, rfl⟩
variable {l : KL}
theorem KOk.okT (h : KOk l) : KOkT l := fun x hx t ht => (h x hx t ht).okT
theorem KOk.cons (h : KOk l) (nm : ByteArray) {v : Tr} (hv : ValOk v) : KOk ((nm, some v) :: l) := fun x hx t ht => by
 rcases List.mem_cons.1 hx with rfl | hx
 · injection ht with ht; subst ht; exact hv
 · exact h x hx t ht
theorem KOk.hide (h : KOk l) (nm : ByteArray) : KOk (hideK nm l) := fun x hx t ht => by
 rcases List.mem_cons.1 hx with rfl | hx
 · cases ht
 · exact h x hx t ht
theorem KOk.hideV (h : KOk l) (k : Tr) : KOk (hideV k l) := by
 unfold Go.Proofs.YtklkbfpjimeaoaaGreat.hideV
 split
 · exact h.hide _
 · exact h
theorem KOk.bind : ∀ (ks : List Tr) {l : KL}, KOk l → KOk (bindK ks l)
 | [], l, h => h
 | k :: r, l, h => by
  show KOk (bindK r (hideK k.nm l))
  exact KOk.bind r (h.hide _)
end
section
def BI (x y : List Tr × Int) (pre : List Tr) : Prop := x.2 = y.2 ∧ (x.2 = 0 → x.1 = pre ++ y.1)
theorem BI.keep {x : List Tr × Int} {k p : Tr} {r ps : List Tr} {l : KL} {pre : List Tr} (h : BI x (Tr.bodies (k :: r) l (p :: ps)) pre) (hk : (k.op != 66) = true) : BI x (Tr.bodies r l ps) (pre ++ [p]) := by
 rw [Tr.bodies, if_pos hk] at h
 exact ⟨h.1, fun h0 => by rw [h.2 h0, List.append_assoc]; rfl⟩
theorem BI.block {x : List Tr × Int} {k p : Tr} {r ps : List Tr} {l : KL} {pre : List Tr} (h : BI x (Tr.bodies (k :: r) l (p :: ps)) pre) (hk : (k.op != 66) = false) (he : ((k.kblock l).2 != 0) = false) : BI x (Tr.bodies r l ps) (pre ++ [.mk 66 ⟨#[]⟩ 0 (k.kblock l).1]) := by
 rw [Tr.bodies, if_neg (by rw [hk]; decide), if_neg (by rw [he]; decide)] at h
 exact ⟨h.1, fun h0 => by rw [h.2 h0, List.append_assoc]; rfl⟩
variable {ks : List Tr}
theorem kidsB_at {s : ByteArray} (h : kidsB ks s = true) {i : Nat} {k : Tr} (hk : ks[i]? = some k) : kindOk ((s[i]!).toNat : Nat) k.op = true := by
 unfold kidsB at h
 rw [Bool.and_eq_true, List.all_eq_true] at h
 exact h.2 (k, i) (List.mem_zipIdx_iff_getElem?.2 hk)
theorem stmt_kids {nm : ByteArray} {num : Int} (h : (Tr.mk 66 nm num ks).shaped = true) : ∀ k ∈ ks, isStmtB k.op = true := by
 have h1 := (Tr.shaped_mk h).1
 rw [right66, Bool.and_eq_true] at h1
 have h2 := h1.1
 unfold everyB at h2
 intro k hk
 simp only [Bool.not_eq_true', List.any_eq_false] at h2
 simpa using h2 k hk
def SFit (t : Tr) : Prop := t.Ok ∧ t.shaped = true ∧ isStmtB t.op = true ∧ t.Lens
theorem SFit.kid {nm : ByteArray} {num : Int} (hok : (Tr.mk 66 nm num ks).Ok) (hsh : (Tr.mk 66 nm num ks).shaped = true) (hl : (Tr.mk 66 nm num ks).Lens) : ∀ k ∈ ks, SFit k := fun k hk =>
 ⟨Tr.kids_ok hok k hk, (Tr.shaped_mk hsh).2 k hk, stmt_kids hsh k hk, hl.mk'.2 k hk⟩
end
section
variable {K : KL}
theorem value_agree {K' : KL} (h : ∀ nm, findK nm K = findK nm K') : ∀ n (t : Tr), t.size ≤ n → t.value K = t.value K' ∧ t.span K = t.span K' := by
 intro n
 induction n with
 | zero => intro t h; exact absurd t.size_pos (by omega)
 | succ n ih =>
  intro t hsz
  obtain ⟨op, nm, num, ks⟩ := t
  have hI : ∀ k ∈ ks, k.value K = k.value K' ∧ k.span K = k.span K' := fun k hk => ih k (by have := Tr.size_mem hk; rw [Tr.size] at hsz; omega)
  have hvs : Tr.values K ks = Tr.values K' ks := by
   rw [values_get, values_get]
   exact List.map_congr_left fun k hk => (hI k hk).1
  have hss : Tr.spans K ks = Tr.spans K' ks := by
   rw [spans_get, spans_get]
   exact List.map_congr_left fun k hk => (hI k hk).2
  rw [Tr.value, Tr.value, Tr.span, Tr.span, hvs, hss]
  refine ⟨?_, rfl⟩
  unfold valN
  rw [h nm]
theorem Agree.value {l : List (ByteArray × Tr)} (h : Agree K l) (t : Tr) : t.value (kl l) = t.value K := ((value_agree h t.size t (Nat.le_refl _)).1).symm
theorem Agree.cons {l : List (ByteArray × Tr)} (h : Agree K l) (nm : ByteArray) (v : Tr) : Agree ((nm, some v) :: K) (l ++ [(nm, v)]) := fun x => by
 rw [kl_snoc, findK, findK, h x]
theorem Agree.hideV {l : List (ByteArray × Tr)} (h : Agree K l) (t : Tr) : Agree (hideV t K) (if (t.op == 50) = true then woL l t.nm else l) := by
 unfold Go.Proofs.YtklkbfpjimeaoaaGreat.hideV
 cases t.op == 50
 · exact h
 · exact h.hide t.nm
def CV (n : Nat) (l : List (ByteArray × Tr)) : Prop := l.length ≤ n ∧ ∀ c ∈ l, ValOk c.2
theorem CV.mono {n m : Nat} {l : List (ByteArray × Tr)} (h : CV n l) (hm : n ≤ m) : CV m l := ⟨Nat.le_trans h.1 hm, h.2⟩
end
end Go.Proofs.YtklkbfpjimeaoaaGreat
