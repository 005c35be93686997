import Derived.Test.YtklkbfpjimeaoaaGreatM18
/- Contracts of functions. Conditions: none. -/
set_option linter.unusedSimpArgs false
set_option linter.unusedVariables false
set_option maxRecDepth 20000
namespace Go.Proofs.YtklkbfpjimeaoaaGreat
open Go Go.Proofs.YtklkbfpjimeaoaaGreat.E
section
def z0 : Tr := .mk 0 ⟨#[]⟩ 0 []
def evalT : Tr → List (ByteArray × Tr) → Tr × Int
 | .mk op name num ks, l =>
  if (nodeE (.mk op name num ks) != 0) = true then (z0, nodeE (.mk op name num ks))
  else if (!isExprB op) = true then (z0, 2)
  else if (!constsB l) = true then (z0, 1)
  else match (Tr.mk op name num ks).value (kl l) with
   | none => (z0, 140)
   | some v => (v, 0)
theorem nodeE_shaped {op : Int} {name : ByteArray} {num : Int} {ks : List Tr} (h : nodeE (.mk op name num ks) = 0) : (Tr.mk op name num ks).shaped = true := by
 rw [nodeE] at h
 split at h
 · rename_i h1
   rw [h] at h1
   cases h1
 · split at h
   · cases h
   · rename_i h2
     cases hs : (Tr.mk op name num ks).shaped with
     | true => rfl
     | false => rw [hs] at h2; simp at h2
theorem lit_ok {t : Tr} (hok : t.Ok) (hsh : t.shaped = true) (h : t.op = 1 ∨ t.op = 2) : ValOk t := by
 obtain ⟨op, nm, num, ks⟩ := t
 rcases h with h | h
 · replace h : op = 1 := h
   subst h
   obtain ⟨rfl, rfl⟩ := lit1 hsh
   refine .inl ⟨num, ?_, rfl⟩
   cases hok with | mk h1 h2 h3 h4 h5 =>
   simpa [Lit.wf, IntKind.min, IntKind.max, IntKind.signed, IntKind.bits, wf64] using h3
 · replace h : op = 2 := h
   subst h
   obtain ⟨rfl, rfl, rfl | rfl⟩ := lit2 hsh
   · exact .inr ⟨false, rfl⟩
   · exact .inr ⟨true, rfl⟩
theorem badC_ok {c : ByteArray × Tr} (hok : c.2.Ok) (h : badC c = false) : ValOk c.2 := by
 obtain ⟨n, op, name, num, ks⟩ := c
 simp only [badC, Bool.or_eq_false_iff, Bool.and_eq_false_iff, bne_eq_false_iff_eq] at h
 exact lit_ok hok (nodeE_shaped h.2) h.1
theorem kl_ok {l : List (ByteArray × Tr)} (hl : COk l) (h : constsB l = true) : KOk (kl l) := by
 intro x hx t ht
 unfold kl at hx
 rw [List.mem_reverse, List.mem_map] at hx
 obtain ⟨c, hc, rfl⟩ := hx
 injection ht with ht
 subst ht
 unfold constsB at h
 rw [Bool.not_eq_true', List.any_eq_false] at h
 exact badC_ok (hl.2 c hc).1 (by simpa using h c hc)
set_option maxHeartbeats 8000000 in
theorem c29 (t : Tr) (hok : t.Ok) (hszb : t.size ≤ 1000000) (l : List (ByteArray × Tr)) (hl : COk l) : Pf Tryz.prog 29 [t.d, .sl (l.map cD)] (.tup [.d (evalT t l).1.d, .d (.int .i64 (evalT t l).2)]) := by
 obtain ⟨op, name, num, ks⟩ := t
 rw [Tr.d_mk]
 try simp only [Tr.op_mk, Tr.nm_mk, Tr.nu_mk, Tr.kids_mk]
 refine pf_body (rvs := [.cell 4 27, .tmp 5]) [(0, .d (.agg [.int .i64 op, .str name, .int .i64 num, .sl (ks.map Tr.d)])), (1, .d (.sl (l.map cD)))] Tryz.func29 Tryz.ntmps29 Tryz.results29 (fun S0 O0 w0 m0 hm0 => ?_)
 refine Z245 ?_;refine Z29 ?_;refine Z233 ?_;refine Z8 ?_
 refine gL (xs := [.tmp 8]) rfl ((Tr.d_mk op name num ks ▸ c24 (.mk op name num ks) hok (by omega))) ?_
 refine Z277 ?_;refine Z261 ?_
 refine gC ?_ ?_ <;> intro hb0
 ·
  refine Z3 ?_;refine Z64 ?_;refine Z0 ?_;refine Z21 ?_;refine Z235 ?_;refine Z94 ?_
  exact ⟨by rw [evalT, if_pos hb0, z0, Tr.d_mk]; rfl, rfl⟩
 have hsh := nodeE_shaped (op := op) (name := name) (num := num) (ks := ks) (by simpa using hb0)
 refine Z103 ?_;refine Z8 ?_
 refine gL (xs := [.tmp 14]) rfl ((show Pf Tryz.prog 99 [.agg [.int .i64 op, .str name, .int .i64 num, .sl (ks.map Tr.d)]] (.d (.bool (isExprB op))) from Tr.d_mk op name num ks ▸ c99 (.mk op name num ks))) ?_
 refine Z281 ?_
 refine gC ?_ ?_ <;> intro hb1
 ·
  refine Z3 ?_;refine Z64 ?_;refine Z21 ?_;refine Z235 ?_;refine Z94 ?_
  exact ⟨by rw [evalT, if_neg (by rw [hb0]; decide), if_pos hb1, z0, Tr.d_mk]; rfl, rfl⟩
 refine Z103 ?_;refine Z0 ?_
 refine gL (xs := [.tmp 18]) rfl (c103 l hl) ?_
 refine Z281 ?_
 refine gC ?_ ?_ <;> intro hb2
 ·
  refine Z53 ?_;refine Z68 ?_;refine Z14 ?_;refine Z64 ?_;refine Z21 ?_;refine Z235 ?_;refine Z94 ?_
  exact ⟨by rw [evalT, if_neg (by rw [hb0]; decide), if_neg (by rw [hb1]; decide), if_pos hb2, z0, Tr.d_mk]; rfl, rfl⟩
 have hkl := kl_ok hl (by simpa using hb2)
 refine Z58 ?_
 rcases hv : (Tr.mk op name num ks).value (kl l) with _ | v
 ·
  refine Z68 ?_
  refine g_cg0 [22, 23, 24, 25, 7] ?_
  refine Z15 ?_;refine Z114 ?_;refine Z15 ?_;refine Z116 ?_;refine Z110 ?_
  refine cS 3 (fun _ _ _ _ _ => gL (xs := [.tmp 23]) rfl (c105 l hl) (gN ⟨rfl, rfl⟩)) ?_
  refine cP [0, 2, 2] ?_
  refine cS 4 (fun _ _ _ _ _ => gL (xs := [.tmp 22, .tmp 24]) rfl ((Tr.d_mk op name num ks ▸ c104 (kl l) hkl (.mk op name num ks) hok hsh)) (gN ⟨rfl, rfl⟩)) ?_
  rw [hv, valD]
  refine cP [3, 3, 0, 1, 2, 3] ?_
  refine cS 5 (fun _ _ _ _ _ => vq rfl qA (gN ⟨rfl, rfl⟩)) ?_
  refine Z84 ?_
  refine tN (gS (gS (gR ?_)))
  refine Z0 ?_;refine Z141 ?_;refine Z10 ?_
  refine gC ?_ ?_ <;> intro hb3
  ·
   refine Z3 ?_;refine Z64 ?_;refine Z21 ?_;refine Z235 ?_;refine Z94 ?_
   exact ⟨by rw [evalT, if_neg (by rw [hb0]; decide), if_neg (by rw [hb1]; decide), if_neg (by rw [hb2]; decide), hv, z0, Tr.d_mk]; rfl, rfl⟩
  exact absurd hb3 (by decide)
 refine Z68 ?_
 refine g_cg0 [22, 23, 24, 25, 7] ?_
 refine Z15 ?_;refine Z114 ?_;refine Z15 ?_;refine Z116 ?_;refine Z110 ?_
 refine cS 3 (fun _ _ _ _ _ => gL (xs := [.tmp 23]) rfl (c105 l hl) (gN ⟨rfl, rfl⟩)) ?_
 refine cP [0, 2, 2] ?_
 refine cS 4 (fun _ _ _ _ _ => gL (xs := [.tmp 22, .tmp 24]) rfl ((Tr.d_mk op name num ks ▸ c104 (kl l) hkl (.mk op name num ks) hok hsh)) (gN ⟨rfl, rfl⟩)) ?_
 obtain ⟨vop, vnm, vnu, vks, hva⟩ := v.d_agg
 have hvo := value_ok (kl l) hkl _ _ (Nat.le_refl _) hok hsh v hv
 rw [hv, valD, hva]
 refine cP [3, 3, 0, 1, 2, 3] ?_
 refine cS 5 (fun _ _ _ _ _ => vq rfl qA (gN ⟨rfl, rfl⟩)) ?_
 refine Z84 ?_
 refine tN (gS (gS (gR ?_)))
 refine Z0 ?_;refine Z141 ?_;refine Z10 ?_
 refine gC ?_ ?_ <;> intro hb4
 · exact absurd hb4 (by decide)
 refine Z43 ?_;refine Z0 ?_;refine Z171 ?_;refine Z8 ?_
 refine gL (xs := [.tmp 31]) rfl ((hva ▸ c100 v hvo.lens)) ?_
 refine Z21 ?_;refine Z228 ?_;refine Z94 ?_
 exact ⟨by rw [evalT, if_neg (by rw [hb0]; decide), if_neg (by rw [hb1]; decide), if_neg (by rw [hb2]; decide), hv, hva], rfl⟩
mutual
/-- An expression whose largest parts with a value are replaced by it. -/
def Tr.expr : Tr → Tr
 | .mk op name num ks =>
  if (!isExprB op) = true then .mk op name num ks
  else if ((evalT (.mk op name num ks) []).2 == 0) = true then (evalT (.mk op name num ks) []).1 else .mk op name num (Tr.exprs ks)
def Tr.exprs : List Tr → List Tr
 | [] => []
 | k :: r => k.expr :: Tr.exprs r
end
theorem Tr.exprs_map (ks : List Tr) : Tr.exprs ks = ks.map Tr.expr := by
 induction ks with
 | nil => rw [Tr.exprs]; rfl
 | cons k r ih => rw [Tr.exprs, ih]; rfl
theorem COk_nil : COk [] := ⟨by simp, by simp⟩
end
section
theorem c97 (n : Int) : Pf Tryz.prog 97 [.int .i64 n] (.d (.agg [.int .i64 1, .str ⟨#[]⟩, .int .i64 n, .sl []])) := by
 refine pf_body (rvs := [.cell 2 27]) [(0, .d (.int .i64 n))] Tryz.func97 Tryz.ntmps97 Tryz.results97 (fun S0 O0 w0 m0 hm0 => ?_)
 refine Z3 ?_;refine Z29 ?_;refine Z5 ?_;refine Z0 ?_;refine Z64 ?_;refine Z21 ?_;refine Z7 ?_;refine Z140 ?_
 exact ⟨by rfl, rfl⟩
theorem c98 (s : ByteArray) (l : List D) : Pf Tryz.prog 98 [.str s, .sl l] (.d (.agg [.int .i64 6, .str s, .int .i64 0, .sl l])) := by
 refine pf_body (rvs := [.cell 4 27]) [(0, .d (.str s)), (1, .d (.sl l))] Tryz.func98 Tryz.ntmps98 Tryz.results98 (fun S0 O0 w0 m0 hm0 => ?_)
 refine Z3 ?_;refine Z29 ?_;refine Z5 ?_;refine Z231 ?_;refine Z64 ?_;refine Z21 ?_;refine Z7 ?_;refine Z140 ?_
 exact ⟨by rfl, rfl⟩
def awT : Tr := .mk 19 ⟨#[]⟩ 0 [.mk 6 ⟨#[62]⟩ 0 [.mk 4 ⟨#[107]⟩ 0 [], .mk 1 ⟨#[]⟩ 2 []], .mk 6 ⟨#[42]⟩ 0 [.mk 1 ⟨#[]⟩ 2 [], .mk 4 ⟨#[107]⟩ 0 []], .mk 4 ⟨#[120]⟩ 0 []]
def awC : List (ByteArray × Tr) := [(⟨#[107]⟩, intT 3)]
theorem aw_ev : evalT awT awC = (intT 6, 0) := by rfl
def okTr : Nat → Tr → Bool
 | 0, _ => false
 | n + 1, .mk op nm num ks => ((((Lit.int .i64 op).wf && decide (nm.size ≤ 140737488355328)) && (Lit.int .i64 num).wf) && decide (ks.length ≤ 140737488355328)) && ks.all (okTr n)
theorem okTr_ok : ∀ (n : Nat) (t : Tr), okTr n t = true → t.Ok := by
 intro n
 induction n with
 | zero => intro t h; cases h
 | succ n ih =>
  intro t h
  obtain ⟨op, nm, num, ks⟩ := t
  rw [okTr] at h
  simp only [Bool.and_eq_true, decide_eq_true_eq, List.all_eq_true] at h
  exact .mk h.1.1.1.1 h.1.1.1.2 h.1.1.2 h.1.2 fun k hk => ih k (h.2 k hk)
theorem aw_ok : awT.Ok := okTr_ok 5 awT (by rfl)
theorem awC_ok : COk awC := ⟨by decide, fun c hc => by
 rw [awC, List.mem_singleton] at hc
 subst hc
 exact ⟨okTr_ok 5 _ (by rfl), by decide⟩⟩
theorem aw29 : Pf Tryz.prog 29 [.agg [.int .i64 19, .str ⟨#[]⟩, .int .i64 0, .sl [.agg [.int .i64 6, .str ⟨#[62]⟩, .int .i64 0, .sl [.agg [.int .i64 4, .str ⟨#[107]⟩, .int .i64 0, .sl []], .agg [.int .i64 1, .str ⟨#[]⟩, .int .i64 2, .sl []]]], .agg [.int .i64 6, .str ⟨#[42]⟩, .int .i64 0, .sl [.agg [.int .i64 1, .str ⟨#[]⟩, .int .i64 2, .sl []], .agg [.int .i64 4, .str ⟨#[107]⟩, .int .i64 0, .sl []]]], .agg [.int .i64 4, .str ⟨#[120]⟩, .int .i64 0, .sl []]]], .sl [.agg [.str ⟨#[107]⟩, .int .i64 1, .str ⟨#[]⟩, .int .i64 3, .sl []]]] (.tup [.d (.agg [.int .i64 1, .str ⟨#[]⟩, .int .i64 6, .sl []]), .d (.int .i64 0)]) := by
 have h := c29 awT aw_ok (by decide) awC awC_ok
 rw [aw_ev] at h
 exact h
set_option maxHeartbeats 8000000 in
theorem c27  : Pf Tryz.prog 27 [] (.d (.bool true)) := by
 refine pf_body (rvs := [.tmp 0]) [] Tryz.func27 Tryz.ntmps27 Tryz.results27 (fun S0 O0 w0 m0 hm0 => ?_)
 refine Z240 ?_;refine Z64 ?_;refine Z269 ?_
 refine gF 0 [] (.agg [.int .i64 4, .str ⟨#[107]⟩, .int .i64 0, .sl []]) rfl ?_
 refine Z5 ?_;refine Z230 ?_;refine Z1 ?_;refine Z30 ?_
 refine g_cg [8, 9, 10, 11, 12, 13, 14, 15, 16, 17, 18, 19, 20, 21, 22, 4] (fun bq => cond (bq 15) ([] ++ [cond (bq 16) [.d (.int .i64 19), .d (.str ⟨#[]⟩), .d (.int .i64 0), .d (.sl [.agg [.int .i64 6, .str ⟨#[62]⟩, .int .i64 0, .sl [.agg [.int .i64 4, .str ⟨#[107]⟩, .int .i64 0, .sl []], .agg [.int .i64 1, .str ⟨#[]⟩, .int .i64 2, .sl []]]], .agg [.int .i64 6, .str ⟨#[42]⟩, .int .i64 0, .sl [.agg [.int .i64 1, .str ⟨#[]⟩, .int .i64 2, .sl []], .agg [.int .i64 4, .str ⟨#[107]⟩, .int .i64 0, .sl []]]], .agg [.int .i64 4, .str ⟨#[120]⟩, .int .i64 0, .sl []]])] [.d (.int .i64 0), .d (.str ⟨#[]⟩), .d (.int .i64 0), .nils]]) []) rfl ?_
 refine Z15 ?_;refine Z61 ?_;refine Z15 ?_
 refine cS 2 (fun _ _ _ _ _ => vq rfl (qG (by exact sz27) u27 rfl) (gN ⟨rfl, rfl⟩)) ?_
 refine Z15 ?_;refine Z71 ?_;refine Z97 ?_
 refine cS 4 (fun _ _ _ _ _ => gL (xs := [.const (.int .i64 (2))]) rfl (c97 2) (gN ⟨rfl, rfl⟩)) ?_
 refine cP [1, 3] ?_
 refine cS 5 (fun _ _ _ _ _ => sv rfl (y_buildSlice (xs := [.tmp 9, .tmp 11]) u22 inf27) (gN ⟨rfl, rfl⟩)) ?_
 refine cP [0, 4, 3] ?_
 refine cS 6 (fun _ _ _ _ _ => gL (xs := [.const (.string ⟨#[62]⟩), .tmp 12]) rfl (c98 _ _) (gN ⟨rfl, rfl⟩)) ?_
 refine Z15 ?_;refine Z117 ?_;refine Z15 ?_
 refine cS 8 (fun _ _ _ _ _ => vq rfl qM (gN ⟨rfl, rfl⟩)) ?_
 refine cP [7, 5] ?_
 refine cS 9 (fun _ _ _ _ _ => gL (xs := [.const (.int .i64 (2))]) rfl (c97 2) (gN ⟨rfl, rfl⟩)) ?_
 refine Z15 ?_
 refine cS 10 (fun _ _ _ _ _ => vq rfl (qG (by exact sz27) u27 rfl) (gN ⟨rfl, rfl⟩)) ?_
 refine cP [8, 9] ?_
 refine cS 11 (fun _ _ _ _ _ => sv rfl (y_buildSlice (xs := [.tmp 16, .tmp 17]) u22 inf27) (gN ⟨rfl, rfl⟩)) ?_
 refine cP [6, 10, 8] ?_
 refine cS 12 (fun _ _ _ _ _ => gL (xs := [.const (.string ⟨#[42]⟩), .tmp 18]) rfl (c98 _ _) (gN ⟨rfl, rfl⟩)) ?_
 refine Z15 ?_
 refine cS 13 (fun _ _ _ _ _ => vq rfl (q_buildS pl27 zr27) (gN ⟨rfl, rfl⟩)) ?_
 refine cP [5, 11, 12] ?_
 refine cS 14 (fun _ _ _ _ _ => sv rfl (y_buildSlice (xs := [.tmp 13, .tmp 19, .tmp 20]) u22 inf27) (gN ⟨rfl, rfl⟩)) ?_
 refine cP [13] ?_
 refine cS 15 (fun _ _ _ _ _ => vq rfl (q_buildS pl27 zr27) (gN ⟨rfl, rfl⟩)) ?_
 refine Z15 ?_
 refine cS 16 (fun bq rest hc1 hc2 hc3 => by
  have hs := hc3.no 16 15 hc1
  have e1 : upd bq 15 15 = true := rfl
  have e2 : upd bq 15 16 = false := hs
  simp only [hc1, cond_false]
  refine Z29 ?_
  exact (gN ⟨rfl, by rw [e1, e2]; rfl⟩)) ?_
 refine cP [15, 14, 11, 0, 1, 2, 3, 4, 5, 6, 7, 8, 9, 10, 11, 12, 13, 14, 15] ?_
 refine cg_act 17 (fun bq rest hc1 hc2 hc3 => by
  have ha := hc2 15 dep_in
  have e1 : upd bq 16 15 = true := ha
  have e2 : upd bq 16 16 = true := rfl
  simp only [ha, hc1, cond_true, cond_false]
  refine Z21 ?_
  exact (gN ⟨rfl, by rw [e1, e2]; rfl⟩)) ?_
 refine cg_done (mem'' := [[.d (.int .i64 19), .d (.str ⟨#[]⟩), .d (.int .i64 0), .d (.sl [.agg [.int .i64 6, .str ⟨#[62]⟩, .int .i64 0, .sl [.agg [.int .i64 4, .str ⟨#[107]⟩, .int .i64 0, .sl []], .agg [.int .i64 1, .str ⟨#[]⟩, .int .i64 2, .sl []]]], .agg [.int .i64 6, .str ⟨#[42]⟩, .int .i64 0, .sl [.agg [.int .i64 1, .str ⟨#[]⟩, .int .i64 2, .sl []], .agg [.int .i64 4, .str ⟨#[107]⟩, .int .i64 0, .sl []]]], .agg [.int .i64 4, .str ⟨#[120]⟩, .int .i64 0, .sl []]])]]) ?_
 refine Z173 ?_
 refine gP [0, 1, 2, 3, 4, 5, 6] ?_
 refine g_frz 0 [] (.agg [.int .i64 19, .str ⟨#[]⟩, .int .i64 0, .sl [.agg [.int .i64 6, .str ⟨#[62]⟩, .int .i64 0, .sl [.agg [.int .i64 4, .str ⟨#[107]⟩, .int .i64 0, .sl []], .agg [.int .i64 1, .str ⟨#[]⟩, .int .i64 2, .sl []]]], .agg [.int .i64 6, .str ⟨#[42]⟩, .int .i64 0, .sl [.agg [.int .i64 1, .str ⟨#[]⟩, .int .i64 2, .sl []], .agg [.int .i64 4, .str ⟨#[107]⟩, .int .i64 0, .sl []]]], .agg [.int .i64 4, .str ⟨#[120]⟩, .int .i64 0, .sl []]]]) rfl ?_
 refine g_cg [24, 25, 26, 27, 28, 29, 23, 30, 31, 5, 6] (fun bq => cond (bq 9) ([] ++ [cond (bq 10) [.d (.int .i64 1), .d (.str ⟨#[]⟩), .d (.int .i64 6), .d (.sl [])] [.d (.int .i64 0), .d (.str ⟨#[]⟩), .d (.int .i64 0), .nils]]) []) rfl ?_
 refine Z15 ?_;refine Z114 ?_;refine Z15 ?_;refine Z116 ?_;refine Z110 ?_
 refine cS 3 (fun _ _ _ _ _ => gL (xs := [.const (.int .i64 (3))]) rfl (c97 3) (gN ⟨rfl, rfl⟩)) ?_
 refine Z97 ?_
 refine cS 4 (fun _ _ _ _ _ => vq rfl (q_buildS pl66 zr66) (gN ⟨rfl, rfl⟩)) ?_
 refine Z111 ?_
 refine cS 5 (fun _ _ _ _ _ => sv rfl (y_buildSlice (xs := [.tmp 27]) u51 inf66) (gN ⟨rfl, rfl⟩)) ?_
 refine cP [0, 4, 2] ?_
 refine cS 6 (fun _ _ _ _ _ => gL (xs := [.tmp 24, .tmp 28]) rfl (aw29) (gN ⟨rfl, rfl⟩)) ?_
 refine Z157 ?_;refine Z117 ?_;refine Z119 ?_
 refine cS 8 (fun _ _ _ _ _ => vq rfl qE (gN ⟨rfl, rfl⟩)) ?_
 refine Z119 ?_
 refine cS 9 (fun _ _ _ _ _ => vq rfl qE (gN ⟨rfl, rfl⟩)) ?_
 refine Z15 ?_
 refine cS 10 (fun bq rest hc1 hc2 hc3 => by
  have hs := hc3.no 10 9 hc1
  have e1 : upd bq 9 9 = true := rfl
  have e2 : upd bq 9 10 = false := hs
  simp only [hc1, cond_false]
  refine Z29 ?_
  exact (gN ⟨rfl, by rw [e1, e2]; rfl⟩)) ?_
 refine cP [9, 7, 5, 0, 1, 2, 3, 4, 5, 6, 7, 9] ?_
 refine cg_act 11 (fun bq rest hc1 hc2 hc3 => by
  have ha := hc2 9 dep_in
  have e1 : upd bq 10 9 = true := ha
  have e2 : upd bq 10 10 = true := rfl
  simp only [ha, hc1, cond_true, cond_false]
  refine Z21 ?_
  exact (gN ⟨rfl, by rw [e1, e2]; rfl⟩)) ?_
 refine cP [8, 10, 0, 1, 2, 3, 4, 5, 6, 7, 8, 9, 10] ?_
 refine Z59 ?_
 refine cg_done (mem'' := [[.d (.int .i64 1), .d (.str ⟨#[]⟩), .d (.int .i64 6), .d (.sl [])]]) ?_
 refine Z173 ?_
 refine gP [0, 1, 2, 3, 4, 5, 6] ?_
 refine Z253 ?_;refine Z20 ?_;refine Z0 ?_
 refine sgo rfl (by rfl) (y_fieldAddr u27 rfl sz3) ?_
 refine sgo rfl (by rfl) (y_load_leaf u3) ?_
 refine sgo rfl (by rfl) y_eql ?_
 refine Z241 ?_
 refine sgo rfl (by rfl) (y_fieldAddr u27 rfl sz3) ?_
 refine sgo rfl (by rfl) (y_load_leaf u3) ?_
 refine sgo rfl (by rfl) y_eql ?_
 refine Z257 ?_
 exact ⟨by rfl, rfl⟩
theorem depth_mem : ∀ {ks : List Tr} {k : Tr} (d : Int), k ∈ ks → k.depth ≤ Tr.deeps ks d
 | x :: r, k, d, h => by
  rw [Tr.deeps]
  have h1 := Tr.deeps_bd r (if x.depth > d then x.depth else d)
  rcases List.mem_cons.1 h with rfl | h
  · split at h1 <;> rename_i h2 <;> first | rw [if_pos h2] | rw [if_neg h2]
    all_goals omega
  · exact depth_mem _ h
theorem lim_iff (t : Tr) : limitsE [t] = 0 ↔ (t.size : Int) ≤ 4000 ∧ t.depth ≤ 60 := by
 have hd := Tr.depth_bd t
 have hs : Tr.sizes [t] = t.size := by simp [Tr.sizes]
 have hp : Tr.deeps [t] 0 = t.depth := by
  rw [Tr.deeps, Tr.deeps, if_pos (by omega)]
 unfold limitsE
 rw [hs, hp]
 by_cases h1 : (t.size : Int) > 4000
 · rw [if_pos h1]; constructor
   · intro h; cases h
   · intro h; omega
 · rw [if_neg h1]
   by_cases h2 : t.depth > 60
   · rw [if_pos h2]; constructor
     · intro h; cases h
     · intro h; omega
   · rw [if_neg h2]; constructor
     · intro _; omega
     · intro _; rfl
def QT (t : Tr) : Prop := limitsE [t] = 0 ∧ t.shaped = true ∧ t.Ok
variable {op num : Int} {nm : ByteArray} {ks : List Tr}
theorem QT.kid (h : QT (.mk op nm num ks)) {k : Tr} (hk : k ∈ ks) : QT k := by
 obtain ⟨h1, h2, h3⟩ := h
 refine ⟨?_, (Tr.shaped_mk h2).2 k hk, Tr.kids_ok h3 k hk⟩
 rw [lim_iff] at h1 ⊢
 have hs := Tr.size_mem hk
 have hd := depth_mem 0 hk
 rw [Tr.size, Tr.depth] at h1
 omega
theorem QT.of {t : Tr} (h : nodeE t = 0) (hok : t.Ok) : QT t := by
 obtain ⟨op, nm, num, ks⟩ := t
 refine ⟨?_, nodeE_shaped h, hok⟩
 rw [nodeE] at h
 split at h
 · exact h
 · rename_i h1
   simpa using h1
theorem nodeE_expr (h : QT (.mk op nm num ks)) (ho : isExprB op = true) : nodeE (.mk op nm num ks) = 0 := by
 rw [nodeE, if_neg (by rw [h.1]; decide), if_neg (by rw [ho, h.2.1]; simp)]
theorem kl_nil : kl [] = [] := rfl
def evR : Option Tr → Tr × Int
 | none => (z0, 140)
 | some v => (v, 0)
theorem evalT_expr (h : QT (.mk op nm num ks)) (ho : isExprB op = true) : evalT (.mk op nm num ks) [] = evR ((Tr.mk op nm num ks).value []) := by
 rw [evalT, nodeE_expr h ho, if_neg (by decide), ho, if_neg (by decide), badC_nil, if_neg (by decide), kl_nil]
 cases (Tr.mk op nm num ks).value [] <;> rfl
def exR (op : Int) (nm : ByteArray) (num : Int) (ks : List Tr) : Option Tr → Tr
 | none => .mk op nm num (ks.map Tr.expr)
 | some v => v
theorem expr_expr (h : QT (.mk op nm num ks)) (ho : isExprB op = true) : (Tr.mk op nm num ks).expr = exR op nm num ks ((Tr.mk op nm num ks).value []) := by
 rw [Tr.expr, ho, if_neg (by decide), evalT_expr h ho]
 cases (Tr.mk op nm num ks).value [] with
 | none => rw [Tr.exprs_map]; rfl
 | some v => rfl
variable {v : Tr}
theorem ValOk.shaped (h : ValOk v) : v.shaped = true := by
 rcases h with ⟨n, _, rfl⟩ | ⟨b, rfl⟩
 · rfl
 · cases b <;> rfl
theorem ValOk.okT (h : ValOk v) : v.Ok := by
 rcases h with ⟨n, hn, rfl⟩ | ⟨b, rfl⟩
 · refine .mk (by decide) (by decide) ?_ (by decide) (by simp)
   simpa [Lit.wf, IntKind.min, IntKind.max, IntKind.signed, IntKind.bits, wf64] using hn
 · cases b
   · exact .mk (by decide) (by decide) (by decide) (by decide) (by simp)
   · exact .mk (by decide) (by decide) (by decide) (by decide) (by simp)
theorem ValOk.one (h : ValOk v) : v.size = 1 := by
 rcases h with ⟨n, _, rfl⟩ | ⟨b, rfl⟩
 · rw [intT, Tr.size, Tr.sizes]
 · rw [boolT, Tr.size, Tr.sizes]
theorem ValOk.QT (h : ValOk v) : QT v := by
 refine ⟨?_, h.shaped, h.okT⟩
 rw [lim_iff, h.one]
 have := Tr.depth_bd v
 have := h.one
 omega
theorem ValOk.self (h : ValOk v) (l : KL) : v.value l = some v ∧ v.span l = noSP := by
 rcases h with ⟨n, _, rfl⟩ | ⟨b, rfl⟩
 · exact ⟨rfl, rfl⟩
 · exact ⟨rfl, rfl⟩
theorem ValOk.eval (h : ValOk v) : evalT v [] = (v, 0) ∧ v.expr = v := by
 have hq := h.QT
 have hv := (h.self []).1
 rcases h with ⟨n, hn, rfl⟩ | ⟨b, rfl⟩
 · refine ⟨?_, ?_⟩
   · rw [intT] at hq hv ⊢; rw [evalT_expr hq rfl, hv]; rfl
   · rw [intT] at hq hv ⊢; rw [expr_expr hq rfl, hv]; rfl
 · refine ⟨?_, ?_⟩
   · rw [boolT] at hq hv ⊢; rw [evalT_expr hq rfl, hv]; rfl
   · rw [boolT] at hq hv ⊢; rw [expr_expr hq rfl, hv]; rfl
theorem spans_get (l : KL) (ks : List Tr) : Tr.spans l ks = ks.map (Tr.span l) := by
 induction ks with
 | nil => rw [Tr.spans]; rfl
 | cons k r ih => rw [Tr.spans, ih]; rfl
theorem KOk_nil : KOk [] := fun x hx => by cases hx
theorem QT.val {t : Tr} (h : QT t) {v : Tr} (hv : t.value [] = some v) : ValOk v := value_ok [] KOk_nil _ t (Nat.le_refl _) h.2.2 h.2.1 v hv
theorem Tr.d_eta (t : Tr) : t.d = .agg [.int .i64 t.op, .str t.nm, .int .i64 t.nu, .sl (t.kids.map Tr.d)] := by
 obtain ⟨op, nm, num, ks⟩ := t
 exact Tr.d_mk ..
theorem z0_ok : z0.Ok := okTr_ok 5 z0 (by rfl)
end
section
def loopsB (op num : Int) (n : Nat) : Bool := ((((op == 54 || op == 55) || op == 56) && decide (num ≥ 0)) && decide (num ≤ 2)) && decide ((n : Int) ≥ W (num + 2))
def hideK (nm : ByteArray) (l : KL) : KL := (nm, none) :: l
def bindK (ks : List Tr) (l : KL) : KL := ks.foldl (fun l k => hideK k.nm l) l
def keepsB (op num : Int) (n i : Nat) (k : Tr) : Bool := ((op == 51 && (i : Int) == 0) && k.op == 4) || (loopsB op num n && decide ((i : Int) < num))
mutual
def Tr.put : Tr → KL → Tr
 | .mk op nm num ks, l =>
  if (op == 4) = true then (match findK nm l with | some v => v | none => .mk op nm num ks)
  else if (op == 67) = true then .mk op nm num ks
  else .mk op nm num (Tr.puts op num ks l 0 l ks)
def Tr.puts (op num : Int) (all : List Tr) (l : KL) (i : Nat) (inner : KL) : List Tr → List Tr
 | [] => []
 | k :: r =>
  if keepsB op num all.length i k = true then k :: Tr.puts op num all l (i + 1) (if (k.op == 50) = true then hideK k.nm inner else inner) r
  else if (loopsB op num all.length && (i : Int) == W (num + 1)) = true then k.put (bindK (all.take num.toNat) inner) :: Tr.puts op num all l (i + 1) (if (k.op == 50) = true then hideK k.nm l else l) r
  else k.put inner :: Tr.puts op num all l (i + 1) (if (k.op == 50) = true then hideK k.nm inner else inner) r
end
variable {op num : Int}
theorem loops_num {n : Nat} (h : loopsB op num n = true) : 0 ≤ num ∧ num ≤ 2 ∧ num + 2 ≤ n := by
 unfold loopsB at h
 simp only [Bool.and_eq_true, decide_eq_true_eq] at h
 obtain ⟨⟨⟨_, h1⟩, h2⟩, h3⟩ := h
 unfold W at h3
 rw [wrap_i64 (by omega) (by omega)] at h3
 omega
def hideV (k : Tr) (l : KL) : KL := if (k.op == 50) = true then hideK k.nm l else l
def stepT (op num : Int) (all : List Tr) (l : KL) (i : Nat) (inner : KL) (k : Tr) : Tr × KL :=
 if keepsB op num all.length i k = true then (k, hideV k inner)
 else if (loopsB op num all.length && (i : Int) == W (num + 1)) = true then (k.put (bindK (all.take num.toNat) inner), hideV k l)
 else (k.put inner, hideV k inner)
def endK (op num : Int) (all : List Tr) (l : KL) : Nat → KL → List Tr → KL
 | _, inner, [] => inner
 | i, inner, k :: r => endK op num all l (i + 1) (stepT op num all l i inner k).2 r
theorem puts_cons (op num : Int) (all : List Tr) (l : KL) (i : Nat) (inner : KL) (k : Tr) (r : List Tr) : Tr.puts op num all l i inner (k :: r) = (stepT op num all l i inner k).1 :: Tr.puts op num all l (i + 1) (stepT op num all l i inner k).2 r := by
 rw [Tr.puts, stepT]
 split
 · rfl
 · split <;> rfl
variable {all ks : List Tr} {l : KL} {z : Nat} {k : Tr}
theorem puts_drop (h : ks[z]? = some k) (inner : KL) : Tr.puts op num all l z inner (ks.drop z) = (stepT op num all l z inner k).1 :: Tr.puts op num all l (z + 1) (stepT op num all l z inner k).2 (ks.drop (z + 1)) := by
 obtain ⟨hlt, rfl⟩ := List.getElem?_eq_some_iff.1 h
 rw [List.drop_eq_getElem_cons hlt, puts_cons]
theorem endK_drop (h : ks[z]? = some k) (inner : KL) : endK op num all l z inner (ks.drop z) = endK op num all l (z + 1) (stepT op num all l z inner k).2 (ks.drop (z + 1)) := by
 obtain ⟨hlt, rfl⟩ := List.getElem?_eq_some_iff.1 h
 rw [List.drop_eq_getElem_cons hlt, endK]
theorem puts_len (op num : Int) (all : List Tr) (l : KL) : ∀ (ks : List Tr) (i : Nat) (inner : KL), (Tr.puts op num all l i inner ks).length = ks.length := by
 intro ks
 induction ks with
 | nil => intro i inner; rw [Tr.puts]
 | cons k r ih => intro i inner; rw [puts_cons, List.length_cons, ih, List.length_cons]
def KLens (l : KL) : Prop := ∀ x ∈ l, ∀ t, x.2 = some t → t.Lens
theorem KLens.hide (h : KLens l) (nm : ByteArray) : KLens (hideK nm l) := fun x hx t ht => by
 rcases List.mem_cons.1 hx with rfl | hx
 · cases ht
 · exact h x hx t ht
theorem KLens.hideV (h : KLens l) (k : Tr) : KLens (hideV k l) := by
 unfold Go.Proofs.YtklkbfpjimeaoaaGreat.hideV
 split
 · exact h.hide _
 · exact h
theorem KLens.bind : ∀ (ks : List Tr) {l : KL}, KLens l → KLens (bindK ks l)
 | [], l, h => h
 | k :: r, l, h => by
  show KLens (bindK r (hideK k.nm l))
  exact KLens.bind r (h.hide _)
theorem KLens.step {inner : KL} (hl : KLens l) (hi : KLens inner) (i : Nat) (k : Tr) : KLens (stepT op num all l i inner k).2 := by
 unfold stepT
 split
 · exact hi.hideV k
 · split
   · exact hl.hideV k
   · exact hi.hideV k
theorem findK_lens {nm : ByteArray} : ∀ {l : KL}, KLens l → ∀ v, findK nm l = some v → v.Lens
 | [], _, v, h => by cases h
 | x :: r, hl, v, h => by
  rw [findK] at h
  split at h
  · exact hl x (by simp) v h
  · exact findK_lens (fun y hy => hl y (by simp [hy])) v h
theorem bindK_step (h : ks[z]? = some k) (l : KL) : bindK (ks.take (z + 1)) l = hideK k.nm (bindK (ks.take z) l) := by
 unfold bindK
 rw [List.take_add_one, h, List.foldl_append]; rfl
theorem c196 (t : Tr) : Pf Tryz.prog 196 [t.d] (.d (.bool (loopsB t.op t.nu t.kids.length))) := by
 obtain ⟨op, name, num, ks⟩ := t
 rw [Tr.d_mk]
 try simp only [Tr.op_mk, Tr.nm_mk, Tr.nu_mk, Tr.kids_mk]
 refine pf_body (rvs := [.tmp 2]) [(0, .d (.agg [.int .i64 op, .str name, .int .i64 num, .sl (ks.map Tr.d)]))] Tryz.func196 Tryz.ntmps196 Tryz.results196 (fun S0 O0 w0 m0 hm0 => ?_)
 refine Z267 ?_;refine Z266 ?_;refine Z263 ?_;refine Z166 ?_
 refine sg rfl (fun hg => sP 8 rfl hg q_eql) ?_
 refine Z22 ?_;refine Z263 ?_
 refine sg rfl (fun hg => sP 12 rfl hg (qL u3)) ?_
 refine sg rfl (fun hg => sP 13 rfl hg q_eql) ?_
 refine Z22 ?_;refine Z263 ?_
 refine sg rfl (fun hg => sP 17 rfl hg (qL u3)) ?_
 refine sg rfl (fun hg => sP 18 rfl hg q_geq) ?_
 refine Z241 ?_;refine Z24 ?_
 refine sg rfl (fun hg => sP 22 rfl hg (qL u3)) ?_
 refine sg rfl (fun hg => sP 23 rfl hg q_leq) ?_
 refine Z241 ?_;refine Z44 ?_
 refine sg rfl (fun hg => sP 27 rfl hg (qL u22)) ?_
 refine sg rfl (fun hg => sP 28 rfl hg (q_len u22)) ?_
 refine Z24 ?_
 refine sg rfl (fun hg => sP 30 rfl hg (qL u3)) ?_
 refine sg rfl (fun hg => sP 31 rfl hg (q_add (hw := rfl))) ?_
 refine sg rfl (fun hg => sP 32 rfl hg (sP 29 rfl hg q_geq)) ?_
 refine Z257 ?_
 exact ⟨by (simp only [Tr.op_mk, Tr.nu_mk, Tr.kids_mk, loopsB, List.length_map, W] <;> rfl), rfl⟩
theorem knD_cof (l : KL) : (PV.d (knD l)).cellsOf = [.d (knD l)] := by cases l <;> rfl
set_option maxHeartbeats 1000000 in
theorem c132 (l : KL) (nm : ByteArray) : Pf Tryz.prog 132 [knD l, .str nm] (.d (knD (hideK nm l))) := by
 refine pf_body (rvs := [.tmp 4]) [(0, .d (knD l)), (1, .d (.str nm))] Tryz.func132 Tryz.ntmps132 Tryz.results132 (fun S0 O0 w0 m0 hm0 => ?_)
 refine Z288 ?_;refine Z30 ?_
 rcases knD_or l with hkd | ⟨kd, hkd⟩ <;> rw [hkd]
 ·
  refine Z14 ?_;refine Z231 ?_;refine Z124 ?_;refine Z13 ?_
  refine gF 0 [] (.agg [.str nm, .nil, .nil]) rfl ?_
  rw [show D.ptr (.agg [.str nm, .nil, .nil]) = knD (hideK nm l) from by rw [hideK, knD, valD, hkd]]
  refine Z229 ?_
  exact ⟨rfl, rfl⟩
 refine Z14 ?_;refine Z231 ?_;refine Z124 ?_;refine Z13 ?_
 refine gF 0 [] (.agg [.str nm, .nil, .ptr kd]) rfl ?_
 rw [show D.ptr (.agg [.str nm, .nil, .ptr kd]) = knD (hideK nm l) from by rw [hideK, knD, valD, hkd]]
 refine Z229 ?_
 exact ⟨rfl, rfl⟩
set_option maxHeartbeats 4000000 in
theorem c197 (t : Tr) (l : KL) (h0 : 0 ≤ t.nu) (h1 : t.nu ≤ t.kids.length) (hlim : t.kids.length ≤ 1000000) : Pf Tryz.prog 197 [knD l, t.d] (.d (knD (bindK (t.kids.take t.nu.toNat) l))) := by
 obtain ⟨op, name, num, ks⟩ := t
 rw [Tr.d_mk]
 try simp only [Tr.op_mk, Tr.nm_mk, Tr.nu_mk, Tr.kids_mk]
 try replace h0 : 0 ≤ num := h0
 try replace h1 : num ≤ ks.length := h1
 try replace hlim : ks.length ≤ 1000000 := hlim
 refine pf_body (rvs := [.tmp 4]) [(0, .d (knD l)), (1, .d (.agg [.int .i64 op, .str name, .int .i64 num, .sl (ks.map Tr.d)]))] Tryz.func197 Tryz.ntmps197 Tryz.results197 (fun S0 O0 w0 m0 hm0 => ?_)
 refine Z245 ?_;refine Z233 ?_;refine Z250 ?_;refine Z238 ?_
 refine vq rfl ((q_sliceh u22 sz27 (Tr.ds_cells ks))) ?_
 refine Z273 ?_
 refine g_loop (α := Nat) (fun z => ⟨[(13, .d (.int .i64 (z : Nat))), (12, .d (.int .i64 (((ks.map Tr.d).take num.toNat).length : Nat))), (11, .d (.sl ((ks.map Tr.d).take num.toNat))), (0, .d (knD (bindK (ks.take z) l)))], []⟩) (fun z => num.toNat - z) (fun z => z ≤ num.toNat) 0 (Nat.zero_le _) (fun z hz Q' hn0 he0 hr0 => ?_) (le_of)
 have hll : ((ks.map Tr.d).take num.toNat).length = num.toNat := by rw [List.length_take, List.length_map]; omega
 have hcc : ∀ x ∈ (ks.map Tr.d).take num.toNat, x.cells.length = 4 := fun x hx => Tr.ds_cells ks x (List.mem_of_mem_take hx)
 refine Z248 ?_
 refine gC ?_ ?_ <;> intro hb0
 ·
  have hlt : z < num.toNat := by
   have h1 : (z : Int) < ((ks.map Tr.d).take num.toNat).length := by simpa using hb0
   rw [List.length_take, List.length_map] at h1
   omega
  obtain ⟨k, hk⟩ : ∃ k, ks[z]? = some k := ⟨_, gE (by omega)⟩
  have hmem := mG hk
  obtain ⟨kop, knm, knu, kks, hke⟩ : ∃ op nm nu ks', k = .mk op nm nu ks' := by cases k; exact ⟨_, _, _, _, rfl⟩
  subst hke
  have hxd : ((ks.map Tr.d).take num.toNat)[z]? = some (.agg [.int .i64 kop, .str knm, .int .i64 knu, .sl (kks.map Tr.d)]) := by rw [List.getElem?_take_of_lt hlt, Tr.ds_get hk, Tr.d_mk]
  have hbs := bindK_step hk l
  refine Z25 ?_;refine Z258 ?_;refine Z269 ?_;refine Z63 ?_;refine Z162 ?_;refine Z0 ?_;refine Z270 ?_
  refine gL (xs := [.tmp 17, .tmp 19]) rfl (c132 (bindK (ks.take z) l) knm) ?_
  rw [← show bindK (ks.take (z + 1)) l = hideK knm (bindK (ks.take z) l) from hbs]
  refine Z1 ?_;refine Z137 ?_;refine Z239 ?_
  refine hn0 _ (z + 1) (by omega) (by omega) le_of
 have hge : z = num.toNat := by
  have h1 : ¬ (z : Int) < ((ks.map Tr.d).take num.toNat).length := by simpa using hb0
  omega
 refine Z259 ?_;refine Z0 ?_;refine Z229 ?_
 exact ⟨by rw [hge], rfl⟩
set_option maxHeartbeats 8000000 in
theorem c101p (op num : Int) (name : ByteArray) (ks : List Tr) (l : KL) (hlim : ks.length ≤ 1000000) (hL : KLens l)
 (hcb : ∀ (z : Nat) (k : Tr) (inner : KL), ks[z]? = some k → KLens inner → Gm Tryz.prog 195 [.d (.int .i64 (z : Nat)), .d k.d, .ref 0 0, .ref 1 0, .ref 2 0] [[.d (.int .i64 op), .d (.str name), .d (.int .i64 num), .d (.sl (ks.map Tr.d))], [.d (knD inner)], [.d (knD l)]] (.d (stepT op num ks l z inner k).1.d) [[.d (.int .i64 op), .d (.str name), .d (.int .i64 num), .d (.sl (ks.map Tr.d))], [.d (knD (stepT op num ks l z inner k).2)], [.d (knD l)]]) : Gm Tryz.prog 101 [.d (.sl (ks.map Tr.d)), .fn (.func 195) [] [.ref 0 0, .ref 1 0, .ref 2 0]] [[.d (.int .i64 op), .d (.str name), .d (.int .i64 num), .d (.sl (ks.map Tr.d))], [.d (knD l)], [.d (knD l)]] (.d (.sl ((Tr.puts op num ks l 0 l ks).map Tr.d))) [[.d (.int .i64 op), .d (.str name), .d (.int .i64 num), .d (.sl (ks.map Tr.d))], [.d (knD (endK op num ks l 0 l ks))], [.d (knD l)]] := by
 refine gm_body (rvs := [.tmp 4]) 3 [(0, .d (.sl (ks.map Tr.d))), (1, .fn (.func 195) [] [.ref 0 0, .ref 1 0, .ref 2 0])] Tryz.func101 Tryz.ntmps101 Tryz.results101 (fun S0 O0 w0 m0 hm0 => ?_)
 refine Z240 ?_;refine Z256 ?_;refine Z273 ?_
 refine g_loop (α := Nat × List Tr × KL) (fun z => ⟨[(10, .d (.int .i64 (z.1 : Nat))), (9, .d (.int .i64 ((ks.map Tr.d).length : Nat))), (8, .d (.sl (ks.map Tr.d))), (5, .osl 4 (z.2.1.map Tr.d)), (1, .fn (.func 195) [] [.ref 0 0, .ref 1 0, .ref 2 0])], [[.d (.int .i64 op), .d (.str name), .d (.int .i64 num), .d (.sl (ks.map Tr.d))], [.d (knD z.2.2)], [.d (knD l)]]⟩) (fun z => ks.length - z.1) (fun z => z.1 ≤ ks.length ∧ z.2.1.length = z.1 ∧ KLens z.2.2 ∧ z.2.1 ++ Tr.puts op num ks l z.1 z.2.2 (ks.drop z.1) = Tr.puts op num ks l 0 l ks ∧ endK op num ks l z.1 z.2.2 (ks.drop z.1) = endK op num ks l 0 l ks) (0, [], l) ⟨Nat.zero_le _, rfl, hL, rfl, rfl⟩ (fun z hz Q' hn0 he0 hr0 => ?_) (le_of)
 obtain ⟨z, acc, inner⟩ := z
 obtain ⟨hz1, hz2, hz3, hz4, hz5⟩ := hz
 replace hz1 : z ≤ ks.length := hz1
 replace hz2 : acc.length = z := hz2
 replace hz3 : KLens inner := hz3
 replace hz4 : acc ++ Tr.puts op num ks l z inner (ks.drop z) = Tr.puts op num ks l 0 l ks := hz4
 replace hz5 : endK op num ks l z inner (ks.drop z) = endK op num ks l 0 l ks := hz5
 refine Z248 ?_
 refine gC ?_ ?_ <;> intro hb0
 ·
  have hlt : z < ks.length := by simpa using hb0
  obtain ⟨k, hk⟩ : ∃ k, ks[z]? = some k := ⟨_, gE hlt⟩
  have hmem := mG hk
  have hxd := Tr.ds_get hk
  have hxa := hxd
  obtain ⟨kop, knm, knu, kks, hka⟩ := k.d_agg
  rw [hka] at hxa
  have hfa := (stepT op num ks l z inner k).1.d_eta
  refine Z268 ?_;refine Z258 ?_;refine Z29 ?_;refine Z1 ?_;refine Z21 ?_
  refine gF 3 [[.d (.int .i64 op), .d (.str name), .d (.int .i64 num), .d (.sl (ks.map Tr.d))], [.d (knD inner)], [.d (knD l)]] (.agg [.int .i64 kop, .str knm, .int .i64 knu, .sl (kks.map Tr.d)]) rfl ?_
  refine Z162 ?_;refine Z184 ?_;refine Z231 ?_;refine Z8 ?_
  refine g_callm [0, 1, 2] rfl (hfa ▸ hka ▸ hcb z k inner hk hz3) ?_
  refine Z176 ?_;refine Z83 ?_
  rw [← hfa, show acc.map Tr.d ++ [(stepT op num ks l z inner k).1.d] = (acc ++ [(stepT op num ks l z inner k).1]).map Tr.d from by rw [List.map_append]; rfl]
  refine Z125 ?_;refine Z222 ?_;refine Z209 ?_;refine Z285 ?_
  refine hn0 _ (z + 1, acc ++ [(stepT op num ks l z inner k).1], (stepT op num ks l z inner k).2) ⟨by show z + 1 ≤ ks.length; omega, by show (acc ++ [_]).length = z + 1; rw [List.length_append, List.length_singleton]; omega, hL.step hz3 z k, by show (acc ++ [_]) ++ _ = _; rw [List.append_assoc, ← hz4, puts_drop hk]; rfl, by show endK op num ks l (z + 1) _ _ = _; rw [← hz5, endK_drop hk]⟩ (by show ks.length - (z + 1) < ks.length - z; omega) le_of
 have hge : z = ks.length := by
  have : ¬ (z : Int) < (ks.map Tr.d).length := by simpa using hb0
  rw [List.length_map] at this
  omega
 refine Z259 ?_
 subst hge
 rw [List.drop_length, Tr.puts, List.append_nil] at hz4
 rw [List.drop_length, endK] at hz5
 refine Z0 ?_;refine Z228 ?_
 refine finkm [[.d (.int .i64 op), .d (.str name), .d (.int .i64 num), .d (.sl (ks.map Tr.d))], [.d (knD inner)], [.d (knD l)]] (by simp) ?_
 exact ⟨by rw [hz4], by rw [hz5]⟩
theorem l196 (op num : Int) (name : ByteArray) (ks : List Tr) : Pf Tryz.prog 196 [.agg [.int .i64 op, .str name, .int .i64 num, .sl (ks.map Tr.d)]] (.d (.bool (loopsB op num ks.length))) := Tr.d_mk op name num ks ▸ c196 (.mk op name num ks)
theorem hideV_t (h : (k.op == 50) = true) : hideV k l = hideK k.nm l := if_pos h
theorem hideV_f (h : (k.op == 50) = false) : hideV k l = l := if_neg (by rw [h]; decide)
set_option maxHeartbeats 8000000 in
theorem c195x (op num : Int) (name : ByteArray) (ks : List Tr) (l inner : KL) (z : Nat) (kop knu : Int) (knm : ByteArray) (kks : List Tr) (hlim : ks.length ≤ 1000000) (hz : z < ks.length) (hkl : (Tr.mk kop knm knu kks).Lens) (hL : KLens l) (hi : KLens inner)
 (ih : ∀ K : KL, KLens K → Pf Tryz.prog 110 [(Tr.mk kop knm knu kks).d, knD K] (.d ((Tr.mk kop knm knu kks).put K).d)) : Gm Tryz.prog 195 [.d (.int .i64 (z : Nat)), .d (.agg [.int .i64 kop, .str knm, .int .i64 knu, .sl (kks.map Tr.d)]), .ref 0 0, .ref 1 0, .ref 2 0] [[.d (.int .i64 op), .d (.str name), .d (.int .i64 num), .d (.sl (ks.map Tr.d))], [.d (knD inner)], [.d (knD l)]] (.d (stepT op num ks l z inner (Tr.mk kop knm knu kks)).1.d) [[.d (.int .i64 op), .d (.str name), .d (.int .i64 num), .d (.sl (ks.map Tr.d))], [.d (knD (stepT op num ks l z inner (Tr.mk kop knm knu kks)).2)], [.d (knD l)]] := by
 refine gm_body (rvs := [.cell 7 27]) 3 [(0, .d (.int .i64 (z : Nat))), (1, .d (.agg [.int .i64 kop, .str knm, .int .i64 knu, .sl (kks.map Tr.d)])), (2, .ref 0 0), (3, .ref 1 0), (4, .ref 2 0)] Tryz.func195 Tryz.ntmps195 Tryz.results195 (fun S0 O0 w0 m0 hm0 => ?_)
 refine Z232 ?_
 refine gF 3 [[.d (.int .i64 op), .d (.str name), .d (.int .i64 num), .d (.sl (ks.map Tr.d))], [.d (knD inner)], [.d (knD l)]] (.agg [.int .i64 kop, .str knm, .int .i64 knu, .sl (kks.map Tr.d)]) rfl ?_
 refine Z29 ?_;refine Z5 ?_;refine Z8 ?_;refine Z269 ?_;refine Z10 ?_
 refine G_seq_cut (α := Tr × KL) (fun y => ⟨[(6, .d (.ptr (.agg [.int .i64 kop, .str knm, .int .i64 knu, .sl (kks.map Tr.d)]))), (3, .ref 1 0), (7, .ref 3 0), (8, .ref 4 0)], [[.d (.int .i64 op), .d (.str name), .d (.int .i64 num), .d (.sl (ks.map Tr.d))], [.d (knD y.2)], [.d (knD l)], [.d (.int .i64 0), .d (.str ⟨#[]⟩), .d (.int .i64 0), .nils], [.d (.int .i64 y.1.op), .d (.str y.1.nm), .d (.int .i64 y.1.nu), .d (.sl (y.1.kids.map Tr.d))]]⟩) (fun y => (y.1, hideV (Tr.mk kop knm knu kks) y.2) = stepT op num ks l z inner (Tr.mk kop knm knu kks)) (fun Q' hn he hr => ?_) (fun y hy => ?_)
 ·
  refine G_block (gS (gS (gR ?_)))
  refine Z207 ?_;refine Z54 ?_;refine Z20 ?_;refine Z249 ?_
  refine sg rfl (fun hg => sP 18 rfl hg q_eql) ?_
  refine Z241 ?_;refine Z24 ?_
  refine sg rfl (fun hg => sP 22 rfl hg (qL u3)) ?_
  refine sg rfl (fun hg => sP 23 rfl hg q_eql) ?_
  refine Z12 ?_;refine Z234 ?_
  refine gC ?_ ?_ <;> intro hb0
  ·
   have hkp : keepsB op num ks.length z (Tr.mk kop knm knu kks) = true := by
    unfold keepsB
    rw [show (((op == 51 && (z : Int) == 0) && ((Tr.mk kop knm knu kks)).op == 4)) = ((op == 51 && (z : Int) == 0) && kop == 4) from rfl]
    rw [show ((op == 51 && (z : Int) == 0) && kop == 4) = true from hb0]; rfl
   refine Z221 ?_
   refine gC ?_ ?_ <;> intro hb1
   ·
    refine Z14 ?_;refine Z8 ?_
    refine gL (xs := [.tmp 34]) rfl ((Tr.d_mk kop knm knu kks ▸ c100 (Tr.mk kop knm knu kks) hkl)) ?_
    refine Z21 ?_
    refine gN (bN ?_)
    refine hn _ ((Tr.mk kop knm knu kks), inner) (by rw [stepT, if_pos hkp]) le_of
   exact absurd (hb0.symm.trans hb1) (by decide)
  refine Z14 ?_;refine Z60 ?_
  refine gL (xs := [.tmp 26]) rfl (l196 op num name ks) ?_
  refine Z249 ?_
  refine sg rfl (fun hg => q_fieldAddr u27 rfl sz3) ?_
  refine sg rfl (fun hg => sP 30 rfl hg (qO u3)) ?_
  refine sg rfl (fun hg => sP 31 rfl hg (sP 29 rfl hg q_lss)) ?_
  refine Z12 ?_;refine Z234 ?_
  refine gC ?_ ?_ <;> intro hb2
  ·
   have hkp : keepsB op num ks.length z (Tr.mk kop knm knu kks) = true := by
    unfold keepsB
    rw [show (((op == 51 && (z : Int) == 0) && ((Tr.mk kop knm knu kks)).op == 4)) = ((op == 51 && (z : Int) == 0) && kop == 4) from rfl]
    rw [show (loopsB op num ks.length && decide ((z : Int) < num)) = true from hb2, Bool.or_true]
   refine Z14 ?_;refine Z8 ?_
   refine gL (xs := [.tmp 34]) rfl ((Tr.d_mk kop knm knu kks ▸ c100 (Tr.mk kop knm knu kks) hkl)) ?_
   refine Z21 ?_
   refine gN (bN ?_)
   refine hn _ ((Tr.mk kop knm knu kks), inner) (by rw [stepT, if_pos hkp]) le_of
  have hkn : keepsB op num ks.length z (Tr.mk kop knm knu kks) = false := by
   unfold keepsB
   rw [show (((op == 51 && (z : Int) == 0) && ((Tr.mk kop knm knu kks)).op == 4)) = ((op == 51 && (z : Int) == 0) && kop == 4) from rfl, show ((op == 51 && (z : Int) == 0) && kop == 4) = false from hb0, show (loopsB op num ks.length && decide ((z : Int) < num)) = false from hb2]; rfl
  refine Z3 ?_;refine Z60 ?_
  refine gL (xs := [.tmp 37]) rfl (l196 op num name ks) ?_
  refine Z249 ?_
  refine sg rfl (fun hg => q_fieldAddr u27 rfl sz3) ?_
  refine sg rfl (fun hg => sP 41 rfl hg (qO u3)) ?_
  refine sg rfl (fun hg => sP 42 rfl hg (q_add (hw := rfl))) ?_
  refine sg rfl (fun hg => sP 43 rfl hg (sP 40 rfl hg q_eql)) ?_
  refine Z12 ?_;refine Z234 ?_
  refine gC ?_ ?_ <;> intro hb3
  ·
   have hbd : (loopsB op num ks.length && (z : Int) == W (num + 1)) = true := hb3
   have hlp := (Bool.and_eq_true_iff.1 hbd).1
   refine Z53 ?_
   refine g_cg [46, 47, 48, 49, 50] (fun bq => [[.d (.int .i64 op), .d (.str name), .d (.int .i64 num), .d (.sl (ks.map Tr.d))], [.d (knD inner)], [.d (knD l)], [.d (.int .i64 0), .d (.str ⟨#[]⟩), .d (.int .i64 0), .nils], cond (bq 5) [.d (.int .i64 ((Tr.mk kop knm knu kks).put (bindK (ks.take num.toNat) inner)).op), .d (.str ((Tr.mk kop knm knu kks).put (bindK (ks.take num.toNat) inner)).nm), .d (.int .i64 ((Tr.mk kop knm knu kks).put (bindK (ks.take num.toNat) inner)).nu), .d (.sl (((Tr.mk kop knm knu kks).put (bindK (ks.take num.toNat) inner)).kids.map Tr.d))] [.d (.int .i64 kop), .d (.str knm), .d (.int .i64 knu), .d (.sl (kks.map Tr.d))]]) rfl ?_
   refine Z15 ?_;refine Z114 ?_;refine Z15 ?_
   refine cS 2 (fun bq rest hc1 hc2 hc3 => by
    have hs := hc3.no 5 1 hc1
    have e2 : upd bq 1 5 = false := hs
    simp only [hs, cond_false]
    refine Z106 ?_
    exact (gN ⟨rfl, by rw [e2]; rfl⟩)) ?_
   refine Z15 ?_
   refine cS 3 (fun bq rest hc1 hc2 hc3 => by
    have hs := hc3.no 5 2 hc1
    have e2 : upd bq 2 5 = false := hs
    simp only [hs, cond_false]
    refine Z60 ?_
    exact (gN ⟨rfl, by rw [e2]; rfl⟩)) ?_
   refine cP [1, 2] ?_
   refine cS 4 (fun _ _ _ _ _ => gL (xs := [.tmp 47, .tmp 48]) rfl ((Tr.d_mk op name num ks ▸ c197 (.mk op name num ks) inner (loops_num hlp).1 (by have := (loops_num hlp).2; show num ≤ ks.length; omega) hlim)) (gN ⟨rfl, rfl⟩)) ?_
   refine cP [0, 3, 3] ?_
   refine cS 5 (fun _ _ _ _ _ => gL (xs := [.tmp 46, .tmp 49]) rfl ((((Tr.mk kop knm knu kks).put (bindK (ks.take num.toNat) inner)).d_eta ▸ Tr.d_mk kop knm knu kks ▸ ih (bindK (ks.take num.toNat) inner) (KLens.bind _ hi))) (gN ⟨rfl, rfl⟩)) ?_
   refine cP [4, 4, 0, 1, 2, 3, 4] ?_
   refine cg_act 6 (fun bq rest hc1 hc2 hc3 => by
    have e2 : upd bq 5 5 = true := rfl
    simp only [hc1, cond_false]
    refine Z21 ?_
    exact (gN ⟨rfl, by rw [e2]; rfl⟩)) ?_
   refine cg_done (mem'' := [[.d (.int .i64 op), .d (.str name), .d (.int .i64 num), .d (.sl (ks.map Tr.d))], [.d (knD inner)], [.d (knD l)], [.d (.int .i64 0), .d (.str ⟨#[]⟩), .d (.int .i64 0), .nils], [.d (.int .i64 ((Tr.mk kop knm knu kks).put (bindK (ks.take num.toNat) inner)).op), .d (.str ((Tr.mk kop knm knu kks).put (bindK (ks.take num.toNat) inner)).nm), .d (.int .i64 ((Tr.mk kop knm knu kks).put (bindK (ks.take num.toNat) inner)).nu), .d (.sl (((Tr.mk kop knm knu kks).put (bindK (ks.take num.toNat) inner)).kids.map Tr.d))]]) ?_
   refine tN (gR ?_)
   refine Z106 ?_
   refine sa rfl (dS (hps := knD_cof l) sz141) ?_
   refine gN (bN ?_)
   refine hn _ ((Tr.mk kop knm knu kks).put (bindK (ks.take num.toNat) inner), l) (by rw [stepT, if_neg (by rw [hkn]; decide), if_pos hbd]) le_of
  have hbd : (loopsB op num ks.length && (z : Int) == W (num + 1)) = false := hb3
  refine Z14 ?_;refine Z8 ?_;refine Z106 ?_
  refine gL (xs := [.tmp 10, .tmp 11]) rfl ((((Tr.mk kop knm knu kks).put inner).d_eta ▸ Tr.d_mk kop knm knu kks ▸ ih inner hi)) ?_
  refine Z21 ?_
  refine gN (bN ?_)
  refine hn _ ((Tr.mk kop knm knu kks).put inner, inner) (by rw [stepT, if_neg (by rw [hkn]; decide), if_neg (by rw [hbd]; decide)]) le_of
 obtain ⟨y, yk⟩ := y
 replace hy : (y, hideV (Tr.mk kop knm knu kks) yk) = stepT op num ks l z inner (Tr.mk kop knm knu kks) := hy
 refine Z153 ?_;refine Z266 ?_;refine Z10 ?_
 refine gC ?_ ?_ <;> intro hb4
 ·
  have e1 : (stepT op num ks l z inner (Tr.mk kop knm knu kks)).1 = y := by rw [← hy]
  have e2 : (stepT op num ks l z inner (Tr.mk kop knm knu kks)).2 = hideK knm yk := by rw [← hy]; exact hideV_t hb4
  refine Z14 ?_;refine Z106 ?_;refine Z270 ?_
  refine gL (xs := [.tmp 55, .tmp 57]) rfl (c132 yk knm) ?_
  refine sa rfl (dS sz141) ?_
  refine Z5 ?_;refine Z60 ?_;refine Z21 ?_;refine Z7 ?_
  refine fincm [[.d (.int .i64 op), .d (.str name), .d (.int .i64 num), .d (.sl (ks.map Tr.d))], [.d (knD (hideK knm yk))], [.d (knD l)]] sz27 u27 (by simp) ?_
  exact ⟨by rw [e1, y.d_eta], by rw [e2]⟩
 have e1 : (stepT op num ks l z inner (Tr.mk kop knm knu kks)).1 = y := by rw [← hy]
 have e2 : (stepT op num ks l z inner (Tr.mk kop knm knu kks)).2 = yk := by rw [← hy]; exact hideV_f hb4
 refine Z43 ?_;refine Z60 ?_;refine Z21 ?_;refine Z7 ?_
 refine fincm [[.d (.int .i64 op), .d (.str name), .d (.int .i64 num), .d (.sl (ks.map Tr.d))], [.d (knD yk)], [.d (knD l)]] sz27 u27 (by simp) ?_
 exact ⟨by rw [e1, y.d_eta], by rw [e2]⟩
theorem c195 (op num : Int) (name : ByteArray) (ks : List Tr) (l : KL) (hlim : ks.length ≤ 1000000) (hL : KLens l) (hks : ∀ k ∈ ks, k.Lens) (ih : ∀ k ∈ ks, ∀ K : KL, KLens K → Pf Tryz.prog 110 [k.d, knD K] (.d (k.put K).d)) :
 ∀ (z : Nat) (k : Tr) (inner : KL), ks[z]? = some k → KLens inner → Gm Tryz.prog 195 [.d (.int .i64 (z : Nat)), .d k.d, .ref 0 0, .ref 1 0, .ref 2 0] [[.d (.int .i64 op), .d (.str name), .d (.int .i64 num), .d (.sl (ks.map Tr.d))], [.d (knD inner)], [.d (knD l)]] (.d (stepT op num ks l z inner k).1.d) [[.d (.int .i64 op), .d (.str name), .d (.int .i64 num), .d (.sl (ks.map Tr.d))], [.d (knD (stepT op num ks l z inner k).2)], [.d (knD l)]] := by
 intro z k inner hk hi
 have hmem := mG hk
 obtain ⟨kop, knm, knu, kks⟩ := k
 rw [Tr.d_mk]
 exact c195x op num name ks l inner z kop knu knm kks hlim (lG hk) (hks _ hmem) hL hi (ih _ hmem)
theorem Tr.Lens.mk' {nm : ByteArray} (h : (Tr.mk op nm num ks).Lens) : ks.length ≤ 1000000 ∧ ∀ k ∈ ks, k.Lens := by cases h; exact ⟨by assumption, by assumption⟩
set_option maxHeartbeats 8000000 in
theorem c110n : ∀ (n : Nat) (t : Tr), t.size ≤ n → t.Lens → ∀ l : KL, KLens l → Pf Tryz.prog 110 [t.d, knD l] (.d (t.put l).d) := by
 intro n
 induction n with
 | zero => intro t h; exact absurd t.size_pos (by omega)
 | succ n ih =>
  intro t hsz hlen l hL
  obtain ⟨op, name, num, ks⟩ := t
  obtain ⟨hlim, hks⟩ := hlen.mk'
  have hI : ∀ k ∈ ks, ∀ K : KL, KLens K → Pf Tryz.prog 110 [k.d, knD K] (.d (k.put K).d) := fun k hk => ih k (by have := Tr.size_mem hk; rw [Tr.size] at hsz; omega) (hks k hk)
  rw [Tr.d_mk]
  refine pf_body (rvs := [.cell 4 27]) [(0, .d (.agg [.int .i64 op, .str name, .int .i64 num, .sl (ks.map Tr.d)])), (1, .d (knD l))] Tryz.func110 Tryz.ntmps110 Tryz.results110 (fun S0 O0 w0 m0 hm0 => ?_)
  refine Z232 ?_
  refine sv rfl (y_box (hcs := by rw [knD_cof])) ?_
  refine Z29 ?_;refine Z11 ?_;refine Z207 ?_;refine Z54 ?_;refine Z151 ?_;refine Z260 ?_
  refine gC ?_ ?_ <;> intro hb0
  ·
   refine Z153 ?_;refine Z106 ?_
   refine sv rfl (y_fieldAt 1 u27 rfl sz9) ?_
   refine sv rfl (y_load_leaf u9) ?_
   refine gL (xs := [.tmp 11, .tmp 13]) rfl (c181 l name) ?_
   refine Z1 ?_;refine Z30 ?_
   rcases hfv : findK name l with _ | v
   ·
    refine Z131 ?_;refine Z14 ?_
    rw [valD]
    refine Z0 ?_
    refine vq rfl ((q_ptrneq u139)) ?_
    refine Z10 ?_
    refine gC ?_ ?_ <;> intro hb1
    · exact absurd hb1 (by decide)
    refine Z43 ?_;refine Z60 ?_
    refine gL (xs := [.tmp 21]) rfl ((Tr.d_mk op name num ks ▸ c100 (.mk op name num ks) hlen)) ?_
    refine Z21 ?_;refine Z27 ?_;refine Z140 ?_
    exact ⟨by rw [Tr.put, if_pos hb0, hfv, Tr.d_mk], rfl⟩
   refine Z131 ?_;refine Z14 ?_
   rw [valD, v.d_eta]
   refine Z0 ?_
   refine vq rfl ((q_ptrneq u139)) ?_
   refine Z10 ?_
   refine gC ?_ ?_ <;> intro hb2
   ·
    refine Z254 ?_;refine Z171 ?_;refine Z8 ?_
    refine gL (xs := [.tmp 19]) rfl ((v.d_eta ▸ c100 v (findK_lens hL v hfv))) ?_
    refine Z21 ?_;refine Z132 ?_;refine Z140 ?_
    exact ⟨by rw [Tr.put, if_pos hb0, hfv, v.d_eta], rfl⟩
   exact Y6
  refine Z278 ?_
  refine gC ?_ ?_ <;> intro hb3
  ·
   refine Z3 ?_;refine Z60 ?_
   refine gL (xs := [.tmp 25]) rfl ((Tr.d_mk op name num ks ▸ c100 (.mk op name num ks) hlen)) ?_
   refine Z21 ?_;refine Z27 ?_;refine Z140 ?_
   exact ⟨by rw [Tr.put, if_neg (by rw [hb0]; decide), if_pos hb3, Tr.d_mk], rfl⟩
  refine Z91 ?_;refine Z106 ?_
  refine sv rfl (y_alloc zr141) ?_
  refine sa rfl (dS (hps := knD_cof l) sz141) ?_
  refine Z30 ?_;refine Z131 ?_;refine Z14 ?_;refine Z82 ?_
  refine sv rfl (y_load_leaf u22) ?_
  refine vq rfl (q_makeFunc (xs := []) (ys := [.tmp 2, .tmp 6, .tmp 3])) ?_
  refine g_callm [0, 3, 1] rfl (c101p op num name ks l hlim hL (c195 op num name ks l hlim hL hks hI)) ?_
  refine Z82 ?_;refine Z175 ?_;refine Z5 ?_;refine Z60 ?_;refine Z21 ?_;refine Z7 ?_;refine Z140 ?_
  exact ⟨by rw [Tr.put, if_neg (by rw [hb0]; decide), if_neg (by rw [hb3]; decide), Tr.d_mk], rfl⟩
theorem c110 (t : Tr) (h : t.Lens) (l : KL) (hL : KLens l) : Pf Tryz.prog 110 [t.d, knD l] (.d (t.put l).d) := c110n _ t (Nat.le_refl _) h l hL
end
end Go.Proofs.YtklkbfpjimeaoaaGreat
