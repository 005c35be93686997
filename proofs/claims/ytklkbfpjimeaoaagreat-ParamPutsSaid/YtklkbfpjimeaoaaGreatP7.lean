/- Contracts of functions. Conditions: none. -/
import Derived.Test.YtklkbfpjimeaoaaGreatPu
import Derived.Test.YtklkbfpjimeaoaaGreatE30
namespace Go.Proofs.YtklkbfpjimeaoaaGreat
open Go Go.Proofs.YtklkbfpjimeaoaaGreat.E
theorem tri2 (a b : Bool) : a = false ∨ (a = true ∧ b = false) ∨ (a = true ∧ b = true) := by cases a <;> cases b <;> simp
theorem evalT_form {t : Tr} {l : List (ByteArray × Tr)} (hne : nodeE t = 0) (h2 : ¬ (evalT t l).2 = 2) : isExprB t.op = true := by
  obtain ⟨op, nm, num, ks⟩ := t
  cases ho : isExprB op with
  | true => exact ho
  | false =>
    exfalso
    apply h2
    rw [evalT, hne, if_neg (by decide), ho, if_pos (show (!false) = true from rfl)]
theorem evalT_okl {t : Tr} {l : List (ByteArray × Tr)} (hq : QT t) (ho : isExprB t.op = true) (hl : constsB l = true) (hc : COk l) : (evalT t l).1.Ok := by
  rw [evalT_gen hq ho hl]
  cases hv : t.value (kl l) with
  | none => exact z0_ok
  | some v => exact (value_ok (kl l) (kl_ok hc hl) _ t (Nat.le_refl _) hq.2.2 hq.2.1 v hv).okT
set_option maxHeartbeats 16000000 in
theorem c7 (op num : Int) (name : ByteArray) (ks : List Tr) (hok : (Tr.mk op name num ks).Ok) (l : List (ByteArray × Tr)) (hl : ∀ c ∈ l, c.2.Ok) (hlb : l.length * 72 ≤ 140737488351232) (on onm : ByteArray) (oop onu : Int) (oks : List Tr) (ho : (Tr.mk oop onm onu oks).Ok) : Pf Tryz.prog 7 [.agg [.int .i64 op, .str name, .int .i64 num, .sl (ks.map Tr.d)], .sl (l.map cD), .agg [.str on, .int .i64 oop, .str onm, .int .i64 onu, .sl (oks.map Tr.d)]] (.d (.bool true)) := by
  refine pf_body (rvs := [.tmp 6]) [(0, .d (.agg [.int .i64 op, .str name, .int .i64 num, .sl (ks.map Tr.d)])), (1, .d (.sl (l.map cD))), (2, .d (.agg [.str on, .int .i64 oop, .str onm, .int .i64 onu, .sl (oks.map Tr.d)]))] Tryz.func7 Tryz.ntmps7 Tryz.results7 (fun S0 O0 w0 m0 hm0 => ?_)
  refine G_seq ?_
  refine g_region ?_
  refine sv rfl (y_box) ?_
  refine g_freeze 0 [] (.agg [.int .i64 op, .str name, .int .i64 num, .sl (ks.map Tr.d)]) rfl ?_
  refine sv rfl (y_box) ?_
  refine g_freeze 0 [] (.agg [.str on, .int .i64 oop, .str onm, .int .i64 onu, .sl (oks.map Tr.d)]) rfl ?_
  refine sv rfl (y_assign) ?_
  refine GOps_nil ?_
  refine thn_normal ?_
  refine G_seq ?_
  refine G_seq ?_
  have h26 := c26 (Tr.mk op name num ks) 150 hok (by decide) (by decide)
  have h31 := c31 (l ++ [(on, (Tr.mk oop onm onu oks))]) (fun c hc => by
    rcases List.mem_append.1 hc with hc | hc
    · exact hl c hc
    · rw [List.mem_singleton.1 hc]; exact ho) (by rw [List.length_append, List.length_singleton]; omega)
  have hcD : cD (on, (Tr.mk oop onm onu oks)) = .agg [.str on, .int .i64 oop, .str onm, .int .i64 onu, .sl (oks.map Tr.d)] := by unfold cD; rw [Tr.d_mk]; rfl
  rw [List.map_append, List.map_singleton, hcD] at h31
  have h40 : (Tr.mk op name num ks).few 150 = true → fewL (l ++ [(on, (Tr.mk oop onm onu oks))]) = true → Pf Tryz.prog 40 [.sl (l.map cD), .fn (.func 41) [] []] (.d (.bool (l.any badC))) := fun _ h2 =>
    c40 l 41 [] [] badC (by omega) (fun x hx => by obtain ⟨op, name, num, ks, h3, h4⟩ := cD_agg x; have h5 := hl x hx; have h6 := (fewL_ok h2).2 x (by simp [hx]); rw [h3] at h5 h6; rw [h4, show x = (x.1, .mk op name num ks) from by rw [← h3]]; exact c41 x.1 op name num ks h5 (by omega))
  rw [Tr.d_mk] at h26
  obtain hA | ⟨hA, hB⟩ | ⟨hA, hB⟩ := tri2 ((Tr.mk op name num ks).few 150) (fewL (l ++ [(on, (Tr.mk oop onm onu oks))])) <;> (rw [hA] at h26; try rw [hB] at h31)
  ·
    refine g_cg0 [16, 17, 18, 19, 20, 21, 22, 23, 24, 25, 26, 27, 28, 29, 30, 31] ?_
    refine cg_pre [] ?_
    first | refine cg_st 1 (fun bq rest hc1 hc2 hc3 => sv rfl (y_load_agg sz27 Tryz.underlying27 rfl) (GOps_nil ⟨rfl, rfl⟩)) ?_ | refine cg_st 1 (fun bq rest hc1 hc2 hc3 => sv rfl (y_loadp_agg (by exact sz27) Tryz.underlying27 rfl) (GOps_nil ⟨rfl, rfl⟩)) ?_
    refine cg_pre [0] ?_
    refine cg_st 2 (fun bq rest hc1 hc2 hc3 => g_call (xs := [.tmp 16, .const (.int .i64 (150))]) rfl (h26) (GOps_nil ⟨rfl, rfl⟩)) ?_
    refine cg_pre [1] ?_
    refine cg_st 3 (fun bq rest hc1 hc2 hc3 => sv rfl (y_not) (GOps_nil ⟨rfl, rfl⟩)) ?_
    refine cg_pre [2, 1] ?_
    refine cg_st 4 (fun bq rest hc1 hc2 hc3 => sv rfl (y_move) (GOps_nil ⟨rfl, rfl⟩)) ?_
    refine cg_pre [3] ?_
    refine cg_st 5 (fun bq rest hc1 hc2 hc3 => sgx rfl (by rfl) (GOps_nil ⟨rfl, rfl⟩)) ?_
    refine cg_pre [4, 3, 3] ?_
    refine cg_st 6 (fun bq rest hc1 hc2 hc3 => sgx rfl (by rfl) (GOps_nil ⟨rfl, rfl⟩)) ?_
    refine cg_pre [3] ?_
    refine cg_st 7 (fun bq rest hc1 hc2 hc3 => sgx rfl (by rfl) (GOps_nil ⟨rfl, rfl⟩)) ?_
    refine cg_pre [6, 3] ?_
    refine cg_st 8 (fun bq rest hc1 hc2 hc3 => sgx rfl (by rfl) (GOps_nil ⟨rfl, rfl⟩)) ?_
    refine cg_pre [5, 7, 5, 3] ?_
    refine cg_st 9 (fun bq rest hc1 hc2 hc3 => sgx rfl (by rfl) (GOps_nil ⟨rfl, rfl⟩)) ?_
    refine cg_pre [8, 8, 3] ?_
    refine cg_st 10 (fun bq rest hc1 hc2 hc3 => sgx rfl (by rfl) (GOps_nil ⟨rfl, rfl⟩)) ?_
    refine cg_pre [9, 3] ?_
    refine cg_st 11 (fun bq rest hc1 hc2 hc3 => sgx rfl (by rfl) (GOps_nil ⟨rfl, rfl⟩)) ?_
    refine cg_pre [3, 10] ?_
    refine cg_st 12 (fun bq rest hc1 hc2 hc3 => sv rfl (y_or (hy := by simp only [GS.ev, GS.get, List.lookup_cons, Nat.reduceBEq, Option.getD_some, Option.getD_none, List.lookup_nil, ofConst] <;> exact under_when _ _ (fun h => absurd h (by decide)))) (GOps_nil ⟨rfl, rfl⟩)) ?_
    refine cg_pre [11, 9] ?_
    refine cg_st 13 (fun bq rest hc1 hc2 hc3 => sv rfl (y_move) (GOps_nil ⟨rfl, rfl⟩)) ?_
    refine cg_pre [12] ?_
    refine cg_st 14 (fun bq rest hc1 hc2 hc3 => sgx rfl (by rfl) (GOps_nil ⟨rfl, rfl⟩)) ?_
    refine cg_pre [13, 12, 12] ?_
    refine cg_st 15 (fun bq rest hc1 hc2 hc3 => sgx rfl (by rfl) (GOps_nil ⟨rfl, rfl⟩)) ?_
    refine cg_pre [12, 14] ?_
    refine cg_st 16 (fun bq rest hc1 hc2 hc3 => sv rfl (y_or (hy := by simp only [GS.ev, GS.get, List.lookup_cons, Nat.reduceBEq, Option.getD_some, Option.getD_none, List.lookup_nil, ofConst] <;> exact under_when _ _ (fun h => absurd h (by decide)))) (GOps_nil ⟨rfl, rfl⟩)) ?_
    refine cg_done ?_
    refine thn_normal ?_
    refine g_cond (fun hb0 => ?_) (fun hb0 => ?_)
    ·
      refine G_seq ?_
      refine g_keep [0, 1, 2, 3, 5, 6, 7, 8, 9, 10, 11, 12, 13, 14, 15] ?_
      refine g_region ?_
      refine g_call (xs := []) rfl (c27) ?_
      refine sv rfl (y_assign) ?_
      refine GOps_nil ?_
      refine thn_normal ?_
      refine G_ret ?_
      refine thn_ret ?_
      refine fin1 (by simp) ?_
      exact ⟨by first | rfl | simp, rfl⟩
    ·
      exact absurd hb0 (by decide)
  ·
    refine g_ck [(5, 8)] [16, 17, 18, 19, 20, 21, 22, 23, 24, 25, 26, 27, 28, 29, 30, 31] (fun _ => []) rfl ?_
    refine ck_pre [] ?_
    first | refine ck_st 1 (fun bq rest hc1 hc2 hc3 => sv rfl (y_load_agg sz27 Tryz.underlying27 rfl) (GOps_nil ⟨rfl, rfl⟩)) ?_ | refine ck_st 1 (fun bq rest hc1 hc2 hc3 => sv rfl (y_loadp_agg (by exact sz27) Tryz.underlying27 rfl) (GOps_nil ⟨rfl, rfl⟩)) ?_
    refine ck_pre [0] ?_
    refine ck_st 2 (fun bq rest hc1 hc2 hc3 => g_call (xs := [.tmp 16, .const (.int .i64 (150))]) rfl (h26) (GOps_nil ⟨rfl, rfl⟩)) ?_
    refine ck_pre [1] ?_
    refine ck_st 3 (fun bq rest hc1 hc2 hc3 => sv rfl (y_not) (GOps_nil ⟨rfl, rfl⟩)) ?_
    refine ck_pre [2, 1] ?_
    refine ck_st 4 (fun bq rest hc1 hc2 hc3 => sv rfl (y_move) (GOps_nil ⟨rfl, rfl⟩)) ?_
    refine ck_pre [3] ?_
    refine ck_st 5 (fun bq rest hc1 hc2 hc3 => sgo rfl (by rfl) (y_move) (GOps_nil ⟨rfl, rfl⟩)) ?_
    refine ck_pre [4, 3, 3] ?_
    refine ck_st 6 (fun bq rest hc1 hc2 hc3 => g_callo (xs := [.tmp 20]) rfl (by rfl) (c39 l (by omega)) (GOps_nil ⟨rfl, rfl⟩)) ?_
    refine ck_pre [3] ?_
    first | refine ck_st 7 (fun bq rest hc1 hc2 hc3 => sgo rfl (by rfl) (y_load_agg sz59 Tryz.underlying59 rfl) (GOps_nil ⟨rfl, rfl⟩)) ?_ | refine ck_st 7 (fun bq rest hc1 hc2 hc3 => sgo rfl (by rfl) (y_loadp_agg (by exact sz59) Tryz.underlying59 rfl) (GOps_nil ⟨rfl, rfl⟩)) ?_
    refine ck_pre [6, 3] ?_
    refine ck_st 8 (fun bq rest hc1 hc2 hc3 => sgo rfl (by rfl) (y_buildSlice (xs := [.tmp 22]) Tryz.underlying49 inf59) (GOps_nil ⟨rfl, rfl⟩)) ?_
    refine ck_pre [5, 7, 5, 3] ?_
    refine ck_tk 9 21 (fun bq rest hc1 hc2 hc3 => sgo rfl (by rfl) (y_append Tryz.underlying49 inf59 (hk := by intro x hx; simp at hx; subst hx; rfl) (hlen := by simp [lim]; omega) (hB := by simp [lim]; omega)) (GOps_nil ⟨rfl, rfl⟩)) ?_
    refine ck_pre [8, 8, 3] ?_
    refine ck_st 10 (fun bq rest hc1 hc2 hc3 => g_callo (xs := [.tmp 24]) rfl (by rfl) (h31) (GOps_nil ⟨rfl, rfl⟩)) ?_
    refine ck_pre [9, 3] ?_
    refine ck_st 11 (fun bq rest hc1 hc2 hc3 => sgo rfl (by rfl) (y_not) (GOps_nil ⟨rfl, rfl⟩)) ?_
    refine ck_pre [3, 10] ?_
    refine ck_st 12 (fun bq rest hc1 hc2 hc3 => sv rfl (y_or) (GOps_nil ⟨rfl, rfl⟩)) ?_
    refine ck_pre [11, 9] ?_
    refine ck_st 13 (fun bq rest hc1 hc2 hc3 => sv rfl (y_move) (GOps_nil ⟨rfl, rfl⟩)) ?_
    refine ck_pre [12] ?_
    refine ck_st 14 (fun bq rest hc1 hc2 hc3 => sgx rfl (by rfl) (GOps_nil ⟨rfl, rfl⟩)) ?_
    refine ck_pre [13, 12, 12] ?_
    refine ck_st 15 (fun bq rest hc1 hc2 hc3 => sgx rfl (by rfl) (GOps_nil ⟨rfl, rfl⟩)) ?_
    refine ck_pre [12, 14] ?_
    refine ck_st 16 (fun bq rest hc1 hc2 hc3 => sv rfl (y_or (hy := by simp only [GS.ev, GS.get, List.lookup_cons, Nat.reduceBEq, Option.getD_some, Option.getD_none, List.lookup_nil, ofConst] <;> exact under_when _ _ (fun h => absurd h (by decide)))) (GOps_nil ⟨rfl, rfl⟩)) ?_
    refine ck_done ?_
    refine thn_normal ?_
    refine g_cond (fun hb1 => ?_) (fun hb1 => ?_)
    ·
      refine G_seq ?_
      refine g_keep [0, 1, 2, 3, 5, 6, 7, 8, 9, 10, 11, 12, 13, 14, 15] ?_
      refine g_region ?_
      refine g_call (xs := []) rfl (c27) ?_
      refine sv rfl (y_assign) ?_
      refine GOps_nil ?_
      refine thn_normal ?_
      refine G_ret ?_
      refine thn_ret ?_
      refine fin1 (by simp) ?_
      exact ⟨by first | rfl | simp, rfl⟩
    ·
      exact absurd hb1 (by decide)
  ·
    refine g_ck [(5, 8)] [16, 17, 18, 19, 20, 21, 22, 23, 24, 25, 26, 27, 28, 29, 30, 31] (fun _ => []) rfl ?_
    refine ck_pre [] ?_
    first | refine ck_st 1 (fun bq rest hc1 hc2 hc3 => sv rfl (y_load_agg sz27 Tryz.underlying27 rfl) (GOps_nil ⟨rfl, rfl⟩)) ?_ | refine ck_st 1 (fun bq rest hc1 hc2 hc3 => sv rfl (y_loadp_agg (by exact sz27) Tryz.underlying27 rfl) (GOps_nil ⟨rfl, rfl⟩)) ?_
    refine ck_pre [0] ?_
    refine ck_st 2 (fun bq rest hc1 hc2 hc3 => g_call (xs := [.tmp 16, .const (.int .i64 (150))]) rfl (h26) (GOps_nil ⟨rfl, rfl⟩)) ?_
    refine ck_pre [1] ?_
    refine ck_st 3 (fun bq rest hc1 hc2 hc3 => sv rfl (y_not) (GOps_nil ⟨rfl, rfl⟩)) ?_
    refine ck_pre [2, 1] ?_
    refine ck_st 4 (fun bq rest hc1 hc2 hc3 => sv rfl (y_move) (GOps_nil ⟨rfl, rfl⟩)) ?_
    refine ck_pre [3] ?_
    refine ck_st 5 (fun bq rest hc1 hc2 hc3 => sgo rfl (by rfl) (y_move) (GOps_nil ⟨rfl, rfl⟩)) ?_
    refine ck_pre [4, 3, 3] ?_
    refine ck_st 6 (fun bq rest hc1 hc2 hc3 => g_callo (xs := [.tmp 20]) rfl (by rfl) (c39 l (by omega)) (GOps_nil ⟨rfl, rfl⟩)) ?_
    refine ck_pre [3] ?_
    first | refine ck_st 7 (fun bq rest hc1 hc2 hc3 => sgo rfl (by rfl) (y_load_agg sz59 Tryz.underlying59 rfl) (GOps_nil ⟨rfl, rfl⟩)) ?_ | refine ck_st 7 (fun bq rest hc1 hc2 hc3 => sgo rfl (by rfl) (y_loadp_agg (by exact sz59) Tryz.underlying59 rfl) (GOps_nil ⟨rfl, rfl⟩)) ?_
    refine ck_pre [6, 3] ?_
    refine ck_st 8 (fun bq rest hc1 hc2 hc3 => sgo rfl (by rfl) (y_buildSlice (xs := [.tmp 22]) Tryz.underlying49 inf59) (GOps_nil ⟨rfl, rfl⟩)) ?_
    refine ck_pre [5, 7, 5, 3] ?_
    refine ck_tk 9 21 (fun bq rest hc1 hc2 hc3 => sgo rfl (by rfl) (y_append Tryz.underlying49 inf59 (hk := by intro x hx; simp at hx; subst hx; rfl) (hlen := by simp [lim]; omega) (hB := by simp [lim]; omega)) (GOps_nil ⟨rfl, rfl⟩)) ?_
    refine ck_pre [8, 8, 3] ?_
    refine ck_st 10 (fun bq rest hc1 hc2 hc3 => g_callo (xs := [.tmp 24]) rfl (by rfl) (h31) (GOps_nil ⟨rfl, rfl⟩)) ?_
    refine ck_pre [9, 3] ?_
    refine ck_st 11 (fun bq rest hc1 hc2 hc3 => sgo rfl (by rfl) (y_not) (GOps_nil ⟨rfl, rfl⟩)) ?_
    refine ck_pre [3, 10] ?_
    refine ck_st 12 (fun bq rest hc1 hc2 hc3 => sv rfl (y_or) (GOps_nil ⟨rfl, rfl⟩)) ?_
    refine ck_pre [11, 9] ?_
    refine ck_st 13 (fun bq rest hc1 hc2 hc3 => sv rfl (y_move) (GOps_nil ⟨rfl, rfl⟩)) ?_
    refine ck_pre [12] ?_
    refine ck_st 14 (fun bq rest hc1 hc2 hc3 => sgo rfl (by rfl) (y_move) (GOps_nil ⟨rfl, rfl⟩)) ?_
    refine ck_pre [13, 12, 12] ?_
    refine ck_st 15 (fun bq rest hc1 hc2 hc3 => g_callo (xs := [.tmp 29, .func 41]) rfl (by rfl) (h40 hA hB) (GOps_nil ⟨rfl, rfl⟩)) ?_
    refine ck_pre [12, 14] ?_
    refine ck_st 16 (fun bq rest hc1 hc2 hc3 => sv rfl (y_or) (GOps_nil ⟨rfl, rfl⟩)) ?_
    refine ck_done ?_
    refine thn_normal ?_
    refine g_cond (fun hb2 => ?_) (fun hb2 => ?_)
    ·
      refine G_seq ?_
      refine g_keep [0, 1, 2, 3, 5, 6, 7, 8, 9, 10, 11, 12, 13, 14, 15] ?_
      refine g_region ?_
      refine g_call (xs := []) rfl (c27) ?_
      refine sv rfl (y_assign) ?_
      refine GOps_nil ?_
      refine thn_normal ?_
      refine G_ret ?_
      refine thn_ret ?_
      refine fin1 (by simp) ?_
      exact ⟨by first | rfl | simp, rfl⟩
    ·
      have hgd : (Tr.mk op name num ks).few 150 = true ∧ fewL (l ++ [(on, (Tr.mk oop onm onu oks))]) = true ∧ l.any badC = false := ⟨hA, hB, by simpa using hb2⟩
      obtain ⟨hfw, hfl, hbc⟩ := hgd
      have hs := (Tr.few_size (by decide) hfw).1
      have hfo := fewL_ok hfl
      have hcl : l.length ≤ 10 := by have := hfo.1; rw [List.length_append, List.length_singleton] at this; omega
      have hco : COk l := ⟨by omega, fun c hc => ⟨hl c hc, by have := hfo.2 c (by simp [hc]); omega⟩⟩
      have hcb : constsB l = true := by unfold constsB; rw [hbc]; rfl
      have hcp : COk (l ++ [(on, (Tr.mk oop onm onu oks))]) := ⟨by rw [List.length_append, List.length_singleton]; omega, fun c hc => by
        rcases List.mem_append.1 hc with hc | hc
        · exact hco.2 c hc
        · rw [List.mem_singleton.1 hc]; exact ⟨ho, by have := hfo.2 (on, (Tr.mk oop onm onu oks)) (by simp); show (Tr.mk oop onm onu oks).size ≤ _; replace this : (Tr.mk oop onm onu oks).size ≤ 10 := this; omega⟩⟩
      have q32 := c32 l (by omega)
      have q29 := c29 (Tr.mk op name num ks) hok (by omega) l hco
      have q24 := c24 (Tr.mk op name num ks) hok (by omega)
      rw [(evalT (Tr.mk op name num ks) l).1.d_eta] at q29
      rw [Tr.d_mk] at q29 q24
      generalize hvop : (evalT (Tr.mk op name num ks) l).1.op = vop at q29
      generalize hvnm : (evalT (Tr.mk op name num ks) l).1.nm = vnm at q29
      generalize hvnu : (evalT (Tr.mk op name num ks) l).1.nu = vnu at q29
      generalize hvks : (evalT (Tr.mk op name num ks) l).1.kids = vks at q29
      refine G_skip ?_
      refine thn_normal ?_
      refine G_seq ?_
      refine g_keep [0, 1, 2, 3, 5, 6, 7, 8, 9, 10, 11, 12, 13, 14, 15] ?_
      refine g_region ?_
      refine sv rfl (y_move) ?_
      refine g_call (xs := [.tmp 33]) rfl (q32) ?_
      first | refine sv rfl (y_assign_take) ?_ | refine sv rfl (y_assign) ?_
      refine GOps_nil ?_
      refine thn_normal ?_
      refine G_seq ?_
      refine g_region ?_
      first | refine sv rfl (y_load_agg sz27 Tryz.underlying27 rfl) ?_ | refine sv rfl (y_loadp_agg (by exact sz27) Tryz.underlying27 rfl) ?_
      refine sv rfl (y_move) ?_
      refine g_call (xs := [.tmp 36, .tmp 37]) rfl (q29) ?_
      refine sv rfl (y_move) ?_
      refine sv rfl (y_extract) ?_
      refine sv rfl (y_extract) ?_
      refine sv rfl (y_alloc zr27) ?_
      first | refine sa rfl (d_store sz27) ?_ | refine sa rfl (d_store_take sz27) ?_
      refine g_freeze 0 [] (.agg [.int .i64 vop, .str vnm, .int .i64 vnu, .sl (vks.map Tr.d)]) rfl ?_
      refine sv rfl (y_assign) ?_
      refine GOps_nil ?_
      refine thn_normal ?_
      refine G_seq ?_
      refine G_seq ?_
      refine g_keep [0, 1, 2, 3, 5, 6, 7, 8, 9, 10, 11, 12, 13, 14, 15] ?_
      refine g_region ?_
      first | refine sv rfl (y_load_agg sz27 Tryz.underlying27 rfl) ?_ | refine sv rfl (y_loadp_agg (by exact sz27) Tryz.underlying27 rfl) ?_
      refine g_call (xs := [.tmp 41]) rfl (q24) ?_
      refine sv rfl (y_neq) ?_
      refine sv rfl (y_move) ?_
      refine sg rfl (fun hg => q_move) ?_
      refine sg rfl (fun hg => strip 45 (by simp only [GS.set, GS.get, List.lookup_cons, Nat.reduceBEq] <;> rfl) hg (q_eql)) ?_
      refine sv rfl (y_or) ?_
      refine GOps_nil ?_
      refine thn_normal ?_
      refine g_cond (fun hb3 => ?_) (fun hb3 => ?_)
      ·
        refine G_seq ?_
        refine g_region ?_
        refine g_call (xs := []) rfl (c27) ?_
        refine sv rfl (y_assign) ?_
        refine GOps_nil ?_
        refine thn_normal ?_
        refine G_ret ?_
        refine thn_ret ?_
        refine fin1 (by simp) ?_
        exact ⟨by first | rfl | simp, rfl⟩
      ·
        have hne : nodeE (Tr.mk op name num ks) = 0 := by simp at hb3; exact hb3.1
        have hx2 : ¬ (evalT (Tr.mk op name num ks) l).2 = 2 := by simp at hb3; exact hb3.2
        have hex := evalT_form hne hx2
        have hq := QT.of hne hok
        have hvd : (evalT (Tr.mk op name num ks) l).1.d = .agg [.int .i64 vop, .str vnm, .int .i64 vnu, .sl (vks.map Tr.d)] := by rw [Tr.d_eta, hvop, hvnm, hvnu, hvks]
        have hvo := evalT_okl hq hex hcb hco
        have hlen := Tr.lens_of _ _ (Nat.le_refl _) (show (Tr.mk op name num ks).size ≤ 1000000 by omega)
        have q36 := c36 (Tr.mk op name num ks) hlen l hco
        have hpq := put_QT hq (.inl hex) (kl_ok hco hcb)
        have hpf := put_facts (kl_ok hco hcb) _ (Tr.mk op name num ks) (Nat.le_refl _) hq.2.1 hok (.inl hex)
        have p29 := c29 ((Tr.mk op name num ks).put (kl l)) hpq.2.2 (by rw [hpf.1]; omega) [] COk_nil
        rw [put_eval hq hex hcb hco, hvd] at p29
        rw [((Tr.mk op name num ks).put (kl l)).d_eta] at p29 q36
        rw [Tr.d_mk] at q36
        generalize ((Tr.mk op name num ks).put (kl l)).op = pop at p29 q36
        generalize ((Tr.mk op name num ks).put (kl l)).nm = pnm at p29 q36
        generalize ((Tr.mk op name num ks).put (kl l)).nu = pnu at p29 q36
        generalize ((Tr.mk op name num ks).put (kl l)).kids = pks at p29 q36
        have q30 := c30n _ (evalT (Tr.mk op name num ks) l).1 (Nat.le_refl _) hvo
        rw [hvd] at q30
        have q42 := c42 on oop onm onu oks ho (by have := (hcp.2 (on, (Tr.mk oop onm onu oks)) (by simp)).2; replace this : (Tr.mk oop onm onu oks).size ≤ 1000000 := this; omega)
        have q43 := c43 (Tr.mk op name num ks) on hq.2.1 hok (.inl hex)
        rw [Tr.d_mk] at q43
        have qu := c29 (Tr.mk op name num ks) hok (by omega) (l ++ [(on, (Tr.mk oop onm onu oks))]) hcp
        have qv : (evalT (Tr.mk op name num ks) l).2 = 0 → Pf Tryz.prog 29 [.agg [.int .i64 vop, .str vnm, .int .i64 vnu, .sl (vks.map Tr.d)], .sl (l.map cD)] (.tup [.d (.agg [.int .i64 vop, .str vnm, .int .i64 vnu, .sl (vks.map Tr.d)]), .d (.int .i64 0)]) := fun h0 => by
          have h := c29 (evalT (Tr.mk op name num ks) l).1 hvo (by
            rw [evalT_gen hq hex hcb]
            cases hv : (Tr.mk op name num ks).value (kl l) with
            | none => decide
            | some v => show v.size ≤ 1000000; rw [(value_ok (kl l) (kl_ok hco hcb) _ (Tr.mk op name num ks) (Nat.le_refl _) hok hq.2.1 v hv).one]; decide) l hco
          rw [val_eval hq hex hcb hco h0, hvd] at h
          exact h
        rw [List.map_append, show [(on, (Tr.mk oop onm onu oks))].map cD = [.agg [.str on, .int .i64 oop, .str onm, .int .i64 onu, .sl (oks.map Tr.d)]] from by rw [List.map_singleton]; unfold cD; rw [Tr.d_mk]; rfl, Tr.d_mk] at qu
        refine G_skip ?_
        refine thn_normal ?_
        refine G_seq ?_
        refine g_region ?_
        first | refine sv rfl (y_load_agg sz27 Tryz.underlying27 rfl) ?_ | refine sv rfl (y_loadp_agg (by exact sz27) Tryz.underlying27 rfl) ?_
        refine sv rfl (y_move) ?_
        refine g_call (xs := [.tmp 50, .tmp 51]) rfl (q36) ?_
        refine g_call (xs := [.tmp 52, .const (.slice none 0 0)]) rfl (p29) ?_
        refine sv rfl (y_move) ?_
        refine sv rfl (y_extract) ?_
        refine sv rfl (y_extract) ?_
        refine sv rfl (y_alloc zr27) ?_
        first | refine sa rfl (d_store sz27) ?_ | refine sa rfl (d_store_take sz27) ?_
        refine g_freeze 0 [] (.agg [.int .i64 vop, .str vnm, .int .i64 vnu, .sl (vks.map Tr.d)]) rfl ?_
        refine sv rfl (y_assign) ?_
        refine GOps_nil ?_
        refine thn_normal ?_
        refine G_seq ?_
        refine G_seq ?_
        refine g_keep [0, 1, 2, 3, 5, 6, 7, 8, 9, 10, 11, 12, 13, 14, 15] ?_
        refine g_region ?_
        refine sv rfl (y_move) ?_
        refine sv rfl (y_move) ?_
        refine sv rfl (y_neq) ?_
        refine sv rfl (y_move) ?_
        first | refine sg rfl (fun hg => q_load_agg sz27 Tryz.underlying27 rfl) ?_ | refine sg rfl (fun hg => q_loadp_agg (by exact sz27) Tryz.underlying27 rfl) ?_
        first | refine sg rfl (fun hg => q_load_agg sz27 Tryz.underlying27 rfl) ?_ | refine sg rfl (fun hg => q_loadp_agg (by exact sz27) Tryz.underlying27 rfl) ?_
        refine g_callg (xs := [.tmp 60, .tmp 61]) rfl (fun hg => q30) ?_
        refine sg rfl (fun hg => strip 62 (by simp only [GS.set, GS.get, List.lookup_cons, Nat.reduceBEq] <;> rfl) hg (q_not)) ?_
        refine sv rfl (y_or) ?_
        refine GOps_nil ?_
        refine thn_normal ?_
        refine g_cond (fun hb4 => ?_) (fun hb4 => ?_)
        ·
          exfalso
          simp at hb4
        ·
          refine G_skip ?_
          refine thn_normal ?_
          refine G_seq ?_
          refine G_seq ?_
          refine g_region ?_
          first | refine sv rfl (y_load_agg sz59 Tryz.underlying59 rfl) ?_ | refine sv rfl (y_loadp_agg (by exact sz59) Tryz.underlying59 rfl) ?_
          refine g_call (xs := [.tmp 65]) rfl (q42) ?_
          refine sv rfl (y_move) ?_
          refine g_split 67 true (fun hsp => ?_) (fun hsp => ?_)
          ·
            first | refine sgo rfl hsp (y_load_agg sz27 Tryz.underlying27 rfl) ?_ | refine sgo rfl hsp (y_loadp_agg (by exact sz27) Tryz.underlying27 rfl) ?_
            first | refine sgo rfl hsp (y_fieldAddr Tryz.underlying59 rfl sz9) ?_ | refine sgo rfl hsp (y_fieldp_leaf Tryz.underlying59 rfl sz9) ?_
            first | refine sgo rfl hsp (y_load_leaf Tryz.underlying9) ?_ | refine sgo rfl hsp (y_loadp_leaf Tryz.underlying9) ?_
            refine sgo rfl hsp (y_buildSlice (xs := [.tmp 70]) Tryz.underlying63 inf9) ?_
            refine g_callo (xs := [.tmp 68, .tmp 71]) rfl hsp (q43) ?_
            refine sgo rfl hsp (y_len Tryz.underlying63) ?_
            refine sgo rfl hsp (y_eql) ?_
            refine sv rfl (y_and) ?_
            refine GOps_nil ?_
            refine thn_normal ?_
            refine g_cond (fun hb5 => ?_) (fun hb5 => ?_)
            ·
              have hbo : badC (on, (Tr.mk oop onm onu oks)) = false ∧ (Tr.mk op name num ks).uses on = false := by
                rw [Bool.and_eq_true] at hb5
                refine ⟨by simpa using hb5.1, ?_⟩
                cases hu : (Tr.mk op name num ks).uses on with
                | false => rfl
                | true =>
                  have h := hb5.2
                  rw [hu] at h
                  exact absurd h (by simp)
              have hun := unused_eval hq hex hcb hbo.1 hbo.2
              rw [hun, hvd] at qu
              refine G_seq ?_
              refine g_keep [0, 1, 2, 3, 5, 6, 7, 8, 9, 10, 11, 12, 13, 14, 15] ?_
              refine g_ck [(2, 5)] [77, 78, 79, 80, 81, 82, 83, 76, 84, 85, 12, 13] (fun bq => cond (bq 10) ([] ++ [cond (bq 11) [.d (.int .i64 vop), .d (.str vnm), .d (.int .i64 vnu), .d (.sl (vks.map Tr.d))] [.d (.int .i64 0), .d (.str ⟨#[]⟩), .d (.int .i64 0), .nils]]) []) rfl ?_
              refine ck_pre [] ?_
              first | refine ck_st 1 (fun bq rest hc1 hc2 hc3 => sv rfl (y_load_agg sz27 Tryz.underlying27 rfl) (GOps_nil ⟨rfl, rfl⟩)) ?_ | refine ck_st 1 (fun bq rest hc1 hc2 hc3 => sv rfl (y_loadp_agg (by exact sz27) Tryz.underlying27 rfl) (GOps_nil ⟨rfl, rfl⟩)) ?_
              refine ck_pre [] ?_
              refine ck_st 2 (fun bq rest hc1 hc2 hc3 => sv rfl (y_move) (GOps_nil ⟨rfl, rfl⟩)) ?_
              refine ck_pre [1] ?_
              refine ck_st 3 (fun bq rest hc1 hc2 hc3 => g_call (xs := [.tmp 78]) rfl (c44 l hlb) (GOps_nil ⟨rfl, rfl⟩)) ?_
              refine ck_pre [] ?_
              first | refine ck_st 4 (fun bq rest hc1 hc2 hc3 => sv rfl (y_load_agg sz59 Tryz.underlying59 rfl) (GOps_nil ⟨rfl, rfl⟩)) ?_ | refine ck_st 4 (fun bq rest hc1 hc2 hc3 => sv rfl (y_loadp_agg (by exact sz59) Tryz.underlying59 rfl) (GOps_nil ⟨rfl, rfl⟩)) ?_
              refine ck_pre [3] ?_
              refine ck_st 5 (fun bq rest hc1 hc2 hc3 => sv rfl (y_buildSlice (xs := [.tmp 80]) Tryz.underlying51 inf66) (GOps_nil ⟨rfl, rfl⟩)) ?_
              refine ck_pre [2, 4, 2] ?_
              refine ck_tk 6 79 (fun bq rest hc1 hc2 hc3 => sv rfl (y_append Tryz.underlying51 inf66) (GOps_nil ⟨rfl, rfl⟩)) ?_
              refine ck_pre [0, 5, 5] ?_
              refine ck_st 7 (fun bq rest hc1 hc2 hc3 => g_call (xs := [.tmp 77, .tmp 82]) rfl (qu) (GOps_nil ⟨rfl, rfl⟩)) ?_
              refine ck_pre [6] ?_
              refine ck_st 8 (fun bq rest hc1 hc2 hc3 => sv rfl (y_move) (GOps_nil ⟨rfl, rfl⟩)) ?_
              refine ck_pre [7] ?_
              refine ck_st 9 (fun bq rest hc1 hc2 hc3 => sv rfl (y_extract) (GOps_nil ⟨rfl, rfl⟩)) ?_
              refine ck_pre [7] ?_
              refine ck_st 10 (fun bq rest hc1 hc2 hc3 => sv rfl (y_extract) (GOps_nil ⟨rfl, rfl⟩)) ?_
              refine ck_pre [] ?_
              refine ck_st 11 (fun bq rest hc1 hc2 hc3 => by
                  have hs := hc3.no 11 10 hc1
                  have e1 : upd bq 10 10 = true := rfl
                  have e2 : upd bq 10 11 = false := hs
                  simp only [hc1, cond_false]
                  refine sv rfl (y_alloc zr27) ?_
                  exact (GOps_nil ⟨rfl, by rw [e1, e2]; rfl⟩)) ?_
              refine ck_pre [10, 8, 6, 0, 1, 3, 4, 5, 6, 7, 8, 10] ?_
              refine ck_act 12 (fun bq rest hc1 hc2 hc3 => by
                  have ha := hc2 10 dep_in
                  have e1 : upd bq 11 10 = true := ha
                  have e2 : upd bq 11 11 = true := rfl
                  simp only [ha, hc1, cond_true, cond_false]
                  refine sa rfl (d_store sz27) ?_
                  exact (GOps_nil ⟨rfl, by rw [e1, e2]; rfl⟩)) ?_
              refine ck_pre [9, 11, 0, 1, 3, 4, 5, 6, 7, 8, 9, 10, 11] ?_
              refine ck_st 13 (fun bq rest hc1 hc2 hc3 => sv rfl (y_assign) (GOps_nil ⟨rfl, rfl⟩)) ?_
              refine ck_done (mem'' := [[.d (.int .i64 vop), .d (.str vnm), .d (.int .i64 vnu), .d (.sl (vks.map Tr.d))]]) ?_
              refine thn_normal ?_
              refine G_seq ?_
              refine g_keep [0, 1, 2, 3, 5, 6, 7, 8, 9, 10, 11, 12, 13, 14, 15] ?_
              refine g_region ?_
              refine g_freeze 0 [] (.agg [.int .i64 vop, .str vnm, .int .i64 vnu, .sl (vks.map Tr.d)]) rfl ?_
              refine sv rfl (y_move) ?_
              refine sv rfl (y_move) ?_
              refine sv rfl (y_neq) ?_
              refine sv rfl (y_move) ?_
              first | refine sg rfl (fun hg => q_load_agg sz27 Tryz.underlying27 rfl) ?_ | refine sg rfl (fun hg => q_loadp_agg (by exact sz27) Tryz.underlying27 rfl) ?_
              first | refine sg rfl (fun hg => q_load_agg sz27 Tryz.underlying27 rfl) ?_ | refine sg rfl (fun hg => q_loadp_agg (by exact sz27) Tryz.underlying27 rfl) ?_
              refine g_callg (xs := [.tmp 90, .tmp 91]) rfl (fun hg => q30) ?_
              refine sg rfl (fun hg => strip 92 (by simp only [GS.set, GS.get, List.lookup_cons, Nat.reduceBEq] <;> rfl) hg (q_not)) ?_
              refine sv rfl (y_or) ?_
              refine GOps_nil ?_
              refine thn_normal ?_
              refine g_cond (fun hb6 => ?_) (fun hb6 => ?_)
              ·
                exfalso
                simp at hb6
              ·
                refine G_skip ?_
                refine thn_normal ?_
                refine G_seq ?_
                refine G_seq ?_
                refine g_region ?_
                refine sv rfl (y_move) ?_
                refine sv rfl (y_eql) ?_
                refine GOps_nil ?_
                refine thn_normal ?_
                refine g_cond (fun hb7 => ?_) (fun hb7 => ?_)
                ·
                  have qw := qv (by simpa using hb7)
                  refine G_seq ?_
                  refine g_region ?_
                  first | refine sv rfl (y_load_agg sz27 Tryz.underlying27 rfl) ?_ | refine sv rfl (y_loadp_agg (by exact sz27) Tryz.underlying27 rfl) ?_
                  refine sv rfl (y_move) ?_
                  refine g_call (xs := [.tmp 98, .tmp 99]) rfl (qw) ?_
                  refine sv rfl (y_move) ?_
                  refine sv rfl (y_extract) ?_
                  refine sv rfl (y_extract) ?_
                  refine sv rfl (y_alloc zr27) ?_
                  first | refine sa rfl (d_store sz27) ?_ | refine sa rfl (d_store_take sz27) ?_
                  refine g_freeze 0 [] (.agg [.int .i64 vop, .str vnm, .int .i64 vnu, .sl (vks.map Tr.d)]) rfl ?_
                  refine sv rfl (y_assign) ?_
                  refine GOps_nil ?_
                  refine thn_normal ?_
                  refine G_seq ?_
                  refine g_keep [0, 1, 2, 3, 5, 6, 7, 8, 9, 10, 11, 12, 13, 14, 15] ?_
                  refine g_region ?_
                  refine sv rfl (y_move) ?_
                  refine sv rfl (y_eql) ?_
                  refine sv rfl (y_move) ?_
                  first | refine sg rfl (fun hg => q_load_agg sz27 Tryz.underlying27 rfl) ?_ | refine sg rfl (fun hg => q_loadp_agg (by exact sz27) Tryz.underlying27 rfl) ?_
                  first | refine sg rfl (fun hg => q_load_agg sz27 Tryz.underlying27 rfl) ?_ | refine sg rfl (fun hg => q_loadp_agg (by exact sz27) Tryz.underlying27 rfl) ?_
                  refine g_callg (xs := [.tmp 106, .tmp 107]) rfl (fun hg => q30) ?_
                  refine sv rfl (y_and) ?_
                  refine sv rfl (y_move) ?_
                  refine g_callg (xs := []) rfl (fun hg => c27) ?_
                  refine sv rfl (y_and) ?_
                  refine sv rfl (y_assign) ?_
                  refine GOps_nil ?_
                  refine thn_normal ?_
                  refine G_ret ?_
                  refine thn_ret ?_
                  refine fin1 (by simp) ?_
                  exact ⟨by first | rfl | simp, rfl⟩
                ·
                  refine G_skip ?_
                  refine thn_normal ?_
                  refine G_seq ?_
                  refine g_region ?_
                  refine g_call (xs := []) rfl (c27) ?_
                  refine sv rfl (y_assign) ?_
                  refine GOps_nil ?_
                  refine thn_normal ?_
                  refine G_ret ?_
                  refine fin1 (by simp) ?_
                  exact ⟨by first | rfl | simp, rfl⟩
            ·
              refine G_skip ?_
              refine thn_normal ?_
              refine G_seq ?_
              refine G_seq ?_
              refine g_keep [0, 1, 2, 3, 5, 6, 7, 8, 9, 10, 11, 12, 13, 14, 15] ?_
              refine g_region ?_
              refine sv rfl (y_move) ?_
              refine sv rfl (y_eql) ?_
              refine GOps_nil ?_
              refine thn_normal ?_
              refine g_cond (fun hb8 => ?_) (fun hb8 => ?_)
              ·
                have qw := qv (by simpa using hb8)
                refine G_seq ?_
                refine g_region ?_
                first | refine sv rfl (y_load_agg sz27 Tryz.underlying27 rfl) ?_ | refine sv rfl (y_loadp_agg (by exact sz27) Tryz.underlying27 rfl) ?_
                refine sv rfl (y_move) ?_
                refine g_call (xs := [.tmp 98, .tmp 99]) rfl (qw) ?_
                refine sv rfl (y_move) ?_
                refine sv rfl (y_extract) ?_
                refine sv rfl (y_extract) ?_
                refine sv rfl (y_alloc zr27) ?_
                first | refine sa rfl (d_store sz27) ?_ | refine sa rfl (d_store_take sz27) ?_
                refine g_freeze 0 [] (.agg [.int .i64 vop, .str vnm, .int .i64 vnu, .sl (vks.map Tr.d)]) rfl ?_
                refine sv rfl (y_assign) ?_
                refine GOps_nil ?_
                refine thn_normal ?_
                refine G_seq ?_
                refine g_region ?_
                refine sv rfl (y_move) ?_
                refine sv rfl (y_eql) ?_
                refine sv rfl (y_move) ?_
                first | refine sg rfl (fun hg => q_load_agg sz27 Tryz.underlying27 rfl) ?_ | refine sg rfl (fun hg => q_loadp_agg (by exact sz27) Tryz.underlying27 rfl) ?_
                first | refine sg rfl (fun hg => q_load_agg sz27 Tryz.underlying27 rfl) ?_ | refine sg rfl (fun hg => q_loadp_agg (by exact sz27) Tryz.underlying27 rfl) ?_
                refine g_callg (xs := [.tmp 106, .tmp 107]) rfl (fun hg => q30) ?_
                refine sv rfl (y_and) ?_
                refine sv rfl (y_move) ?_
                refine g_callg (xs := []) rfl (fun hg => c27) ?_
                refine sv rfl (y_and) ?_
                refine sv rfl (y_assign) ?_
                refine GOps_nil ?_
                refine thn_normal ?_
                refine G_ret ?_
                refine thn_ret ?_
                refine fin1 (by simp) ?_
                exact ⟨by first | rfl | simp, rfl⟩
              ·
                refine G_skip ?_
                refine thn_normal ?_
                refine G_seq ?_
                refine g_region ?_
                refine g_call (xs := []) rfl (c27) ?_
                refine sv rfl (y_assign) ?_
                refine GOps_nil ?_
                refine thn_normal ?_
                refine G_ret ?_
                refine fin1 (by simp) ?_
                exact ⟨by first | rfl | simp, rfl⟩
          ·
            refine sgx rfl ?_ ?_
            · first | exact hsp | (rw [hsp]; rfl) | simp [hsp] | simp_all
            refine sgx rfl ?_ ?_
            · first | exact hsp | (rw [hsp]; rfl) | simp [hsp] | simp_all
            refine sgx rfl ?_ ?_
            · first | exact hsp | (rw [hsp]; rfl) | simp [hsp] | simp_all
            refine sgx rfl ?_ ?_
            · first | exact hsp | (rw [hsp]; rfl) | simp [hsp] | simp_all
            refine sgx rfl ?_ ?_
            · first | exact hsp | (rw [hsp]; rfl) | simp [hsp] | simp_all
            refine sgx rfl ?_ ?_
            · first | exact hsp | (rw [hsp]; rfl) | simp [hsp] | simp_all
            refine sgx rfl ?_ ?_
            · first | exact hsp | (rw [hsp]; rfl) | simp [hsp] | simp_all
            refine sv rfl (y_and) ?_
            refine GOps_nil ?_
            refine thn_normal ?_
            refine g_cond (fun hb9 => ?_) (fun hb9 => ?_)
            ·
              exfalso
              simp at hsp hb9
            ·
              refine G_skip ?_
              refine thn_normal ?_
              refine G_seq ?_
              refine G_seq ?_
              refine g_keep [0, 1, 2, 3, 5, 6, 7, 8, 9, 10, 11, 12, 13, 14, 15] ?_
              refine g_region ?_
              refine sv rfl (y_move) ?_
              refine sv rfl (y_eql) ?_
              refine GOps_nil ?_
              refine thn_normal ?_
              refine g_cond (fun hb10 => ?_) (fun hb10 => ?_)
              ·
                have qw := qv (by simpa using hb10)
                refine G_seq ?_
                refine g_region ?_
                first | refine sv rfl (y_load_agg sz27 Tryz.underlying27 rfl) ?_ | refine sv rfl (y_loadp_agg (by exact sz27) Tryz.underlying27 rfl) ?_
                refine sv rfl (y_move) ?_
                refine g_call (xs := [.tmp 98, .tmp 99]) rfl (qw) ?_
                refine sv rfl (y_move) ?_
                refine sv rfl (y_extract) ?_
                refine sv rfl (y_extract) ?_
                refine sv rfl (y_alloc zr27) ?_
                first | refine sa rfl (d_store sz27) ?_ | refine sa rfl (d_store_take sz27) ?_
                refine g_freeze 0 [] (.agg [.int .i64 vop, .str vnm, .int .i64 vnu, .sl (vks.map Tr.d)]) rfl ?_
                refine sv rfl (y_assign) ?_
                refine GOps_nil ?_
                refine thn_normal ?_
                refine G_seq ?_
                refine g_region ?_
                refine sv rfl (y_move) ?_
                refine sv rfl (y_eql) ?_
                refine sv rfl (y_move) ?_
                first | refine sg rfl (fun hg => q_load_agg sz27 Tryz.underlying27 rfl) ?_ | refine sg rfl (fun hg => q_loadp_agg (by exact sz27) Tryz.underlying27 rfl) ?_
                first | refine sg rfl (fun hg => q_load_agg sz27 Tryz.underlying27 rfl) ?_ | refine sg rfl (fun hg => q_loadp_agg (by exact sz27) Tryz.underlying27 rfl) ?_
                refine g_callg (xs := [.tmp 106, .tmp 107]) rfl (fun hg => q30) ?_
                refine sv rfl (y_and) ?_
                refine sv rfl (y_move) ?_
                refine g_callg (xs := []) rfl (fun hg => c27) ?_
                refine sv rfl (y_and) ?_
                refine sv rfl (y_assign) ?_
                refine GOps_nil ?_
                refine thn_normal ?_
                refine G_ret ?_
                refine thn_ret ?_
                refine fin1 (by simp) ?_
                exact ⟨by first | rfl | simp, rfl⟩
              ·
                refine G_skip ?_
                refine thn_normal ?_
                refine G_seq ?_
                refine g_region ?_
                refine g_call (xs := []) rfl (c27) ?_
                refine sv rfl (y_assign) ?_
                refine GOps_nil ?_
                refine thn_normal ?_
                refine G_ret ?_
                refine fin1 (by simp) ?_
                exact ⟨by first | rfl | simp, rfl⟩
end Go.Proofs.YtklkbfpjimeaoaaGreat
