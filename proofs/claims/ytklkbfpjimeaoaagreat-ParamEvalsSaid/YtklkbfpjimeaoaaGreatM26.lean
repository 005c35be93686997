import Derived.Test.YtklkbfpjimeaoaaGreatM20
import Derived.Test.YtklkbfpjimeaoaaGreatM21
import Derived.Test.YtklkbfpjimeaoaaGreatM25
/- Contracts of functions. Conditions: none. -/
namespace Go.Proofs.YtklkbfpjimeaoaaGreat
open Go Go.Proofs.YtklkbfpjimeaoaaGreat.E
theorem c113 (ts : List (ByteArray × Tr)) (g : FuncId) (fa fc : List D) (p : ByteArray × Tr → Bool) (hlim : ts.length ≤ 140737488355328)
    (hcb : ∀ x ∈ ts, Pf Tryz.prog g (fa ++ [cD x] ++ fc) (.d (.bool (p x)))) : Pf Tryz.prog 113 [.sl (ts.map cD), .fn (.func g) fa fc] (.d (.int .i64 (idxL p ts))) := by
  refine pf_body (rvs := [.tmp 4]) [(0, .d (.sl (ts.map cD))), (1, .d (.fn (.func g) fa fc))] Tryz.func113 Tryz.ntmps113 Tryz.results113 (fun S0 O0 w0 m0 hm0 => ?_)
  refine gS (gR ?_)
  refine vq rfl qA ?_
  refine gN (tN (gS (gS (gR ?_))))
  refine vq rfl qM ?_
  refine vq rfl (q_len u49) ?_
  refine vq rfl qM ?_
  refine gN (tN (G_block ?_))
  refine g_loop (α := Nat) (fun z => ⟨[(8, .d (.int .i64 (z : Nat))), (7, .d (.int .i64 ((ts.map cD).length : Nat))), (6, .d (.sl (ts.map cD))), (1, .d (.fn (.func g) fa fc)), (0, .d (.sl (ts.map cD)))], []⟩) (fun z => ts.length - z) (fun z => z ≤ ts.length ∧ ∀ i, i < z → ∀ x, ts[i]? = some x → p x = false) 0 ⟨Nat.zero_le _, by simp⟩ (fun z hz Q' hn0 he0 hr0 => ?_) (le_of)
  obtain ⟨hz1, hz2⟩ := hz
  refine gS (gR ?_)
  refine vq rfl q_lss ?_
  refine gN (tN (gS ?_))
  refine gC (fun hb0 => ?_) (fun hb0 => ?_)
  ·
    have hlt : z < ts.length := by simpa using hb0
    obtain ⟨x, hx⟩ : ∃ x, ts[z]? = some x := ⟨_, List.getElem?_eq_getElem hlt⟩
    have hmem := List.mem_of_getElem? hx
    have hxd := cD_get hx
    have hcx := hcb x hmem
    obtain ⟨op, name, num, kids, _, hca⟩ := cD_agg x
    rw [hca] at hxd hcx
    refine gK (tN (gS (G_block (gS (gR ?_)))))
    refine vq rfl qM ?_
    refine vq rfl qA ?_
    refine gN (tN (gS (gR ?_)))
    refine vq rfl qM ?_
    refine vq rfl qM ?_
    refine vq rfl qM ?_
    refine vq rfl (qI u49 sz59) ?_
    refine vq rfl (qG (by exact sz59) u59 rfl) ?_
    refine gL (xs := [.tmp 15]) rfl (hcx) ?_
    refine gN (tN ?_)
    refine gC (fun hb1 => ?_) (fun hb1 => ?_)
    ·
      refine gS (gR ?_)
      refine vq rfl qM ?_
      refine vq rfl qA ?_
      refine gN (tN (gT (bR (tR ?_))))
      refine hr0 _ ?_
      refine bR (tR ?_)
      exact fin1 (by simp) ⟨idxL_found hz2 hx hb1, rfl⟩
    refine gK (bN (tN (gR ?_)))
    refine vq rfl q_add ?_
    refine vq rfl qM ?_
    refine gN ?_
    refine hn0 _ (z + 1) ⟨by omega, idxL_step hz2 hx hb1⟩ (by omega) le_of
  have hge : z = ts.length := by
    have : ¬ (z : Int) < (ts.map cD).length := by simpa using hb0
    rw [List.length_map] at this
    omega
  refine G_exit (thn_exit ?_)
  refine he0 _ _ ?_
  refine blk_exit (tN (gS (gR ?_)))
  refine vq rfl qA ?_
  refine gN (tN (gT ?_))
  exact fin1 (by simp) ⟨idxL_none (hge ▸ hz2), rfl⟩
theorem c40 (ts : List (ByteArray × Tr)) (g : FuncId) (fa fc : List D) (p : ByteArray × Tr → Bool) (hlim : ts.length ≤ 140737488355328)
    (hcb : ∀ x ∈ ts, Pf Tryz.prog g (fa ++ [cD x] ++ fc) (.d (.bool (p x)))) : Pf Tryz.prog 40 [.sl (ts.map cD), .fn (.func g) fa fc] (.d (.bool (ts.any p))) := by
  refine pf_body (rvs := [.tmp 4]) [(0, .d (.sl (ts.map cD))), (1, .d (.fn (.func g) fa fc))] Tryz.func40 Tryz.ntmps40 Tryz.results40 (fun S0 O0 w0 m0 hm0 => ?_)
  refine gS (gR ?_)
  refine vq rfl qA ?_
  refine gN (tN (gS (gR ?_)))
  refine vq rfl qM ?_
  refine vq rfl qM ?_
  refine gL (xs := [.tmp 5, .tmp 6]) rfl (c113 ts g fa fc p hlim hcb) ?_
  refine vq rfl q_geq ?_
  refine vq rfl qA ?_
  refine gN (tN (gT ?_))
  refine fin1 (by simp) ?_
  exact ⟨by rw [idxL_any], rfl⟩
def badF (c : ByteArray × Tr) : Bool := decide ((c.1.size : Int) > 100) || !c.2.few 10
def fewL (l : List (ByteArray × Tr)) : Bool := decide ((l.length : Int) ≤ 10) && !(l.any badF)
theorem fewL_ok {l : List (ByteArray × Tr)} (h : fewL l = true) : l.length ≤ 10 ∧ ∀ c ∈ l, c.2.size ≤ 10 := by
  unfold fewL at h
  rw [Bool.and_eq_true, decide_eq_true_eq, Bool.not_eq_true', List.any_eq_false] at h
  refine ⟨by omega, fun c hc => ?_⟩
  have h1 := h.2 c hc
  unfold badF at h1
  rw [Bool.or_eq_true, not_or, Bool.not_eq_true', Bool.not_eq_false] at h1
  have := (Tr.few_size (by decide) h1.2).1
  omega
theorem badC_val {cn : ByteArray} {op : Int} {name : ByteArray} {num : Int} {ks : List Tr} : ((op == 1 || op == 2) && nodeE (.mk op name num ks) == 0) = !badC (cn, .mk op name num ks) := by
  simp only [badC]
  cases h1 : (op == 1) <;> cases h2 : (op == 2) <;> cases h3 : (nodeE (Tr.mk op name num ks) == 0) <;> simp_all [bne]
theorem c106 (cn : ByteArray) (op : Int) (name : ByteArray) (num : Int) (ks : List Tr) (hok : (Tr.mk op name num ks).Ok) : Pf Tryz.prog 106 [.agg [.str cn, .int .i64 op, .str name, .int .i64 num, .sl (ks.map Tr.d)]] (.d (.bool (badF (cn, .mk op name num ks)))) := by
  refine pf_body (rvs := [.tmp 2]) [(0, .d (.agg [.str cn, .int .i64 op, .str name, .int .i64 num, .sl (ks.map Tr.d)]))] Tryz.func106 Tryz.ntmps106 Tryz.results106 (fun S0 O0 w0 m0 hm0 => ?_)
  refine gS (gR ?_)
  refine sv rfl y_box ?_
  refine gF 0 [] (.agg [.str cn, .int .i64 op, .str name, .int .i64 num, .sl (ks.map Tr.d)]) rfl ?_
  refine vq rfl qA ?_
  refine gN (tN (gS (gR ?_)))
  refine vq rfl (qF u59 rfl sz9) ?_
  refine vq rfl (qL u9) ?_
  refine vq rfl (q_lenstr u9) ?_
  refine vq rfl q_gtr ?_
  refine vq rfl qM ?_
  refine sg rfl (fun hg => q_fieldp_agg u59 rfl sz27) ?_
  refine sg rfl (fun hg => sP 8 rfl hg (qG (ds := [.int .i64 op, .str name, .int .i64 num, .sl (ks.map Tr.d)]) (by exact sz27) u27 rfl)) ?_
  refine g_callg (xs := [.tmp 9, .const (.int .i64 (10))]) rfl (fun hg => (Tr.d_mk op name num ks ▸ c26 (.mk op name num ks) 10 hok (by decide) (by decide))) ?_
  refine sg rfl (fun hg => sP 10 rfl hg q_not) ?_
  refine vq rfl q_or ?_
  refine vq rfl qA ?_
  refine gN (tN (gT ?_))
  refine fin1 (by simp) ?_
  exact ⟨rfl, rfl⟩
theorem c31 (l : List (ByteArray × Tr)) (hl : ∀ c ∈ l, c.2.Ok) (hlim : l.length ≤ 140737488355328) : Pf Tryz.prog 31 [.sl (l.map cD)] (.d (.bool (fewL l))) := by
  refine pf_body (rvs := [.tmp 2]) [(0, .d (.sl (l.map cD)))] Tryz.func31 Tryz.ntmps31 Tryz.results31 (fun S0 O0 w0 m0 hm0 => ?_)
  refine gS (gR ?_)
  refine vq rfl qA ?_
  refine gN (tN (gS (gR ?_)))
  refine vq rfl qM ?_
  refine vq rfl (q_len u49) ?_
  refine vq rfl q_leq ?_
  refine vq rfl qM ?_
  refine sg rfl (fun hg => qM) ?_
  refine g_callg (xs := [.tmp 7, .func 106]) rfl (fun hg => c40 l 106 [] [] badF hlim (fun x hx => by obtain ⟨op, name, num, ks, h1, h2⟩ := cD_agg x; have h3 := hl x hx; rw [h1] at h3; rw [h2, show x = (x.1, .mk op name num ks) from by rw [← h1]]; exact c106 x.1 op name num ks h3)) ?_
  refine sg rfl (fun hg => sP 8 rfl hg q_not) ?_
  refine vq rfl q_and ?_
  refine vq rfl qA ?_
  refine gN (tN (gT ?_))
  refine fin1 (by simp) ?_
  exact ⟨by rw [fewL, List.length_map], rfl⟩
set_option maxHeartbeats 1000000 in
theorem c32 (l : List (ByteArray × Tr)) (hlim : l.length ≤ 1000000) : Pf Tryz.prog 32 [.sl (l.map cD)] (.d (.sl (l.map cD))) := by
  refine pf_body (rvs := [.tmp 2]) [(0, .d (.sl (l.map cD)))] Tryz.func32 Tryz.ntmps32 Tryz.results32 (fun S0 O0 w0 m0 hm0 => ?_)
  refine gS (gR ?_)
  refine vq rfl qA ?_
  refine gN (tN (gS (gR ?_)))
  refine vq rfl qA ?_
  refine gN (tN (gS (gS (gR ?_))))
  refine vq rfl qM ?_
  refine vq rfl (q_len u49) ?_
  refine vq rfl qM ?_
  refine gN (tN (G_block ?_))
  refine g_loop (α := Nat) (fun z => ⟨[(8, .d (.int .i64 (z : Nat))), (7, .d (.int .i64 ((l.map cD).length : Nat))), (6, .d (.sl (l.map cD))), (3, .osl 5 ((l.take z).map cD))], []⟩) (fun z => l.length - z) (fun z => z ≤ l.length) 0 (Nat.zero_le _) (fun z hz Q' hn0 he0 hr0 => ?_) (le_of)
  have hll : (l.take z).length = z := by rw [List.length_take]; omega
  refine gS (gR ?_)
  refine vq rfl q_lss ?_
  refine gN (tN (gS ?_))
  refine gC (fun hb0 => ?_) (fun hb0 => ?_)
  ·
    have hlt : z < l.length := by simpa using hb0
    obtain ⟨c, hc⟩ : ∃ c, l[z]? = some c := ⟨_, List.getElem?_eq_getElem hlt⟩
    have hxd := cD_get hc
    obtain ⟨op, name, num, ks, _, hca⟩ := cD_agg c
    rw [hca] at hxd
    refine gK (tN (gS (G_block (gS (gR ?_)))))
    refine vq rfl (qI u49 sz59) ?_
    refine vq rfl (qG (by exact sz59) u59 rfl) ?_
    refine sv rfl (y_alloc zr59) ?_
    refine sa rfl (dS sz59) ?_
    refine gF 0 [] (.agg [.str c.1, .int .i64 op, .str name, .int .i64 num, .sl (ks.map Tr.d)]) rfl ?_
    refine gN (tN (gR ?_))
    refine sv rfl y_move_take ?_
    refine vq rfl (qG (by exact sz59) u59 rfl) ?_
    refine sv rfl (y_buildSlice (xs := [.tmp 13]) u51 inf66) ?_
    refine sv rfl (y_append u51 inf66 (hk := by first | exact cD_cells _ | (intro x hx; simp at hx; subst hx; simp [D.cells])) (hlen := by simp [lim]; omega) (hB := by simp [lim]; omega)) ?_
    rw [← hca, show (l.take z).map cD ++ [cD c] = (l.take (z + 1)).map cD from by rw [List.take_add_one, hc, List.map_append]; rfl]
    refine sv rfl y_assign_take ?_
    refine gN (bN (tN (gR ?_)))
    refine vq rfl q_add ?_
    refine vq rfl qM ?_
    refine gN ?_
    refine hn0 _ (z + 1) (by omega) (by omega) le_of
  have hge : z = l.length := by
    have : ¬ (z : Int) < (l.map cD).length := by simpa using hb0
    rw [List.length_map] at this
    omega
  refine G_exit (thn_exit ?_)
  refine he0 _ _ ?_
  refine blk_exit (tN (gS (gR ?_)))
  rw [hge, List.take_length]
  refine vq rfl qM ?_
  refine vq rfl qA ?_
  refine gN (tN (gT ?_))
  refine fin1 (by simp) ?_
  exact ⟨rfl, rfl⟩
end Go.Proofs.YtklkbfpjimeaoaaGreat
namespace Go.Proofs.YtklkbfpjimeaoaaGreat
open Go Go.Proofs.YtklkbfpjimeaoaaGreat.E
theorem c188 (t : Tr) (hok : t.Ok) (hszb : t.size ≤ 1000000000) : Pf Tryz.prog 188 [t.d] (.d (.bool ((t.op == 1 || t.op == 2) && nodeE t == 0))) := by
  obtain ⟨op, name, num, ks⟩ := t
  rw [Tr.d_mk]
  try simp only [Tr.op_mk]
  refine pf_body (rvs := [.tmp 2]) [(0, .d (.agg [.int .i64 op, .str name, .int .i64 num, .sl (ks.map Tr.d)]))] Tryz.func188 Tryz.ntmps188 Tryz.results188 (fun S0 O0 w0 m0 hm0 => ?_)
  refine gS (gR ?_)
  refine sv rfl y_box ?_
  refine gF 0 [] (.agg [.int .i64 op, .str name, .int .i64 num, .sl (ks.map Tr.d)]) rfl ?_
  refine vq rfl qA ?_
  refine gN (tN (gS (gR ?_)))
  refine vq rfl (qF u27 rfl sz3) ?_
  refine vq rfl (qL u3) ?_
  refine vq rfl q_eql ?_
  refine vq rfl qM ?_
  refine sg rfl (fun hg => qF u27 rfl sz3) ?_
  refine sg rfl (fun hg => sP 7 rfl hg (qL u3)) ?_
  refine sg rfl (fun hg => sP 8 rfl hg q_eql) ?_
  refine vq rfl q_or ?_
  refine vq rfl qM ?_
  refine sg rfl (fun hg => qG (by exact sz27) u27 rfl) ?_
  refine g_callg (xs := [.tmp 12]) rfl (fun hg => (Tr.d_mk op name num ks ▸ c25 (.mk op name num ks) hok hszb)) ?_
  refine sg rfl (fun hg => sP 13 rfl hg q_eql) ?_
  refine vq rfl q_and ?_
  refine vq rfl qA ?_
  refine gN (tN (gT ?_))
  refine fin1 (by simp) ?_
  exact ⟨rfl, rfl⟩
set_option maxHeartbeats 1000000 in
theorem c107 (l : List (ByteArray × Tr)) (hl : COk l) : Pf Tryz.prog 107 [.sl (l.map cD)] (.d (.bool (constsB l))) := by
  refine pf_body (rvs := [.tmp 2]) [(0, .d (.sl (l.map cD)))] Tryz.func107 Tryz.ntmps107 Tryz.results107 (fun S0 O0 w0 m0 hm0 => ?_)
  refine gS (gR ?_)
  refine vq rfl qA ?_
  refine gN (tN (gS (gS (gR ?_))))
  refine vq rfl qA ?_
  refine gN (tN (G_block ?_))
  refine g_loop (α := Nat) (fun z => ⟨[(3, .d (.int .i64 (z : Nat))), (0, .d (.sl (l.map cD)))], []⟩) (fun z => l.length - z) (fun z => z ≤ l.length ∧ ∀ i, i < z → ∀ x, l[i]? = some x → badC x = false) 0 ⟨Nat.zero_le _, by simp⟩ (fun z hz Q' hn0 he0 hr0 => ?_) (le_of)
  obtain ⟨hz1, hz2⟩ := hz
  have hl1 := hl.1
  refine gS (gS (gR ?_))
  refine vq rfl qM ?_
  refine vq rfl qM ?_
  refine vq rfl (q_len u49) ?_
  refine vq rfl q_lss ?_
  refine gN (tN ?_)
  refine gC (fun hb0 => ?_) (fun hb0 => ?_)
  ·
    have hlt : z < l.length := by simpa using hb0
    obtain ⟨x, hx⟩ : ∃ x, l[z]? = some x := ⟨_, List.getElem?_eq_getElem hlt⟩
    have hmem := List.mem_of_getElem? hx
    have hxd := cD_get hx
    obtain ⟨cn, op, name, num, ks⟩ := x
    have hbv := badC_val (cn := cn) (op := op) (name := name) (num := num) (ks := ks)
    have hco := hl.2 _ hmem
    rw [show cD (cn, .mk op name num ks) = .agg [.str cn, .int .i64 op, .str name, .int .i64 num, .sl (ks.map Tr.d)] from by unfold cD; rw [Tr.d_mk]; rfl] at hxd
    refine gK (tN (gS (G_block (gS (gR ?_)))))
    refine vq rfl qM ?_
    refine vq rfl qM ?_
    refine vq rfl (qI u49 sz59) ?_
    refine vq rfl (q_fieldp_agg u59 rfl sz27) ?_
    refine vq rfl (qG (ds := [.int .i64 op, .str name, .int .i64 num, .sl (ks.map Tr.d)]) (by exact sz27) u27 rfl) ?_
    refine gL (xs := [.tmp 14]) rfl ((Tr.d_mk op name num ks ▸ c188 (.mk op name num ks) hco.1 (by have := hco.2; replace this : (Tr.mk op name num ks).size ≤ 1000000 := this; omega))) ?_
    refine vq rfl q_not ?_
    refine gN (tN ?_)
    refine gC (fun hb1 => ?_) (fun hb1 => ?_)
    ·
      refine gS (gR ?_)
      refine vq rfl qA ?_
      refine gN (tN (gT (bR (tR ?_))))
      refine hr0 _ ?_
      refine bR (tR ?_)
      refine fin1 (by simp) ?_
      exact ⟨by rw [show constsB l = false from by unfold constsB; rw [show l.any badC = true from List.any_eq_true.2 ⟨_, hmem, by have h := hb1; replace h : (!((op == 1 || op == 2) && nodeE (.mk op name num ks) == 0)) = true := h; rw [hbv, Bool.not_not] at h; exact h⟩]; rfl], rfl⟩
    refine gK (bN (tN (gR ?_)))
    refine vq rfl qM ?_
    refine vq rfl q_add ?_
    refine vq rfl qA ?_
    refine gN ?_
    refine hn0 _ (z + 1) ⟨by omega, idxL_step hz2 hx (by have h := hb1; replace h : (!((op == 1 || op == 2) && nodeE (.mk op name num ks) == 0)) = false := h; rw [hbv, Bool.not_not] at h; exact h)⟩ (by omega) le_of
  have hge : z = l.length := by
    have : ¬ (z : Int) < (l.map cD).length := by simpa using hb0
    rw [List.length_map] at this
    omega
  refine G_exit (thn_exit ?_)
  refine he0 _ _ ?_
  refine blk_exit (tN (gS (gR ?_)))
  refine vq rfl qA ?_
  refine gN (tN (gT ?_))
  refine fin1 (by simp) ?_
  exact ⟨by rw [show constsB l = true from by unfold constsB; rw [show l.any badC = false from List.any_eq_false.2 (fun x hx => by obtain ⟨i, hi⟩ := List.getElem?_of_mem hx; rw [hz2 i (by have := (List.getElem?_eq_some_iff.1 hi).1; omega) x hi]; decide)]; rfl], rfl⟩
theorem c193 (n : Int) : Pf Tryz.prog 193 [.int .i64 n] (.d (.agg [.int .i64 1, .str ⟨#[]⟩, .int .i64 n, .sl []])) := by
  refine pf_body (rvs := [.cell 2 27]) [(0, .d (.int .i64 n))] Tryz.func193 Tryz.ntmps193 Tryz.results193 (fun S0 O0 w0 m0 hm0 => ?_)
  refine gS (gR ?_)
  refine sv rfl (y_alloc zr27) ?_
  refine gN (tN (gS (gR ?_)))
  refine vq rfl qM ?_
  refine vq rfl (q_buildS pl27 zr27) ?_
  refine sa rfl (dS sz27) ?_
  refine gN (tN (gT ?_))
  refine findc sz27 u27 (by simp) ?_
  exact ⟨by rfl, rfl⟩
theorem c251 (b : Bool) : Pf Tryz.prog 251 [.bool b] (.d (.agg [.int .i64 2, .str ⟨#[]⟩, .int .i64 (if b = true then 1 else 0), .sl []])) := by
  refine pf_body (rvs := [.cell 2 27]) [(0, .d (.bool b))] Tryz.func251 Tryz.ntmps251 Tryz.results251 (fun S0 O0 w0 m0 hm0 => ?_)
  refine gS (gR ?_)
  refine sv rfl (y_alloc zr27) ?_
  refine gN (tN (gS (gS (gR ?_))))
  refine vq rfl qM ?_
  refine gN (tN ?_)
  refine gC (fun hb0 => ?_) (fun hb0 => ?_)
  ·
    refine gS (gR ?_)
    refine vq rfl (q_buildS pl27 zr27) ?_
    refine sa rfl (dS sz27) ?_
    refine gN (tN (gT (tR ?_)))
    refine findc sz27 u27 (by simp) ?_
    exact ⟨by rw [hb0]; rfl, rfl⟩
  refine gK (tN (gS (gR ?_)))
  refine vq rfl (q_buildS pl27 zr27) ?_
  refine sa rfl (dS sz27) ?_
  refine gN (tN (gT ?_))
  refine findc sz27 u27 (by simp) ?_
  exact ⟨by rw [hb0]; rfl, rfl⟩
def unaryR (nm : ByteArray) : Tr → Tr × Bool
  | .mk op _ num _ =>
    if ((decide (nm = mB) && op == 1) && num != minI) = true then (intT (W (0 - num)), true)
    else if (decide (nm = bangB) && op == 2) = true then (boolT (num == 0), true) else (z0, false)
def cmpR (nm : ByteArray) (a b : Int) : Bool × Bool :=
  if decide (nm = ⟨#[61, 61]⟩) = true then (a == b, true) else if decide (nm = ⟨#[33, 61]⟩) = true then (a != b, true) else if decide (nm = ⟨#[60]⟩) = true then (decide (a < b), true)
  else if decide (nm = ⟨#[60, 61]⟩) = true then (decide (a ≤ b), true) else if decide (nm = ⟨#[62]⟩) = true then (decide (a > b), true) else if decide (nm = ⟨#[62, 61]⟩) = true then (decide (a ≥ b), true) else (false, false)
def quoBad (a b : Int) : Bool := b == 0 || (a == minI && b == -1)
def mulBad (a b : Int) : Bool := (a == minI && b == -1) || (b == minI && a == -1)
def ariR (nm : ByteArray) (a b : Int) : Int × Bool :=
  if decide (nm = ⟨#[43]⟩) = true then (W (a + b), decide (b ≥ 0) == decide (W (a + b) ≥ a))
  else if decide (nm = ⟨#[45]⟩) = true then (W (a - b), decide (b ≥ 0) == decide (W (a - b) ≤ a))
  else if decide (nm = ⟨#[42]⟩) = true then (if (a == 0 || b == 0) = true then (0, true) else if mulBad a b = true then (0, false) else (W (a * b), W ((W (a * b)).tdiv b) == a))
  else if decide (nm = ⟨#[47]⟩) = true then (if quoBad a b = true then (0, false) else (W (a.tdiv b), true))
  else if decide (nm = ⟨#[37]⟩) = true then (if quoBad a b = true then (0, false) else (a.tmod b, true))
  else (0, false)
def binR (nm : ByteArray) : Tr → Tr → Tr × Bool
  | .mk xop _ xnu _, .mk yop _ ynu _ =>
    if (xop != yop) = true then (z0, false)
    else if ((xop == 2 && !decide (nm = ⟨#[61, 61]⟩)) && !decide (nm = ⟨#[33, 61]⟩)) = true then (z0, false)
    else if (cmpR nm xnu ynu).2 = true then (boolT (cmpR nm xnu ynu).1, true) else (intT (ariR nm xnu ynu).1, (ariR nm xnu ynu).2)
theorem z0_d : z0.d = .agg [.int .i64 0, .str ⟨#[]⟩, .int .i64 0, .sl []] := by rw [z0, Tr.d_mk]; rfl
theorem intT_d (n : Int) : (intT n).d = .agg [.int .i64 1, .str ⟨#[]⟩, .int .i64 n, .sl []] := by rw [intT, Tr.d_mk]; rfl
theorem boolT_d (b : Bool) : (boolT b).d = .agg [.int .i64 2, .str ⟨#[]⟩, .int .i64 (if b = true then 1 else 0), .sl []] := by rw [boolT, Tr.d_mk]; rfl
set_option maxHeartbeats 1000000 in
theorem c189 (t : Tr) (nm : ByteArray) : Pf Tryz.prog 189 [.str nm, t.d] (.tup [.d (unaryR nm t).1.d, .d (.bool (unaryR nm t).2)]) := by
  obtain ⟨op, name, num, ks⟩ := t
  rw [Tr.d_mk]
  try simp only [Tr.op_mk, Tr.nm_mk, Tr.nu_mk, Tr.kids_mk]
  refine pf_body (rvs := [.cell 4 27, .tmp 5]) [(0, .d (.str nm)), (1, .d (.agg [.int .i64 op, .str name, .int .i64 num, .sl (ks.map Tr.d)]))] Tryz.func189 Tryz.ntmps189 Tryz.results189 (fun S0 O0 w0 m0 hm0 => ?_)
  refine gS (gR ?_)
  refine sv rfl y_box ?_
  refine gF 0 [] (.agg [.int .i64 op, .str name, .int .i64 num, .sl (ks.map Tr.d)]) rfl ?_
  refine sv rfl (y_alloc zr27) ?_
  refine vq rfl qA ?_
  refine gN (tN (gS (gS (gR ?_))))
  refine vq rfl qM ?_
  refine vq rfl q_streq ?_
  refine vq rfl qM ?_
  refine sg rfl (fun hg => qF u27 rfl sz3) ?_
  refine sg rfl (fun hg => sP 9 rfl hg (qL u3)) ?_
  refine sg rfl (fun hg => sP 10 rfl hg q_eql) ?_
  refine vq rfl q_and ?_
  refine vq rfl qM ?_
  refine sg rfl (fun hg => qF u27 rfl sz3) ?_
  refine sg rfl (fun hg => sP 14 rfl hg (qL u3)) ?_
  refine sg rfl (fun hg => sP 15 rfl hg q_neq) ?_
  refine vq rfl q_and ?_
  refine gN (tN ?_)
  refine gC (fun hb0 => ?_) (fun hb0 => ?_)
  ·
    refine gS ?_
    refine gP [0, 1, 3, 4, 5] ?_
    refine gR ?_
    refine vq rfl (qF u27 rfl sz3) ?_
    refine vq rfl (qL u3) ?_
    refine vq rfl ((q_neg (hr := rfl))) ?_
    refine gL (xs := [.tmp 20]) rfl (c193 _) ?_
    refine sa rfl (dS sz27) ?_
    refine vq rfl qA ?_
    refine gN (tN (gT (tR ?_)))
    refine fincd sz27 u27 (by simp) ?_
    exact ⟨by simp only [unaryR, show ((decide (nm = mB) && op == 1) && num != minI) = true from hb0, if_true] <;> rfl, rfl⟩
  refine gK (tN (gS (gS ?_)))
  refine gP [0, 1, 3, 4, 5] ?_
  refine gR ?_
  refine vq rfl qM ?_
  refine vq rfl q_streq ?_
  refine vq rfl qM ?_
  refine sg rfl (fun hg => qF u27 rfl sz3) ?_
  refine sg rfl (fun hg => sP 25 rfl hg (qL u3)) ?_
  refine sg rfl (fun hg => sP 26 rfl hg q_eql) ?_
  refine vq rfl q_and ?_
  refine gN (tN ?_)
  refine gC (fun hb1 => ?_) (fun hb1 => ?_)
  ·
    refine gS (gR ?_)
    refine vq rfl (qF u27 rfl sz3) ?_
    refine vq rfl (qL u3) ?_
    refine vq rfl q_eql ?_
    refine gL (xs := [.tmp 31]) rfl (c251 _) ?_
    refine sa rfl (dS sz27) ?_
    refine vq rfl qA ?_
    refine gN (tN (gT (tR ?_)))
    refine fincd sz27 u27 (by simp) ?_
    exact ⟨by simp only [unaryR, show ((decide (nm = mB) && op == 1) && num != minI) = false from hb0, show (decide (nm = bangB) && op == 2) = true from hb1, Bool.false_eq_true, if_true, if_false]; rw [boolT_d], rfl⟩
  refine gK (tN (gS (gR ?_)))
  refine vq rfl (q_buildS pl27 zr27) ?_
  refine sa rfl (dS sz27) ?_
  refine vq rfl qA ?_
  refine gN (tN (gT ?_))
  refine fincd sz27 u27 (by simp) ?_
  exact ⟨by simp only [unaryR, show ((decide (nm = mB) && op == 1) && num != minI) = false from hb0, show (decide (nm = bangB) && op == 2) = false from hb1, Bool.false_eq_true, if_false]; rw [z0_d], rfl⟩
set_option maxHeartbeats 1000000 in
theorem c252 (nm : ByteArray) (a b : Int) : Pf Tryz.prog 252 [.str nm, .int .i64 a, .int .i64 b] (.tup [.d (.bool (cmpR nm a b).1), .d (.bool (cmpR nm a b).2)]) := by
  refine pf_body (rvs := [.tmp 6, .tmp 7]) [(0, .d (.str nm)), (1, .d (.int .i64 a)), (2, .d (.int .i64 b))] Tryz.func252 Tryz.ntmps252 Tryz.results252 (fun S0 O0 w0 m0 hm0 => ?_)
  refine gS (gR ?_)
  refine vq rfl qA ?_
  refine vq rfl qA ?_
  refine gN (tN (gS (gS (gR ?_))))
  refine vq rfl qM ?_
  refine gN (tN (G_block (gS (gR ?_))))
  refine vq rfl q_streq ?_
  refine vq rfl qA ?_
  refine gN (tN ?_)
  refine gC (fun hb0 => ?_) (fun hb0 => ?_)
  ·
    refine gS (gR ?_)
    refine vq rfl qM ?_
    refine vq rfl qM ?_
    refine vq rfl q_eql ?_
    refine vq rfl qA ?_
    refine vq rfl qA ?_
    refine gN (tN (gT (bR (tR ?_))))
    refine find2 (by simp) ?_
    exact ⟨by simp only [cmpR, hb0, if_true] <;> rfl, rfl⟩
  refine gS (gR ?_)
  refine vq rfl q_streq ?_
  refine vq rfl qA ?_
  refine gN (tN ?_)
  refine gC (fun hb1 => ?_) (fun hb1 => ?_)
  ·
    refine gS (gR ?_)
    refine vq rfl qM ?_
    refine vq rfl qM ?_
    refine vq rfl q_neq ?_
    refine vq rfl qA ?_
    refine vq rfl qA ?_
    refine gN (tN (gT (bR (tR ?_))))
    refine find2 (by simp) ?_
    exact ⟨by simp only [cmpR, hb0, hb1, Bool.false_eq_true, if_true, if_false] <;> rfl, rfl⟩
  refine gS (gR ?_)
  refine vq rfl q_streq ?_
  refine vq rfl qA ?_
  refine gN (tN ?_)
  refine gC (fun hb2 => ?_) (fun hb2 => ?_)
  ·
    refine gS (gR ?_)
    refine vq rfl qM ?_
    refine vq rfl qM ?_
    refine vq rfl q_lss ?_
    refine vq rfl qA ?_
    refine vq rfl qA ?_
    refine gN (tN (gT (bR (tR ?_))))
    refine find2 (by simp) ?_
    exact ⟨by simp only [cmpR, hb0, hb1, hb2, Bool.false_eq_true, if_true, if_false] <;> rfl, rfl⟩
  refine gS (gR ?_)
  refine vq rfl q_streq ?_
  refine vq rfl qA ?_
  refine gN (tN ?_)
  refine gC (fun hb3 => ?_) (fun hb3 => ?_)
  ·
    refine gS (gR ?_)
    refine vq rfl qM ?_
    refine vq rfl qM ?_
    refine vq rfl q_leq ?_
    refine vq rfl qA ?_
    refine vq rfl qA ?_
    refine gN (tN (gT (bR (tR ?_))))
    refine find2 (by simp) ?_
    exact ⟨by simp only [cmpR, hb0, hb1, hb2, hb3, Bool.false_eq_true, if_true, if_false] <;> rfl, rfl⟩
  refine gS (gR ?_)
  refine vq rfl q_streq ?_
  refine vq rfl qA ?_
  refine gN (tN ?_)
  refine gC (fun hb4 => ?_) (fun hb4 => ?_)
  ·
    refine gS ?_
    refine gP [0, 1, 2, 6, 7, 8] ?_
    refine gR ?_
    refine vq rfl qM ?_
    refine vq rfl qM ?_
    refine vq rfl q_gtr ?_
    refine vq rfl qA ?_
    refine vq rfl qA ?_
    refine gN (tN (gT (bR (tR ?_))))
    refine find2 (by simp) ?_
    exact ⟨by simp only [cmpR, hb0, hb1, hb2, hb3, hb4, Bool.false_eq_true, if_true, if_false] <;> rfl, rfl⟩
  refine gS ?_
  refine gP [0, 1, 2, 6, 7, 8] ?_
  refine gR ?_
  refine vq rfl q_streq ?_
  refine vq rfl qA ?_
  refine gN (tN ?_)
  refine gC (fun hb5 => ?_) (fun hb5 => ?_)
  ·
    refine gS (gR ?_)
    refine vq rfl qM ?_
    refine vq rfl qM ?_
    refine vq rfl q_geq ?_
    refine vq rfl qA ?_
    refine vq rfl qA ?_
    refine gN (tN (gT (bR (tR ?_))))
    refine find2 (by simp) ?_
    exact ⟨by simp only [cmpR, hb0, hb1, hb2, hb3, hb4, hb5, Bool.false_eq_true, if_true, if_false] <;> rfl, rfl⟩
  refine gK (bN (tN (gS (gR ?_))))
  refine vq rfl qA ?_
  refine vq rfl qA ?_
  refine gN (tN (gT ?_))
  refine find2 (by simp) ?_
  exact ⟨by simp only [cmpR, hb0, hb1, hb2, hb3, hb4, hb5, Bool.false_eq_true, if_false] <;> rfl, rfl⟩
set_option maxHeartbeats 4000000 in
theorem c253 (nm : ByteArray) (a b : Int) : Pf Tryz.prog 253 [.str nm, .int .i64 a, .int .i64 b] (.tup [.d (.int .i64 (ariR nm a b).1), .d (.bool (ariR nm a b).2)]) := by
  refine pf_body (rvs := [.tmp 6, .tmp 7]) [(0, .d (.str nm)), (1, .d (.int .i64 a)), (2, .d (.int .i64 b))] Tryz.func253 Tryz.ntmps253 Tryz.results253 (fun S0 O0 w0 m0 hm0 => ?_)
  refine gS (gR ?_)
  refine vq rfl qA ?_
  refine vq rfl qA ?_
  refine gN (tN (gS (gS (gR ?_))))
  refine vq rfl qM ?_
  refine gN (tN (G_block (gS (gR ?_))))
  refine vq rfl q_streq ?_
  refine vq rfl qA ?_
  refine gN (tN ?_)
  refine gC (fun hb0 => ?_) (fun hb0 => ?_)
  ·
    refine gS (gR ?_)
    refine vq rfl qM ?_
    refine vq rfl qM ?_
    refine vq rfl (q_add (hw := rfl)) ?_
    refine vq rfl qM ?_
    refine vq rfl q_geq ?_
    refine vq rfl qM ?_
    refine vq rfl qM ?_
    refine vq rfl (q_add (hw := rfl)) ?_
    refine vq rfl qM ?_
    refine vq rfl q_geq ?_
    refine vq rfl (q_booleq u4) ?_
    refine vq rfl qA ?_
    refine vq rfl qA ?_
    refine gN (tN (gT (bR (tR ?_))))
    refine find2 (by simp) ?_
    exact ⟨by simp only [ariR, mulBad, quoBad, minI, hb0, if_true] <;> rfl, rfl⟩
  refine gS (gR ?_)
  refine vq rfl q_streq ?_
  refine vq rfl qA ?_
  refine gN (tN ?_)
  refine gC (fun hb1 => ?_) (fun hb1 => ?_)
  ·
    refine gS (gR ?_)
    refine vq rfl qM ?_
    refine vq rfl qM ?_
    refine vq rfl (q_sub (hw := rfl)) ?_
    refine vq rfl qM ?_
    refine vq rfl q_geq ?_
    refine vq rfl qM ?_
    refine vq rfl qM ?_
    refine vq rfl (q_sub (hw := rfl)) ?_
    refine vq rfl qM ?_
    refine vq rfl q_leq ?_
    refine vq rfl (q_booleq u4) ?_
    refine vq rfl qA ?_
    refine vq rfl qA ?_
    refine gN (tN (gT (bR (tR ?_))))
    refine find2 (by simp) ?_
    exact ⟨by simp only [ariR, mulBad, quoBad, minI, hb0, hb1, Bool.false_eq_true, if_true, if_false] <;> rfl, rfl⟩
  refine gS (gR ?_)
  refine vq rfl q_streq ?_
  refine vq rfl qA ?_
  refine gN (tN ?_)
  refine gC (fun hb2 => ?_) (fun hb2 => ?_)
  ·
    refine gS (gS (gR ?_))
    refine vq rfl qM ?_
    refine vq rfl q_eql ?_
    refine vq rfl qM ?_
    refine sg rfl (fun hg => qM) ?_
    refine sg rfl (fun hg => sP 40 rfl hg q_eql) ?_
    refine vq rfl q_or ?_
    refine gN (tN ?_)
    refine gC (fun hb3 => ?_) (fun hb3 => ?_)
    ·
      refine gS ?_
      refine gP [0, 1, 2, 6, 7, 8] ?_
      refine gR ?_
      refine vq rfl qA ?_
      refine vq rfl qA ?_
      refine gN (tN (gT (tR (bR (tR ?_)))))
      refine find2 (by simp) ?_
      exact ⟨by simp only [ariR, mulBad, quoBad, minI, hb0, hb1, hb2, hb3, Bool.false_eq_true, if_true, if_false] <;> rfl, rfl⟩
    have hnz : b ≠ 0 := by
      rintro rfl
      revert hb3
      simp
    refine gK (tN (gS (gS ?_)))
    refine gP [0, 1, 2, 6, 7, 8] ?_
    refine gR ?_
    refine vq rfl qM ?_
    refine vq rfl q_eql ?_
    refine vq rfl qM ?_
    refine sg rfl (fun hg => qM) ?_
    refine sg rfl (fun hg => sP 46 rfl hg q_eql) ?_
    refine vq rfl q_and ?_
    refine vq rfl qM ?_
    refine sg rfl (fun hg => qM) ?_
    refine sg rfl (fun hg => sP 50 rfl hg q_eql) ?_
    refine sg rfl (fun hg => sP 51 rfl hg qM) ?_
    refine sg rfl (fun hg => qM) ?_
    refine sg rfl (fun hg => sP 53 rfl hg q_eql) ?_
    refine sg rfl (fun hg => sP 52 rfl hg q_and) ?_
    refine vq rfl q_or ?_
    refine gN (tN ?_)
    refine gC (fun hb4 => ?_) (fun hb4 => ?_)
    ·
      refine gS ?_
      refine gP [0, 1, 2, 6, 7, 8] ?_
      refine gR ?_
      refine vq rfl qA ?_
      refine vq rfl qA ?_
      refine gN (tN (gT (tR (bR (tR ?_)))))
      refine find2 (by simp) ?_
      exact ⟨by simp only [ariR, mulBad, quoBad, minI, hb0, hb1, hb2, hb3, hb4, Bool.false_eq_true, if_true, if_false] <;> rfl, rfl⟩
    refine gK (tN (gS ?_))
    refine gP [0, 1, 2, 6, 7, 8] ?_
    refine G_draw 12 [0, 1, 2, 3, 4, 5, 6, 7, 8, 9, 10, 11] rfl rfl (by kernel_rfl) ?_
    refine sq rfl qM ?_
    refine sq rfl qM ?_
    refine sq rfl (q_mul (hw := rfl)) ?_
    refine sq rfl qM ?_
    refine sq rfl qM ?_
    refine sq rfl (q_mul (hw := rfl)) ?_
    refine sq rfl qM ?_
    refine sq rfl (q_quo hnz rfl) ?_
    refine sq rfl qM ?_
    refine sq rfl q_eql ?_
    refine sq rfl qA ?_
    refine sq rfl qA ?_
    refine GQ_nil (by kernel_rfl) (tN (gT (bR (tR ?_))))
    refine find2 (by simp) ?_
    exact ⟨by simp only [ariR, mulBad, quoBad, minI, hb0, hb1, hb2, hb3, hb4, Bool.false_eq_true, if_true, if_false] <;> rfl, rfl⟩
  refine gS (gR ?_)
  refine vq rfl q_streq ?_
  refine vq rfl qA ?_
  refine gN (tN ?_)
  refine gC (fun hb5 => ?_) (fun hb5 => ?_)
  ·
    refine gS (gS (gR ?_))
    refine vq rfl qM ?_
    refine vq rfl q_eql ?_
    refine vq rfl qM ?_
    refine sg rfl (fun hg => qM) ?_
    refine sg rfl (fun hg => sP 72 rfl hg q_eql) ?_
    refine sg rfl (fun hg => sP 73 rfl hg qM) ?_
    refine sg rfl (fun hg => qM) ?_
    refine sg rfl (fun hg => sP 75 rfl hg q_eql) ?_
    refine sg rfl (fun hg => sP 74 rfl hg q_and) ?_
    refine vq rfl q_or ?_
    refine gN (tN ?_)
    refine gC (fun hb6 => ?_) (fun hb6 => ?_)
    ·
      refine gS ?_
      refine gP [0, 1, 2, 6, 7, 8] ?_
      refine gR ?_
      refine vq rfl qA ?_
      refine vq rfl qA ?_
      refine gN (tN (gT (tR (bR (tR ?_)))))
      refine find2 (by simp) ?_
      exact ⟨by simp only [ariR, mulBad, quoBad, minI, hb0, hb1, hb2, hb5, hb6, Bool.false_eq_true, if_true, if_false] <;> rfl, rfl⟩
    have hnz : b ≠ 0 := by
      rintro rfl
      revert hb6
      simp
    refine gK (tN (gS ?_))
    refine gP [0, 1, 2, 6, 7, 8] ?_
    refine gR ?_
    refine vq rfl qM ?_
    refine vq rfl qM ?_
    refine vq rfl (q_quo hnz rfl) ?_
    refine vq rfl qA ?_
    refine vq rfl qA ?_
    refine gN (tN (gT (bR (tR ?_))))
    refine find2 (by simp) ?_
    exact ⟨by simp only [ariR, mulBad, quoBad, minI, hb0, hb1, hb2, hb5, hb6, Bool.false_eq_true, if_true, if_false] <;> rfl, rfl⟩
  refine gS (gR ?_)
  refine vq rfl q_streq ?_
  refine vq rfl qA ?_
  refine gN (tN ?_)
  refine gC (fun hb7 => ?_) (fun hb7 => ?_)
  ·
    refine gS (gS ?_)
    refine gP [0, 1, 2, 6, 7, 8] ?_
    refine gR ?_
    refine vq rfl qM ?_
    refine vq rfl q_eql ?_
    refine vq rfl qM ?_
    refine sg rfl (fun hg => qM) ?_
    refine sg rfl (fun hg => sP 87 rfl hg q_eql) ?_
    refine sg rfl (fun hg => sP 88 rfl hg qM) ?_
    refine sg rfl (fun hg => qM) ?_
    refine sg rfl (fun hg => sP 90 rfl hg q_eql) ?_
    refine sg rfl (fun hg => sP 89 rfl hg q_and) ?_
    refine vq rfl q_or ?_
    refine gN (tN ?_)
    refine gC (fun hb8 => ?_) (fun hb8 => ?_)
    ·
      refine gS (gR ?_)
      refine vq rfl qA ?_
      refine vq rfl qA ?_
      refine gN (tN (gT (tR (bR (tR ?_)))))
      refine find2 (by simp) ?_
      exact ⟨by simp only [ariR, mulBad, quoBad, minI, hb0, hb1, hb2, hb5, hb7, hb8, Bool.false_eq_true, if_true, if_false] <;> rfl, rfl⟩
    have hnz : b ≠ 0 := by
      rintro rfl
      revert hb8
      simp
    refine gK (tN (gS (gR ?_)))
    refine vq rfl qM ?_
    refine vq rfl qM ?_
    refine vq rfl (q_rem hnz rfl) ?_
    refine vq rfl qA ?_
    refine vq rfl qA ?_
    refine gN (tN (gT (bR (tR ?_))))
    refine find2 (by simp) ?_
    exact ⟨by simp only [ariR, mulBad, quoBad, minI, hb0, hb1, hb2, hb5, hb7, hb8, Bool.false_eq_true, if_true, if_false] <;> rfl, rfl⟩
  refine gK (bN (tN (gS ?_)))
  refine gP [0, 1, 2, 6, 7, 8] ?_
  refine gR ?_
  refine vq rfl qA ?_
  refine vq rfl qA ?_
  refine gN (tN (gT ?_))
  refine find2 (by simp) ?_
  exact ⟨by simp only [ariR, mulBad, quoBad, minI, hb0, hb1, hb2, hb5, hb7, Bool.false_eq_true, if_false] <;> rfl, rfl⟩
set_option maxHeartbeats 1000000 in
theorem c191 (nm : ByteArray) (xop xnu yop ynu : Int) (xnm ynm : ByteArray) (xks yks : List Tr) : Pf Tryz.prog 191 [.str nm, .agg [.int .i64 xop, .str xnm, .int .i64 xnu, .sl (xks.map Tr.d)], .agg [.int .i64 yop, .str ynm, .int .i64 ynu, .sl (yks.map Tr.d)]] (.tup [.d (binR nm (.mk xop xnm xnu xks) (.mk yop ynm ynu yks)).1.d, .d (.bool (binR nm (.mk xop xnm xnu xks) (.mk yop ynm ynu yks)).2)]) := by
  refine pf_body (rvs := [.cell 6 27, .tmp 7]) [(0, .d (.str nm)), (1, .d (.agg [.int .i64 xop, .str xnm, .int .i64 xnu, .sl (xks.map Tr.d)])), (2, .d (.agg [.int .i64 yop, .str ynm, .int .i64 ynu, .sl (yks.map Tr.d)]))] Tryz.func191 Tryz.ntmps191 Tryz.results191 (fun S0 O0 w0 m0 hm0 => ?_)
  refine gS (gR ?_)
  refine sv rfl y_box ?_
  refine gF 0 [] (.agg [.int .i64 xop, .str xnm, .int .i64 xnu, .sl (xks.map Tr.d)]) rfl ?_
  refine sv rfl y_box ?_
  refine gF 0 [] (.agg [.int .i64 yop, .str ynm, .int .i64 ynu, .sl (yks.map Tr.d)]) rfl ?_
  refine sv rfl (y_alloc zr27) ?_
  refine vq rfl qA ?_
  refine gN (tN (gS (gS (gR ?_))))
  refine vq rfl (qF u27 rfl sz3) ?_
  refine vq rfl (qL u3) ?_
  refine vq rfl (qF u27 rfl sz3) ?_
  refine vq rfl (qL u3) ?_
  refine vq rfl q_neq ?_
  refine gN (tN ?_)
  refine gC (fun hb0 => ?_) (fun hb0 => ?_)
  ·
    refine gS (gR ?_)
    refine vq rfl (q_buildS pl27 zr27) ?_
    refine sa rfl (dS sz27) ?_
    refine vq rfl qA ?_
    refine gN (tN (gT (tR ?_)))
    refine fincd sz27 u27 (by simp) ?_
    exact ⟨by simp only [binR, hb0, if_true]; rw [z0_d], rfl⟩
  refine gK (tN (gS (gS (gR ?_))))
  refine vq rfl (qF u27 rfl sz3) ?_
  refine vq rfl (qL u3) ?_
  refine vq rfl q_eql ?_
  refine vq rfl qM ?_
  refine sg rfl (fun hg => qM) ?_
  refine sg rfl (fun hg => sP 22 rfl hg q_strne) ?_
  refine vq rfl q_and ?_
  refine vq rfl qM ?_
  refine sg rfl (fun hg => qM) ?_
  refine sg rfl (fun hg => sP 26 rfl hg q_strne) ?_
  refine vq rfl q_and ?_
  refine gN (tN ?_)
  refine gC (fun hb1 => ?_) (fun hb1 => ?_)
  ·
    refine gS ?_
    refine gP [0, 1, 2, 4, 5, 6, 7, 8, 9, 10, 11] ?_
    refine gR ?_
    refine vq rfl (q_buildS pl27 zr27) ?_
    refine sa rfl (dS sz27) ?_
    refine vq rfl qA ?_
    refine gN (tN (gT (tR ?_)))
    refine fincd sz27 u27 (by simp) ?_
    exact ⟨by simp only [binR, hb0, hb1, Bool.false_eq_true, if_true, if_false]; rw [z0_d], rfl⟩
  refine gK (tN (gS (gS ?_)))
  refine gP [0, 1, 2, 4, 5, 6, 7, 8, 9, 10, 11] ?_
  refine gR ?_
  refine vq rfl qM ?_
  refine vq rfl (qF u27 rfl sz3) ?_
  refine vq rfl (qL u3) ?_
  refine vq rfl (qF u27 rfl sz3) ?_
  refine vq rfl (qL u3) ?_
  refine gL (xs := [.tmp 31, .tmp 33, .tmp 35]) rfl (c252 nm xnu ynu) ?_
  refine vq rfl qM ?_
  refine vq rfl qE ?_
  refine vq rfl qE ?_
  refine vq rfl qA ?_
  refine vq rfl qA ?_
  refine gN (tN (gS (gR ?_)))
  refine vq rfl qM ?_
  refine gN (tN ?_)
  refine gC (fun hb2 => ?_) (fun hb2 => ?_)
  ·
    refine gS ?_
    refine gP [0, 1, 2, 4, 5, 6, 7, 8, 9, 10, 11] ?_
    refine gR ?_
    refine vq rfl qM ?_
    refine gL (xs := [.tmp 40]) rfl (c251 _) ?_
    refine sa rfl (dS sz27) ?_
    refine vq rfl qA ?_
    refine gN (tN (gT (tR ?_)))
    refine fincd sz27 u27 (by simp) ?_
    exact ⟨by simp only [binR, hb0, hb1, hb2, Bool.false_eq_true, if_true, if_false]; rw [boolT_d], rfl⟩
  refine gK (tN (gS ?_))
  refine gP [0, 1, 2, 4, 5, 6, 7, 8, 9, 10, 11] ?_
  refine gR ?_
  refine vq rfl qM ?_
  refine vq rfl (qF u27 rfl sz3) ?_
  refine vq rfl (qL u3) ?_
  refine vq rfl (qF u27 rfl sz3) ?_
  refine vq rfl (qL u3) ?_
  refine gL (xs := [.tmp 43, .tmp 45, .tmp 47]) rfl (c253 nm xnu ynu) ?_
  refine vq rfl qM ?_
  refine vq rfl qE ?_
  refine vq rfl qE ?_
  refine vq rfl qA ?_
  refine vq rfl qA ?_
  refine gN (tN (gS (gR ?_)))
  refine vq rfl qM ?_
  refine gL (xs := [.tmp 51]) rfl (c193 _) ?_
  refine vq rfl qM ?_
  refine sa rfl (dS sz27) ?_
  refine vq rfl qA ?_
  refine gN (tN (gT ?_))
  refine fincd sz27 u27 (by simp) ?_
  exact ⟨by simp only [binR, hb0, hb1, hb2, Bool.false_eq_true, if_false]; rw [intT_d], rfl⟩
end Go.Proofs.YtklkbfpjimeaoaaGreat
