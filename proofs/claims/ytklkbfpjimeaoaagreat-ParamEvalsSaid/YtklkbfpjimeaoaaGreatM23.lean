import Derived.Test.YtklkbfpjimeaoaaGreatM22
/- Contracts of functions. Conditions: none. -/
namespace Go.Proofs.YtklkbfpjimeaoaaGreat
open Go Go.Proofs.YtklkbfpjimeaoaaGreat.E
theorem tail_some {num : Int} {l : List Tr} (h : (andI num 2 != 0) = true) : varTail num l = match l with | [] => false | k :: r => isExprB k.op && (r.length : Int) == 0 := by
  unfold varTail; rw [if_pos h]; cases l <;> rfl
theorem tail_none {num : Int} {l : List Tr} (h : (andI num 2 != 0) = false) : varTail num l = ((l.length : Int) == 0) := by
  unfold varTail; rw [if_neg (by rw [h]; decide)]
theorem drop_kid {ks : List Tr} {n : Nat} (h : n < ks.length) : ∃ k r, ks.drop n = k :: r ∧ ks[n]? = some k ∧ r.length + n + 1 = ks.length := by
  refine ⟨ks[n], ks.drop (n + 1), List.drop_eq_getElem_cons h, List.getElem?_eq_getElem h, ?_⟩
  rw [List.length_drop]; omega
set_option maxHeartbeats 4000000 in
theorem c288 (t : Tr) (hok : t.Ok) : Pf Tryz.prog 288 [t.d] (.d (.bool (varB t))) := by
  obtain ⟨op, name, num, ks⟩ := t
  rw [Tr.d_mk]
  try simp only [Tr.op_mk, Tr.nm_mk, Tr.nu_mk, Tr.kids_mk]
  cases hok with | mk h1 h2 h3 h4 h5 =>
  refine pf_body (rvs := [.tmp 2]) [(0, .d (.agg [.int .i64 op, .str name, .int .i64 num, .sl (ks.map Tr.d)]))] Tryz.func288 Tryz.ntmps288 Tryz.results288 (fun S0 O0 w0 m0 hm0 => ?_)
  refine gS (gR ?_)
  refine sv rfl y_box ?_
  refine gF 0 [] (.agg [.int .i64 op, .str name, .int .i64 num, .sl (ks.map Tr.d)]) rfl ?_
  refine vq rfl qA ?_
  refine gN (tN (gS (gS (gR ?_))))
  refine vq rfl (qF u27 rfl sz9) ?_
  refine vq rfl (qL u9) ?_
  refine gL (xs := [.tmp 5]) rfl (c174 name) ?_
  refine vq rfl q_not ?_
  refine vq rfl qM ?_
  refine sg rfl (fun hg => qF u27 rfl sz3) ?_
  refine sg rfl (fun hg => sP 9 rfl hg (qL u3)) ?_
  refine sg rfl (fun hg => sP 10 rfl hg q_lss) ?_
  refine vq rfl q_or ?_
  refine vq rfl qM ?_
  refine sg rfl (fun hg => qF u27 rfl sz3) ?_
  refine sg rfl (fun hg => sP 14 rfl hg (qL u3)) ?_
  refine sg rfl (fun hg => sP 15 rfl hg q_gtr) ?_
  refine vq rfl q_or ?_
  refine vq rfl qM ?_
  refine sg rfl (fun hg => qF u27 rfl sz3) ?_
  refine sg rfl (fun hg => sP 19 rfl hg (qL u3)) ?_
  refine sg rfl (fun hg => sP 20 rfl hg (q_rem (show (4 : Int) ≠ 0 by decide) rfl)) ?_
  refine sg rfl (fun hg => sP 21 rfl hg q_eql) ?_
  refine vq rfl q_or ?_
  refine gN (tN ?_)
  refine gC (fun hb0 => ?_) (fun hb0 => ?_)
  ·
    have hv0 : varB (.mk op name num ks) = false := by
      rw [varB]
      by_cases h0 : num < 0
      · rw [if_pos (by rw [decide_eq_true h0]; simp)]
      · by_cases h1 : num > 15
        · rw [if_pos (by rw [decide_eq_true h1]; simp)]
        · rw [if_pos (by rw [(and_facts h0 h1).1]; exact hb0)]
    refine gS ?_
    refine gP [0, 1, 2, 3] ?_
    refine gR ?_
    refine vq rfl qA ?_
    refine gN (tN (gT (tR ?_)))
    refine fin1 (by simp) ?_
    exact ⟨by rw [hv0], rfl⟩
  have hnn := hb0
  simp only [Bool.or_eq_false_iff, decide_eq_false_iff_not] at hnn
  obtain ⟨a3, a1, a2⟩ := and_facts (n := num) hnn.1.1.2 hnn.1.2
  have hv0 : (((!nameB name || decide (num < 0)) || decide (num > 15)) || andI num 3 == 0) = false := by rw [a3]; exact hb0
  refine gK (tN (gS ?_))
  refine gP [0, 1, 2, 3] ?_
  refine gR ?_
  refine vq rfl qA ?_
  refine gN (tN ?_)
  refine G_seq_cut (α := Nat) (fun n => ⟨[(1, .d (.ptr (.agg [.int .i64 op, .str name, .int .i64 num, .sl (ks.map Tr.d)]))), (3, .d (.int .i64 (n : Nat)))], []⟩) (fun n => varB (.mk op name num ks) = varTail num (ks.drop n) ∧ n ≤ ks.length ∧ n ≤ 1) (fun Q' hn he hr => ?_) (fun n hn => ?_)
  ·
    refine gS (gR ?_)
    refine vq rfl (qF u27 rfl sz3) ?_
    refine vq rfl (qL u3) ?_
    refine vq rfl (q_rem (show (2 : Int) ≠ 0 by decide) rfl) ?_
    refine vq rfl q_eql ?_
    refine gN (tN ?_)
    refine gC (fun hb1 => ?_) (fun hb1 => ?_)
    ·
      refine gS (gS (gR ?_))
      refine vq rfl (qF u27 rfl sz22) ?_
      refine vq rfl (qL u22) ?_
      refine vq rfl (q_len u22) ?_
      refine vq rfl q_lss ?_
      refine vq rfl qM ?_
      refine g_split 32 false (fun hsp => ?_) (fun hsp => ?_)
      ·
        have h1l : 0 < ks.length := by simp at hsp; omega
        obtain ⟨k, r, hdr, hk, hrl⟩ := drop_kid (ks := ks) (n := 0) (by omega)
        obtain ⟨kop, knm, knu, kks, hke⟩ : ∃ op nm nu ks', k = .mk op nm nu ks' := by cases k; exact ⟨_, _, _, _, rfl⟩
        subst hke
        have hxa := Tr.ds_get hk
        rw [Tr.d_mk] at hxa
        refine sgo rfl hsp (y_fieldp_leaf u27 rfl sz22) ?_
        refine sgo rfl hsp (y_loadp_leaf u22) ?_
        refine sgo rfl hsp (y_indexAddr u22 sz27) ?_
        refine sgo rfl hsp (y_fieldp_leaf u27 rfl sz3) ?_
        refine sgo rfl hsp (y_loadp_leaf u3) ?_
        refine sgo rfl hsp y_eql ?_
        refine sgo rfl hsp y_move ?_
        refine sg rfl (fun hg => qF u27 rfl sz22) ?_
        refine sg rfl (fun hg => sP 40 rfl hg (qL u22)) ?_
        refine sg rfl (fun hg => sP 41 rfl hg (qI u22 sz27)) ?_
        refine sg rfl (fun hg => sP 42 rfl hg (qF u27 rfl sz9)) ?_
        refine sg rfl (fun hg => sP 43 rfl hg (qL u9)) ?_
        refine sg rfl (fun hg => sP 44 rfl hg q_strne) ?_
        refine sgo rfl hsp y_and ?_
        refine sgo rfl hsp y_move ?_
        refine sg rfl (fun hg => qF u27 rfl sz22) ?_
        refine sg rfl (fun hg => sP 48 rfl hg (qL u22)) ?_
        refine sg rfl (fun hg => sP 49 rfl hg (qI u22 sz27)) ?_
        refine sg rfl (fun hg => sP 50 rfl hg (qF u27 rfl sz3)) ?_
        refine sg rfl (fun hg => sP 51 rfl hg (qL u3)) ?_
        refine sg rfl (fun hg => sP 52 rfl hg q_eql) ?_
        refine sgo rfl hsp y_or ?_
        refine sgo rfl hsp y_not ?_
        refine vq rfl q_or ?_
        refine gN (tN ?_)
        refine gC (fun hb2 => ?_) (fun hb2 => ?_)
        ·
          have hbad : varTy num ks = false := by
            rw [show ks = Tr.mk kop knm knu kks :: r from hdr, varTy, varType]
            rw [show (Tr.mk kop knm knu kks).op = kop from rfl, show (Tr.mk kop knm knu kks).nm = knm from rfl]
            have h0 : ¬ (ks.length : Int) < 1 := by omega
            simp only [List.length_map, decide_eq_false h0, Bool.false_or] at hb2
            replace hb2 : (!(kop == 30 && !decide (knm = voidB) || kop == 31)) = true := hb2
            show (!(!(kop == 31) && (!(kop == 30) || decide (knm = voidB))) && _) = _
            revert hb2
            cases (kop == 30) <;> cases (kop == 31) <;> cases decide (knm = voidB) <;> intro hb2 <;> first | rfl | cases hb2
          refine gS ?_
          refine gP [0, 1, 2, 3] ?_
          refine gR ?_
          refine vq rfl qA ?_
          refine gN (tN (gT (tR ?_)))
          refine hr _ ?_
          refine fin1 (by simp) ?_
          exact ⟨by rw [varB, if_neg (by rw [hv0]; decide), if_pos (by rw [a1]; exact hb1), hbad], rfl⟩
        have hgood : varTy num ks = varTail num r := by
          rw [show ks = Tr.mk kop knm knu kks :: r from hdr, varTy, varType]
          rw [show (Tr.mk kop knm knu kks).op = kop from rfl, show (Tr.mk kop knm knu kks).nm = knm from rfl]
          have h0 : ¬ (ks.length : Int) < 1 := by omega
          simp only [List.length_map, decide_eq_false h0, Bool.false_or] at hb2
          replace hb2 : (!(kop == 30 && !decide (knm = voidB) || kop == 31)) = false := hb2
          show (!(!(kop == 31) && (!(kop == 30) || decide (knm = voidB))) && _) = _
          revert hb2
          cases (kop == 30) <;> cases (kop == 31) <;> cases decide (knm = voidB) <;> intro hb2 <;> first | rfl | cases hb2
        refine gK (tN ?_)
        refine gP [0, 1, 2, 3] ?_
        refine gR ?_
        refine vq rfl qM ?_
        refine vq rfl q_add ?_
        refine vq rfl qA ?_
        refine gN ?_
        refine hn _ 1 ⟨by rw [varB, if_neg (by rw [hv0]; decide), if_pos (by rw [a1]; exact hb1), hgood, show r = ks.drop 1 from by rw [show ks = Tr.mk kop knm knu kks :: r from hdr]; rfl], by omega, by omega⟩ le_of
      skip
      refine sgx rfl ?_ ?_
      · first | exact hsp | (rw [hsp]; rfl) | simp [hsp] | simp_all
      refine sgx rfl ?_ ?_
      · first | exact hsp | (rw [hsp]; rfl) | simp [hsp] | simp_all
      refine sgx rfl ?_ ?_
      · first | exact hsp | (rw [hsp]; rfl) | simp [hsp] | simp_all
      refine sgx rfl ?_ ?_
      · first | exact hsp | (rw [hsp]; rfl) | simp [hsp] | simp_all
      refine sgx rfl ?_ ?_
      · first | exact hsp | (rw [hsp]; rfl) | simp [hsp] | simp_all
      refine sgx rfl ?_ ?_
      · first | exact hsp | (rw [hsp]; rfl) | simp [hsp] | simp_all
      refine sgx rfl ?_ ?_
      · first | exact hsp | (rw [hsp]; rfl) | simp [hsp] | simp_all
      refine sgx rfl ?_ ?_
      · first | exact hsp | (rw [hsp]; rfl) | simp [hsp] | simp_all
      refine sgx rfl ?_ ?_
      · first | exact hsp | (rw [hsp]; rfl) | simp [hsp] | simp_all
      refine sgx rfl ?_ ?_
      · first | exact hsp | (rw [hsp]; rfl) | simp [hsp] | simp_all
      refine sgx rfl ?_ ?_
      · first | exact hsp | (rw [hsp]; rfl) | simp [hsp] | simp_all
      refine sgx rfl ?_ ?_
      · first | exact hsp | (rw [hsp]; rfl) | simp [hsp] | simp_all
      refine sgx rfl ?_ ?_
      · first | exact hsp | (rw [hsp]; rfl) | simp [hsp] | simp_all
      refine sgx rfl ?_ ?_
      · first | exact hsp | (rw [hsp]; rfl) | simp [hsp] | simp_all
      refine sgx rfl ?_ ?_
      · first | exact hsp | (rw [hsp]; rfl) | simp [hsp] | simp_all
      refine sgx rfl ?_ ?_
      · first | exact hsp | (rw [hsp]; rfl) | simp [hsp] | simp_all
      refine sgx rfl ?_ ?_
      · first | exact hsp | (rw [hsp]; rfl) | simp [hsp] | simp_all
      refine sgx rfl ?_ ?_
      · first | exact hsp | (rw [hsp]; rfl) | simp [hsp] | simp_all
      refine sgx rfl ?_ ?_
      · first | exact hsp | (rw [hsp]; rfl) | simp [hsp] | simp_all
      refine sgx rfl ?_ ?_
      · first | exact hsp | (rw [hsp]; rfl) | simp [hsp] | simp_all
      refine sgx rfl ?_ ?_
      · first | exact hsp | (rw [hsp]; rfl) | simp [hsp] | simp_all
      refine sgx rfl ?_ ?_
      · first | exact hsp | (rw [hsp]; rfl) | simp [hsp] | simp_all
      refine sgx rfl ?_ ?_
      · first | exact hsp | (rw [hsp]; rfl) | simp [hsp] | simp_all
      refine vq rfl q_or ?_
      refine gN (tN ?_)
      refine gC (fun hb3 => ?_) (fun hb3 => ?_)
      ·
        have hnil : varTy num ks = false := by
          have h0 : ks = [] := by
            cases ks with
            | nil => rfl
            | cons k r => exfalso; simp at hsp; omega
          rw [h0]; rfl
        refine gS ?_
        refine gP [0, 1, 2, 3] ?_
        refine gR ?_
        refine vq rfl qA ?_
        refine gN (tN (gT (tR ?_)))
        refine hr _ ?_
        refine fin1 (by simp) ?_
        exact ⟨by rw [varB, if_neg (by rw [hv0]; decide), if_pos (by rw [a1]; exact hb1), hnil], rfl⟩
      exfalso
      have h0 : decide (((ks.map Tr.d).length : Int) < 1) = true := by simpa using hsp
      rw [h0] at hb3
      exact absurd hb3 (by rw [Bool.true_or]; decide)
    refine gK ?_
    refine hn _ 0 ⟨by rw [varB, if_neg (by rw [hv0]; decide), if_neg (by rw [a1, hb1]; decide)]; rfl, by omega, by omega⟩ le_of
  obtain ⟨hn1, hn2, hn3⟩ := hn
  refine G_seq_cut (α := Nat) (fun m => ⟨[(1, .d (.ptr (.agg [.int .i64 op, .str name, .int .i64 num, .sl (ks.map Tr.d)]))), (3, .d (.int .i64 (m : Nat)))], []⟩) (fun m => varB (.mk op name num ks) = ((ks.length : Int) == ((m : Nat) : Int))) (fun Q' hn he hr => ?_) (fun m hm => ?_)
  ·
    refine gS (gR ?_)
    refine vq rfl (qF u27 rfl sz3) ?_
    refine vq rfl (qL u3) ?_
    refine vq rfl (q_quo (show (2 : Int) ≠ 0 by decide) rfl) ?_
    refine vq rfl (q_rem (show (2 : Int) ≠ 0 by decide) rfl) ?_
    refine vq rfl q_eql ?_
    refine gN (tN ?_)
    refine gC (fun hb4 => ?_) (fun hb4 => ?_)
    ·
      refine gS (gS (gR ?_))
      refine vq rfl (qF u27 rfl sz22) ?_
      refine vq rfl (qL u22) ?_
      refine vq rfl (q_len u22) ?_
      refine vq rfl qM ?_
      refine vq rfl q_add ?_
      refine vq rfl q_lss ?_
      refine vq rfl qM ?_
      refine g_split 70 false (fun hsp => ?_) (fun hsp => ?_)
      ·
        have h1l : n < ks.length := by simp at hsp; omega
        obtain ⟨k, r, hdr, hk, hrl⟩ := drop_kid (ks := ks) (n := n) (by omega)
        obtain ⟨kop, knm, knu, kks, hke⟩ : ∃ op nm nu ks', k = .mk op nm nu ks' := by cases k; exact ⟨_, _, _, _, rfl⟩
        subst hke
        have hxa := Tr.ds_get hk
        rw [Tr.d_mk] at hxa
        refine sgo rfl hsp (y_fieldp_leaf u27 rfl sz22) ?_
        refine sgo rfl hsp (y_loadp_leaf u22) ?_
        refine sgo rfl hsp y_move ?_
        refine sgo rfl hsp (y_indexAddr u22 sz27) ?_
        refine sgo rfl hsp (y_fieldp_leaf u27 rfl sz3) ?_
        refine sgo rfl hsp (y_loadp_leaf u3) ?_
        refine g_callo (xs := [.tmp 76]) rfl hsp (c81 _) ?_
        refine sgo rfl hsp y_not ?_
        refine vq rfl q_or ?_
        refine gN (tN ?_)
        refine gC (fun hb5 => ?_) (fun hb5 => ?_)
        ·
          have hx : varTail num (ks.drop n) = false := by
            rw [tail_some (by rw [a2]; exact hb4), hdr]
            have h0 : ¬ (ks.length : Int) < ((n + 1 : Nat) : Int) := by omega
            simp only [List.length_map, decide_eq_false h0, Bool.false_or, Bool.not_eq_true'] at hb5
            show (isExprB kop && _) = false
            rw [hb5, Bool.false_and]
          refine gS ?_
          refine gP [0, 1, 2, 3] ?_
          refine gR ?_
          refine vq rfl qA ?_
          refine gN (tN (gT (tR ?_)))
          refine hr _ ?_
          refine fin1 (by simp) ?_
          exact ⟨by rw [hn1, hx], rfl⟩
        have hx : varTail num (ks.drop n) = ((ks.length : Int) == ((n + 1 : Nat) : Int)) := by
          rw [tail_some (by rw [a2]; exact hb4), hdr]
          have h0 : ¬ (ks.length : Int) < ((n + 1 : Nat) : Int) := by omega
          simp only [List.length_map, decide_eq_false h0, Bool.false_or, Bool.not_eq_false'] at hb5
          show (isExprB kop && _) = _
          rw [hb5, Bool.true_and, Bool.eq_iff_iff, beq_iff_eq, beq_iff_eq]
          omega
        refine gK (tN ?_)
        refine gP [0, 1, 2, 3] ?_
        refine gR ?_
        refine vq rfl qM ?_
        refine vq rfl q_add ?_
        refine vq rfl qA ?_
        refine gN ?_
        refine hn _ (n + 1) (by rw [hn1, hx]) le_of
      skip
      refine sgx rfl ?_ ?_
      · first | exact hsp | (rw [hsp]; rfl) | simp [hsp] | simp_all
      refine sgx rfl ?_ ?_
      · first | exact hsp | (rw [hsp]; rfl) | simp [hsp] | simp_all
      refine sgx rfl ?_ ?_
      · first | exact hsp | (rw [hsp]; rfl) | simp [hsp] | simp_all
      refine sgx rfl ?_ ?_
      · first | exact hsp | (rw [hsp]; rfl) | simp [hsp] | simp_all
      refine sgx rfl ?_ ?_
      · first | exact hsp | (rw [hsp]; rfl) | simp [hsp] | simp_all
      refine sgx rfl ?_ ?_
      · first | exact hsp | (rw [hsp]; rfl) | simp [hsp] | simp_all
      refine sgx rfl ?_ ?_
      · first | exact hsp | (rw [hsp]; rfl) | simp [hsp] | simp_all
      refine sgx rfl ?_ ?_
      · first | exact hsp | (rw [hsp]; rfl) | simp [hsp] | simp_all
      refine vq rfl q_or ?_
      refine gN (tN ?_)
      refine gC (fun hb6 => ?_) (fun hb6 => ?_)
      ·
        have hx : varTail num (ks.drop n) = false := by
          have h0 : ks.drop n = [] := by
            rw [List.drop_eq_nil_iff]; simp at hsp; omega
          rw [tail_some (by rw [a2]; exact hb4), h0]
        refine gS ?_
        refine gP [0, 1, 2, 3] ?_
        refine gR ?_
        refine vq rfl qA ?_
        refine gN (tN (gT (tR ?_)))
        refine hr _ ?_
        refine fin1 (by simp) ?_
        exact ⟨by rw [hn1, hx], rfl⟩
      exfalso
      have h0 : decide (((ks.map Tr.d).length : Int) < ((n + 1 : Nat) : Int)) = true := by simpa using hsp
      rw [h0] at hb6
      exact absurd hb6 (by rw [Bool.true_or]; decide)
    refine gK ?_
    refine hn _ n (by rw [hn1, tail_none (by rw [a2]; exact hb4), List.length_drop, Bool.eq_iff_iff, beq_iff_eq, beq_iff_eq]; omega) le_of
  skip
  refine gS (gR ?_)
  refine vq rfl (qF u27 rfl sz22) ?_
  refine vq rfl (qL u22) ?_
  refine vq rfl (q_len u22) ?_
  refine vq rfl qM ?_
  refine vq rfl q_eql ?_
  refine vq rfl qA ?_
  refine gN (tN (gT ?_))
  refine fin1 (by simp) ?_
  exact ⟨by rw [hm, List.length_map], rfl⟩
def loopV (op num : Int) (ks : List Tr) : Bool :=
  (((ks.take num.toNat).all fun k => k.op == 4) && (isExprB (opK num.toNat ks) && opK (num.toNat + 1) ks == 66)) && (ks.drop (num.toNat + 2)).all fun k => op == 55 && k.op == 67
def loopRB : Tr → Bool
  | .mk op name num ks => decide (name = ⟨#[]⟩) && rule157 (.mk op name num ks)
theorem loop_rest (op : Int) (l : List Tr) : (((l.length : Int) == 0) || (op == 55 && everyB (fun o => o == 67) l)) = l.all fun k => op == 55 && k.op == 67 := by
  cases l with
  | nil => rfl
  | cons k r =>
    rw [show ((((k :: r).length : Nat) : Int) == 0) = false from by rw [beq_eq_false_iff_ne, List.length_cons]; omega, Bool.false_or]
    unfold everyB
    cases op == 55 with
    | true => simp only [Bool.true_and]; rw [Bool.eq_iff_iff, Bool.not_eq_true', List.any_eq_false, List.all_eq_true]; simp
    | false => simp
theorem kids3 (k0 k1 k2 : Tr) : kidsB [k0, k1, k2] (nn.extract 0 1 ++ eb) = (k0.op == 4 && (isExprB k1.op && k2.op == 66)) := by
  rw [show nn.extract 0 1 ++ eb = ⟨#[110, 101, 98]⟩ from rfl]
  unfold kidsB
  show (true && (kindOk 110 k0.op && (kindOk 101 k1.op && (kindOk 98 k2.op && true)))) = _
  rw [Bool.true_and, Bool.and_true]; rfl
theorem kids4 (k0 k1 k2 k3 : Tr) : kidsB [k0, k1, k2, k3] (nn.extract 0 2 ++ eb) = ((k0.op == 4 && k1.op == 4) && (isExprB k2.op && k3.op == 66)) := by
  rw [show nn.extract 0 2 ++ eb = ⟨#[110, 110, 101, 98]⟩ from rfl]
  unfold kidsB
  show (true && (kindOk 110 k0.op && (kindOk 110 k1.op && (kindOk 101 k2.op && (kindOk 98 k3.op && true))))) = _
  rw [Bool.true_and, Bool.and_true, Bool.and_assoc]; rfl
theorem loop_eq {op num : Int} {name : ByteArray} {ks : List Tr} (h : num = 1 ∨ num = 2) (hl : num + 2 ≤ (ks.length : Int)) : rule157 (.mk op name num ks) = loopV op num ks := by
  rw [rule157, if_pos ⟨h, hl⟩, loop_rest]
  unfold loopV
  rcases h with rfl | rfl
  · match ks, hl with
    | k0 :: k1 :: k2 :: r, _ =>
      show (kidsB [k0, k1, k2] (nn.extract 0 1 ++ eb) && _) = _
      rw [kids3]
      show _ = (((k0.op == 4 && true) && (isExprB k1.op && k2.op == 66)) && _)
      rw [Bool.and_true]; rfl
    | [], h => simp at h
    | [_], h => simp at h
    | [_, _], h => simp at h
  · match ks, hl with
    | k0 :: k1 :: k2 :: k3 :: r, _ =>
      show (kidsB [k0, k1, k2, k3] (nn.extract 0 2 ++ eb) && _) = _
      rw [kids4]
      show _ = (((k0.op == 4 && (k1.op == 4 && true)) && (isExprB k2.op && k3.op == 66)) && _)
      rw [Bool.and_true]; rfl
    | [], h => simp at h
    | [_], h => simp at h
    | [_, _], h => simp at h
    | [_, _, _], h => simp at h
theorem loop_no {op num : Int} {name : ByteArray} {ks : List Tr} (h : ¬ ((num = 1 ∨ num = 2) ∧ num + 2 ≤ (ks.length : Int))) : rule157 (.mk op name num ks) = false := by
  rw [rule157, if_neg h]
theorem opK_get {ks : List Tr} {i : Nat} {k : Tr} (h : ks[i]? = some k) : opK i ks = k.op := by unfold opK; rw [h]
theorem all_no {ks : List Tr} {n i : Nat} {k : Tr} {p : Tr → Bool} (h : ks[i]? = some k) (hi : i < n) (hp : p k = false) : (ks.take n).all p = false := by
  rw [List.all_eq_false]
  refine ⟨k, ?_, by rw [hp]; decide⟩
  exact List.mem_of_getElem? (show (ks.take n)[i]? = some k by rw [List.getElem?_take_of_lt hi]; exact h)
theorem all_yes {ks : List Tr} {n : Nat} {p : Tr → Bool} (h : ∀ i, i < n → ∀ k, ks[i]? = some k → p k = true) : (ks.take n).all p = true := by
  rw [List.all_eq_true]
  intro k hk
  obtain ⟨i, hi⟩ := List.getElem?_of_mem hk
  rw [List.getElem?_take] at hi
  split at hi
  · rename_i hlt; exact h i hlt k hi
  · cases hi
theorem drop_no {ks : List Tr} {n i : Nat} {k : Tr} {p : Tr → Bool} (h : ks[i]? = some k) (hi : n ≤ i) (hp : p k = false) : (ks.drop n).all p = false := by
  rw [List.all_eq_false]
  refine ⟨k, List.mem_of_getElem? (i := i - n) ?_, by rw [hp]; decide⟩
  rw [List.getElem?_drop, show n + (i - n) = i from by omega]; exact h
theorem drop_yes {ks : List Tr} {n : Nat} {p : Tr → Bool} (h : ∀ i, n ≤ i → ∀ k, ks[i]? = some k → p k = true) : (ks.drop n).all p = true := by
  rw [List.all_eq_true]
  intro k hk
  obtain ⟨i, hi⟩ := List.getElem?_of_mem hk
  rw [List.getElem?_drop] at hi
  exact h _ (by omega) k hi
set_option maxHeartbeats 4000000 in
theorem c289 (t : Tr) (hok : t.Ok) : Pf Tryz.prog 289 [t.d] (.d (.bool (loopRB t))) := by
  obtain ⟨op, name, num, ks⟩ := t
  rw [Tr.d_mk]
  try simp only [Tr.op_mk, Tr.nm_mk, Tr.nu_mk, Tr.kids_mk]
  cases hok with | mk h1 h2 h3 h4 h5 =>
  refine pf_body (rvs := [.tmp 2]) [(0, .d (.agg [.int .i64 op, .str name, .int .i64 num, .sl (ks.map Tr.d)]))] Tryz.func289 Tryz.ntmps289 Tryz.results289 (fun S0 O0 w0 m0 hm0 => ?_)
  refine gS (gR ?_)
  refine sv rfl y_box ?_
  refine gF 0 [] (.agg [.int .i64 op, .str name, .int .i64 num, .sl (ks.map Tr.d)]) rfl ?_
  refine vq rfl qA ?_
  refine gN (tN (gS (gS (gR ?_))))
  refine vq rfl (qF u27 rfl sz9) ?_
  refine vq rfl (qL u9) ?_
  refine vq rfl q_strne ?_
  refine vq rfl qM ?_
  refine sg rfl (fun hg => qF u27 rfl sz3) ?_
  refine sg rfl (fun hg => sP 9 rfl hg (qL u3)) ?_
  refine sg rfl (fun hg => sP 10 rfl hg q_neq) ?_
  refine sg rfl (fun hg => sP 11 rfl hg qM) ?_
  refine sg rfl (fun hg => qF u27 rfl sz3) ?_
  refine sg rfl (fun hg => sP 13 rfl hg (qL u3)) ?_
  refine sg rfl (fun hg => sP 14 rfl hg q_neq) ?_
  refine sg rfl (fun hg => sP 12 rfl hg q_and) ?_
  refine vq rfl q_or ?_
  refine vq rfl qM ?_
  refine sg rfl (fun hg => qF u27 rfl sz22) ?_
  refine sg rfl (fun hg => sP 19 rfl hg (qL u22)) ?_
  refine sg rfl (fun hg => sP 20 rfl hg (q_len u22)) ?_
  refine sg rfl (fun hg => qF u27 rfl sz3) ?_
  refine sg rfl (fun hg => sP 22 rfl hg (qL u3)) ?_
  refine sg rfl (fun hg => sP 23 rfl hg (q_add (hw := rfl))) ?_
  refine sg rfl (fun hg => sP 24 rfl hg (sP 21 rfl hg q_lss)) ?_
  refine vq rfl q_or ?_
  refine gN (tN ?_)
  refine gC (fun hb0 => ?_) (fun hb0 => ?_)
  ·
    have hno : loopRB (.mk op name num ks) = false := by
      rw [loopRB]
      by_cases hnm : name = ⟨#[]⟩
      · rw [loop_no, Bool.and_false]
        rintro ⟨h7, h8⟩
        simp only [Bool.or_eq_true, Bool.and_eq_true, Bool.not_eq_true', bne_iff_ne, decide_eq_true_eq, decide_eq_false_iff_not, List.length_map] at hb0
        rcases hb0 with (hb0 | hb0) | hb0
        · exact hb0 hnm
        · omega
        · rw [wrap_i64 (by omega) (by omega)] at hb0
          omega
      · rw [decide_eq_false hnm, Bool.false_and]
    refine gS ?_
    refine gP [0, 1, 2, 3, 4] ?_
    refine gR ?_
    refine vq rfl qA ?_
    refine gN (tN (gT (tR ?_)))
    refine fin1 (by simp) ?_
    exact ⟨by rw [hno], rfl⟩
  have hnn : ((num = 1 ∨ num = 2) ∧ num + 2 ≤ (ks.length : Int)) ∧ decide (name = ⟨#[]⟩) = true := by
    simp only [Bool.or_eq_false_iff, Bool.and_eq_false_iff, Bool.not_eq_false', bne_eq_false_iff_eq, decide_eq_false_iff_not, List.length_map] at hb0
    obtain ⟨⟨h7, h9⟩, h8⟩ := hb0
    have h6 : num = 1 ∨ num = 2 := by omega
    rw [wrap_i64 (by omega) (by omega)] at h8
    exact ⟨⟨h6, by omega⟩, h7⟩
  obtain ⟨⟨hn1, hn2⟩, hnm⟩ := hnn
  have hn3 : 1 ≤ num ∧ num ≤ 2 := by omega
  have hlv : loopRB (.mk op name num ks) = loopV op num ks := by rw [loopRB, hnm, Bool.true_and, loop_eq hn1 hn2]
  refine gK (tN (gS (gS ?_)))
  refine gP [0, 1, 2, 3, 4] ?_
  refine gR ?_
  refine vq rfl qA ?_
  refine gN (tN (G_block ?_))
  refine g_loop (α := Nat) (fun z => ⟨[(3, .d (.int .i64 (z : Nat))), (1, .d (.ptr (.agg [.int .i64 op, .str name, .int .i64 num, .sl (ks.map Tr.d)])))], []⟩) (fun z => num.toNat - z) (fun z => (z : Int) ≤ num ∧ ∀ i, i < z → ∀ k, ks[i]? = some k → (k.op == 4) = true) 0 ⟨by show (0 : Int) ≤ num; omega, by simp⟩ (fun z hz Q' hn0 he0 hr0 => ?_) (le_of)
  obtain ⟨hz1, hz2⟩ := hz
  refine gS (gS (gR ?_))
  refine vq rfl qM ?_
  refine vq rfl (qF u27 rfl sz3) ?_
  refine vq rfl (qL u3) ?_
  refine vq rfl q_lss ?_
  refine gN (tN ?_)
  refine gC (fun hb1 => ?_) (fun hb1 => ?_)
  ·
    have hlt : (z : Int) < num := by simpa using hb1
    obtain ⟨a, hka⟩ : ∃ k, ks[z]? = some k := ⟨_, List.getElem?_eq_getElem (by omega)⟩
    obtain ⟨aop, anm, anu, aks, hke⟩ : ∃ op nm nu ks', a = .mk op nm nu ks' := by cases a; exact ⟨_, _, _, _, rfl⟩
    subst hke
    have hxa := Tr.ds_get hka
    rw [Tr.d_mk] at hxa
    refine gK (tN (gS (G_block (gS (gR ?_)))))
    refine vq rfl (qF u27 rfl sz22) ?_
    refine vq rfl (qL u22) ?_
    refine vq rfl qM ?_
    refine vq rfl (qI u22 sz27) ?_
    refine vq rfl (qF u27 rfl sz3) ?_
    refine vq rfl (qL u3) ?_
    refine vq rfl q_neq ?_
    refine gN (tN ?_)
    refine gC (fun hb2 => ?_) (fun hb2 => ?_)
    ·
      refine gS (gR ?_)
      refine vq rfl qA ?_
      refine gN (tN (gT (bR (tR ?_))))
      refine hr0 _ ?_
      refine bR (tR ?_)
      refine fin1 (by simp) ?_
      exact ⟨by rw [hlv]; unfold loopV; rw [all_no (p := fun k => k.op == 4) hka (by omega) (by show (aop == 4) = false; simpa [bne] using hb2)]; rfl, rfl⟩
    refine gK (bN (tN (gR ?_)))
    refine vq rfl qM ?_
    refine vq rfl q_add ?_
    refine vq rfl qA ?_
    refine gN ?_
    refine hn0 _ (z + 1) ⟨by show ((z + 1 : Nat) : Int) ≤ num; omega, upto_step (p := fun _ (k : Tr) => k.op == 4) hz2 hka (by show (aop == 4) = true; simpa [bne] using hb2)⟩ (by omega) le_of
  have hge : z = num.toNat := by
    have : ¬ (z : Int) < num := by simpa using hb1
    omega
  obtain ⟨a, hka⟩ : ∃ k, ks[num.toNat]? = some k := ⟨_, List.getElem?_eq_getElem (by omega)⟩
  obtain ⟨aop, anm, anu, aks, hke⟩ : ∃ op nm nu ks', a = .mk op nm nu ks' := by cases a; exact ⟨_, _, _, _, rfl⟩
  subst hke
  have hxa := Tr.ds_get hka
  rw [Tr.d_mk] at hxa
  obtain ⟨b, hkb⟩ : ∃ k, ks[num.toNat + 1]? = some k := ⟨_, List.getElem?_eq_getElem (by omega)⟩
  obtain ⟨bop, bnm, bnu, bks, hke⟩ : ∃ op nm nu ks', b = .mk op nm nu ks' := by cases b; exact ⟨_, _, _, _, rfl⟩
  subst hke
  have hxb := Tr.ds_get hkb
  rw [Tr.d_mk] at hxb
  have hn0 : num.toNat = num := by omega
  have hxb' : (ks.map Tr.d)[(num + 1).toNat]? = some (.agg [.int .i64 bop, .str bnm, .int .i64 bnu, .sl (bks.map Tr.d)]) := by
    rw [show (num + 1).toNat = num.toNat + 1 from by omega]
    exact hxb
  refine G_exit (thn_exit ?_)
  refine he0 _ _ ?_
  refine blk_exit (tN (gS (gS (gR ?_))))
  refine vq rfl (qF u27 rfl sz22) ?_
  refine vq rfl (qL u22) ?_
  refine vq rfl (qF u27 rfl sz3) ?_
  refine vq rfl (qL u3) ?_
  refine vq rfl (qI u22 sz27) ?_
  refine vq rfl (qF u27 rfl sz3) ?_
  refine vq rfl (qL u3) ?_
  refine gL (xs := [.tmp 46]) rfl (c81 _) ?_
  refine vq rfl q_not ?_
  refine vq rfl qM ?_
  refine sg rfl (fun hg => qF u27 rfl sz22) ?_
  refine sg rfl (fun hg => sP 50 rfl hg (qL u22)) ?_
  refine sg rfl (fun hg => qF u27 rfl sz3) ?_
  refine sg rfl (fun hg => sP 52 rfl hg (qL u3)) ?_
  refine sg rfl (fun hg => sP 53 rfl hg q_add) ?_
  refine sg rfl (fun hg => sP 54 rfl hg (sP 51 rfl hg (qI u22 sz27))) ?_
  refine sg rfl (fun hg => sP 55 rfl hg (qF u27 rfl sz3)) ?_
  refine sg rfl (fun hg => sP 56 rfl hg (qL u3)) ?_
  refine sg rfl (fun hg => sP 57 rfl hg q_neq) ?_
  refine vq rfl q_or ?_
  refine gN (tN ?_)
  refine gC (fun hb3 => ?_) (fun hb3 => ?_)
  ·
    refine gS ?_
    refine gP [0, 1, 2, 3, 4] ?_
    refine gR ?_
    refine vq rfl qA ?_
    refine gN (tN (gT (tR ?_)))
    refine fin1 (by simp) ?_
    exact ⟨by rw [hlv]; unfold loopV; rw [opK_get hka, opK_get hkb, show (isExprB (Tr.mk aop anm anu aks).op && (Tr.mk bop bnm bnu bks).op == 66) = false from by (show (isExprB aop && bop == 66) = false; revert hb3; cases isExprB aop <;> cases h : (bop == 66) <;> simp [bne, h]), Bool.and_false, Bool.false_and], rfl⟩
  refine gK (tN (gS (gS ?_)))
  refine gP [0, 1, 2, 3, 4] ?_
  refine gR ?_
  refine vq rfl (qF u27 rfl sz3) ?_
  refine vq rfl (qL u3) ?_
  refine vq rfl q_add ?_
  refine vq rfl qA ?_
  rw [show num + 2 = ((num.toNat + 2 : Nat) : Int) from by omega]
  refine gN (tN (G_block ?_))
  refine g_loop (α := Nat) (fun y => ⟨[(4, .d (.int .i64 (y : Nat))), (1, .d (.ptr (.agg [.int .i64 op, .str name, .int .i64 num, .sl (ks.map Tr.d)])))], []⟩) (fun y => ks.length - y) (fun y => num.toNat + 2 ≤ y ∧ y ≤ ks.length ∧ ∀ i, num.toNat + 2 ≤ i → i < y → ∀ k, ks[i]? = some k → (op == 55 && k.op == 67) = true) (num.toNat + 2) ⟨Nat.le_refl _, by omega, fun i h1 h2 => by omega⟩ (fun y hy Q' hn1 he1 hr1 => ?_) (le_of)
  obtain ⟨hy1, hy2, hy3⟩ := hy
  refine gS (gS (gR ?_))
  refine vq rfl qM ?_
  refine vq rfl (qF u27 rfl sz22) ?_
  refine vq rfl (qL u22) ?_
  refine vq rfl (q_len u22) ?_
  refine vq rfl q_lss ?_
  refine gN (tN ?_)
  refine gC (fun hb4 => ?_) (fun hb4 => ?_)
  ·
    have hlt : y < ks.length := by simpa using hb4
    obtain ⟨c, hkc⟩ : ∃ k, ks[y]? = some k := ⟨_, List.getElem?_eq_getElem (by omega)⟩
    obtain ⟨cop, cnm, cnu, cks, hke⟩ : ∃ op nm nu ks', c = .mk op nm nu ks' := by cases c; exact ⟨_, _, _, _, rfl⟩
    subst hke
    have hxc := Tr.ds_get hkc
    rw [Tr.d_mk] at hxc
    refine gK (tN (gS (G_block (gS (gR ?_)))))
    refine vq rfl (qF u27 rfl sz3) ?_
    refine vq rfl (qL u3) ?_
    refine vq rfl q_neq ?_
    refine vq rfl qM ?_
    refine sg rfl (fun hg => qF u27 rfl sz22) ?_
    refine sg rfl (fun hg => sP 74 rfl hg (qL u22)) ?_
    refine sg rfl (fun hg => qM) ?_
    refine sg rfl (fun hg => sP 76 rfl hg (sP 75 rfl hg (qI u22 sz27))) ?_
    refine sg rfl (fun hg => sP 77 rfl hg (qF u27 rfl sz3)) ?_
    refine sg rfl (fun hg => sP 78 rfl hg (qL u3)) ?_
    refine sg rfl (fun hg => sP 79 rfl hg q_neq) ?_
    refine vq rfl q_or ?_
    refine gN (tN ?_)
    refine gC (fun hb5 => ?_) (fun hb5 => ?_)
    ·
      refine gS ?_
      refine gP [0, 1, 2, 3, 4] ?_
      refine gR ?_
      refine vq rfl qA ?_
      refine gN (tN (gT (bR (tR ?_))))
      refine hr1 _ ?_
      refine bR (tR ?_)
      refine fin1 (by simp) ?_
      exact ⟨by rw [hlv]; unfold loopV; rw [drop_no (p := fun k => op == 55 && k.op == 67) hkc hy1 (by show (op == 55 && cop == 67) = false; revert hb5; cases h1 : (op == 55) <;> cases h2 : (cop == 67) <;> simp [bne, h1, h2]), Bool.and_false], rfl⟩
    refine gK (bN (tN ?_))
    refine gP [0, 1, 2, 3, 4] ?_
    refine gR ?_
    refine vq rfl qM ?_
    refine vq rfl q_add ?_
    refine vq rfl qA ?_
    refine gN ?_
    refine hn1 _ (y + 1) ⟨by omega, by omega, fun i g1 g2 k g3 => by
          by_cases hiy : i = y
          · subst hiy; rw [hkc] at g3; injection g3 with g3; subst g3; show (op == 55 && cop == 67) = true; revert hb5; cases h1 : (op == 55) <;> cases h2 : (cop == 67) <;> simp [bne, h1, h2]
          · exact hy3 i g1 (by omega) k g3⟩ (by omega) le_of
  have hge : y = ks.length := by
    have : ¬ (y : Int) < ((ks.map Tr.d).length : Nat) := by simpa using hb4
    rw [List.length_map] at this
    omega
  refine G_exit (thn_exit ?_)
  refine he1 _ _ ?_
  refine blk_exit (tN (gS (gR ?_)))
  refine vq rfl qA ?_
  refine gN (tN (gT ?_))
  refine fin1 (by simp) ?_
  exact ⟨by rw [hlv]; unfold loopV; rw [all_yes (p := fun k => k.op == 4) (fun i hi => hz2 i (by omega)), opK_get hka, opK_get hkb, show (isExprB (Tr.mk aop anm anu aks).op && (Tr.mk bop bnm bnu bks).op == 66) = true from by (show (isExprB aop && bop == 66) = true; revert hb3; cases isExprB aop <;> cases h : (bop == 66) <;> simp [bne, h]), drop_yes (p := fun k => op == 55 && k.op == 67) (fun i h1 k hk => hy3 i h1 (by have := (List.getElem?_eq_some_iff.1 hk).1; omega) k hk)]; rfl, rfl⟩
end Go.Proofs.YtklkbfpjimeaoaaGreat
namespace Go.Proofs.YtklkbfpjimeaoaaGreat
open Go Go.Proofs.YtklkbfpjimeaoaaGreat.E
theorem shGet10 : shGet 10 = some ⟨none, false, 229, [.ptr (.sl ([⟨#[101]⟩, ⟨#[101, 101]⟩].map .str))], (formsB [⟨#[101]⟩, ⟨#[101, 101]⟩])⟩ := rfl
theorem shGet12 : shGet 12 = some ⟨none, false, 229, [.ptr (.sl ([⟨#[101, 101]⟩, ⟨#[101, 101, 101]⟩].map .str))], (formsB [⟨#[101, 101]⟩, ⟨#[101, 101, 101]⟩])⟩ := rfl
theorem shGet16 : shGet 16 = some ⟨none, false, 229, [.ptr (.sl ([⟨#[]⟩].map .str))], (formsB [⟨#[]⟩])⟩ := rfl
theorem shGet17 : shGet 17 = some ⟨none, false, 229, [.ptr (.sl ([⟨#[]⟩].map .str))], (formsB [⟨#[]⟩])⟩ := rfl
theorem shGet18 : shGet 18 = some ⟨(some (⟨#[43]⟩, [⟨#[42]⟩, ⟨#[109, 105, 110]⟩, ⟨#[109, 97, 120]⟩])), false, 229, [.ptr (.sl ([⟨#[101]⟩].map .str))], (formsB [⟨#[101]⟩])⟩ := rfl
theorem shGet31 : shGet 31 = some ⟨none, false, 229, [.ptr (.sl ([⟨#[101]⟩].map .str))], (formsB [⟨#[101]⟩])⟩ := rfl
theorem shGet67 : shGet 67 = some ⟨(some (⟨#[43]⟩, [⟨#[42]⟩, ⟨#[109, 105, 110]⟩, ⟨#[109, 97, 120]⟩, ⟨#[38, 38]⟩, ⟨#[124, 124]⟩])), false, 229, [.ptr (.sl ([⟨#[110]⟩].map .str))], (formsB [⟨#[110]⟩])⟩ := rfl
theorem shGet51 : shGet 51 = some ⟨(some (⟨#[61]⟩, [⟨#[43, 61]⟩, ⟨#[45, 61]⟩, ⟨#[42, 61]⟩])), false, 155, [], rule155⟩ := rfl
theorem shGet52 : shGet 52 = some ⟨none, false, 229, [.ptr (.sl ([⟨#[101, 98]⟩, ⟨#[101, 98, 98]⟩].map .str))], (formsB [⟨#[101, 98]⟩, ⟨#[101, 98, 98]⟩])⟩ := rfl
theorem shGet53 : shGet 53 = some ⟨none, false, 229, [.ptr (.sl ([⟨#[101, 98]⟩].map .str))], (formsB [⟨#[101, 98]⟩])⟩ := rfl
theorem shGet60 : shGet 60 = some ⟨none, false, 229, [.ptr (.sl ([⟨#[101, 98]⟩].map .str))], (formsB [⟨#[101, 98]⟩])⟩ := rfl
theorem shGet54 : shGet 54 = some ⟨none, true, 157, [], rule157⟩ := rfl
theorem shGet56 : shGet 56 = some ⟨none, true, 157, [], rule157⟩ := rfl
theorem shGet55 : shGet 55 = some ⟨none, true, 157, [], rule157⟩ := rfl
theorem shGet57 : shGet 57 = some ⟨none, false, 229, [.ptr (.sl ([⟨#[98]⟩].map .str))], (formsB [⟨#[98]⟩])⟩ := rfl
theorem shGet59 : shGet 59 = some ⟨none, false, 229, [.ptr (.sl ([⟨#[98]⟩].map .str))], (formsB [⟨#[98]⟩])⟩ := rfl
theorem shGet58 : shGet 58 = some ⟨none, false, 158, [], rule158⟩ := rfl
theorem shGet61 : shGet 61 = some ⟨none, false, 229, [.ptr (.sl ([⟨#[]⟩, ⟨#[101]⟩].map .str))], (formsB [⟨#[]⟩, ⟨#[101]⟩])⟩ := rfl
theorem shGet62 : shGet 62 = some ⟨none, false, 229, [.ptr (.sl ([⟨#[101]⟩].map .str))], (formsB [⟨#[101]⟩])⟩ := rfl
theorem shGet65 : shGet 65 = some ⟨none, false, 229, [.ptr (.sl ([⟨#[101]⟩].map .str))], (formsB [⟨#[101]⟩])⟩ := rfl
theorem shGet63 : shGet 63 = some ⟨none, false, 161, [], rule161⟩ := rfl
theorem shGet64 : shGet 64 = some ⟨none, false, 162, [], (fun t => everyB (fun op => isExprB op || op == 3) t.kids)⟩ := rfl
theorem shGet66 : shGet 66 = some ⟨none, false, 164, [], (fun t => everyB isStmtB t.kids)⟩ := rfl
def nmOk : Option (ByteArray × List ByteArray) → ByteArray → Bool
  | none, nm => decide (nm = ⟨#[]⟩)
  | some x, nm => hasB (x.1 :: x.2) nm
theorem right_tab {op num : Int} {nm : ByteArray} {ks : List Tr} {s : Sh} (h2 : (otherB (.mk op nm num ks)).2 = false) (hs : shGet op = some s) (h0 : (op == 0) = false) : rightB (.mk op nm num ks) = (((s.num || num == 0) && nmOk s.names nm) && s.ok (.mk op nm num ks)) := by
  obtain ⟨nms, nb, g, caps, ok⟩ := s
  rw [rightB, if_neg (by rw [h2]; decide), hs]
  dsimp only
  rw [h0, Bool.false_or]
  rcases nms with _ | x
  · dsimp only [nmOk]
    by_cases hn : nm = ⟨#[]⟩
    · cases nb <;> cases hz : (num == 0) <;> simp [bne, hn, hz]
    · cases nb <;> cases hz : (num == 0) <;> simp [bne, hn, hz]
  · dsimp only [nmOk]
    by_cases hh : hasB (x.1 :: x.2) nm = true
    · cases nb <;> cases hz : (num == 0) <;> simp [bne, hz, hh]
    · rw [Bool.not_eq_true] at hh
      cases nb <;> cases hz : (num == 0) <;> simp [bne, hz, hh]
theorem kids0 (ks : List Tr) : kidsB ks ⟨#[]⟩ = ((ks.length : Int) == 0) := by
  cases ks with
  | nil => rfl
  | cons k r =>
    unfold kidsB
    rw [decide_eq_false (by show ¬ (r.length + 1 = 0); omega), Bool.false_and]
    symm; rw [beq_eq_false_iff_ne, List.length_cons]; omega
theorem meth_facts (nm : ByteArray) : (-1 ≤ (methR nm).1 ∧ (methR nm).1 ≤ 2) ∧ opHas nm = decide ((methR nm).1 ≥ 0) ∧ (opHas nm = true → (opGet nm).2.2 = (methR nm).1) := by
  have hall : (opTab.all fun x => decide (0 ≤ x.2.2.2) && decide (x.2.2.2 ≤ 2)) = true := by decide
  unfold methR opGet opHas
  cases h : opTab.find? (fun x => decide (x.1 = nm)) with
  | none =>
    refine ⟨⟨by decide, by decide⟩, ?_, fun h2 => ?_⟩
    · rw [show (opTab.any fun x => decide (x.1 = nm)) = false from by
        rw [List.any_eq_false]; intro x hx; have := List.find?_eq_none.1 h x hx; simpa using this]
      rfl
    · exfalso
      rw [List.any_eq_true] at h2
      obtain ⟨x, hx, h3⟩ := h2
      exact List.find?_eq_none.1 h x hx h3
  | some x =>
    have hx := List.all_eq_true.1 hall x (List.mem_of_find?_eq_some h)
    rw [Bool.and_eq_true, decide_eq_true_eq, decide_eq_true_eq] at hx
    refine ⟨⟨by show -1 ≤ x.2.2.2; omega, hx.2⟩, ?_, fun _ => rfl⟩
    rw [show (opTab.any fun x => decide (x.1 = nm)) = true from List.any_eq_true.2 ⟨x, List.mem_of_find?_eq_some h, by simpa using List.find?_some h⟩]
    symm; exact decide_eq_true hx.1
theorem every_yes {p : Int → Bool} {ks : List Tr} (h : ∀ i, i < ks.length → ∀ k, ks[i]? = some k → p k.op = true) : everyB p ks = true := by
  unfold everyB
  rw [Bool.not_eq_true', List.any_eq_false]
  intro k hk
  obtain ⟨i, hi⟩ := List.getElem?_of_mem hk
  rw [h i (List.getElem?_eq_some_iff.1 hi).1 k hi]; decide
theorem every_no {p : Int → Bool} {ks : List Tr} {k : Tr} (hk : k ∈ ks) (h : p k.op = false) : everyB p ks = false := by
  unfold everyB
  rw [show (ks.any fun k => !p k.op) = true from List.any_eq_true.2 ⟨k, hk, by rw [h]; rfl⟩]; rfl
theorem right1 (num : Int) (name : ByteArray) (ks : List Tr) : rightB (.mk 1 name num ks) = (decide (name = ⟨#[]⟩) && (ks.length : Int) == 0) := by
  rw [right_tab (s := ⟨_, _, _, _, _⟩) rfl shGet1 rfl]
  simp only [nmOk, formsB, List.any_cons, List.any_nil, Bool.or_false, Bool.true_or, Bool.true_and, Tr.kids_mk, kids0]
  try first | rfl | ac_rfl
theorem right2 (num : Int) (name : ByteArray) (ks : List Tr) : rightB (.mk 2 name num ks) = ((decide (name = ⟨#[]⟩) && (num == 0 || num == 1)) && (ks.length : Int) == 0) := by
  rw [right_tab (s := ⟨_, _, _, _, _⟩) rfl shGet2 rfl]
  simp only [nmOk, Bool.true_or, Bool.true_and, Tr.nu_mk, Tr.kids_mk, rule154]
  try first | rfl | ac_rfl
theorem right5 (num : Int) (name : ByteArray) (ks : List Tr) : rightB (.mk 5 name num ks) = (((decide (name = ⟨#[45]⟩) || decide (name = ⟨#[33]⟩)) && num == 0) && kidsB ks ⟨#[101]⟩) := by
  rw [right_tab (s := ⟨_, _, _, _, _⟩) rfl shGet5 rfl]
  simp only [nmOk, formsB, List.any_cons, List.any_nil, Bool.or_false, Bool.false_or, Tr.kids_mk, hasB]
  try first | rfl | ac_rfl
theorem right6 (num : Int) (name : ByteArray) (ks : List Tr) : rightB (.mk 6 name num ks) = ((hasB [⟨#[43]⟩, ⟨#[45]⟩, ⟨#[42]⟩, ⟨#[47]⟩, ⟨#[37]⟩, ⟨#[61, 61]⟩, ⟨#[33, 61]⟩, ⟨#[60]⟩, ⟨#[60, 61]⟩, ⟨#[62]⟩, ⟨#[62, 61]⟩, ⟨#[38, 38]⟩, ⟨#[124, 124]⟩] name && num == 0) && kidsB ks ⟨#[101, 101]⟩) := by
  rw [right_tab (s := ⟨_, _, _, _, _⟩) rfl shGet6 rfl]
  simp only [nmOk, formsB, List.any_cons, List.any_nil, Bool.or_false, Bool.false_or, Tr.kids_mk, hasB]
  try first | rfl | ac_rfl
theorem right7 (num : Int) (name : ByteArray) (ks : List Tr) : rightB (.mk 7 name num ks) = (bareB (.mk 7 name num ks) && kidsB ks ⟨#[101, 101]⟩) := by
  rw [right_tab (s := ⟨_, _, _, _, _⟩) rfl shGet7 rfl]
  simp only [nmOk, formsB, List.any_cons, List.any_nil, Bool.or_false, Bool.false_or, bareB, Tr.nm_mk, Tr.nu_mk, Tr.kids_mk]
  try first | rfl | ac_rfl
theorem right8 (num : Int) (name : ByteArray) (ks : List Tr) : rightB (.mk 8 name num ks) = (bareB (.mk 8 name num ks) && kidsB ks ⟨#[101, 101]⟩) := by
  rw [right_tab (s := ⟨_, _, _, _, _⟩) rfl shGet8 rfl]
  simp only [nmOk, formsB, List.any_cons, List.any_nil, Bool.or_false, Bool.false_or, bareB, Tr.nm_mk, Tr.nu_mk, Tr.kids_mk]
  try first | rfl | ac_rfl
theorem right9 (num : Int) (name : ByteArray) (ks : List Tr) : rightB (.mk 9 name num ks) = (bareB (.mk 9 name num ks) && kidsB ks ⟨#[101, 101]⟩) := by
  rw [right_tab (s := ⟨_, _, _, _, _⟩) rfl shGet9 rfl]
  simp only [nmOk, formsB, List.any_cons, List.any_nil, Bool.or_false, Bool.false_or, bareB, Tr.nm_mk, Tr.nu_mk, Tr.kids_mk]
  try first | rfl | ac_rfl
theorem right10 (num : Int) (name : ByteArray) (ks : List Tr) : rightB (.mk 10 name num ks) = (bareB (.mk 10 name num ks) && (kidsB ks ⟨#[101]⟩ || kidsB ks ⟨#[101, 101]⟩)) := by
  rw [right_tab (s := ⟨_, _, _, _, _⟩) rfl shGet10 rfl]
  simp only [nmOk, formsB, List.any_cons, List.any_nil, Bool.or_false, Bool.false_or, bareB, Tr.nm_mk, Tr.nu_mk, Tr.kids_mk]
  try first | rfl | ac_rfl
theorem right12 (num : Int) (name : ByteArray) (ks : List Tr) : rightB (.mk 12 name num ks) = (bareB (.mk 12 name num ks) && (kidsB ks ⟨#[101, 101]⟩ || kidsB ks ⟨#[101, 101, 101]⟩)) := by
  rw [right_tab (s := ⟨_, _, _, _, _⟩) rfl shGet12 rfl]
  simp only [nmOk, formsB, List.any_cons, List.any_nil, Bool.or_false, Bool.false_or, bareB, Tr.nm_mk, Tr.nu_mk, Tr.kids_mk]
  try first | rfl | ac_rfl
theorem right14 (num : Int) (name : ByteArray) (ks : List Tr) : rightB (.mk 14 name num ks) = ((hasB [⟨#[115, 105, 122, 101]⟩, ⟨#[108, 111, 119]⟩, ⟨#[104, 105, 103, 104]⟩, ⟨#[115, 116, 114, 105, 100, 101]⟩, ⟨#[100, 111, 109, 97, 105, 110]⟩] name && num == 0) && kidsB ks ⟨#[101]⟩) := by
  rw [right_tab (s := ⟨_, _, _, _, _⟩) rfl shGet14 rfl]
  simp only [nmOk, formsB, List.any_cons, List.any_nil, Bool.or_false, Bool.false_or, Tr.kids_mk, hasB]
  try first | rfl | ac_rfl
theorem right16 (num : Int) (name : ByteArray) (ks : List Tr) : rightB (.mk 16 name num ks) = (bareB (.mk 16 name num ks) && (ks.length : Int) == 0) := by
  rw [right_tab (s := ⟨_, _, _, _, _⟩) rfl shGet16 rfl]
  simp only [nmOk, formsB, List.any_cons, List.any_nil, Bool.or_false, Bool.false_or, bareB, Tr.nm_mk, Tr.nu_mk, Tr.kids_mk, kids0]
  try first | rfl | ac_rfl
theorem right17 (num : Int) (name : ByteArray) (ks : List Tr) : rightB (.mk 17 name num ks) = (bareB (.mk 17 name num ks) && (ks.length : Int) == 0) := by
  rw [right_tab (s := ⟨_, _, _, _, _⟩) rfl shGet17 rfl]
  simp only [nmOk, formsB, List.any_cons, List.any_nil, Bool.or_false, Bool.false_or, bareB, Tr.nm_mk, Tr.nu_mk, Tr.kids_mk, kids0]
  try first | rfl | ac_rfl
theorem right18 (num : Int) (name : ByteArray) (ks : List Tr) : rightB (.mk 18 name num ks) = ((hasB [⟨#[43]⟩, ⟨#[42]⟩, ⟨#[109, 105, 110]⟩, ⟨#[109, 97, 120]⟩] name && num == 0) && kidsB ks ⟨#[101]⟩) := by
  rw [right_tab (s := ⟨_, _, _, _, _⟩) rfl shGet18 rfl]
  simp only [nmOk, formsB, List.any_cons, List.any_nil, Bool.or_false, Bool.false_or, Tr.kids_mk, hasB]
  try first | rfl | ac_rfl
theorem right19 (num : Int) (name : ByteArray) (ks : List Tr) : rightB (.mk 19 name num ks) = (bareB (.mk 19 name num ks) && kidsB ks ⟨#[101, 101, 101]⟩) := by
  rw [right_tab (s := ⟨_, _, _, _, _⟩) rfl shGet19 rfl]
  simp only [nmOk, formsB, List.any_cons, List.any_nil, Bool.or_false, Bool.false_or, bareB, Tr.nm_mk, Tr.nu_mk, Tr.kids_mk]
  try first | rfl | ac_rfl
theorem right31 (num : Int) (name : ByteArray) (ks : List Tr) : rightB (.mk 31 name num ks) = (bareB (.mk 31 name num ks) && kidsB ks ⟨#[101]⟩) := by
  rw [right_tab (s := ⟨_, _, _, _, _⟩) rfl shGet31 rfl]
  simp only [nmOk, formsB, List.any_cons, List.any_nil, Bool.or_false, Bool.false_or, bareB, Tr.nm_mk, Tr.nu_mk, Tr.kids_mk]
  try first | rfl | ac_rfl
theorem right51 (num : Int) (name : ByteArray) (ks : List Tr) : rightB (.mk 51 name num ks) = (((hasB [⟨#[61]⟩, ⟨#[43, 61]⟩, ⟨#[45, 61]⟩, ⟨#[42, 61]⟩] name && num == 0) && kidsB ks ⟨#[101, 101]⟩) && (opK 0 ks == 4 || opK 0 ks == 12)) := by
  rw [right_tab (s := ⟨_, _, _, _, _⟩) rfl shGet51 rfl]
  simp only [nmOk, List.any_cons, List.any_nil, Bool.or_false, Bool.false_or, Tr.kids_mk, rule155, hasB]
  try first | rfl | ac_rfl
theorem right52 (num : Int) (name : ByteArray) (ks : List Tr) : rightB (.mk 52 name num ks) = (bareB (.mk 52 name num ks) && (kidsB ks ⟨#[101, 98]⟩ || kidsB ks ⟨#[101, 98, 98]⟩)) := by
  rw [right_tab (s := ⟨_, _, _, _, _⟩) rfl shGet52 rfl]
  simp only [nmOk, formsB, List.any_cons, List.any_nil, Bool.or_false, Bool.false_or, bareB, Tr.nm_mk, Tr.nu_mk, Tr.kids_mk]
  try first | rfl | ac_rfl
theorem right53 (num : Int) (name : ByteArray) (ks : List Tr) : rightB (.mk 53 name num ks) = (bareB (.mk 53 name num ks) && kidsB ks ⟨#[101, 98]⟩) := by
  rw [right_tab (s := ⟨_, _, _, _, _⟩) rfl shGet53 rfl]
  simp only [nmOk, formsB, List.any_cons, List.any_nil, Bool.or_false, Bool.false_or, bareB, Tr.nm_mk, Tr.nu_mk, Tr.kids_mk]
  try first | rfl | ac_rfl
theorem right54 (num : Int) (name : ByteArray) (ks : List Tr) : rightB (.mk 54 name num ks) = (loopRB (.mk 54 name num ks)) := by
  rw [right_tab (s := ⟨_, _, _, _, _⟩) rfl shGet54 rfl]
  simp only [nmOk, Bool.true_or, Bool.true_and, loopRB]
  try first | rfl | ac_rfl
theorem right55 (num : Int) (name : ByteArray) (ks : List Tr) : rightB (.mk 55 name num ks) = (loopRB (.mk 55 name num ks)) := by
  rw [right_tab (s := ⟨_, _, _, _, _⟩) rfl shGet55 rfl]
  simp only [nmOk, Bool.true_or, Bool.true_and, loopRB]
  try first | rfl | ac_rfl
theorem right56 (num : Int) (name : ByteArray) (ks : List Tr) : rightB (.mk 56 name num ks) = (loopRB (.mk 56 name num ks)) := by
  rw [right_tab (s := ⟨_, _, _, _, _⟩) rfl shGet56 rfl]
  simp only [nmOk, Bool.true_or, Bool.true_and, loopRB]
  try first | rfl | ac_rfl
theorem right57 (num : Int) (name : ByteArray) (ks : List Tr) : rightB (.mk 57 name num ks) = (bareB (.mk 57 name num ks) && kidsB ks ⟨#[98]⟩) := by
  rw [right_tab (s := ⟨_, _, _, _, _⟩) rfl shGet57 rfl]
  simp only [nmOk, formsB, List.any_cons, List.any_nil, Bool.or_false, Bool.false_or, bareB, Tr.nm_mk, Tr.nu_mk, Tr.kids_mk]
  try first | rfl | ac_rfl
theorem right58 (num : Int) (name : ByteArray) (ks : List Tr) : rightB (.mk 58 name num ks) = (everyB (fun op => op == 66) ks && (bareB (.mk 58 name num ks) && decide ((ks.length : Int) > 0))) := by
  rw [right_tab (s := ⟨_, _, _, _, _⟩) rfl shGet58 rfl]
  simp only [nmOk, Bool.false_or, bareB, Tr.nm_mk, Tr.nu_mk, Tr.kids_mk, rule158]
  try first | rfl | ac_rfl
theorem right59 (num : Int) (name : ByteArray) (ks : List Tr) : rightB (.mk 59 name num ks) = (bareB (.mk 59 name num ks) && kidsB ks ⟨#[98]⟩) := by
  rw [right_tab (s := ⟨_, _, _, _, _⟩) rfl shGet59 rfl]
  simp only [nmOk, formsB, List.any_cons, List.any_nil, Bool.or_false, Bool.false_or, bareB, Tr.nm_mk, Tr.nu_mk, Tr.kids_mk]
  try first | rfl | ac_rfl
theorem right60 (num : Int) (name : ByteArray) (ks : List Tr) : rightB (.mk 60 name num ks) = (bareB (.mk 60 name num ks) && kidsB ks ⟨#[101, 98]⟩) := by
  rw [right_tab (s := ⟨_, _, _, _, _⟩) rfl shGet60 rfl]
  simp only [nmOk, formsB, List.any_cons, List.any_nil, Bool.or_false, Bool.false_or, bareB, Tr.nm_mk, Tr.nu_mk, Tr.kids_mk]
  try first | rfl | ac_rfl
theorem right61 (num : Int) (name : ByteArray) (ks : List Tr) : rightB (.mk 61 name num ks) = (bareB (.mk 61 name num ks) && ((ks.length : Int) == 0 || kidsB ks ⟨#[101]⟩)) := by
  rw [right_tab (s := ⟨_, _, _, _, _⟩) rfl shGet61 rfl]
  simp only [nmOk, formsB, List.any_cons, List.any_nil, Bool.or_false, Bool.false_or, bareB, Tr.nm_mk, Tr.nu_mk, Tr.kids_mk, kids0]
  try first | rfl | ac_rfl
theorem right62 (num : Int) (name : ByteArray) (ks : List Tr) : rightB (.mk 62 name num ks) = (bareB (.mk 62 name num ks) && kidsB ks ⟨#[101]⟩) := by
  rw [right_tab (s := ⟨_, _, _, _, _⟩) rfl shGet62 rfl]
  simp only [nmOk, formsB, List.any_cons, List.any_nil, Bool.or_false, Bool.false_or, bareB, Tr.nm_mk, Tr.nu_mk, Tr.kids_mk]
  try first | rfl | ac_rfl
theorem right63 (num : Int) (name : ByteArray) (ks : List Tr) : rightB (.mk 63 name num ks) = ((bareB (.mk 63 name num ks) && (ks.length : Int) == 1) && (opK 0 ks == 13 || opK 0 ks == 15)) := by
  rw [right_tab (s := ⟨_, _, _, _, _⟩) rfl shGet63 rfl]
  simp only [nmOk, Bool.false_or, bareB, Tr.nm_mk, Tr.nu_mk, Tr.kids_mk, rule161]
  try first | rfl | ac_rfl
theorem right64 (num : Int) (name : ByteArray) (ks : List Tr) : rightB (.mk 64 name num ks) = (everyB (fun op => isExprB op || op == 3) ks && bareB (.mk 64 name num ks)) := by
  rw [right_tab (s := ⟨_, _, _, _, _⟩) rfl shGet64 rfl]
  simp only [nmOk, Bool.false_or, bareB, Tr.nm_mk, Tr.nu_mk, Tr.kids_mk]
  try first | rfl | ac_rfl
theorem right65 (num : Int) (name : ByteArray) (ks : List Tr) : rightB (.mk 65 name num ks) = (bareB (.mk 65 name num ks) && kidsB ks ⟨#[101]⟩) := by
  rw [right_tab (s := ⟨_, _, _, _, _⟩) rfl shGet65 rfl]
  simp only [nmOk, formsB, List.any_cons, List.any_nil, Bool.or_false, Bool.false_or, bareB, Tr.nm_mk, Tr.nu_mk, Tr.kids_mk]
  try first | rfl | ac_rfl
theorem right66 (num : Int) (name : ByteArray) (ks : List Tr) : rightB (.mk 66 name num ks) = (everyB isStmtB ks && bareB (.mk 66 name num ks)) := by
  rw [right_tab (s := ⟨_, _, _, _, _⟩) rfl shGet66 rfl]
  simp only [nmOk, Bool.false_or, bareB, Tr.nm_mk, Tr.nu_mk, Tr.kids_mk]
  try first | rfl | ac_rfl
theorem right67 (num : Int) (name : ByteArray) (ks : List Tr) : rightB (.mk 67 name num ks) = ((hasB [⟨#[43]⟩, ⟨#[42]⟩, ⟨#[109, 105, 110]⟩, ⟨#[109, 97, 120]⟩, ⟨#[38, 38]⟩, ⟨#[124, 124]⟩] name && num == 0) && kidsB ks ⟨#[110]⟩) := by
  rw [right_tab (s := ⟨_, _, _, _, _⟩) rfl shGet67 rfl]
  simp only [nmOk, formsB, List.any_cons, List.any_nil, Bool.or_false, Bool.false_or, Tr.kids_mk, hasB]
  try first | rfl | ac_rfl
theorem right3 (num : Int) (name : ByteArray) (ks : List Tr) : rightB (.mk 3 name num ks) = textR (.mk 3 name num ks) := rfl
theorem right4 (num : Int) (name : ByteArray) (ks : List Tr) : rightB (.mk 4 name num ks) = ((nameB name && num == 0) && (ks.length : Int) == 0) := rfl
theorem right30 (num : Int) (name : ByteArray) (ks : List Tr) : rightB (.mk 30 name num ks) = typedB (.mk 30 name num ks) := rfl
theorem right50 (num : Int) (name : ByteArray) (ks : List Tr) : rightB (.mk 50 name num ks) = varB (.mk 50 name num ks) := rfl
theorem right13 (num : Int) (name : ByteArray) (ks : List Tr) : rightB (.mk 13 name num ks) = (everyB (fun op => isExprB op || op == 30) ks && (nameB name && num == 0)) := by
  rw [show rightB (.mk 13 name num ks) = ((nameB name && num == 0) && everyB (fun op => isExprB op || op == 30) ks) from rfl, Bool.and_comm]
theorem right15 (num : Int) (name : ByteArray) (ks : List Tr) : rightB (.mk 15 name num ks) = ((decide ((methR name).1 ≥ 0) && num == 0) && kidsB ks (eee.extract 0 ((methR name).1 + 1).toNat)) := by
  rw [show rightB (.mk 15 name num ks) = ((opHas name && num == 0) && kidsB ks (eee.extract 0 ((opGet name).2.2 + 1).toNat)) from rfl]
  obtain ⟨_, h1, h2⟩ := meth_facts name
  cases ho : opHas name with
  | true => rw [h2 ho, ← h1, ho]
  | false => rw [← h1, ho]; rfl
theorem right11 (num : Int) (name : ByteArray) (ks : List Tr) : rightB (.mk 11 name num ks) = (if (decide (name = ⟨#[98, 108, 111, 99, 107, 99, 121, 99, 108, 105, 99]⟩)) = true then (num == 0 && kidsB ks ⟨#[101, 101]⟩) else (hasB [⟨#[98, 108, 111, 99, 107]⟩, ⟨#[99, 121, 99, 108, 105, 99]⟩, ⟨#[104, 97, 115, 104, 101, 100]⟩] name && num == 0) && kidsB ks ⟨#[101]⟩) := by
  rw [show rightB (.mk 11 name num ks) = (if (decide (name = bcB)) = true then (num == 0 && kidsB ks ee) else (num == 0 && ((decide (name = blB) || decide (name = cyB)) || decide (name = haB))) && kidsB ks e1) from rfl]
  by_cases hb : decide (name = bcB) = true
  · rw [if_pos hb, if_pos (show decide (name = ⟨#[98, 108, 111, 99, 107, 99, 121, 99, 108, 105, 99]⟩) = true from hb)]; rfl
  · rw [if_neg hb, if_neg (show ¬ decide (name = ⟨#[98, 108, 111, 99, 107, 99, 121, 99, 108, 105, 99]⟩) = true from hb)]
    simp only [hasB, List.any_cons, List.any_nil, Bool.or_false]
    show ((num == 0 && ((decide (name = ⟨#[98, 108, 111, 99, 107]⟩) || decide (name = ⟨#[99, 121, 99, 108, 105, 99]⟩)) || decide (name = ⟨#[104, 97, 115, 104, 101, 100]⟩))) && kidsB ks ⟨#[101]⟩) = _
    ac_rfl
end Go.Proofs.YtklkbfpjimeaoaaGreat
