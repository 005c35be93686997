import Derived.Test.YtklkbfpjimeaoaaGreatM21
/- Contracts of functions. Conditions: none. -/
set_option linter.unusedSimpArgs false
set_option linter.unusedVariables false
set_option maxRecDepth 20000
namespace Go.Proofs.YtklkbfpjimeaoaaGreat
open Go Go.Proofs.YtklkbfpjimeaoaaGreat.E
variable {num : Int}
theorem tail_some {l : List Tr} (h : (andI num 2 != 0) = true) : varTail num l = match l with | [] => false | k :: r => isExprB k.op && (r.length : Int) == 0 := by
 unfold varTail; rw [if_pos h]; cases l <;> rfl
theorem tail_none {l : List Tr} (h : (andI num 2 != 0) = false) : varTail num l = ((l.length : Int) == 0) := by
 unfold varTail; rw [if_neg (by rw [h]; decide)]
variable {ks : List Tr} {n : Nat}
theorem drop_kid (h : n < ks.length) : ∃ k r, ks.drop n = k :: r ∧ ks[n]? = some k ∧ r.length + n + 1 = ks.length := by
 refine ⟨ks[n], ks.drop (n + 1), List.drop_eq_getElem_cons h, gE h, ?_⟩
 rw [List.length_drop]; omega
set_option maxHeartbeats 4000000 in
theorem c288 (t : Tr) (hok : t.Ok) : Pf Tryz.prog 288 [t.d] (.d (.bool (varB t))) := by
 obtain ⟨op, name, num, ks⟩ := t
 rw [Tr.d_mk]
 try simp only [Tr.op_mk, Tr.nm_mk, Tr.nu_mk, Tr.kids_mk]
 cases hok with | mk h1 h2 h3 h4 h5 =>
 refine pf_body (rvs := [.tmp 2]) [(0, .d (.agg [.int .i64 op, .str name, .int .i64 num, .sl (ks.map Tr.d)]))] Tryz.func288 Tryz.ntmps288 Tryz.results288 (fun S0 O0 w0 m0 hm0 => ?_)
 refine Z404 ?_;refine Z336 ?_
 refine gL (xs := [.tmp 5]) rfl (c174 name) ?_
 refine Z52 ?_;refine Z337 ?_;refine Z236 ?_
 refine sg rfl (fun hg => sP 10 rfl hg q_lss) ?_
 refine Z28 ?_;refine Z337 ?_
 refine sg rfl (fun hg => sP 14 rfl hg (qL u3)) ?_
 refine sg rfl (fun hg => sP 15 rfl hg q_gtr) ?_
 refine Z28 ?_;refine Z337 ?_
 refine sg rfl (fun hg => sP 19 rfl hg (qL u3)) ?_
 refine sg rfl (fun hg => sP 20 rfl hg (q_rem (show (4 : Int) ≠ 0 by decide) rfl)) ?_
 refine sg rfl (fun hg => sP 21 rfl hg q_eql) ?_
 refine Z333 ?_
 refine gC ?_ ?_ <;> intro hb0
 ·
  have hv0 : varB (.mk op name num ks) = false := by
   rw [varB]
   by_cases h0 : num < 0
   · rw [if_pos (by rw [decide_eq_true h0]; simp)]
   · by_cases h1 : num > 15
     · rw [if_pos (by rw [decide_eq_true h1]; simp)]
     · rw [if_pos (by rw [(and_facts h0 h1).1]; exact hb0)]
  refine Z405 ?_;refine Z388 ?_
  exact ⟨by rw [hv0], rfl⟩
 have hnn := hb0
 simp only [Bool.or_eq_false_iff, decide_eq_false_iff_not] at hnn
 obtain ⟨a3, a1, a2⟩ := and_facts (n := num) hnn.1.1.2 hnn.1.2
 have hv0 : (((!nameB name || decide (num < 0)) || decide (num > 15)) || andI num 3 == 0) = false := by rw [a3]; exact hb0
 refine Z67 ?_;refine Z92 ?_;refine Z14 ?_;refine Z319 ?_
 refine G_seq_cut (α := Nat) (fun n => ⟨[(1, .d (.ptr (.agg [.int .i64 op, .str name, .int .i64 num, .sl (ks.map Tr.d)]))), (3, .d (.int .i64 (n : Nat)))], []⟩) (fun n => varB (.mk op name num ks) = varTail num (ks.drop n) ∧ n ≤ ks.length ∧ n ≤ 1) (fun Q' hn he hr => ?_) (fun n hn => ?_)
 ·
  refine Z3 ?_;refine Z323 ?_
  refine vq rfl (q_rem (show (2 : Int) ≠ 0 by decide) rfl) ?_
  refine Z407 ?_
  refine gC ?_ ?_ <;> intro hb1
  ·
   refine Z44 ?_;refine Z371 ?_;refine Z34 ?_;refine Z0 ?_
   refine g_split 32 false (fun hsp => ?_) (fun hsp => ?_)
   ·
    have h1l : 0 < ks.length := by simp at hsp; omega
    obtain ⟨k, r, hdr, hk, hrl⟩ := drop_kid (ks := ks) (n := 0) (by omega)
    obtain ⟨kop, knm, knu, kks, hke⟩ : ∃ op nm nu ks', k = .mk op nm nu ks' := by cases k; exact ⟨_, _, _, _, rfl⟩
    subst hke
    have hxa := Tr.ds_get hk
    rw [Tr.d_mk] at hxa
    refine Z207 ?_;refine Z231 ?_;refine Z169 ?_;refine Z151 ?_;refine Z186 ?_;refine Z302 ?_;refine Z117 ?_;refine Z49 ?_
    refine sg rfl (fun hg => sP 40 rfl hg (qL u22)) ?_
    refine sg rfl (fun hg => sP 41 rfl hg (qI u22 sz27)) ?_
    refine sg rfl (fun hg => sP 42 rfl hg (qF u27 rfl sz9)) ?_
    refine sg rfl (fun hg => sP 43 rfl hg (qL u9)) ?_
    refine sg rfl (fun hg => sP 44 rfl hg q_strne) ?_
    refine sgo rfl hsp y_and ?_
    refine Z117 ?_;refine Z49 ?_
    refine sg rfl (fun hg => sP 48 rfl hg (qL u22)) ?_
    refine sg rfl (fun hg => sP 49 rfl hg (qI u22 sz27)) ?_
    refine sg rfl (fun hg => sP 50 rfl hg (qF u27 rfl sz3)) ?_
    refine sg rfl (fun hg => sP 51 rfl hg (qL u3)) ?_
    refine sg rfl (fun hg => sP 52 rfl hg q_eql) ?_
    refine Z304 ?_
    refine sgo rfl hsp y_not ?_
    refine Z333 ?_
    refine gC ?_ ?_ <;> intro hb2
    ·
     have hbad : varTy num ks = false := by
      rw [show ks = Tr.mk kop knm knu kks :: r from hdr, varTy, varType]
      rw [show (Tr.mk kop knm knu kks).op = kop from rfl, show (Tr.mk kop knm knu kks).nm = knm from rfl]
      have h0 : ¬ (ks.length : Int) < 1 := by omega
      simp only [List.length_map, decide_eq_false h0, Bool.false_or] at hb2
      replace hb2 : (!(kop == 30 && !decide (knm = voidB) || kop == 31)) = true := hb2
      show (!(!(kop == 31) && (!(kop == 30) || decide (knm = voidB))) && _) = _
      revert hb2
      cases (kop == 30) <;> cases (kop == 31) <;> cases decide (knm = voidB) <;> intro hb2 <;> first | rfl | cases hb2
     refine Z405 ?_;refine Z14 ?_;refine Z327 ?_;refine Z259 ?_;refine Z4 ?_
     exact ⟨by rw [varB, if_neg (by rw [hv0]; decide), if_pos (by rw [a1]; exact hb1), hbad], rfl⟩
    have hgood : varTy num ks = varTail num r := by
     rw [show ks = Tr.mk kop knm knu kks :: r from hdr, varTy, varType]
     rw [show (Tr.mk kop knm knu kks).op = kop from rfl, show (Tr.mk kop knm knu kks).nm = knm from rfl]
     have h0 : ¬ (ks.length : Int) < 1 := by omega
     simp only [List.length_map, decide_eq_false h0, Bool.false_or] at hb2
     replace hb2 : (!(kop == 30 && !decide (knm = voidB) || kop == 31)) = false := hb2
     show (!(!(kop == 31) && (!(kop == 30) || decide (knm = voidB))) && _) = _
     revert hb2
     cases (kop == 30) <;> cases (kop == 31) <;> cases decide (knm = voidB) <;> intro hb2 <;> first | rfl | cases hb2
    refine Z127 ?_;refine Z92 ?_;refine Z426 ?_
    refine hn _ 1 ⟨by rw [varB, if_neg (by rw [hv0]; decide), if_pos (by rw [a1]; exact hb1), hgood, show r = ks.drop 1 from by rw [show ks = Tr.mk kop knm knu kks :: r from hdr]; rfl], by omega, by omega⟩ le_of
   skip
   refine Z435 ?_;refine Z435 ?_;refine Z359 ?_;refine Z329 ?_;refine Z2 ?_;refine Z333 ?_
   refine gC ?_ ?_ <;> intro hb3
   ·
    have hnil : varTy num ks = false := by
     have h0 : ks = [] := by
      cases ks with
      | nil => rfl
      | cons k r => exfalso; simp at hsp; omega
     rw [h0]; rfl
    refine Z405 ?_;refine Z14 ?_;refine Z327 ?_;refine Z259 ?_;refine Z4 ?_
    exact ⟨by rw [varB, if_neg (by rw [hv0]; decide), if_pos (by rw [a1]; exact hb1), hnil], rfl⟩
   exfalso
   have h0 : decide (((ks.map Tr.d).length : Int) < 1) = true := by simpa using hsp
   rw [h0] at hb3
   exact absurd hb3 (by rw [Bool.true_or]; decide)
  refine Z205 ?_
  refine hn _ 0 ⟨by rw [varB, if_neg (by rw [hv0]; decide), if_neg (by rw [a1, hb1]; decide)]; rfl, by omega, by omega⟩ le_of
 obtain ⟨hn1, hn2, hn3⟩ := hn
 refine G_seq_cut (α := Nat) (fun m => ⟨[(1, .d (.ptr (.agg [.int .i64 op, .str name, .int .i64 num, .sl (ks.map Tr.d)]))), (3, .d (.int .i64 (m : Nat)))], []⟩) (fun m => varB (.mk op name num ks) = ((ks.length : Int) == ((m : Nat) : Int))) (fun Q' hn he hr => ?_) (fun m hm => ?_)
 ·
  refine Z3 ?_;refine Z323 ?_
  refine vq rfl (q_quo (show (2 : Int) ≠ 0 by decide) rfl) ?_
  refine vq rfl (q_rem (show (2 : Int) ≠ 0 by decide) rfl) ?_
  refine Z407 ?_
  refine gC ?_ ?_ <;> intro hb4
  ·
   refine Z44 ?_;refine Z371 ?_;refine Z0 ?_;refine Z25 ?_;refine Z34 ?_;refine Z0 ?_
   refine g_split 70 false (fun hsp => ?_) (fun hsp => ?_)
   ·
    have h1l : n < ks.length := by simp at hsp; omega
    obtain ⟨k, r, hdr, hk, hrl⟩ := drop_kid (ks := ks) (n := n) (by omega)
    obtain ⟨kop, knm, knu, kks, hke⟩ : ∃ op nm nu ks', k = .mk op nm nu ks' := by cases k; exact ⟨_, _, _, _, rfl⟩
    subst hke
    have hxa := Tr.ds_get hk
    rw [Tr.d_mk] at hxa
    refine Z207 ?_;refine Z231 ?_;refine Z117 ?_;refine Z169 ?_;refine Z151 ?_;refine Z186 ?_
    refine g_callo (xs := [.tmp 76]) rfl hsp (c81 _) ?_
    refine sgo rfl hsp y_not ?_
    refine Z333 ?_
    refine gC ?_ ?_ <;> intro hb5
    ·
     have hx : varTail num (ks.drop n) = false := by
      rw [tail_some (by rw [a2]; exact hb4), hdr]
      have h0 : ¬ (ks.length : Int) < ((n + 1 : Nat) : Int) := by omega
      simp only [List.length_map, decide_eq_false h0, Bool.false_or, Bool.not_eq_true'] at hb5
      show (isExprB kop && _) = false
      rw [hb5, Bool.false_and]
     refine Z405 ?_;refine Z14 ?_;refine Z327 ?_;refine Z259 ?_;refine Z4 ?_
     exact ⟨by rw [hn1, hx], rfl⟩
    have hx : varTail num (ks.drop n) = ((ks.length : Int) == ((n + 1 : Nat) : Int)) := by
     rw [tail_some (by rw [a2]; exact hb4), hdr]
     have h0 : ¬ (ks.length : Int) < ((n + 1 : Nat) : Int) := by omega
     simp only [List.length_map, decide_eq_false h0, Bool.false_or, Bool.not_eq_false'] at hb5
     show (isExprB kop && _) = _
     rw [hb5, Bool.true_and, Bool.eq_iff_iff, beq_iff_eq, beq_iff_eq]
     omega
    refine Z127 ?_;refine Z92 ?_;refine Z426 ?_
    refine hn _ (n + 1) (by rw [hn1, hx]) le_of
   skip
   refine Z435 ?_;refine Z333 ?_
   refine gC ?_ ?_ <;> intro hb6
   ·
    have hx : varTail num (ks.drop n) = false := by
     have h0 : ks.drop n = [] := by
      rw [List.drop_eq_nil_iff]; simp at hsp; omega
     rw [tail_some (by rw [a2]; exact hb4), h0]
    refine Z405 ?_;refine Z14 ?_;refine Z327 ?_;refine Z259 ?_;refine Z4 ?_
    exact ⟨by rw [hn1, hx], rfl⟩
   exfalso
   have h0 : decide (((ks.map Tr.d).length : Int) < ((n + 1 : Nat) : Int)) = true := by simpa using hsp
   rw [h0] at hb6
   exact absurd hb6 (by rw [Bool.true_or]; decide)
  refine Z205 ?_
  refine hn _ n (by rw [hn1, tail_none (by rw [a2]; exact hb4), List.length_drop, Bool.eq_iff_iff, beq_iff_eq, beq_iff_eq]; omega) le_of
 skip
 refine Z3 ?_;refine Z371 ?_;refine Z0 ?_;refine Z17 ?_;refine Z320 ?_
 exact ⟨by rw [hm, List.length_map], rfl⟩
def loopV (op num : Int) (ks : List Tr) : Bool :=
 (((ks.take num.toNat).all fun k => k.op == 4) && (isExprB (opK num.toNat ks) && opK (num.toNat + 1) ks == 66)) && (ks.drop (num.toNat + 2)).all fun k => op == 55 && k.op == 67
def loopRB : Tr → Bool
 | .mk op name num ks => decide (name = ⟨#[]⟩) && rule157 (.mk op name num ks)
theorem loop_rest (op : Int) (l : List Tr) : (((l.length : Int) == 0) || (op == 55 && everyB (fun o => o == 67) l)) = l.all fun k => op == 55 && k.op == 67 := by
 cases l with
 | nil => rfl
 | cons k r =>
  rw [show ((((k :: r).length : Nat) : Int) == 0) = false from by rw [beq_eq_false_iff_ne, List.length_cons]; omega, Bool.false_or]
  unfold everyB
  cases op == 55 with
  | true => simp only [Bool.true_and]; rw [Bool.eq_iff_iff, Bool.not_eq_true', List.any_eq_false, List.all_eq_true]; simp
  | false => simp
theorem kids3 (k0 k1 k2 : Tr) : kidsB [k0, k1, k2] (nn.extract 0 1 ++ eb) = (k0.op == 4 && (isExprB k1.op && k2.op == 66)) := by
 rw [show nn.extract 0 1 ++ eb = ⟨#[110, 101, 98]⟩ from rfl]
 unfold kidsB
 show (true && (kindOk 110 k0.op && (kindOk 101 k1.op && (kindOk 98 k2.op && true)))) = _
 rw [Bool.true_and, Bool.and_true]; rfl
theorem kids4 (k0 k1 k2 k3 : Tr) : kidsB [k0, k1, k2, k3] (nn.extract 0 2 ++ eb) = ((k0.op == 4 && k1.op == 4) && (isExprB k2.op && k3.op == 66)) := by
 rw [show nn.extract 0 2 ++ eb = ⟨#[110, 110, 101, 98]⟩ from rfl]
 unfold kidsB
 show (true && (kindOk 110 k0.op && (kindOk 110 k1.op && (kindOk 101 k2.op && (kindOk 98 k3.op && true))))) = _
 rw [Bool.true_and, Bool.and_true, Bool.and_assoc]; rfl
theorem loop_eq {op : Int} {name : ByteArray} (h : num = 1 ∨ num = 2) (hl : num + 2 ≤ (ks.length : Int)) : rule157 (.mk op name num ks) = loopV op num ks := by
 rw [rule157, if_pos ⟨h, hl⟩, loop_rest]
 unfold loopV
 rcases h with rfl | rfl
 · match ks, hl with
   | k0 :: k1 :: k2 :: r, _ =>
    show (kidsB [k0, k1, k2] (nn.extract 0 1 ++ eb) && _) = _
    rw [kids3]
    show _ = (((k0.op == 4 && true) && (isExprB k1.op && k2.op == 66)) && _)
    rw [Bool.and_true]; rfl
   | [], h => simp at h
   | [_], h => simp at h
   | [_, _], h => simp at h
 · match ks, hl with
   | k0 :: k1 :: k2 :: k3 :: r, _ =>
    show (kidsB [k0, k1, k2, k3] (nn.extract 0 2 ++ eb) && _) = _
    rw [kids4]
    show _ = (((k0.op == 4 && (k1.op == 4 && true)) && (isExprB k2.op && k3.op == 66)) && _)
    rw [Bool.and_true]; rfl
   | [], h => simp at h
   | [_], h => simp at h
   | [_, _], h => simp at h
   | [_, _, _], h => simp at h
theorem loop_no {op : Int} {name : ByteArray} (h : ¬ ((num = 1 ∨ num = 2) ∧ num + 2 ≤ (ks.length : Int))) : rule157 (.mk op name num ks) = false := by
 rw [rule157, if_neg h]
variable {i : Nat} {k : Tr}
theorem opK_get (h : ks[i]? = some k) : opK i ks = k.op := by unfold opK; rw [h]
variable {p : Tr → Bool}
theorem all_no (h : ks[i]? = some k) (hi : i < n) (hp : p k = false) : (ks.take n).all p = false := by
 rw [List.all_eq_false]
 refine ⟨k, ?_, by rw [hp]; decide⟩
 exact mG (show (ks.take n)[i]? = some k by rw [List.getElem?_take_of_lt hi]; exact h)
theorem all_yes (h : ∀ i, i < n → ∀ k, ks[i]? = some k → p k = true) : (ks.take n).all p = true := by
 rw [List.all_eq_true]
 intro k hk
 obtain ⟨i, hi⟩ := List.getElem?_of_mem hk
 rw [List.getElem?_take] at hi
 split at hi
 · rename_i hlt; exact h i hlt k hi
 · cases hi
theorem drop_no (h : ks[i]? = some k) (hi : n ≤ i) (hp : p k = false) : (ks.drop n).all p = false := by
 rw [List.all_eq_false]
 refine ⟨k, mG (i := i - n) ?_, by rw [hp]; decide⟩
 rw [List.getElem?_drop, show n + (i - n) = i from by omega]; exact h
theorem drop_yes (h : ∀ i, n ≤ i → ∀ k, ks[i]? = some k → p k = true) : (ks.drop n).all p = true := by
 rw [List.all_eq_true]
 intro k hk
 obtain ⟨i, hi⟩ := List.getElem?_of_mem hk
 rw [List.getElem?_drop] at hi
 exact h _ (by omega) k hi
set_option maxHeartbeats 4000000 in
theorem c289 (t : Tr) (hok : t.Ok) : Pf Tryz.prog 289 [t.d] (.d (.bool (loopRB t))) := by
 obtain ⟨op, name, num, ks⟩ := t
 rw [Tr.d_mk]
 try simp only [Tr.op_mk, Tr.nm_mk, Tr.nu_mk, Tr.kids_mk]
 cases hok with | mk h1 h2 h3 h4 h5 =>
 refine pf_body (rvs := [.tmp 2]) [(0, .d (.agg [.int .i64 op, .str name, .int .i64 num, .sl (ks.map Tr.d)]))] Tryz.func289 Tryz.ntmps289 Tryz.results289 (fun S0 O0 w0 m0 hm0 => ?_)
 refine Z404 ?_;refine Z336 ?_;refine Z307 ?_;refine Z337 ?_;refine Z236 ?_;refine Z277 ?_
 refine sg rfl (fun hg => sP 11 rfl hg qM) ?_
 refine Z21 ?_
 refine sg rfl (fun hg => sP 13 rfl hg (qL u3)) ?_
 refine sg rfl (fun hg => sP 14 rfl hg q_neq) ?_
 refine sg rfl (fun hg => sP 12 rfl hg q_and) ?_
 refine Z28 ?_;refine Z391 ?_
 refine sg rfl (fun hg => sP 19 rfl hg (qL u22)) ?_
 refine sg rfl (fun hg => sP 20 rfl hg (q_len u22)) ?_
 refine Z21 ?_;refine Z211 ?_
 refine sg rfl (fun hg => sP 23 rfl hg (q_add (hw := rfl))) ?_
 refine sg rfl (fun hg => sP 24 rfl hg (sP 21 rfl hg q_lss)) ?_
 refine Z333 ?_
 refine gC ?_ ?_ <;> intro hb0
 ·
  have hno : loopRB (.mk op name num ks) = false := by
   rw [loopRB]
   by_cases hnm : name = ⟨#[]⟩
   · rw [loop_no, Bool.and_false]
     rintro ⟨h7, h8⟩
     simp only [Bool.or_eq_true, Bool.and_eq_true, Bool.not_eq_true', bne_iff_ne, decide_eq_true_eq, decide_eq_false_iff_not, List.length_map] at hb0
     rcases hb0 with (hb0 | hb0) | hb0
     · exact hb0 hnm
     · omega
     · rw [wrap_i64 (by omega) (by omega)] at hb0
       omega
   · rw [decide_eq_false hnm, Bool.false_and]
  refine Z51 ?_;refine Z126 ?_;refine Z388 ?_
  exact ⟨by rw [hno], rfl⟩
 have hnn : ((num = 1 ∨ num = 2) ∧ num + 2 ≤ (ks.length : Int)) ∧ decide (name = ⟨#[]⟩) = true := by
  simp only [Bool.or_eq_false_iff, Bool.and_eq_false_iff, Bool.not_eq_false', bne_eq_false_iff_eq, decide_eq_false_iff_not, List.length_map] at hb0
  obtain ⟨⟨h7, h9⟩, h8⟩ := hb0
  have h6 : num = 1 ∨ num = 2 := by omega
  rw [wrap_i64 (by omega) (by omega)] at h8
  exact ⟨⟨h6, by omega⟩, h7⟩
 obtain ⟨⟨hn1, hn2⟩, hnm⟩ := hnn
 have hn3 : 1 ≤ num ∧ num ≤ 2 := by omega
 have hlv : loopRB (.mk op name num ks) = loopV op num ks := by rw [loopRB, hnm, Bool.true_and, loop_eq hn1 hn2]
 refine Z110 ?_;refine Z126 ?_;refine Z14 ?_;refine Z357 ?_
 refine g_loop (α := Nat) (fun z => ⟨[(3, .d (.int .i64 (z : Nat))), (1, .d (.ptr (.agg [.int .i64 op, .str name, .int .i64 num, .sl (ks.map Tr.d)])))], []⟩) (fun z => num.toNat - z) (fun z => (z : Int) ≤ num ∧ ∀ i, i < z → ∀ k, ks[i]? = some k → (k.op == 4) = true) 0 ⟨by show (0 : Int) ≤ num; omega, by simp⟩ (fun z hz Q' hn0 he0 hr0 => ?_) (le_of)
 obtain ⟨hz1, hz2⟩ := hz
 refine Z355 ?_;refine Z323 ?_;refine Z346 ?_
 refine gC ?_ ?_ <;> intro hb1
 ·
  have hlt : (z : Int) < num := by simpa using hb1
  obtain ⟨a, hka⟩ : ∃ k, ks[z]? = some k := ⟨_, gE (by omega)⟩
  obtain ⟨aop, anm, anu, aks, hke⟩ : ∃ op nm nu ks', a = .mk op nm nu ks' := by cases a; exact ⟨_, _, _, _, rfl⟩
  subst hke
  have hxa := Tr.ds_get hka
  rw [Tr.d_mk] at hxa
  refine Z26 ?_;refine Z386 ?_;refine Z40 ?_;refine Z323 ?_;refine Z350 ?_
  refine gC ?_ ?_ <;> intro hb2
  ·
   refine Z411 ?_;refine Z394 ?_
   exact ⟨by rw [hlv]; unfold loopV; rw [all_no (p := fun k => k.op == 4) hka (by omega) (by show (aop == 4) = false; simpa [bne] using hb2)]; rfl, rfl⟩
  refine Z427 ?_
  refine hn0 _ (z + 1) ⟨by show ((z + 1 : Nat) : Int) ≤ num; omega, upto_step (p := fun _ (k : Tr) => k.op == 4) hz2 hka (by show (aop == 4) = true; simpa [bne] using hb2)⟩ (by omega) le_of
 have hge : z = num.toNat := by
  have : ¬ (z : Int) < num := by simpa using hb1
  omega
 obtain ⟨a, hka⟩ : ∃ k, ks[num.toNat]? = some k := ⟨_, gE (by omega)⟩
 obtain ⟨aop, anm, anu, aks, hke⟩ : ∃ op nm nu ks', a = .mk op nm nu ks' := by cases a; exact ⟨_, _, _, _, rfl⟩
 subst hke
 have hxa := Tr.ds_get hka
 rw [Tr.d_mk] at hxa
 obtain ⟨b, hkb⟩ : ∃ k, ks[num.toNat + 1]? = some k := ⟨_, gE (by omega)⟩
 obtain ⟨bop, bnm, bnu, bks, hke⟩ : ∃ op nm nu ks', b = .mk op nm nu ks' := by cases b; exact ⟨_, _, _, _, rfl⟩
 subst hke
 have hxb := Tr.ds_get hkb
 rw [Tr.d_mk] at hxb
 have hn0 : num.toNat = num := by omega
 have hxb' : (ks.map Tr.d)[(num + 1).toNat]? = some (.agg [.int .i64 bop, .str bnm, .int .i64 bnu, .sl (bks.map Tr.d)]) := by
  rw [show (num + 1).toNat = num.toNat + 1 from by omega]
  exact hxb
 refine Z342 ?_;refine Z238 ?_;refine Z326 ?_;refine Z323 ?_;refine Z40 ?_;refine Z323 ?_
 refine gL (xs := [.tmp 46]) rfl (c81 _) ?_
 refine Z52 ?_;refine Z391 ?_
 refine sg rfl (fun hg => sP 50 rfl hg (qL u22)) ?_
 refine Z21 ?_
 refine sg rfl (fun hg => sP 52 rfl hg (qL u3)) ?_
 refine sg rfl (fun hg => sP 53 rfl hg q_add) ?_
 refine sg rfl (fun hg => sP 54 rfl hg (sP 51 rfl hg (qI u22 sz27))) ?_
 refine sg rfl (fun hg => sP 55 rfl hg (qF u27 rfl sz3)) ?_
 refine sg rfl (fun hg => sP 56 rfl hg (qL u3)) ?_
 refine sg rfl (fun hg => sP 57 rfl hg q_neq) ?_
 refine Z333 ?_
 refine gC ?_ ?_ <;> intro hb3
 ·
  refine Z51 ?_;refine Z126 ?_;refine Z388 ?_
  exact ⟨by rw [hlv]; unfold loopV; rw [opK_get hka, opK_get hkb, show (isExprB (Tr.mk aop anm anu aks).op && (Tr.mk bop bnm bnu bks).op == 66) = false from by (show (isExprB aop && bop == 66) = false; revert hb3; cases isExprB aop <;> cases h : (bop == 66) <;> simp [bne, h]), Bool.and_false, Bool.false_and], rfl⟩
 refine Z110 ?_;refine Z126 ?_;refine Z14 ?_;refine Z323 ?_;refine Z25 ?_;refine Z1 ?_
 rw [show num + 2 = ((num.toNat + 2 : Nat) : Int) from by omega]
 refine Z35 ?_
 refine g_loop (α := Nat) (fun y => ⟨[(4, .d (.int .i64 (y : Nat))), (1, .d (.ptr (.agg [.int .i64 op, .str name, .int .i64 num, .sl (ks.map Tr.d)])))], []⟩) (fun y => ks.length - y) (fun y => num.toNat + 2 ≤ y ∧ y ≤ ks.length ∧ ∀ i, num.toNat + 2 ≤ i → i < y → ∀ k, ks[i]? = some k → (op == 55 && k.op == 67) = true) (num.toNat + 2) ⟨Nat.le_refl _, by omega, fun i h1 h2 => by omega⟩ (fun y hy Q' hn1 he1 hr1 => ?_) (le_of)
 obtain ⟨hy1, hy2, hy3⟩ := hy
 refine Z355 ?_;refine Z428 ?_
 refine gC ?_ ?_ <;> intro hb4
 ·
  have hlt : y < ks.length := by simpa using hb4
  obtain ⟨c, hkc⟩ : ∃ k, ks[y]? = some k := ⟨_, gE (by omega)⟩
  obtain ⟨cop, cnm, cnu, cks, hke⟩ : ∃ op nm nu ks', c = .mk op nm nu ks' := by cases c; exact ⟨_, _, _, _, rfl⟩
  subst hke
  have hxc := Tr.ds_get hkc
  rw [Tr.d_mk] at hxc
  refine Z26 ?_;refine Z323 ?_;refine Z56 ?_;refine Z391 ?_
  refine sg rfl (fun hg => sP 74 rfl hg (qL u22)) ?_
  refine Z18 ?_
  refine sg rfl (fun hg => sP 76 rfl hg (sP 75 rfl hg (qI u22 sz27))) ?_
  refine sg rfl (fun hg => sP 77 rfl hg (qF u27 rfl sz3)) ?_
  refine sg rfl (fun hg => sP 78 rfl hg (qL u3)) ?_
  refine sg rfl (fun hg => sP 79 rfl hg q_neq) ?_
  refine Z333 ?_
  refine gC ?_ ?_ <;> intro hb5
  ·
   refine Z51 ?_;refine Z126 ?_;refine Z14 ?_;refine Z322 ?_
   refine hr1 _ ?_
   refine Z91 ?_;refine Z4 ?_
   exact ⟨by rw [hlv]; unfold loopV; rw [drop_no (p := fun k => op == 55 && k.op == 67) hkc hy1 (by show (op == 55 && cop == 67) = false; revert hb5; cases h1 : (op == 55) <;> cases h2 : (cop == 67) <;> simp [bne, h1, h2]), Bool.and_false], rfl⟩
  refine Z248 ?_;refine Z126 ?_;refine Z426 ?_
  refine hn1 _ (y + 1) ⟨by omega, by omega, fun i g1 g2 k g3 => by
        by_cases hiy : i = y
        · subst hiy; rw [hkc] at g3; injection g3 with g3; subst g3; show (op == 55 && cop == 67) = true; revert hb5; cases h1 : (op == 55) <;> cases h2 : (cop == 67) <;> simp [bne, h1, h2]
        · exact hy3 i g1 (by omega) k g3⟩ (by omega) le_of
 have hge : y = ks.length := by
  have : ¬ (y : Int) < ((ks.map Tr.d).length : Nat) := by simpa using hb4
  rw [List.length_map] at this
  omega
 refine Z439 ?_;refine Z38 ?_;refine Z320 ?_
 exact ⟨by rw [hlv]; unfold loopV; rw [all_yes (p := fun k => k.op == 4) (fun i hi => hz2 i (by omega)), opK_get hka, opK_get hkb, show (isExprB (Tr.mk aop anm anu aks).op && (Tr.mk bop bnm bnu bks).op == 66) = true from by (show (isExprB aop && bop == 66) = true; revert hb3; cases isExprB aop <;> cases h : (bop == 66) <;> simp [bne, h]), drop_yes (p := fun k => op == 55 && k.op == 67) (fun i h1 k hk => hy3 i h1 (by have := (lG hk); omega) k hk)]; rfl, rfl⟩
end Go.Proofs.YtklkbfpjimeaoaaGreat
