import Derived.Test.YtklkbfpjimeaoaaGreatM30
import Derived.Test.YtklkbfpjimeaoaaGreatM21
import Derived.Test.YtklkbfpjimeaoaaGreatM19
/- Contracts of functions. Conditions: none. -/
namespace Go.Proofs.YtklkbfpjimeaoaaGreat
open Go Go.Proofs.YtklkbfpjimeaoaaGreat.E
theorem v0_x0 (xs : List (Tr × Bool)) (i : Nat) : v0 (xs.map optR) i = optR (x0 xs i) := by
  unfold v0 x0
  rw [List.getD_eq_getElem?_getD, List.getD_eq_getElem?_getD, List.getElem?_map]
  cases xs[i]? <;> rfl
theorem unary_eq (nm : ByteArray) (x : Tr × Bool) : optR (if x.2 = true then unaryR nm x.1 else (z0, false)) = unaryV nm (optR x) := by
  obtain ⟨⟨op, n, num, ks⟩, b⟩ := x
  cases b
  · rfl
  · rw [if_pos rfl, show optR (Tr.mk op n num ks, true) = some (.mk op n num ks) from rfl]
    unfold unaryR unaryV
    dsimp only
    split
    · rfl
    · split <;> rfl
theorem short_eq (nm : ByteArray) (x y : Tr × Bool) (h : (decide (nm = andB) || decide (nm = orB)) = true) : optR (shortR nm x y) = binV nm (optR x) (optR y) := by
  unfold binV
  rw [if_pos h, isV_optR, isV_optR]
  unfold shortR
  obtain ⟨tx, bx⟩ := x
  obtain ⟨ty, bY⟩ := y
  cases bx
  · rfl
  · simp only [Bool.not_true, Bool.false_or, Bool.true_and, bne]
    split
    · rfl
    · rw [nuV_optR (x := (tx, true)) rfl]
      rw [show ((decide (nm = orB)) == (tx.nu == 1)) = ((tx.nu == 1) == decide (nm = orB)) from Bool.beq_comm]
      split
      · rfl
      · cases bY
        · rfl
        · cases h2 : ty.op == 2 <;> simp [optR]
theorem fits_add {a b : Int} (ha : wf64 a) (hb : wf64 b) : ((decide (b ≤ 0) || decide (a ≤ W (maxI - b))) && (decide (b ≥ 0) || decide (a ≥ W (minI - b)))) = (decide (b ≥ 0) == decide (W (a + b) ≥ a)) := by
  unfold wf64 at ha hb
  unfold W IntKind.wrap maxI minI
  simp only [IntKind.signed, IntKind.bits, Bool.true_and]
  rw [Bool.eq_iff_iff]
  simp only [Bool.and_eq_true, Bool.or_eq_true, decide_eq_true_eq, beq_iff_eq, decide_eq_decide, ge_iff_le]
  omega
theorem fits_sub {a b : Int} (ha : wf64 a) (hb : wf64 b) : ((decide (b ≥ 0) || decide (a ≤ W (maxI + b))) && (decide (b ≤ 0) || decide (a ≥ W (minI + b)))) = (decide (b ≥ 0) == decide (W (a - b) ≤ a)) := by
  unfold wf64 at ha hb
  unfold W IntKind.wrap maxI minI
  simp only [IntKind.signed, IntKind.bits, Bool.true_and]
  rw [Bool.eq_iff_iff]
  simp only [Bool.and_eq_true, Bool.or_eq_true, decide_eq_true_eq, beq_iff_eq, decide_eq_decide, ge_iff_le]
  omega
theorem fits_mul (a b : Int) : mulV a b = optR (intT (if (a == 0 || b == 0) = true then (0, true) else if mulBad a b = true then (0, false) else (W (a * b), W ((W (a * b)).tdiv b) == a) : Int × Bool).1, (if (a == 0 || b == 0) = true then (0, true) else if mulBad a b = true then (0, false) else (W (a * b), W ((W (a * b)).tdiv b) == a) : Int × Bool).2) := by
  unfold mulV fitsV optR mulBad
  cases h0 : (a == 0 || b == 0) with
  | true =>
    have : a * b = 0 := by
      rw [Bool.or_eq_true, beq_iff_eq, beq_iff_eq] at h0
      rcases h0 with h | h <;> rw [h] <;> simp
    rw [this]
    rfl
  | false =>
    simp only [Bool.false_or, Bool.false_eq_true, if_false]
    rw [show ((a != -1 || b != minI) && (b != -1 || a != minI)) = !(a == minI && b == -1 || b == minI && a == -1) from by
      simp only [bne]
      cases a == -1 <;> cases b == minI <;> cases b == -1 <;> cases a == minI <;> rfl]
    cases (a == minI && b == -1 || b == minI && a == -1) with
    | true => rfl
    | false => rfl
theorem fits_div (a b : Int) : (!divB a b) = quoBad a b := by
  unfold divB quoBad
  simp only [bne]
  cases a == minI <;> cases b == -1 <;> cases b == 0 <;> rfl
def okI (x : Int × Bool) : Option Tr := if x.2 = true then some (intT x.1) else none
theorem tabs (nm : ByteArray) {a b : Int} (ha : wf64 a) (hb : wf64 b) :
    (∃ o, tabGet intTab nm = some o ∧ tabGet cmpTab nm = none ∧ o.f a b = okI (ariR nm a b) ∧ cmpR nm a b = (false, false) ∧ nm ≠ eqB ∧ nm ≠ neB) ∨
    (∃ o, tabGet intTab nm = none ∧ tabGet cmpTab nm = some o ∧ cmpR nm a b = (o.f a b, true)) ∨
    (tabGet intTab nm = none ∧ tabGet cmpTab nm = none ∧ ariR nm a b = (0, false) ∧ cmpR nm a b = (false, false) ∧ nm ≠ eqB ∧ nm ≠ neB) := by
  by_cases h1 : nm = ⟨#[43]⟩
  · subst h1; exact .inl ⟨_, rfl, rfl, by show addV a b = _; unfold addV; rw [fits_add ha hb]; rfl, rfl, by decide, by decide⟩
  by_cases h2 : nm = ⟨#[45]⟩
  · subst h2; exact .inl ⟨_, rfl, rfl, by show subV a b = _; unfold subV; rw [fits_sub ha hb]; rfl, rfl, by decide, by decide⟩
  by_cases h3 : nm = ⟨#[42]⟩
  · subst h3; exact .inl ⟨_, rfl, rfl, by show mulV a b = _; rw [fits_mul]; rfl, rfl, by decide, by decide⟩
  by_cases h4 : nm = ⟨#[47]⟩
  · subst h4; exact .inl ⟨_, rfl, rfl, by
      show quoV a b = _; unfold quoV; rw [fits_div]
      show _ = okI (if quoBad a b = true then (0, false) else (W (a.tdiv b), true))
      split <;> rfl, rfl, by decide, by decide⟩
  by_cases h5 : nm = ⟨#[37]⟩
  · subst h5; exact .inl ⟨_, rfl, rfl, by
      show remV a b = _; unfold remV; rw [fits_div]
      show _ = okI (if quoBad a b = true then (0, false) else (a.tmod b, true))
      split <;> rfl, rfl, by decide, by decide⟩
  by_cases h6 : nm = ⟨#[61, 61]⟩
  · subst h6; exact .inr (.inl ⟨_, rfl, rfl, rfl⟩)
  by_cases h7 : nm = ⟨#[33, 61]⟩
  · subst h7; exact .inr (.inl ⟨_, rfl, rfl, rfl⟩)
  by_cases h8 : nm = ⟨#[60]⟩
  · subst h8; exact .inr (.inl ⟨_, rfl, rfl, rfl⟩)
  by_cases h9 : nm = ⟨#[60, 61]⟩
  · subst h9; exact .inr (.inl ⟨_, rfl, rfl, rfl⟩)
  by_cases h10 : nm = ⟨#[62]⟩
  · subst h10; exact .inr (.inl ⟨_, rfl, rfl, rfl⟩)
  by_cases h11 : nm = ⟨#[62, 61]⟩
  · subst h11; exact .inr (.inl ⟨_, rfl, rfl, rfl⟩)
  refine .inr (.inr ⟨?_, ?_, ?_, ?_, h6, h7⟩)
  · unfold tabGet intTab; simp [Ne.symm, h1, h2, h3, h4, h5, eq_comm]
  · unfold tabGet cmpTab; simp [eq_comm, h6, h7, h8, h9, h10, h11]
  · unfold ariR; simp [h1, h2, h3, h4, h5]
  · unfold cmpR; simp [h6, h7, h8, h9, h10, h11]
theorem bin_eq (nm : ByteArray) (x y : Tr × Bool) (h : (decide (nm = andB) || decide (nm = orB)) = false) (hx : x.2 = true → ValOk x.1) (hy : y.2 = true → ValOk y.1) :
    optR (if (x.2 && y.2) = true then binR nm x.1 y.1 else (z0, false)) = binV nm (optR x) (optR y) := by
  unfold binV
  rw [if_neg (show ¬ (decide (nm = andB) || decide (nm = orB)) = true from by rw [h]; decide)]
  obtain ⟨tx, bx⟩ := x
  obtain ⟨ty, bY⟩ := y
  have hnone : ∀ a b : Option Tr, (a = none ∨ b = none) → (match tabGet intTab nm with
    | some o => if (isV a 1 && isV b 1) = true then o.f (nuV a) (nuV b) else cmpV nm a b
    | none => cmpV nm a b) = none := fun a b hab => by
    have hc : cmpV nm a b = none := by
      unfold cmpV
      split
      · rfl
      · rcases hab with rfl | rfl
        · rfl
        · cases a <;> simp [isV]
    split
    · rw [hc, if_neg]
      rcases hab with rfl | rfl
      · simp [isV]
      · cases a <;> simp [isV]
    · exact hc
  cases bx
  · exact (hnone _ _ (.inl rfl)).symm
  cases bY
  · exact (hnone _ _ (.inr rfl)).symm
  rw [if_pos (show (((tx, true) : Tr × Bool).2 && ((ty, true) : Tr × Bool).2) = true from rfl), show optR (tx, true) = some tx from rfl, show optR (ty, true) = some ty from rfl]
  rcases hx rfl with ⟨n, hn, e⟩ | ⟨p, e⟩ <;> replace e : tx = _ := e <;> subst e <;> rcases hy rfl with ⟨m, hm, e⟩ | ⟨q, e⟩ <;> replace e : ty = _ := e <;> subst e
  · rw [show isV (some (intT n)) 1 = true from rfl, show isV (some (intT m)) 1 = true from rfl, show nuV (some (intT n)) = n from rfl, show nuV (some (intT m)) = m from rfl, show binR nm (intT n) (intT m) = if (cmpR nm n m).2 = true then (boolT (cmpR nm n m).1, true) else (intT (ariR nm n m).1, (ariR nm n m).2) from rfl]
    have hc : cmpV nm (some (intT n)) (some (intT m)) = match tabGet cmpTab nm with | none => none | some o => some (boolT (o.f n m)) := by
      unfold cmpV
      rfl
    rcases tabs nm hn hm with ⟨o, t1, t2, t3, t4, _⟩ | ⟨o, t1, t2, t3⟩ | ⟨t1, t2, t3, t4, _⟩
    · rw [t1, t4]
      show optR (if false = true then _ else _) = if (true && true) = true then _ else _
      rw [if_neg (by decide)]
      show _ = o.f n m
      rw [t3]
      rfl
    · rw [t1, t3, hc, t2]
      rfl
    · rw [t1, t3, t4, hc, t2]
      rfl
  · rw [show binR nm (intT n) (boolT q) = (z0, false) from rfl]
    have hc : cmpV nm (some (intT n)) (some (boolT q)) = none := by
      unfold cmpV
      split
      · rfl
      · rfl
    split
    · exact hc.symm
    · exact hc.symm
  · rw [show binR nm (boolT p) (intT m) = (z0, false) from rfl]
    have hc : cmpV nm (some (boolT p)) (some (intT m)) = none := by
      unfold cmpV
      split
      · rfl
      · rfl
    split
    · exact hc.symm
    · exact hc.symm
  · have e1 : (boolT p).nu = if p = true then 1 else 0 := rfl
    have e2 : (boolT q).nu = if q = true then 1 else 0 := rfl
    have hb : binR nm (boolT p) (boolT q) = if (!decide (nm = eqB) && !decide (nm = neB)) = true then (z0, false) else if (cmpR nm (boolT p).nu (boolT q).nu).2 = true then (boolT (cmpR nm (boolT p).nu (boolT q).nu).1, true) else (intT (ariR nm (boolT p).nu (boolT q).nu).1, (ariR nm (boolT p).nu (boolT q).nu).2) := rfl
    have hc : cmpV nm (some (boolT p)) (some (boolT q)) = match tabGet cmpTab nm with | none => none | some o => if (decide (nm = eqB) || decide (nm = neB)) = true then some (boolT (o.f (boolT p).nu (boolT q).nu)) else none := by
      unfold cmpV
      rfl
    have hp : wf64 (boolT p).nu := by rw [e1]; unfold wf64; split <;> omega
    have hq : wf64 (boolT q).nu := by rw [e2]; unfold wf64; split <;> omega
    rw [hb]
    generalize (boolT p).nu = n at hc hp ⊢
    generalize (boolT q).nu = m at hc hq ⊢
    have hv : (match tabGet intTab nm with
      | some o => if (isV (some (boolT p)) 1 && isV (some (boolT q)) 1) = true then o.f (nuV (some (boolT p))) (nuV (some (boolT q))) else cmpV nm (some (boolT p)) (some (boolT q))
      | none => cmpV nm (some (boolT p)) (some (boolT q))) = cmpV nm (some (boolT p)) (some (boolT q)) := by
      split
      · rfl
      · rfl
    refine Eq.trans ?_ hv.symm
    rw [hc]
    rcases tabs nm hp hq with ⟨o, t1, t2, t3, t4, t5, t6⟩ | ⟨o, t1, t2, t3⟩ | ⟨t1, t2, t3, t4, t5, t6⟩
    · rw [t2, decide_eq_false t5, decide_eq_false t6]
      rfl
    · rw [t2, t3]
      cases decide (nm = eqB) <;> cases decide (nm = neB) <;> rfl
    · rw [t2, decide_eq_false t5, decide_eq_false t6]
      rfl
theorem valNR_eq (l : List (ByteArray × Tr)) (op : Int) (nm : ByteArray) (num : Int) (ks : List Tr) (xs : List (Tr × Bool)) (ss : List SP) (hx : ∀ i, (x0 xs i).2 = true → ValOk (x0 xs i).1) :
    optR (valNR l op nm num ks xs ss) = valN (kl l) op nm num ks (xs.map optR) ss := by
  unfold valNR valN
  rw [v0_x0, v0_x0, v0_x0]
  split
  · rfl
  split
  · unfold findR
    split <;> rename_i h <;> rw [h] <;> rfl
  split
  · exact unary_eq nm _
  split
  · split
    · rename_i h; exact short_eq nm _ _ h
    · rename_i h; exact bin_eq nm _ _ (by simpa using h) (hx 0) (hx 1)
  split
  · rw [isV_optR]
    cases h2 : ((x0 xs 0).2 && (x0 xs 0).1.op == 2) with
    | false => rfl
    | true =>
      rw [nuV_optR (Bool.and_eq_true_iff.1 h2).1]
      rfl
  split
  · split
    · rfl
    · rfl
  · rfl
theorem of_good {a b : Int} (h : (ofS a b).2 = 0) : Good (ofS a b).1.1 (ofS a b).1.2.1 (ofS a b).1.2.2 := by
  cases h1 : withinB a with
  | false => rw [of_far (.inl h1)] at h; cases h
  | true =>
    cases h2 : withinB b with
    | false => rw [of_far (.inr h2)] at h; cases h
    | true =>
      by_cases hle : a ≤ b
      · rw [(of_form h1 h2 hle).1]
        exact (of_form h1 h2 hle).2
      · rw [of_empty h1 h2 (by omega)]
        exact .inl ⟨rfl, rfl, rfl⟩
theorem by_good {lo hi st n : Int} (hg : Good lo hi st) (h : (byS lo hi st n).2 = 0) : Good (byS lo hi st n).1.1 (byS lo hi st n).1.2.1 (byS lo hi st n).1.2.2 := by
  by_cases h0 : n = 0
  · rw [by_zero hg h0] at h; cases h
  cases hw : withinB n with
  | false => rw [by_out hg h0 hw] at h; cases h
  | true =>
    rcases hg with ⟨rfl, rfl, rfl⟩ | ⟨a, d, c, hg⟩
    · rw [empty_by, if_neg h0, if_neg (by rw [hw]; decide)]
      exact .inl ⟨rfl, rfl, rfl⟩
    · exact (by_form hg hw h0).2
theorem ct_good {lo hi st n : Int} (hg : Good lo hi st) (h : (countS lo hi st n).2 = 0) : Good (countS lo hi st n).1.1 (countS lo hi st n).1.2.1 (countS lo hi st n).1.2.2 := by
  by_cases h0 : n = 0
  · rw [ct_zero hg h0]; exact .inl ⟨rfl, rfl, rfl⟩
  by_cases ho : n > sizeS lo hi st ∨ n < -sizeS lo hi st
  · rw [ct_out hg ho] at h; cases h
  · rcases hg with ⟨rfl, rfl, rfl⟩ | ⟨a, d, c, hg⟩
    · have : sizeS 1 0 1 = 0 := by decide
      omega
    · rw [hg.size] at ho
      exact (count_form hg (by omega) (by omega) h0).2
theorem span_good {op : Int} {vs : List (Option Tr)} {ss : List SP} (hs : (s0 ss).2 = true → Good (s0 ss).1.1 (s0 ss).1.2.1 (s0 ss).1.2.2) (h : (spanN op vs ss).2 = true) : Good (spanN op vs ss).1.1 (spanN op vs ss).1.2.1 (spanN op vs ss).1.2.2 := by
  unfold spanN at h ⊢
  split at h
  · rename_i h1
    rw [if_pos h1]
    split at h
    · cases h
    · rename_i h2
      rw [if_neg h2]
      exact of_good (by simpa [okSP] using h)
  · rename_i h1
    rw [if_neg h1]
    split at h
    · rename_i h2
      rw [if_pos h2]
      split at h
      · cases h
      · rename_i h3
        rw [if_neg h3]
        have hg := hs (by cases hq : (s0 ss).2 with | true => rfl | false => rw [hq] at h3; simp at h3)
        split at h
        · rename_i h4
          rw [if_pos h4]
          exact ct_good hg (by simpa [okSP] using h)
        · rename_i h4
          rw [if_neg h4]
          exact by_good hg (by simpa [okSP] using h)
    · cases h
theorem c108n (l : List (ByteArray × Tr)) (hl : COk l) (hK : KOk (kl l)) : ∀ n (t : Tr), t.size ≤ n → t.Ok → t.shaped = true →
    (∃ x : Tr × Bool, optR x = t.value (kl l) ∧ Pf Tryz.prog 108 [t.d, .sl (l.map cD)] (.tup [.d (x).1.d, .d (.bool (x).2)])) ∧ Pf Tryz.prog 192 [t.d, .sl (l.map cD)] (.tup [.d (.agg [.int .i64 (t.span (kl l)).1.1, .int .i64 (t.span (kl l)).1.2.1, .int .i64 (t.span (kl l)).1.2.2]), .d (.bool (t.span (kl l)).2)]) ∧ ((t.span (kl l)).2 = true → Good (t.span (kl l)).1.1 (t.span (kl l)).1.2.1 (t.span (kl l)).1.2.2) := by
  intro n
  induction n with
  | zero => intro t h; exact absurd t.size_pos (by omega)
  | succ n ih =>
    intro t hsz hok hsh
    obtain ⟨op, nm, num, ks⟩ := t
    have hkd : ∀ k ∈ ks, (∃ x : Tr × Bool, optR x = k.value (kl l) ∧ Pf Tryz.prog 108 [k.d, .sl (l.map cD)] (.tup [.d (x).1.d, .d (.bool (x).2)])) ∧ Pf Tryz.prog 192 [k.d, .sl (l.map cD)] (.tup [.d (.agg [.int .i64 (k.span (kl l)).1.1, .int .i64 (k.span (kl l)).1.2.1, .int .i64 (k.span (kl l)).1.2.2]), .d (.bool (k.span (kl l)).2)]) ∧ ((k.span (kl l)).2 = true → Good (k.span (kl l)).1.1 (k.span (kl l)).1.2.1 (k.span (kl l)).1.2.2) := fun k hk => by
      have h1 := Tr.size_mem hk
      rw [Tr.size] at hsz
      exact ih k (by omega) (Tr.kids_ok hok k hk) ((Tr.shaped_mk hsh).2 k hk)
    obtain ⟨f, hf⟩ : ∃ f : Tr → Tr × Bool, ∀ k ∈ ks, optR (f k) = k.value (kl l) ∧ Pf Tryz.prog 108 [k.d, .sl (l.map cD)] (.tup [.d ((f k)).1.d, .d (.bool ((f k)).2)]) := by
      classical
      refine ⟨fun k => if h : k ∈ ks then Classical.choose (hkd k h).1 else (z0, false), fun k hk => ?_⟩
      dsimp only
      rw [dif_pos hk]
      exact Classical.choose_spec (hkd k hk).1
    have hvs : Tr.values (kl l) ks = (ks.map f).map optR := by
      rw [values_get, List.map_map]
      exact List.map_congr_left fun k hk => (hf k hk).1.symm
    have hval : ∀ k ∈ ks, (f k).2 = true → ValOk (f k).1 := fun k hk h => by
      refine value_ok (kl l) hK _ k (Nat.le_refl _) (Tr.kids_ok hok k hk) ((Tr.shaped_mk hsh).2 k hk) _ ?_
      rw [← (hf k hk).1]
      unfold optR
      rw [if_pos h]
    have hx : ∀ i, (x0 (ks.map f) i).2 = true → ValOk (x0 (ks.map f) i).1 := fun i h => by
      unfold x0 at h ⊢
      rw [List.getD_eq_getElem?_getD, List.getElem?_map] at h ⊢
      cases hk : ks[i]? with
      | none => rw [hk] at h; cases h
      | some k =>
        rw [hk] at h
        exact hval k (List.mem_of_getElem? hk) h
    have hs0 : (s0 (Tr.spans (kl l) ks)).2 = true → Good (s0 (Tr.spans (kl l) ks)).1.1 (s0 (Tr.spans (kl l) ks)).1.2.1 (s0 (Tr.spans (kl l) ks)).1.2.2 := fun h => by
      cases ks with
      | nil => rw [Tr.spans] at h; cases h
      | cons k r => rw [Tr.spans] at h ⊢; exact (hkd k (by simp)).2.2 h
    rw [Tr.d_mk, Tr.span, Tr.value]
    refine ⟨⟨valNR l op nm num ks (ks.map f) (Tr.spans (kl l) ks), ?_, c108x l op nm num ks _ _ hl (fun h => ?_) (fun h => ?_) (fun h => ?_) (fun h => ?_)⟩, ?_, span_good hs0⟩
    · rw [valNR_eq _ _ _ _ _ _ _ hx, hvs]
    · obtain rfl := eq_of_beq h
      obtain ⟨k0, rfl⟩ := list1 (len5 hsh)
      exact ⟨k0, _, rfl, rfl, (hf k0 (by simp)).2⟩
    · obtain rfl := eq_of_beq h
      obtain ⟨k0, k1, rfl⟩ := list2 (len6 hsh)
      exact ⟨k0, k1, _, _, rfl, rfl, (hf k0 (by simp)).2, (hf k1 (by simp)).2⟩
    · obtain rfl := eq_of_beq h
      obtain ⟨k0, k1, k2, rfl⟩ := list3 (len19 hsh)
      exact ⟨k0, k1, k2, _, _, _, rfl, rfl, (hf k0 (by simp)).2, (hf k1 (by simp)).2, (hf k2 (by simp)).2, fun h1 h2 => (hval k0 (by simp) h1).num h2⟩
    · obtain rfl := eq_of_beq h
      obtain ⟨k0, rfl⟩ := list1 (len14 hsh)
      exact ⟨k0, _, rfl, rfl, (hkd k0 (by simp)).2.1, (hkd k0 (by simp)).2.2⟩
    · rw [hvs]
      refine c192x l op nm num ks (ks.map f) _ (fun h => ?_)
      rw [Bool.or_eq_true, Bool.or_eq_true, beq_iff_eq, beq_iff_eq, beq_iff_eq] at h
      have hlen : ks.length = 2 := by
        rcases h with (rfl | rfl) | rfl
        · exact len7 hsh
        · exact len8 hsh
        · exact len9 hsh
      obtain ⟨k0, k1, rfl⟩ := list2 hlen
      exact ⟨k0, k1, _, _, _, _, rfl, rfl, rfl, (hf k0 (by simp)).2, (hf k1 (by simp)).2, (hkd k0 (by simp)).2.1, (hkd k0 (by simp)).2.2⟩
theorem evalT_ok {t : Tr} (hok : t.Ok) {l : List (ByteArray × Tr)} (hc : COk l) : (evalT t l).1.Ok := by
  obtain ⟨op, nm, num, ks⟩ := t
  rw [evalT]
  split
  · exact z0_ok
  · rename_i h1
    split
    · exact z0_ok
    · split
      · exact z0_ok
      · rename_i h3
        have hK := kl_ok hc (by simpa using h3)
        split
        · exact z0_ok
        · rename_i v hv
          exact (value_ok (kl l) hK _ _ (Nat.le_refl _) hok (nodeE_shaped (by simpa using h1)) v hv).okT
theorem expr_ok : ∀ n (t : Tr), t.size ≤ n → t.Ok → t.expr.Ok := by
  intro n
  induction n with
  | zero => intro t h; exact absurd t.size_pos (by omega)
  | succ n ih =>
    intro t hsz hok
    obtain ⟨op, nm, num, ks⟩ := t
    rw [Tr.expr]
    split
    · exact hok
    · split
      · exact evalT_ok hok COk_nil
      · have hok' := hok
        cases hok' with | mk h1 h2 h3 h4 h5 =>
        rw [Tr.exprs_map]
        refine .mk h1 h2 h3 (by rw [List.length_map]; exact h4) fun k hk => ?_
        obtain ⟨y, hy, rfl⟩ := List.mem_map.1 hk
        have := Tr.size_mem hy
        rw [Tr.size] at hsz
        exact ih y (by omega) (h5 y hy)
def KOkT (l : KL) : Prop := ∀ x ∈ l, ∀ t, x.2 = some t → t.Ok
theorem KOkT.hide {l : KL} (h : KOkT l) (nm : ByteArray) : KOkT (hideK nm l) := fun x hx t ht => by
  rcases List.mem_cons.1 hx with rfl | hx
  · cases ht
  · exact h x hx t ht
theorem KOkT.hideV {l : KL} (h : KOkT l) (k : Tr) : KOkT (hideV k l) := by
  unfold Go.Proofs.YtklkbfpjimeaoaaGreat.hideV
  split
  · exact h.hide _
  · exact h
theorem KOkT.bind : ∀ (ks : List Tr) {l : KL}, KOkT l → KOkT (bindK ks l)
  | [], l, h => h
  | k :: r, l, h => by
    show KOkT (bindK r (hideK k.nm l))
    exact KOkT.bind r (h.hide _)
theorem findK_okT {nm : ByteArray} : ∀ {l : KL}, KOkT l → ∀ v, findK nm l = some v → v.Ok
  | [], _, v, h => by cases h
  | x :: r, hl, v, h => by
    rw [findK] at h
    split at h
    · exact hl x (by simp) v h
    · exact findK_okT (fun y hy => hl y (by simp [hy])) v h
theorem puts_okT (op num : Int) (all : List Tr) (l : KL) (hl : KOkT l) : ∀ (ks : List Tr) (i : Nat) (inner : KL), KOkT inner → (∀ k ∈ ks, k.Ok ∧ ∀ K, KOkT K → (k.put K).Ok) → ∀ y ∈ Tr.puts op num all l i inner ks, y.Ok := by
  intro ks
  induction ks with
  | nil => intro i inner _ _ y hy; rw [Tr.puts] at hy; cases hy
  | cons k r ih =>
    intro i inner hi hk y hy
    have h1 : (stepT op num all l i inner k).1.Ok ∧ KOkT (stepT op num all l i inner k).2 := by
      unfold stepT
      split
      · exact ⟨(hk k (by simp)).1, hi.hideV k⟩
      · split
        · exact ⟨(hk k (by simp)).2 _ (KOkT.bind _ hi), hl.hideV k⟩
        · exact ⟨(hk k (by simp)).2 _ hi, hi.hideV k⟩
    rw [puts_cons] at hy
    rcases List.mem_cons.1 hy with rfl | hy
    · exact h1.1
    · exact ih _ _ h1.2 (fun x hx => hk x (by simp [hx])) y hy
theorem put_okT : ∀ n (t : Tr), t.size ≤ n → t.Ok → ∀ K, KOkT K → (t.put K).Ok := by
  intro n
  induction n with
  | zero => intro t h; exact absurd t.size_pos (by omega)
  | succ n ih =>
    intro t hsz hok K hK
    obtain ⟨op, nm, num, ks⟩ := t
    rw [Tr.put]
    split
    · split
      · rename_i v hv; exact findK_okT hK v hv
      · exact hok
    · split
      · exact hok
      · have hok' := hok
        cases hok' with | mk h1 h2 h3 h4 h5 =>
        refine .mk h1 h2 h3 (by rw [puts_len]; exact h4) (puts_okT op num ks K hK ks 0 K hK fun k hk => ⟨h5 k hk, fun K' hK' => ih k (by have := Tr.size_mem hk; rw [Tr.size] at hsz; omega) (h5 k hk) K' hK'⟩)
theorem kl_okT {l : List (ByteArray × Tr)} (h : ∀ c ∈ l, c.2.Ok) : KOkT (kl l) := by
  intro x hx t ht
  unfold kl at hx
  rw [List.mem_reverse, List.mem_map] at hx
  obtain ⟨c, hc, rfl⟩ := hx
  injection ht with ht
  subst ht
  exact h c hc
set_option maxHeartbeats 8000000 in
theorem c33 (t : Tr) (hok : t.Ok) (hszb : t.size ≤ 1000000) (l : List (ByteArray × Tr)) (hl : COk l) : Pf Tryz.prog 33 [t.d, .sl (l.map cD)] (.tup [.d (evalT t l).1.d, .d (.int .i64 (evalT t l).2)]) := by
  obtain ⟨op, name, num, ks⟩ := t
  rw [Tr.d_mk]
  try simp only [Tr.op_mk, Tr.nm_mk, Tr.nu_mk, Tr.kids_mk]
  refine pf_body (rvs := [.cell 4 27, .tmp 5]) [(0, .d (.agg [.int .i64 op, .str name, .int .i64 num, .sl (ks.map Tr.d)])), (1, .d (.sl (l.map cD)))] Tryz.func33 Tryz.ntmps33 Tryz.results33 (fun S0 O0 w0 m0 hm0 => ?_)
  refine gS (gR ?_)
  refine sv rfl y_box ?_
  refine gF 0 [] (.agg [.int .i64 op, .str name, .int .i64 num, .sl (ks.map Tr.d)]) rfl ?_
  refine sv rfl (y_alloc zr27) ?_
  refine vq rfl qA ?_
  refine gN (tN (gS (gS (gR ?_))))
  refine vq rfl (qG (by exact sz27) u27 rfl) ?_
  refine gL (xs := [.tmp 9]) rfl ((Tr.d_mk op name num ks ▸ c25 (.mk op name num ks) hok (by omega))) ?_
  refine vq rfl qA ?_
  refine gN (tN (gS (gR ?_)))
  refine vq rfl qM ?_
  refine vq rfl q_neq ?_
  refine gN (tN ?_)
  refine gC (fun hb0 => ?_) (fun hb0 => ?_)
  ·
    refine gS (gR ?_)
    refine vq rfl (q_buildS pl27 zr27) ?_
    refine vq rfl qM ?_
    refine sa rfl (dS sz27) ?_
    refine vq rfl qA ?_
    refine gN (tN (gT (tR ?_)))
    refine fincd sz27 u27 (by simp) ?_
    exact ⟨by rw [evalT, if_pos hb0, z0, Tr.d_mk]; rfl, rfl⟩
  have hsh := nodeE_shaped (op := op) (name := name) (num := num) (ks := ks) (by simpa using hb0)
  refine gK (tN (gS (gS (gR ?_))))
  refine vq rfl (qF u27 rfl sz3) ?_
  refine vq rfl (qL u3) ?_
  refine gL (xs := [.tmp 16]) rfl (c81 op) ?_
  refine vq rfl q_not ?_
  refine gN (tN ?_)
  refine gC (fun hb1 => ?_) (fun hb1 => ?_)
  ·
    refine gS ?_
    refine gP [0, 1, 2, 4, 5, 6, 7, 8] ?_
    refine gR ?_
    refine vq rfl (q_buildS pl27 zr27) ?_
    refine sa rfl (dS sz27) ?_
    refine vq rfl qA ?_
    refine gN (tN (gT (tR ?_)))
    refine fincd sz27 u27 (by simp) ?_
    exact ⟨by rw [evalT, if_neg (by rw [hb0]; decide), if_pos hb1, z0, Tr.d_mk]; rfl, rfl⟩
  refine gK (tN (gS (gS ?_)))
  refine gP [0, 1, 2, 4, 5, 6, 7, 8] ?_
  refine gR ?_
  refine vq rfl qM ?_
  refine gL (xs := [.tmp 20]) rfl (c107 l hl) ?_
  refine vq rfl q_not ?_
  refine gN (tN ?_)
  refine gC (fun hb2 => ?_) (fun hb2 => ?_)
  ·
    refine gS (gR ?_)
    refine vq rfl (q_buildS pl27 zr27) ?_
    refine sa rfl (dS sz27) ?_
    refine vq rfl qA ?_
    refine gN (tN (gT (tR ?_)))
    refine fincd sz27 u27 (by simp) ?_
    exact ⟨by rw [evalT, if_neg (by rw [hb0]; decide), if_neg (by rw [hb1]; decide), if_pos hb2, z0, Tr.d_mk]; rfl, rfl⟩
  have hkl := kl_ok hl (by simpa using hb2)
  obtain ⟨⟨x, hxv, q0⟩, _, _⟩ := c108n l hl hkl _ (.mk op name num ks) (Nat.le_refl _) hok hsh
  obtain ⟨⟨xop, xnm, xnu, xks⟩, xb⟩ := x
  dsimp only at q0
  rw [Tr.d_mk, Tr.d_mk] at q0
  refine gK (tN (gS (gR ?_)))
  refine vq rfl (qG (by exact sz27) u27 rfl) ?_
  refine vq rfl qM ?_
  refine gL (xs := [.tmp 25, .tmp 26]) rfl (q0) ?_
  refine vq rfl qM ?_
  refine vq rfl qE ?_
  refine vq rfl qE ?_
  refine sv rfl (y_alloc zr27) ?_
  refine sa rfl (dS sz27) ?_
  refine vq rfl qA ?_
  refine gN (tN (gS (gS ?_)))
  refine gP [0, 1, 2, 4, 5, 6, 7, 8] ?_
  refine gR ?_
  refine vq rfl qM ?_
  refine vq rfl q_not ?_
  refine gN (tN ?_)
  refine gC (fun hb3 => ?_) (fun hb3 => ?_)
  ·
    have hv : (Tr.mk op name num ks).value (kl l) = none := by rw [← hxv, show xb = false from by simpa using hb3]; rfl
    refine gS (gR ?_)
    refine vq rfl (q_buildS pl27 zr27) ?_
    refine sa rfl (dS sz27) ?_
    refine vq rfl qA ?_
    refine gN (tN (gT (tR ?_)))
    refine fincd sz27 u27 (by simp) ?_
    exact ⟨by rw [evalT, if_neg (by rw [hb0]; decide), if_neg (by rw [hb1]; decide), if_neg (by rw [hb2]; decide), hv, z0, Tr.d_mk]; rfl, rfl⟩
  have hv : (Tr.mk op name num ks).value (kl l) = some (.mk xop xnm xnu xks) := by rw [← hxv, show xb = true from by simpa using hb3]; rfl
  have hvo := value_ok (kl l) hkl _ _ (Nat.le_refl _) hok hsh _ hv
  refine gK (tN (gS (gR ?_)))
  refine sv rfl (y_load_agg sz27 u27 rfl) ?_
  refine gL (xs := [.tmp 33]) rfl ((Tr.d_mk xop xnm xnu xks ▸ c109n _ (.mk xop xnm xnu xks) (Nat.le_refl _) hvo.lens)) ?_
  refine sa rfl (dS sz27) ?_
  refine vq rfl qA ?_
  refine gN (tN (gT ?_))
  refine fincd sz27 u27 (by simp) ?_
  exact ⟨by rw [evalT, if_neg (by rw [hb0]; decide), if_neg (by rw [hb1]; decide), if_neg (by rw [hb2]; decide), hv]; dsimp only; rw [Tr.d_mk], rfl⟩
set_option maxHeartbeats 1000000 in
theorem c34 (t : Tr) (hok : t.Ok) (hszb : t.size ≤ 1000000) (l : List (ByteArray × Tr)) (hl : COk l) : Pf Tryz.prog 34 [t.d, .sl (l.map cD)] (.d (.bool ((evalT t l).2 == 0))) := by
  obtain ⟨op, name, num, ks⟩ := t
  rw [Tr.d_mk]
  try simp only [Tr.op_mk, Tr.nm_mk, Tr.nu_mk, Tr.kids_mk]
  refine pf_body (rvs := [.tmp 4]) [(0, .d (.agg [.int .i64 op, .str name, .int .i64 num, .sl (ks.map Tr.d)])), (1, .d (.sl (l.map cD)))] Tryz.func34 Tryz.ntmps34 Tryz.results34 (fun S0 O0 w0 m0 hm0 => ?_)
  refine gS (gR ?_)
  refine sv rfl y_box ?_
  refine gF 0 [] (.agg [.int .i64 op, .str name, .int .i64 num, .sl (ks.map Tr.d)]) rfl ?_
  refine vq rfl qA ?_
  refine gN (tN (gS (gR ?_)))
  have hE := (evalT (.mk op name num ks) l).1.d_eta
  refine vq rfl (qG (by exact sz27) u27 rfl) ?_
  refine vq rfl qM ?_
  refine gL (xs := [.tmp 8, .tmp 9]) rfl ((hE ▸ Tr.d_mk op name num ks ▸ c29 (.mk op name num ks) hok hszb l hl)) ?_
  refine vq rfl qM ?_
  refine vq rfl qE ?_
  refine vq rfl qE ?_
  refine sv rfl (y_alloc zr27) ?_
  refine sa rfl (dS sz27) ?_
  refine vq rfl qA ?_
  refine gN (tN (gS (gR ?_)))
  refine vq rfl qM ?_
  refine vq rfl q_eql ?_
  refine vq rfl qA ?_
  refine gN (tN (gT ?_))
  refine fin1 (by simp) ?_
  exact ⟨rfl, rfl⟩
set_option maxHeartbeats 1000000 in
theorem c35 (t : Tr) (hok : t.Ok) (hszb : t.size ≤ 1000000) (l : List (ByteArray × Tr)) (hl : COk l) : Pf Tryz.prog 35 [t.d, .sl (l.map cD)] (.d (.bool ((evalT t l).2 == 0))) := by
  obtain ⟨op, name, num, ks⟩ := t
  rw [Tr.d_mk]
  try simp only [Tr.op_mk, Tr.nm_mk, Tr.nu_mk, Tr.kids_mk]
  refine pf_body (rvs := [.tmp 4]) [(0, .d (.agg [.int .i64 op, .str name, .int .i64 num, .sl (ks.map Tr.d)])), (1, .d (.sl (l.map cD)))] Tryz.func35 Tryz.ntmps35 Tryz.results35 (fun S0 O0 w0 m0 hm0 => ?_)
  refine gS (gR ?_)
  refine sv rfl y_box ?_
  refine gF 0 [] (.agg [.int .i64 op, .str name, .int .i64 num, .sl (ks.map Tr.d)]) rfl ?_
  refine vq rfl qA ?_
  refine gN (tN (gS (gR ?_)))
  have hE := (evalT (.mk op name num ks) l).1.d_eta
  refine vq rfl (qG (by exact sz27) u27 rfl) ?_
  refine vq rfl qM ?_
  refine gL (xs := [.tmp 8, .tmp 9]) rfl ((hE ▸ Tr.d_mk op name num ks ▸ c33 (.mk op name num ks) hok hszb l hl)) ?_
  refine vq rfl qM ?_
  refine vq rfl qE ?_
  refine vq rfl qE ?_
  refine sv rfl (y_alloc zr27) ?_
  refine sa rfl (dS sz27) ?_
  refine vq rfl qA ?_
  refine gN (tN (gS (gR ?_)))
  refine vq rfl qM ?_
  refine vq rfl q_eql ?_
  refine vq rfl qA ?_
  refine gN (tN (gT ?_))
  refine fin1 (by simp) ?_
  exact ⟨rfl, rfl⟩
set_option maxHeartbeats 8000000 in
theorem c38n : ∀ (n : Nat) (t : Tr), t.size ≤ n → t.Ok → t.size ≤ 1000000 → Pf Tryz.prog 38 [t.d] (.d t.expr.d) := by
  intro n
  induction n with
  | zero => intro t h; exact absurd t.size_pos (by omega)
  | succ n ih =>
    intro t hsz hok hszb
    obtain ⟨op, name, num, ks⟩ := t
    have hkd : ∀ k ∈ ks, k.size ≤ n := fun k hk => by
      have := Tr.size_mem hk
      rw [Tr.size] at hsz
      omega
    rw [Tr.d_mk]
    have hok' := hok
    have hlen := Tr.lens_of _ _ (Nat.le_refl _) hszb
    have hln := Tr.len_sizes ks
    have hss : (Tr.mk op name num ks).size = 1 + Tr.sizes ks := by rw [Tr.size]
    cases hok' with | mk h1 h2 h3 h4 h5 =>
    have hok' := hok
    refine pf_body (rvs := [.cell 2 27]) [(0, .d (.agg [.int .i64 op, .str name, .int .i64 num, .sl (ks.map Tr.d)]))] Tryz.func38 Tryz.ntmps38 Tryz.results38 (fun S0 O0 w0 m0 hm0 => ?_)
    refine gS (gR ?_)
    refine sv rfl y_box ?_
    refine gF 0 [] (.agg [.int .i64 op, .str name, .int .i64 num, .sl (ks.map Tr.d)]) rfl ?_
    refine sv rfl (y_alloc zr27) ?_
    refine gN (tN (gS (gS (gR ?_))))
    refine vq rfl (qF u27 rfl sz3) ?_
    refine vq rfl (qL u3) ?_
    refine gL (xs := [.tmp 8]) rfl (c81 op) ?_
    refine vq rfl q_not ?_
    refine gN (tN ?_)
    refine gC (fun hb0 => ?_) (fun hb0 => ?_)
    ·
      refine gS (gR ?_)
      refine vq rfl (qG (by exact sz27) u27 rfl) ?_
      refine gL (xs := [.tmp 11]) rfl ((Tr.d_mk op name num ks ▸ c109n _ (.mk op name num ks) (Nat.le_refl _) hlen)) ?_
      refine sa rfl (dS sz27) ?_
      refine gN (tN (gT (tR ?_)))
      refine findc sz27 u27 (by simp) ?_
      exact ⟨by rw [Tr.expr, if_pos hb0, Tr.d_mk], rfl⟩
    refine gK (tN (gS (gS (gR ?_))))
    obtain ⟨vop, vnm, vnu, vks, hva⟩ := (evalT (.mk op name num ks) []).1.d_agg
    refine vq rfl (qG (by exact sz27) u27 rfl) ?_
    refine gL (xs := [.tmp 14, .const (.slice none 0 0)]) rfl ((hva ▸ (Tr.d_mk op name num ks ▸ c33 (.mk op name num ks) hok' hszb [] COk_nil))) ?_
    refine vq rfl qM ?_
    refine vq rfl qE ?_
    refine vq rfl qE ?_
    refine sv rfl (y_alloc zr27) ?_
    refine sa rfl (dS sz27) ?_
    refine vq rfl qA ?_
    refine gN (tN (gS ?_))
    refine gP [0, 1, 2, 3, 4, 5, 6] ?_
    refine gR ?_
    refine vq rfl qM ?_
    refine vq rfl q_eql ?_
    refine gN (tN ?_)
    refine gC (fun hb1 => ?_) (fun hb1 => ?_)
    ·
      refine gS (gR ?_)
      refine sv rfl (y_load_agg sz27 u27 rfl) ?_
      refine sa rfl (dS sz27) ?_
      refine gN (tN (gT (tR ?_)))
      refine findc sz27 u27 (by simp) ?_
      exact ⟨by rw [Tr.expr, if_neg (by rw [hb0]; decide), if_pos hb1, hva], rfl⟩
    refine gK (tN (gS (gR ?_)))
    refine gF 1 [[.d (.int .i64 0), .d (.str ⟨#[]⟩), .d (.int .i64 0), .nils]] (.agg [.int .i64 vop, .str vnm, .int .i64 vnu, .sl (vks.map Tr.d)]) rfl ?_
    refine vq rfl (qF u27 rfl sz3) ?_
    refine vq rfl (qL u3) ?_
    refine vq rfl (qF u27 rfl sz9) ?_
    refine vq rfl (qL u9) ?_
    refine vq rfl (qF u27 rfl sz3) ?_
    refine vq rfl (qL u3) ?_
    refine vq rfl ((q_buildP pl27 zr27)) ?_
    refine sv rfl (y_alloc zr27) ?_
    refine sa rfl (dS sz27) ?_
    refine gN (tN (gS (gS (gR ?_))))
    refine vq rfl qA ?_
    refine gN (tN (G_block ?_))
    refine g_loop (α := Nat) (fun z => ⟨[(6, .d (.int .i64 (z : Nat))), (1, .d (.ptr (.agg [.int .i64 op, .str name, .int .i64 num, .sl (ks.map Tr.d)]))), (5, .ref 1 0), (2, .ref 0 0)], [[.d (.int .i64 0), .d (.str ⟨#[]⟩), .d (.int .i64 0), .nils], [.d (.int .i64 op), .d (.str name), .d (.int .i64 num), .osl 4 (((ks.take z).map Tr.expr).map Tr.d)]]⟩) (fun z => ks.length - z) (fun z => z ≤ ks.length) 0 (Nat.zero_le _) (fun z hz Q' hn0 he0 hr0 => ?_) (le_of)
    have hll : ((ks.take z).map Tr.expr).length = z := by rw [List.length_map, List.length_take]; omega
    refine gS (gS (gR ?_))
    refine vq rfl qM ?_
    refine vq rfl (qF u27 rfl sz22) ?_
    refine vq rfl (qL u22) ?_
    refine vq rfl (q_len u22) ?_
    refine vq rfl q_lss ?_
    refine gN (tN ?_)
    refine gC (fun hb2 => ?_) (fun hb2 => ?_)
    ·
      have hlt : z < ks.length := by simpa using hb2
      obtain ⟨k, hk⟩ : ∃ k, ks[z]? = some k := ⟨_, List.getElem?_eq_getElem (by omega)⟩
      have hmem := List.mem_of_getElem? hk
      have hxd := Tr.ds_get hk
      have hxa := hxd
      obtain ⟨kop, knm, knu, kks, hka⟩ := k.d_agg
      rw [hka] at hxa
      have hE := k.expr.d_eta
      refine gK (tN (gS (G_block ?_)))
      refine g_ck [(1, 9), (9, 11)] [35, 36, 37, 38, 39, 40, 41, 42, 43, 44, 45] (fun bq => [[.d (.int .i64 0), .d (.str ⟨#[]⟩), .d (.int .i64 0), .nils], cond (bq 11) [.d (.int .i64 op), .d (.str name), .d (.int .i64 num), .osl 4 (((ks.take z).map Tr.expr).map Tr.d ++ [.agg [.int .i64 k.expr.op, .str k.expr.nm, .int .i64 k.expr.nu, .sl (k.expr.kids.map Tr.d)]])] (cond (bq 1) [.d (.int .i64 op), .d (.str name), .d (.int .i64 num), .d (.sl (((ks.take z).map Tr.expr).map Tr.d))] [.d (.int .i64 op), .d (.str name), .d (.int .i64 num), .osl 4 (((ks.take z).map Tr.expr).map Tr.d)])]) rfl ?_
      refine ck_pre [] ?_
      refine ck_st 1 (fun bq rest hc1 hc2 hc3 => sv rfl (y_fieldAt 3 u27 rfl sz22) (gN ⟨rfl, rfl⟩)) ?_
      refine ck_pre [0] ?_
      refine ck_st 2 (fun bq rest hc1 hc2 hc3 => by
          have h9 := hc3.no 9 1 hc1
          have h11 := hc3.no 11 9 h9
          have e1 : upd bq 1 1 = true := rfl
          have e2 : upd bq 1 11 = false := h11
          simp only [hc1, h11, cond_false]
          refine sv rfl (y_load_take u22) ?_
          exact (gN ⟨rfl, by rw [e1, e2]; rfl⟩)) ?_
      refine ck_pre [] ?_
      refine ck_st 3 (fun bq rest hc1 hc2 hc3 => vq rfl (qF u27 rfl sz22) (gN ⟨rfl, rfl⟩)) ?_
      refine ck_pre [2] ?_
      refine ck_st 4 (fun bq rest hc1 hc2 hc3 => vq rfl (qL u22) (gN ⟨rfl, rfl⟩)) ?_
      refine ck_pre [] ?_
      refine ck_st 5 (fun bq rest hc1 hc2 hc3 => vq rfl qM (gN ⟨rfl, rfl⟩)) ?_
      refine ck_pre [3, 4] ?_
      refine ck_st 6 (fun bq rest hc1 hc2 hc3 => vq rfl (qI u22 sz27) (gN ⟨rfl, rfl⟩)) ?_
      refine ck_pre [5] ?_
      refine ck_st 7 (fun bq rest hc1 hc2 hc3 => vq rfl (qG (by exact sz27) u27 rfl) (gN ⟨rfl, rfl⟩)) ?_
      refine ck_pre [6] ?_
      refine ck_st 8 (fun bq rest hc1 hc2 hc3 => gL (xs := [.tmp 41]) rfl ((hE ▸ hka ▸ ih k (hkd k hmem) (h5 k hmem) (by have := Tr.size_mem hmem; omega))) (gN ⟨rfl, rfl⟩)) ?_
      refine ck_pre [7] ?_
      refine ck_st 9 (fun bq rest hc1 hc2 hc3 => sv rfl (y_buildSlice (xs := [.tmp 42]) u22 inf27) (gN ⟨rfl, rfl⟩)) ?_
      refine ck_pre [1, 8, 7] ?_
      refine ck_tk 10 36 (fun bq rest hc1 hc2 hc3 => sv rfl (y_append u22 inf27 (hk := by first | exact Tr.ds_cells _ | (intro x hx; simp at hx; subst hx; simp [D.cells])) (hlen := by simp [lim]; omega) (hB := by simp [lim]; omega)) (gN ⟨rfl, rfl⟩)) ?_
      refine ck_pre [0, 2, 3, 4, 5, 6, 7, 8] ?_
      refine ck_st 11 (fun bq rest hc1 hc2 hc3 => sv rfl (y_fieldAt 3 u27 rfl sz22) (gN ⟨rfl, rfl⟩)) ?_
      refine ck_pre [10, 9, 9, 0, 2, 3, 4, 5, 6, 7, 8, 9] ?_
      refine ck_atk 12 44 (fun bq rest hc1 hc2 hc3 => by
          have h9 := hc2 9 dep_in
          have h1 := hc3 9 h9 1 dep_in
          have e1 : upd bq 11 11 = true := rfl
          simp only [hc1, h1, cond_true, cond_false]
          refine sa rfl (d_store_take sz22) ?_
          exact (gN ⟨rfl, by rw [e1]; rfl⟩)) ?_
      refine ck_done (mem'' := [[.d (.int .i64 0), .d (.str ⟨#[]⟩), .d (.int .i64 0), .nils], [.d (.int .i64 op), .d (.str name), .d (.int .i64 num), .osl 4 (((ks.take z).map Tr.expr).map Tr.d ++ [.agg [.int .i64 k.expr.op, .str k.expr.nm, .int .i64 k.expr.nu, .sl (k.expr.kids.map Tr.d)]])]]) ?_
      refine bN (tN ?_)
      refine gP [0, 1, 2, 3, 4, 5, 6] ?_
      refine gR ?_
      rw [← hE, take_map Tr.expr hk]
      refine vq rfl qM ?_
      refine vq rfl q_add ?_
      refine vq rfl qA ?_
      refine gN ?_
      refine hn0 _ (z + 1) (by omega) (by omega) le_of
    have hge : z = ks.length := by
      have : ¬ (z : Int) < ((ks.map Tr.d).length : Nat) := by simpa using hb2
      rw [List.length_map] at this
      omega
    refine G_exit (thn_exit ?_)
    refine he0 _ _ ?_
    refine blk_exit (tN (gS (gR ?_)))
    rw [hge, List.take_length]
    refine sv rfl (y_load_agg sz27 u27 rfl) ?_
    refine sa rfl (dS sz27) ?_
    refine gN (tN (gT ?_))
    refine findc sz27 u27 (by simp) ?_
    exact ⟨by rw [Tr.expr, if_neg (by rw [hb0]; decide), if_neg (by rw [hb1]; decide), Tr.d_mk, Tr.exprs_map], rfl⟩
end Go.Proofs.YtklkbfpjimeaoaaGreat
namespace Go.Proofs.YtklkbfpjimeaoaaGreat
open Go Go.Proofs.YtklkbfpjimeaoaaGreat.E
set_option maxHeartbeats 16000000 in
theorem c6 (op num : Int) (name : ByteArray) (ks : List Tr) (hok : (Tr.mk op name num ks).Ok) (l : List (ByteArray × Tr)) (hl : ∀ c ∈ l, c.2.Ok) (hlb : l.length * 72 ≤ 140737488351232) : Pf Tryz.prog 6 [.agg [.int .i64 op, .str name, .int .i64 num, .sl (ks.map Tr.d)], .sl (l.map cD)] (.d (.bool true)) := by
  refine pf_body (rvs := [.tmp 4]) [(0, .d (.agg [.int .i64 op, .str name, .int .i64 num, .sl (ks.map Tr.d)])), (1, .d (.sl (l.map cD)))] Tryz.func6 Tryz.ntmps6 Tryz.results6 (fun S0 O0 w0 m0 hm0 => ?_)
  refine gS (gR ?_)
  refine sv rfl y_box ?_
  refine gF 0 [] (.agg [.int .i64 op, .str name, .int .i64 num, .sl (ks.map Tr.d)]) rfl ?_
  refine vq rfl qA ?_
  refine gN (tN (gS (gS (gR ?_))))
  have h26 := c26 (Tr.mk op name num ks) 200 hok (by decide) (by decide)
  rw [Tr.d_mk] at h26
  refine vq rfl (qG (by exact sz27) u27 rfl) ?_
  refine gL (xs := [.tmp 9, .const (.int .i64 (200))]) rfl (h26) ?_
  refine vq rfl q_not ?_
  refine vq rfl qM ?_
  refine sg rfl (fun hg => qM) ?_
  refine g_callg (xs := [.tmp 13]) rfl (fun hg => c31 l hl (by omega)) ?_
  refine sg rfl (fun hg => sP 14 rfl hg q_not) ?_
  refine vq rfl q_or ?_
  refine gN (tN ?_)
  refine gC (fun hb0 => ?_) (fun hb0 => ?_)
  ·
    refine gS (gR ?_)
    refine gL (xs := []) rfl (c27) ?_
    refine vq rfl qA ?_
    refine gN (tN (gT (tR ?_)))
    refine fin1 (by simp) ?_
    exact ⟨by first | rfl | simp, rfl⟩
  have hgd : (Tr.mk op name num ks).few 200 = true ∧ fewL l = true := by simpa using hb0
  obtain ⟨hfw, hfl⟩ := hgd
  have hs := (Tr.few_size (by decide) hfw).1
  have hfo := fewL_ok hfl
  have hcl := hfo.1
  have hco : COk l := ⟨by omega, fun c hc => ⟨hl c hc, by have := hfo.2 c hc; omega⟩⟩
  have hlen := Tr.lens_of _ _ (Nat.le_refl _) (show (Tr.mk op name num ks).size ≤ 1000000 by omega)
  have hcn : CLens l := ⟨by omega, fun c hc => Tr.lens_of _ _ (Nat.le_refl _) (by have := hfo.2 c hc; omega)⟩
  have q32 := c32 l (by omega)
  have q29 := c29 (Tr.mk op name num ks) hok (by omega) l hco
  have q33 := c33 (Tr.mk op name num ks) hok (by omega) l hco
  have q34 := c34 (Tr.mk op name num ks) hok (by omega) l hco
  have q35 := c35 (Tr.mk op name num ks) hok (by omega) l hco
  have q36 := c36 (Tr.mk op name num ks) hlen l hco
  have q37 := c37n _ (Tr.mk op name num ks) (Nat.le_refl _) hlen l (kl l) hcn (agree_kl l)
  have q28 := c28n _ (Tr.mk op name num ks) (Nat.le_refl _) hok (by omega)
  have q38 := c38n _ (Tr.mk op name num ks) (Nat.le_refl _) hok (by omega)
  have r1 := c30n _ (evalT (Tr.mk op name num ks) l).1 (Nat.le_refl _) (evalT_ok hok hco)
  have r2 := c30n _ ((Tr.mk op name num ks).put (kl l)) (Nat.le_refl _) (put_okT _ _ (Nat.le_refl _) hok _ (kl_okT hl))
  have r3 := c30n _ (Tr.mk op name num ks).expr (Nat.le_refl _) (expr_ok _ _ (Nat.le_refl _) hok)
  rw [(evalT (Tr.mk op name num ks) l).1.d_eta] at q29 q33 r1
  rw [Tr.d_mk] at q29 q33 q34 q35 q36 q37 q28 q38
  generalize (evalT (Tr.mk op name num ks) l).1.op = vop at q29 q33 r1
  generalize (evalT (Tr.mk op name num ks) l).1.nm = vnm at q29 q33 r1
  generalize (evalT (Tr.mk op name num ks) l).1.nu = vnu at q29 q33 r1
  generalize (evalT (Tr.mk op name num ks) l).1.kids = vks at q29 q33 r1
  generalize ((Tr.mk op name num ks).put (kl l)).d = pd at q36 q37 r2
  generalize (Tr.mk op name num ks).expr.d = xd at q28 q38 r3
  generalize (evalT (Tr.mk op name num ks) l).2 = ea at q29 q33 q34 q35
  refine gK (tN (gS ?_))
  refine g_cg [19, 20, 21, 22, 18, 23, 24, 5, 6] (fun bq => cond (bq 7) ([] ++ [cond (bq 8) [.d (.int .i64 vop), .d (.str vnm), .d (.int .i64 vnu), .d (.sl (vks.map Tr.d))] [.d (.int .i64 0), .d (.str ⟨#[]⟩), .d (.int .i64 0), .nils]]) []) rfl ?_
  refine cP [] ?_
  refine cS 1 (fun bq rest hc1 hc2 hc3 => vq rfl (qG (by exact sz27) u27 rfl) (gN ⟨rfl, rfl⟩)) ?_
  refine cP [] ?_
  refine cS 2 (fun bq rest hc1 hc2 hc3 => vq rfl qM (gN ⟨rfl, rfl⟩)) ?_
  refine cP [1] ?_
  refine cS 3 (fun bq rest hc1 hc2 hc3 => gL (xs := [.tmp 20]) rfl (q32) (gN ⟨rfl, rfl⟩)) ?_
  refine cP [0, 2, 2] ?_
  refine cS 4 (fun bq rest hc1 hc2 hc3 => gL (xs := [.tmp 19, .tmp 21]) rfl (q29) (gN ⟨rfl, rfl⟩)) ?_
  refine cP [3] ?_
  refine cS 5 (fun bq rest hc1 hc2 hc3 => vq rfl qM (gN ⟨rfl, rfl⟩)) ?_
  refine cP [4] ?_
  refine cS 6 (fun bq rest hc1 hc2 hc3 => vq rfl qE (gN ⟨rfl, rfl⟩)) ?_
  refine cP [4] ?_
  refine cS 7 (fun bq rest hc1 hc2 hc3 => vq rfl qE (gN ⟨rfl, rfl⟩)) ?_
  refine cP [] ?_
  refine cS 8 (fun bq rest hc1 hc2 hc3 => by
      have hs := hc3.no 8 7 hc1
      have e1 : upd bq 7 7 = true := rfl
      have e2 : upd bq 7 8 = false := hs
      simp only [hc1, cond_false]
      refine sv rfl (y_alloc zr27) ?_
      exact (gN ⟨rfl, by rw [e1, e2]; rfl⟩)) ?_
  refine cP [7, 5, 3, 0, 1, 2, 3, 4, 5, 7] ?_
  refine cg_act 9 (fun bq rest hc1 hc2 hc3 => by
      have ha := hc2 7 dep_in
      have e1 : upd bq 8 7 = true := ha
      have e2 : upd bq 8 8 = true := rfl
      simp only [ha, hc1, cond_true, cond_false]
      refine sa rfl (dS sz27) ?_
      exact (gN ⟨rfl, by rw [e1, e2]; rfl⟩)) ?_
  refine cP [6, 8, 0, 1, 2, 3, 4, 5, 6, 7, 8] ?_
  refine cS 10 (fun bq rest hc1 hc2 hc3 => vq rfl qA (gN ⟨rfl, rfl⟩)) ?_
  refine cg_done (mem'' := [[.d (.int .i64 vop), .d (.str vnm), .d (.int .i64 vnu), .d (.sl (vks.map Tr.d))]]) ?_
  refine tN (gS ?_)
  refine gP [0, 1, 2, 4, 5, 6, 7, 8] ?_
  refine gR ?_
  refine gF 0 [] (.agg [.int .i64 vop, .str vnm, .int .i64 vnu, .sl (vks.map Tr.d)]) rfl ?_
  refine vq rfl (qG (by exact sz27) u27 rfl) ?_
  refine vq rfl qM ?_
  refine gL (xs := [.tmp 26, .tmp 27]) rfl (q33) ?_
  refine vq rfl qM ?_
  refine vq rfl qE ?_
  refine vq rfl qE ?_
  refine sv rfl (y_alloc zr27) ?_
  refine sa rfl (dS sz27) ?_
  refine gF 0 [] (.agg [.int .i64 vop, .str vnm, .int .i64 vnu, .sl (vks.map Tr.d)]) rfl ?_
  refine vq rfl qA ?_
  refine gN (tN (gS (gS ?_)))
  refine g_cg0 [31, 32, 33, 34, 35, 36, 37, 38, 39, 40, 41, 42, 43, 44, 45, 46, 47, 48, 49] ?_
  refine cP [] ?_
  refine cS 1 (fun bq rest hc1 hc2 hc3 => vq rfl (qG (by exact sz27) u27 rfl) (gN ⟨rfl, rfl⟩)) ?_
  refine cP [] ?_
  refine cS 2 (fun bq rest hc1 hc2 hc3 => vq rfl (qG (by exact sz27) u27 rfl) (gN ⟨rfl, rfl⟩)) ?_
  refine cP [0, 1] ?_
  refine cS 3 (fun bq rest hc1 hc2 hc3 => gL (xs := [.tmp 31, .tmp 32]) rfl (r1) (gN ⟨rfl, rfl⟩)) ?_
  refine cP [2] ?_
  refine cS 4 (fun bq rest hc1 hc2 hc3 => vq rfl q_not (gN ⟨rfl, rfl⟩)) ?_
  refine cP [3, 2] ?_
  refine cS 5 (fun bq rest hc1 hc2 hc3 => vq rfl qM (gN ⟨rfl, rfl⟩)) ?_
  refine cP [4] ?_
  refine cS 6 (fun bq rest hc1 hc2 hc3 => sg rfl (fun hg => qM) (gN ⟨rfl, rfl⟩)) ?_
  refine cP [4] ?_
  refine cS 7 (fun bq rest hc1 hc2 hc3 => sg rfl (fun hg => qM) (gN ⟨rfl, rfl⟩)) ?_
  refine cP [5, 6, 4] ?_
  refine cS 8 (fun bq rest hc1 hc2 hc3 => sg rfl (fun hg => sP 37 rfl hg (sP 36 rfl hg q_neq)) (gN ⟨rfl, rfl⟩)) ?_
  refine cP [4, 7] ?_
  refine cS 9 (fun bq rest hc1 hc2 hc3 => vq rfl q_or (gN ⟨rfl, rfl⟩)) ?_
  refine cP [8, 4] ?_
  refine cS 10 (fun bq rest hc1 hc2 hc3 => vq rfl qM (gN ⟨rfl, rfl⟩)) ?_
  refine cP [9] ?_
  refine cS 11 (fun bq rest hc1 hc2 hc3 => sg rfl (fun hg => qG (by exact sz27) u27 rfl) (gN ⟨rfl, rfl⟩)) ?_
  refine cP [9] ?_
  refine cS 12 (fun bq rest hc1 hc2 hc3 => sg rfl (fun hg => qM) (gN ⟨rfl, rfl⟩)) ?_
  refine cP [11, 9, 9] ?_
  refine cS 13 (fun bq rest hc1 hc2 hc3 => g_callg (xs := [.tmp 42]) rfl (fun hg => q32) (gN ⟨rfl, rfl⟩)) ?_
  refine cP [10, 12, 12, 9] ?_
  refine cS 14 (fun bq rest hc1 hc2 hc3 => g_callg (xs := [.tmp 41, .tmp 43]) rfl (fun hg => q34) (gN ⟨rfl, rfl⟩)) ?_
  refine cP [9] ?_
  refine cS 15 (fun bq rest hc1 hc2 hc3 => sg rfl (fun hg => qG (by exact sz27) u27 rfl) (gN ⟨rfl, rfl⟩)) ?_
  refine cP [9] ?_
  refine cS 16 (fun bq rest hc1 hc2 hc3 => sg rfl (fun hg => qM) (gN ⟨rfl, rfl⟩)) ?_
  refine cP [14, 15, 13, 9] ?_
  refine cS 17 (fun bq rest hc1 hc2 hc3 => g_callg (xs := [.tmp 45, .tmp 46]) rfl (fun hg => q35) (gN ⟨rfl, rfl⟩)) ?_
  refine cP [13, 16, 9] ?_
  refine cS 18 (fun bq rest hc1 hc2 hc3 => sg rfl (fun hg => sP 47 rfl hg (sP 44 rfl hg (q_boolne u4))) (gN ⟨rfl, rfl⟩)) ?_
  refine cP [9, 17] ?_
  refine cS 19 (fun bq rest hc1 hc2 hc3 => vq rfl q_or (gN ⟨rfl, rfl⟩)) ?_
  refine cg_done ?_
  refine tN ?_
  refine gC (fun hb1 => ?_) (fun hb1 => ?_)
  ·
    exfalso
    simp at hb1
  refine gK (tN (gS ?_))
  refine gP [0, 1, 2, 4, 5, 6, 7, 8] ?_
  refine g_cg0 [50, 51, 52, 53, 54, 55, 56, 57, 58, 59, 60, 61, 62, 63, 64, 65, 66, 67, 4] ?_
  refine cP [] ?_
  refine cS 1 (fun bq rest hc1 hc2 hc3 => vq rfl (qG (by exact sz27) u27 rfl) (gN ⟨rfl, rfl⟩)) ?_
  refine cP [] ?_
  refine cS 2 (fun bq rest hc1 hc2 hc3 => vq rfl qM (gN ⟨rfl, rfl⟩)) ?_
  refine cP [1] ?_
  refine cS 3 (fun bq rest hc1 hc2 hc3 => gL (xs := [.tmp 51]) rfl (q32) (gN ⟨rfl, rfl⟩)) ?_
  refine cP [0, 2, 2] ?_
  refine cS 4 (fun bq rest hc1 hc2 hc3 => gL (xs := [.tmp 50, .tmp 52]) rfl (q36) (gN ⟨rfl, rfl⟩)) ?_
  refine cP [] ?_
  refine cS 5 (fun bq rest hc1 hc2 hc3 => vq rfl (qG (by exact sz27) u27 rfl) (gN ⟨rfl, rfl⟩)) ?_
  refine cP [] ?_
  refine cS 6 (fun bq rest hc1 hc2 hc3 => vq rfl qM (gN ⟨rfl, rfl⟩)) ?_
  refine cP [4, 5, 3] ?_
  refine cS 7 (fun bq rest hc1 hc2 hc3 => gL (xs := [.tmp 54, .tmp 55]) rfl (q37) (gN ⟨rfl, rfl⟩)) ?_
  refine cP [3, 6, 6] ?_
  refine cS 8 (fun bq rest hc1 hc2 hc3 => gL (xs := [.tmp 53, .tmp 56]) rfl (r2) (gN ⟨rfl, rfl⟩)) ?_
  refine cP [7, 7] ?_
  refine cS 9 (fun bq rest hc1 hc2 hc3 => vq rfl qM (gN ⟨rfl, rfl⟩)) ?_
  refine cP [8] ?_
  refine cS 10 (fun bq rest hc1 hc2 hc3 => sg rfl (fun hg => qG (by exact sz27) u27 rfl) (gN ⟨rfl, rfl⟩)) ?_
  refine cP [9, 8, 8] ?_
  refine cS 11 (fun bq rest hc1 hc2 hc3 => g_callg (xs := [.tmp 59]) rfl (fun hg => q28) (gN ⟨rfl, rfl⟩)) ?_
  refine cP [8] ?_
  refine cS 12 (fun bq rest hc1 hc2 hc3 => sg rfl (fun hg => qG (by exact sz27) u27 rfl) (gN ⟨rfl, rfl⟩)) ?_
  refine cP [11, 10, 8] ?_
  refine cS 13 (fun bq rest hc1 hc2 hc3 => g_callg (xs := [.tmp 61]) rfl (fun hg => q38) (gN ⟨rfl, rfl⟩)) ?_
  refine cP [10, 12, 12, 8] ?_
  refine cS 14 (fun bq rest hc1 hc2 hc3 => g_callg (xs := [.tmp 60, .tmp 62]) rfl (fun hg => r3) (gN ⟨rfl, rfl⟩)) ?_
  refine cP [8, 13] ?_
  refine cS 15 (fun bq rest hc1 hc2 hc3 => vq rfl q_and (gN ⟨rfl, rfl⟩)) ?_
  refine cP [14, 13] ?_
  refine cS 16 (fun bq rest hc1 hc2 hc3 => vq rfl qM (gN ⟨rfl, rfl⟩)) ?_
  refine cP [15, 15] ?_
  refine cS 17 (fun bq rest hc1 hc2 hc3 => g_callg (xs := []) rfl (fun hg => c27) (gN ⟨rfl, rfl⟩)) ?_
  refine cP [15, 16] ?_
  refine cS 18 (fun bq rest hc1 hc2 hc3 => vq rfl q_and (gN ⟨rfl, rfl⟩)) ?_
  refine cP [17, 16, 0, 1, 2, 3, 4, 5, 6, 7, 8, 9, 10, 11, 12, 13, 14, 15, 16, 17] ?_
  refine cS 19 (fun bq rest hc1 hc2 hc3 => vq rfl qA (gN ⟨rfl, rfl⟩)) ?_
  refine cg_done ?_
  refine tN (gT ?_)
  refine fin1 (by simp) ?_
  exact ⟨by first | rfl | simp, rfl⟩
end Go.Proofs.YtklkbfpjimeaoaaGreat
namespace Go.Proofs.YtklkbfpjimeaoaaGreat
open Go Go.Proofs.YtklkbfpjimeaoaaGreat.E
theorem c1_3 : Tryz.prog.cellsOf 3 = 1 := by kernel_rfl
theorem c1_9 : Tryz.prog.cellsOf 9 = 1 := by kernel_rfl
theorem c1_22 : Tryz.prog.cellsOf 22 = 1 := by kernel_rfl
theorem c1_27 : Tryz.prog.cellsOf 27 = 4 := by kernel_rfl
theorem list4 : ∀ (ds : List D), ds.length = 4 → ∃ d0 d1 d2 d3, ds = [d0, d1, d2, d3]
  | [d0, d1, d2, d3], _ => ⟨d0, d1, d2, d3, rfl⟩
theorem tree_of {e : TypeId} {ds : List D} (h : DT Tryz.prog e ds) : (e = 27 → ∃ t : Tr, t.Ok ∧ D.agg ds = t.d) ∧ (e = 22 → ∃ ts : List Tr, ds = [.sl (ts.map Tr.d)] ∧ ts.length ≤ 140737488355328 ∧ ∀ t ∈ ts, t.Ok) := by
  induction h with
  | bool t b hu => exact ⟨fun h => (by subst h; rw [u27] at hu; cases hu), fun h => (by subst h; rw [u22] at hu; cases hu)⟩
  | int t k n hu => exact ⟨fun h => (by subst h; rw [u27] at hu; cases hu), fun h => (by subst h; rw [u22] at hu; cases hu)⟩
  | str t s hu => exact ⟨fun h => (by subst h; rw [u27] at hu; cases hu), fun h => (by subst h; rw [u22] at hu; cases hu)⟩
  | nil t e hu => exact ⟨fun h => (by subst h; rw [u27] at hu; cases hu), fun h => (by subst h; rw [u22] at hu; cases hu)⟩
  | ptr t e ds hu => exact ⟨fun h => (by subst h; rw [u27] at hu; cases hu), fun h => (by subst h; rw [u22] at hu; cases hu)⟩
  | sl t e dss hu hl hall ih =>
    refine ⟨fun h => (by subst h; rw [u27] at hu; cases hu), fun h => ?_⟩
    subst h
    rw [u22] at hu
    injection hu with hu
    injection hu with hu
    subst hu
    obtain ⟨ts, h1, h2, h3⟩ := list_at (P := Tryz.prog) (e := 27) (f := Tr.d) (Q := Tr.Ok) dss (fun i ds hi => by
      obtain ⟨t, ho, ht⟩ := (ih i ds hi).1 rfl
      exact ⟨t, ho, by simpa [D.mk, u27] using ht⟩)
    exact ⟨ts, by rw [h1], by rw [h3]; unfold reachBytes at hl; omega, h2⟩
  | struct t fs ds hu hl hall ih =>
    refine ⟨fun h => ?_, fun h => (by subst h; rw [u22] at hu; cases hu)⟩
    subst h
    rw [u27] at hu
    injection hu with hu
    injection hu with hu
    subst hu
    rw [c1_27] at hl
    obtain ⟨d0, d1, d2, d3, rfl⟩ := list4 ds hl
    have h0 : DT Tryz.prog 3 ((List.drop 0 [d0, d1, d2, d3]).take (Tryz.prog.cellsOf 3)) := hall 0 _ rfl
    have h1 : DT Tryz.prog 9 ((List.drop 1 [d0, d1, d2, d3]).take (Tryz.prog.cellsOf 9)) := hall 1 _ rfl
    have h2 : DT Tryz.prog 3 ((List.drop 2 [d0, d1, d2, d3]).take (Tryz.prog.cellsOf 3)) := hall 2 _ rfl
    obtain ⟨ts, h3, hlen, hok⟩ := (ih 3 _ rfl).2 rfl
    replace h3 : (List.drop 3 [d0, d1, d2, d3]).take (Tryz.prog.cellsOf 22) = [.sl (ts.map Tr.d)] := h3
    simp only [c1_3, c1_9, c1_22, List.drop_zero, List.drop_succ_cons, List.take_succ_cons, List.take_zero] at h0 h1 h2 h3
    obtain ⟨n0, e0, w0⟩ := h0.int_of u3
    obtain ⟨s1, e1, w1⟩ := h1.str_of u9
    obtain ⟨n2, e2, w2⟩ := h2.int_of u3
    obtain rfl := (List.cons.inj e0).1
    obtain rfl := (List.cons.inj e1).1
    obtain rfl := (List.cons.inj e2).1
    obtain rfl := (List.cons.inj h3).1
    exact ⟨.mk n0 s1 n2 ts, .mk w0 (by unfold reachBytes at w1; omega) w2 hlen hok, by rw [Tr.d_mk]⟩
theorem node_of {ds : List D} (h : DT Tryz.prog 27 ds) : ∃ t : Tr, t.Ok ∧ D.agg ds = t.d := (tree_of h).1 rfl
end Go.Proofs.YtklkbfpjimeaoaaGreat
namespace Go.Proofs.YtklkbfpjimeaoaaGreat
open Go Go.Proofs.YtklkbfpjimeaoaaGreat.E
theorem c1_59 : Tryz.prog.cellsOf 59 = 5 := by kernel_rfl
theorem list5 : ∀ (ds : List D), ds.length = 5 → ∃ d0 d1 d2 d3 d4, ds = [d0, d1, d2, d3, d4]
  | [d0, d1, d2, d3, d4], _ => ⟨d0, d1, d2, d3, d4, rfl⟩
theorem const_of {ds : List D} (h : DT Tryz.prog 59 ds) : ∃ c : ByteArray × Tr, (c.1.size ≤ 140737488355328 ∧ c.2.Ok) ∧ D.agg ds = cD c := by
  obtain ⟨hl, hf⟩ := h.struct_of u59
  rw [c1_59] at hl
  obtain ⟨d0, d1, d2, d3, d4, rfl⟩ := list5 ds hl
  have h0 : DT Tryz.prog 9 ((List.drop 0 [d0, d1, d2, d3, d4]).take (Tryz.prog.cellsOf 9)) := hf 0 _ rfl
  have h1 : DT Tryz.prog 27 ((List.drop 1 [d0, d1, d2, d3, d4]).take (Tryz.prog.cellsOf 27)) := hf 1 _ rfl
  rw [c1_9] at h0
  rw [c1_27] at h1
  obtain ⟨s, e0, w0⟩ := h0.str_of u9
  obtain rfl := (List.cons.inj e0).1
  obtain ⟨t, hok, ht⟩ := node_of h1
  refine ⟨(s, t), ⟨by unfold reachBytes at w0; show s.size ≤ _; omega, hok⟩, ?_⟩
  obtain ⟨op, nm, num, ks⟩ := t
  rw [Tr.d_mk] at ht
  injection ht with ht
  replace ht : [d1, d2, d3, d4] = _ := ht
  unfold cD
  rw [Tr.d_mk]
  show D.agg (D.str s :: [d1, d2, d3, d4]) = _
  rw [ht]; rfl
theorem mkconst_of {ds : List D} (h : DT Tryz.prog 59 ds) : ∃ c : ByteArray × Tr, (c.1.size ≤ 140737488355328 ∧ c.2.Ok) ∧ D.mk Tryz.prog 59 ds = cD c := by
  obtain ⟨c, h1, h2⟩ := const_of h
  exact ⟨c, h1, by rw [← h2]; simp [D.mk]⟩
theorem arg_bytes {H : Type} {enc : TypeId × Value → H} {P : Program} {w : World} {sp : Nat → Bool} {held : Bool} {t e : TypeId} (hu : P.underlying t = some (.slice e))
    {a : Option Addr} {len cap : Nat} {d : DataW H} {ps : List MemPlace} (h : DataW.Trod enc P w 0 sp held t (.slice a len cap) d ps) (hw : ∀ n ∈ d.weights P t, n ≤ reachBytes) : len * P.bytesOf e ≤ reachBytes := by
  obtain ⟨fuel, hf⟩ := h
  rcases DataW.trod_slice hu hf with ⟨h1, _⟩ | ⟨a', len', cap', elems, rest, n, hn, h1, h2, _, hlc, _, hel, hall, _, _⟩
  · have h3 : Value.slice a len cap = .slice none 0 0 := (List.cons.inj h1).1
    injection h3 with _ h3 _
    rw [h3, Nat.zero_mul]; exact Nat.zero_le _
  · have h3 : Value.slice a len cap = .slice (some a') len' cap' := (List.cons.inj h1).1
    injection h3 with _ h3 _
    injection h2 with h2 _
    have := hw ((elems.map (·.1)).length * P.bytesOf e + (rest.map (·.1)).length * P.bytesOf e) (by rw [h2]; simp [DataW.weights, hu, Nat.add_mul])
    rw [List.length_map, hel] at this
    rw [h3]; omega
theorem rd_len {w : World} {S : Reg} {xs : List D} {a : Option Addr} {len cap : Nat} (h : Rd w S (.sl xs) (.slice a len cap)) : xs.length = len := by cases h; rfl
end Go.Proofs.YtklkbfpjimeaoaaGreat
