/- Contracts of functions. Conditions: none. -/
import Derived.Test.YtphfdmagkgpgfaaWm
import Derived.Laws.Bits64
import Derived.Laws.BitsLemmas
namespace Go.Proofs.Ytphfdmagkgpgfaa
open Go Go.Proofs.Ytphfdmagkgpgfaa.E

/- ENCODE AND DECODE UNDO EACH OTHER -/
theorem i64_u64 {n : Int} (h0 : -9223372036854775808 ≤ n) (h1 : n ≤ 9223372036854775807) : IntKind.i64.wrap (u64w n) = n := by
  unfold u64w; rw [IntKind.wrap_i64, IntKind.wrap_u64]; omega
theorem u64_i64 {n : Int} (h0 : 0 ≤ n) (h1 : n < 18446744073709551616) : u64w (IntKind.i64.wrap n) = n := by
  unfold u64w; rw [IntKind.wrap_u64, IntKind.wrap_i64]; omega
def InsOk (x : WIns) : Prop := -9223372036854775808 ≤ x.n ∧ x.n ≤ 9223372036854775807
theorem textN_cases (x : WIns) : textN x = 0 ∨ (x.op = 5 ∧ 1 ≤ textN x ∧ textN x ≤ 17 ∧ textOf (textN x) = x.text) := by
  unfold textN
  by_cases h5 : x.op = 5
  · rw [if_pos h5]
    unfold idxI
    split
    · rename_i i hi
      obtain ⟨hlt, hp, _⟩ := List.findIdx?_eq_some_iff_getElem.1 hi
      have hD : ∀ i (h : i < textsD.length), ∃ s, textsB[i]? = some s ∧ textsD[i] = D.str s := fun i h => by
        have h' : i < textsB.length := by rw [textsD, List.length_map] at h; exact h
        exact ⟨textsB[i], List.getElem?_eq_getElem h', by simp only [textsD, List.getElem_map]⟩
      obtain ⟨s, hs, he⟩ := hD i hlt
      have h17 : i < 17 := hlt
      rw [he] at hp
      have hx : x.text = s := by simpa [isStr] using hp
      right
      have hw : IntKind.i64.wrap ((i : Int) + 1) = (i : Int) + 1 := wrap_i64 (by omega) (by omega)
      rw [hw]
      refine ⟨h5, by omega, by omega, ?_⟩
      rw [textOf, if_pos (by omega)]
      have : ((i : Int) + 1 - 1).toNat = i := by omega
      rw [this, hs, hx]; rfl
    · left; decide
  · rw [if_neg h5]; exact .inl rfl
theorem textN_of {x : WIns} {t : Int} (h5 : x.op = 5) (h0 : 0 < t) (h1 : t ≤ 17) (hx : x.text = textOf t) : textN x = t := by
  have hl : (t - 1).toNat < textsB.length := by show (t - 1).toNat < 17; omega
  have hs : textsB[(t - 1).toNat]? = some x.text := by rw [hx, textOf, if_pos h0, List.getElem?_eq_getElem hl]; rfl
  exact (TI_end (x := x) (t := t) ⟨fun h => absurd h5 h, fun _ => .inr ⟨(t - 1).toNat, by omega, hs, by omega⟩⟩).1
theorem sum_parts {x : WIns} {t : Int} (h : badA x = false) (ht0 : 0 ≤ t) (ht : t ≤ 17) : sumW x t / 1 % 256 = x.op ∧ sumW x t / 256 % 256 = x.a ∧ sumW x t / 65536 % 256 = x.b ∧ sumW x t / 16777216 % 256 = x.c ∧ sumW x t / 4294967296 % 256 = t ∧ sumW x t / 1099511627776 = 0 := by
  obtain ⟨o1, o2, a1, a2, b1, b2, c1, c2⟩ := badA_in h
  unfold sumW
  refine ⟨by omega, by omega, by omega, by omega, by omega, by omega⟩
theorem badB_in {x : WIns} (h : badB x = false) : (x.op = 5 → textN x ≠ 0) ∧ (x.op ≠ 5 → x.text = ⟨#[]⟩) ∧ (wideI x.op = false → x.n = 0) := by
  unfold badB badT at h
  refine ⟨fun h5 h0 => ?_, fun h5 => ?_, fun hw => ?_⟩
  · simp [h5, h0] at h
  · simp only [Bool.or_eq_false_iff] at h
    have := h.1.2
    simpa [h5] using this
  · simp only [Bool.or_eq_false_iff] at h
    have := h.2
    simpa [hw] using this
theorem known_of {x : WIns} (hA : badA x = false) : knownI x.op = true := by
  cases hk : knownI x.op with
  | true => rfl
  | false => simp [badA, hk] at hA
theorem dec_enc1 {x : WIns} (hA : badA x = false) (hB : badB x = false) : badD (wordI x) = false ∧ wordI x / 1 % 256 = x.op ∧ decW (wordI x) x.n = x := by
  have hcases := textN_cases x
  have ht : 0 ≤ textN x ∧ textN x ≤ 17 := by rcases hcases with h | ⟨_, h1, h2, _⟩ <;> omega
  have hw : wordI x = sumW x (textN x) := wordT_sum hA ht.1 ht.2
  obtain ⟨p0, p1, p2, p3, p4, p5⟩ := sum_parts hA ht.1 ht.2
  obtain ⟨b1, b2, b3⟩ := badB_in hB
  rw [hw]
  refine ⟨?_, p0, ?_⟩
  · unfold badD
    rw [p5, p0, p4, known_of hA]
    by_cases h5 : x.op = 5
    · have h0 : textN x > 0 := by have := b1 h5; omega
      have h17 : ¬ textN x > 17 := by omega
      simp only [decide_eq_true h0, decide_eq_false h17, h5]; rfl
    · have h0 : textN x = 0 := by
        rcases hcases with h | ⟨h, _⟩
        · exact h
        · exact absurd h h5
      have h5' : (x.op == 5) = false := by simpa using h5
      rw [h0, h5']; rfl
  · have htx : textOf (textN x) = x.text := by
      rcases hcases with h | ⟨_, _, _, h⟩
      · by_cases h5 : x.op = 5
        · exact absurd h (b1 h5)
        · rw [h, b2 h5]; rfl
      · exact h
    unfold decW
    rw [p0, p1, p2, p3, p4, htx]
theorem dec_of_enc : ∀ {xs : List WIns} {ws : List Int}, (∀ x ∈ xs, InsOk x) → encS xs = some ws → decS ws = some xs
  | [], ws, _, h => by simp only [encS] at h; injection h with h; subst h; simp [decS]
  | x :: r, ws, ho, h => by
    simp only [encS, Option.bind_eq_some_iff, Option.map_eq_some_iff] at h
    obtain ⟨y, hy, q, hq, rfl⟩ := h
    have ih := dec_of_enc (fun z hz => ho z (by simp [hz])) hq
    unfold encI at hy
    cases hA : badA x with
    | true => simp [hA] at hy
    | false =>
      cases hB : badB x with
      | true => simp [hA, hB] at hy
      | false =>
        obtain ⟨d1, d2, d3⟩ := dec_enc1 hA hB
        cases hw : wideI x.op with
        | true =>
          simp [hA, hB, hw] at hy
          subst hy
          have h2 := dec_two (ws := wordI x :: u64w x.n :: q) (x := wordI x) (n := u64w x.n) (r := q) (acc := []) (by simp) d1 (by rw [d2]; exact hw)
          obtain ⟨o1, o2⟩ := ho x (by simp)
          rw [i64_u64 o1 o2, d3, ih] at h2
          simpa using h2
        | false =>
          simp [hA, hB, hw] at hy
          subst hy
          have h1 := dec_one (ws := wordI x :: q) (x := wordI x) (r := q) (acc := []) (by simp) d1 (by rw [d2]; exact hw)
          have hn0 := (badB_in hB).2.2 hw
          rw [← hn0, d3, ih] at h1
          simpa using h1
theorem encS_append : ∀ {xs ys : List WIns} {a b : List Int}, encS xs = some a → encS ys = some b → encS (xs ++ ys) = some (a ++ b)
  | [], ys, a, b, h, h' => by simp only [encS] at h; injection h with h; subst h; simpa using h'
  | x :: r, ys, a, b, h, h' => by
    simp only [encS, Option.bind_eq_some_iff, Option.map_eq_some_iff] at h
    obtain ⟨y, hy, q, hq, rfl⟩ := h
    have ih := encS_append hq h'
    simp only [List.cons_append, encS, hy, ih, Option.bind_some, Option.map_some, List.append_assoc]
theorem u64_range (n : Int) : 0 ≤ IntKind.u64.wrap n ∧ IntKind.u64.wrap n < 18446744073709551616 := by rw [IntKind.wrap_u64]; omega
theorem encS_words : ∀ {xs : List WIns} {ws : List Int}, encS xs = some ws → Words ws
  | [], ws, h => by simp only [encS] at h; injection h with h; subst h; intro x hx; cases hx
  | x :: r, ws, h => by
    simp only [encS, Option.bind_eq_some_iff, Option.map_eq_some_iff] at h
    obtain ⟨y, hy, q, hq, rfl⟩ := h
    have ih := encS_words hq
    unfold encI at hy
    split at hy
    · cases hy
    · split at hy
      · cases hy
      · injection hy with hy
        subst hy
        intro z hz
        rcases List.mem_append.1 hz with hz | hz
        · rcases List.mem_cons.1 hz with rfl | hz
          · exact u64_range _
          · split at hz
            · rcases List.mem_cons.1 hz with rfl | hz
              · exact u64_range _
              · cases hz
            · cases hz
        · exact ih z hz
theorem enc_dec1 {x k : Int} (h0 : 0 ≤ x) (hB : badD x = false) (hk : wideI (x / 1 % 256) = false → k = 0) : encI (decW x k) = some (x :: if wideI (x / 1 % 256) then [u64w k] else []) := by
  obtain ⟨hkn, ht⟩ := badD_in hB
  have hb := hB
  simp only [badD, Bool.or_eq_false_iff, bne_eq_false_iff_eq] at hb
  have hhi : x / 1099511627776 = 0 := hb.1.1.1
  have hto : decide (x / 4294967296 % 256 > 0) = (x / 1 % 256 == 5) := hb.2
  have hA : badA (decW x k) = false := by
    have s1 : ∀ y : Int, smallI (y % 256) = true := fun y => by simp [smallI]; omega
    simp only [badA, decW, s1, hkn]; rfl
  have hT : textN (decW x k) = x / 4294967296 % 256 := by
    by_cases h5 : x / 1 % 256 = 5
    · have hp : x / 4294967296 % 256 > 0 := by rw [h5] at hto; simpa using hto
      exact textN_of h5 hp ht rfl
    · have hz : ¬ x / 4294967296 % 256 > 0 := by
        have e : (x / 1 % 256 == 5) = false := by simpa using h5
        rw [e] at hto; simpa using hto
      unfold textN
      rw [if_neg (show ¬ (decW x k).op = 5 from h5)]; omega
  have hBB : badB (decW x k) = false := by
    unfold badB
    rw [hT]
    unfold badT
    have hn : (!(wideI (decW x k).op) && (decW x k).n != 0) = false := by
      cases hw : wideI (x / 1 % 256) with
      | true => show (!(wideI (x / 1 % 256)) && k != 0) = false; rw [hw]; rfl
      | false => show (!(wideI (x / 1 % 256)) && k != 0) = false; rw [hk hw]; simp
    rw [hn, Bool.or_false]
    by_cases h5 : x / 1 % 256 = 5
    · have hp : x / 4294967296 % 256 > 0 := by rw [h5] at hto; simpa using hto
      have e0 : (x / 4294967296 % 256 == 0) = false := by simp; omega
      have e5 : ((decW x k).op != 5) = false := by show (x / 1 % 256 != 5) = false; rw [h5]; rfl
      rw [e0, e5]; simp
    · have hz : ¬ x / 4294967296 % 256 > 0 := by
        have e : (x / 1 % 256 == 5) = false := by simpa using h5
        rw [e] at hto; simpa using hto
      have e5 : ((decW x k).op == 5) = false := by show (x / 1 % 256 == 5) = false; simpa using h5
      have et : (decW x k).text = ⟨#[]⟩ := text_no hz
      rw [e5, et]; simp
  unfold encI
  rw [hA, hBB]
  have hwd : wordI (decW x k) = x := by
    unfold wordI
    rw [hT, wordT_sum hA (by omega) ht]
    simp only [sumW, decW]
    omega
  rw [hwd]; rfl
theorem enc_of_dec : ∀ (n : Nat) {ws : List Int} {xs : List WIns}, ws.length ≤ n → Words ws → decS ws = some xs → encS xs = some ws
  | 0, ws, xs, hn, _, h => by
    have : ws = [] := List.eq_nil_of_length_eq_zero (by omega)
    subst this; simp only [decS] at h; injection h with h; subst h; rfl
  | n + 1, [], xs, _, _, h => by simp only [decS] at h; injection h with h; subst h; rfl
  | n + 1, x :: r, xs, hn, hw, h => by
    obtain ⟨hx0, hx1⟩ := hw x (by simp)
    simp at hn
    cases hB : badD x with
    | true => rw [dec_bad (acc := []) (r := r) (x := x) (by simp) hB] at h; cases h
    | false =>
      cases hwd : wideI (x / 1 % 256) with
      | false =>
        have h1 := dec_one (ws := x :: r) (x := x) (r := r) (acc := []) (by simp) hB hwd
        rw [h1] at h
        obtain ⟨q, hq, rfl⟩ := Option.map_eq_some_iff.1 h
        have ih := enc_of_dec n (by omega) (fun y hy => hw y (by simp [hy])) hq
        have e1 := enc_dec1 (k := 0) hx0 hB (fun _ => rfl)
        rw [hwd] at e1
        simp [encS, e1, ih]
      | true =>
        cases r with
        | nil => rw [dec_short (acc := []) (x := x) (by simp) hB hwd] at h; cases h
        | cons m r =>
          have h2 := dec_two (ws := x :: m :: r) (x := x) (n := m) (r := r) (acc := []) (by simp) hB hwd
          rw [h2] at h
          obtain ⟨q, hq, rfl⟩ := Option.map_eq_some_iff.1 h
          simp at hn
          have ih := enc_of_dec n (by omega) (fun y hy => hw y (by simp [hy])) hq
          have e1 := enc_dec1 (k := IntKind.i64.wrap m) hx0 hB (fun hf => by rw [hwd] at hf; cases hf)
          obtain ⟨hm0, hm1⟩ := hw m (by simp)
          rw [hwd, if_pos rfl, u64_i64 hm0 hm1] at e1
          simp [encS, e1, ih]


theorem y_appendA {K : Ctx} {s : GS} {t u : Nat} {y : Operand} {ty e rt : TypeId} {pos : String} {af : Array Edge} {g : Option (Nat × Bool)} {k by_ : Nat} {xs ys : List D} {z : Value} (hun : K.P.underlying ty = some (.slice e))
    (hinf : (K.P.info? e).map (fun i => (i.zero, i.size, i.bytes)) = some (some z, k, by_)) (hk : ∀ y ∈ ys, y.cells.length = k) (hlen : xs.length + ys.length ≤ lim) (hB : (xs.length + ys.length) * by_ ≤ lim)
    (hu : s.get u = some (.osl k xs) := by simp only [GS.ev, GS.get, List.lookup_cons, Nat.reduceBEq, Option.getD_some, Option.getD_none, List.lookup_nil, ofConst] <;> rfl) (hy : (s.ev y).list? = some ys := by simp only [GS.ev, GS.get, List.lookup_cons, Nat.reduceBEq, Option.getD_some, Option.getD_none, List.lookup_nil, ofConst, PV.list?] <;> rfl) (hk0 : 0 < k := by decide) (hzs : z.cells.size = k := by rfl) (hz1 : z.cells.all (·.oneCell') = true := by kernel_rfl) (htu : t ≠ u := by decide) (ht : t < K.n := by exact of_decide_eq_true rfl) :
    Yld K ⟨some t, .call ⟨.builtin .append, #[.tmp u, y], #[ty, ty]⟩, rt, pos, af, g⟩ s ((s.set u (.d (.sl xs))).set t (.osl k (xs ++ ys))) := by
  by_cases hne : ys = []
  · subst hne; rw [List.append_nil]; exact Y_append0 hu hy hun hinf htu ht
  · exact Y_append hu (.inl rfl) hy hne hk hk0 hun hinf hzs hz1 hlen hB ht
theorem under_absurd {b : Prop} (h : ¬ b) (p : PV) (d : D) : Under b p d := fun _ _ _ _ _ _ hb => absurd hb h
theorem g_split {K : Ctx} {ops : Array Oper} {Q : Exit → GS → Prop} {s : GS} {l : List Nat} {q : PV} {b : Bool} (u : Nat) (want : Bool) (h1 : b = true → GOps K ops Q l s) (h2 : b = false → GOps K ops Q l s)
    (hsu : s.get u = some q := by simp only [GS.ev, GS.get, List.lookup_cons, Nat.reduceBEq, Option.getD_some, Option.getD_none, List.lookup_nil, ofConst] <;> rfl) (hgd : q.guard want = some b := by rfl) : GOps K ops Q l s := by
  cases b with
  | true => exact h1 rfl
  | false => exact h2 rfl
theorem g_callo {K : Ctx} {ops : Array Oper} {Q : Exit → GS → Prop} {s s'' : GS} {i : Nat} {rest : List Nat} {t j u : Nat} {want b : Bool} {oj : Oper} {fx : Operand} {xs : List Operand} {tys : Array TypeId} {ty : TypeId} {pos : String} {af : Array Edge} {f : FuncId} {fa fc ds args : List D} {r : PV} {q : PV}
    (ho : ops[i]? = some ⟨some t, .call ⟨.value fx, xs.toArray, tys⟩, ty, pos, af, some (j, want)⟩) (hb : b = true) (hc : Pf K.P f args r) (h : GOps K ops Q rest s'')
    (hj : ops[j]? = some oj := by rfl) (hjd : oj.dst = some u := by rfl) (hsu : s.get u = some q := by simp only [GS.ev, GS.get, List.lookup_cons, Nat.reduceBEq, Option.getD_some, Option.getD_none, List.lookup_nil, ofConst] <;> rfl) (hgd : q.guard want = some b := by rfl) (hu : u < K.n := by exact of_decide_eq_true rfl)
    (hfx : (s.ev fx).callee = some (f, fa, fc) := by simp only [GS.ev, GS.get, List.lookup_cons, Nat.reduceBEq, Option.getD_some, Option.getD_none, List.lookup_nil, ofConst, PV.callee, PV.toDs] <;> rfl) (hxs : PV.toDUs true (xs.map s.ev) = some ds := by simp only [List.map_cons, List.map_nil, GS.ev, GS.get, List.lookup_cons, Nat.reduceBEq, Option.getD_some, Option.getD_none, List.lookup_nil, ofConst, PV.toDUs, PV.toDU, PV.toD, if_true] <;> rfl)
    (ht : t < K.n := by exact of_decide_eq_true rfl) (ha : args = fa ++ ds ++ fc := by rfl) (hs : s.set t r = s'' := by simp only [GS.set] <;> rfl) : GOps K ops Q (i :: rest) s := by
  subst hs; subst ha; subst hb
  rintro a w ⟨S, O, m, hr⟩
  have hyl := wanted_of hr hj hjd hsu hu hgd
  obtain ⟨⟨fn, hf, hbd, hn⟩, hc1⟩ := hc
  have hw : Region.wanted ⟨some t, .call ⟨.value fx, xs.toArray, tys⟩, ty, pos, af, some (j, want)⟩ (yielded ops a.tmps) = true := by simp only [Region.wanted]; rw [hyl]
  simp only [wpOps, ho, hw, if_true]
  obtain ⟨g1, g2⟩ := PV.toDUs_get _ _ _ hxs
  refine .inl (call_wp hr rfl rfl hfx (by simpa using g1) (fun i d v hi hv => ?_) hf hbd hn ht hc1 (fun a' w' hat => h a' w' hat))
  obtain ⟨p, hp, hpd⟩ := g2 i d hi
  rw [List.getElem?_map] at hp hv
  cases hx : xs[i]? with
  | none => simp [hx] at hp
  | some y =>
    simp only [hx, Option.map_some, Option.some.injEq] at hp hv
    subst hp; subst hv
    obtain ⟨l, hry⟩ := hr.ev y
    exact hry.toDU hpd

theorem c34 (xs : List WIns) (hlim : xs.length ≤ 1000000) : Pf Try.prog 34 [.sl (xs.map WIns.d)] (.osl 6 (xs.map WIns.d)) := by
  refine pf_body (rvs := [.tmp 2]) [(0, .d (.sl (xs.map WIns.d)))] Try.func34 Try.ntmps34 Try.results34 (fun S0 O0 w0 m0 hm0 => ?_)
  refine G_seq ?_
  refine g_region ?_
  refine sv rfl (y_assign) ?_
  refine GOps_nil ?_
  refine thn_normal ?_
  refine G_seq ?_
  refine G_seq ?_
  refine g_region ?_
  refine sv rfl (y_move) ?_
  refine GOps_slnil (xs := xs.map WIns.d) rfl rfl Try.underlying44 (of_decide_eq_true rfl) (fun b hnil => ?_)
  refine GOps_nil ?_
  refine thn_normal ?_
  refine g_cond (fun hb0 => ?_) (fun hb0 => ?_)
  ·
    refine G_seq ?_
    refine g_region ?_
    refine sv rfl (y_assign) ?_
    refine GOps_le (s' := ⟨[(2, .osl 6 [])], []⟩) le_of ?_
    refine GOps_nil ?_
    refine thn_normal ?_
    refine G_ret ?_
    refine thn_ret ?_
    refine fino (by simp) ?_
    exact ⟨by rw [hnil hb0], rfl⟩
  ·
    refine G_skip ?_
    refine thn_normal ?_
    refine G_seq ?_
    refine g_region ?_
    refine sv rfl (y_buildSlice (xs := []) Try.underlying44 inf48) ?_
    refine sv rfl (y_move) ?_
    refine sv rfl (y_appendA Try.underlying44 inf48 (xs := []) (ys := xs.map WIns.d) (ins_cells xs) (by simp [lim, u64s]; omega) (by simp [lim, u64s]; omega)) ?_
    first | refine sv rfl (y_assign_take) ?_ | refine sv rfl (y_assign) ?_
    refine GOps_nil ?_
    refine thn_normal ?_
    refine G_ret ?_
    refine fino (by simp) ?_
    exact ⟨rfl, rfl⟩

theorem c36 (xs : List Int) (hlim : xs.length ≤ 1000000) : Pf Try.prog 36 [.sl (u64s xs)] (.osl 1 (u64s xs)) := by
  refine pf_body (rvs := [.tmp 2]) [(0, .d (.sl (u64s xs)))] Try.func36 Try.ntmps36 Try.results36 (fun S0 O0 w0 m0 hm0 => ?_)
  refine G_seq ?_
  refine g_region ?_
  refine sv rfl (y_assign) ?_
  refine GOps_nil ?_
  refine thn_normal ?_
  refine G_seq ?_
  refine G_seq ?_
  refine g_region ?_
  refine sv rfl (y_move) ?_
  refine GOps_slnil (xs := u64s xs) rfl rfl Try.underlying45 (of_decide_eq_true rfl) (fun b hnil => ?_)
  refine GOps_nil ?_
  refine thn_normal ?_
  refine g_cond (fun hb0 => ?_) (fun hb0 => ?_)
  ·
    refine G_seq ?_
    refine g_region ?_
    refine sv rfl (y_assign) ?_
    refine GOps_le (s' := ⟨[(2, .osl 1 [])], []⟩) le_of ?_
    refine GOps_nil ?_
    refine thn_normal ?_
    refine G_ret ?_
    refine thn_ret ?_
    refine fino (by simp) ?_
    exact ⟨by rw [hnil hb0], rfl⟩
  ·
    refine G_skip ?_
    refine thn_normal ?_
    refine G_seq ?_
    refine g_region ?_
    refine sv rfl (y_buildSlice (xs := []) Try.underlying45 inf61) ?_
    refine sv rfl (y_move) ?_
    refine sv rfl (y_appendA Try.underlying45 inf61 (xs := []) (ys := u64s xs) (u64s_cells xs) (by simp [lim, u64s]; omega) (by simp [lim, u64s]; omega)) ?_
    first | refine sv rfl (y_assign_take) ?_ | refine sv rfl (y_assign) ?_
    refine GOps_nil ?_
    refine thn_normal ?_
    refine G_ret ?_
    refine fino (by simp) ?_
    exact ⟨rfl, rfl⟩

end Go.Proofs.Ytphfdmagkgpgfaa
