import Derived.Test.YtoonleefemkalaaDoorM12
/- Contracts of functions. Conditions: none. -/
set_option linter.unusedSimpArgs false
set_option linter.unusedVariables false
namespace Go.Proofs.YtoonleefemkalaaDoor.E
open Go
def rlo (k : Nat) (pre xs post : List D) : Nat := match xs with
 | [] => if (pre ++ post).isEmpty then 0 else pre.length * k + 1
 | _ :: _ => pre.length * k
variable {k : Nat}
theorem rlo_ne {pre xs post : List D} (h : xs ≠ []) : rlo k pre xs post = pre.length * k := by
 cases xs with
 | nil => exact absurd rfl h
 | cons => rfl
theorem rlo_zero (xs : List D) : rlo k [] xs [] = 0 := by cases xs <;> simp [rlo]
def YldE (K : Ctx) (o : Oper) (s : GS) (T : GS → Prop) : Prop :=
 ∀ a w, At K s a w → ∃ v w' s', T s' ∧ (execOp a.eval o).run K.P w = .ok (.value v) w' ∧ At K s' (a.put o.dst v) w'
variable {K : Ctx} {s : GS}
theorem GOps_valE {ops : Array Oper} {Q : Exit → GS → Prop} {T : GS → Prop} {i : Nat} {rest : List Nat} {o : Oper} (ho : ops[i]? = some o) (hg : o.guard = none)
 (hy : YldE K o s T) (h : ∀ s', T s' → GOps K ops Q rest s') : GOps K ops Q (i :: rest) s := by
 intro a w ha
 obtain ⟨v, w', s', hT, hr, ha'⟩ := hy a w ha
 simp only [wpOps, ho, Region.wanted, hg, if_true]
 exact .inl (by simp only [Oper.wp, hr, Oper.upon_value]; exact h s' hT _ _ ha')
variable {S : Reg} {O : Owns} {m : List Nat} {w : World} {b : Nat}
theorem row_cells {a : Act} {r : Nat} {zs : List D} (h : Rep K S O m s a w) (hmem : s.mem[b]? = some (flat zs)) (hr1 : m[b]? = some r) (hk : ∀ x ∈ zs, x.cells.length = k) (hk0 : 0 < k) (hz : zs ≠ [])
 {vs0 : Array Value} {el0 : TypeId} (hh0 : w.heap[r]? = some (.cells vs0 el0 (0, 0))) : O r = some ([b, 1], 0) ∧ zs.length * k ≤ vs0.size ∧ (∀ (j : Nat) v, vs0[j]? = some v → v.oneCell' = true) ∧
  ∀ (i : Nat) x (j : Nat) y, zs[i]? = some x → x.cells[j]? = some y → ∃ v, vs0[i * k + j]? = some v ∧ Rd w S y v := by
 have hpos : 0 < (flat zs).length := by rw [flat_length zs hk]; exact Nat.mul_pos (List.length_pos_iff.2 hz) hk0
 have hfne : flat zs ≠ [] := fun h => by rw [h] at hpos; simp at hpos
 obtain ⟨g1, g2⟩ := h.env.mem b (flat zs) r hmem hr1 hfne
 have hd0 : ∃ y, (flat zs)[0]? = some (.d y) := by
  have := List.getElem?_eq_getElem hpos
  obtain ⟨i, j, x, y, _, _, _, h4⟩ := flat_inv zs hk 0 _ this
  exact ⟨y, by rw [this, h4]⟩
 obtain ⟨y0, hy0⟩ := hd0
 rcases g2 with ⟨vs, el, h1, h2, h3, h4⟩ | ⟨kvs, es, c, hc, _⟩ | ⟨_, hc⟩ | ⟨c, pos, hc, _⟩ | ⟨_, _, _, _, _, hc, _⟩
 · rw [hh0] at h1; injection h1 with h1; injection h1 with e1 e2 e3
   subst e1; subst e2
   refine ⟨g1, by rw [← flat_length zs hk]; exact h2, h3, fun i x j y hi hj => ?_⟩
   have hcl : x.cells.length = k := hk x (List.mem_of_getElem? hi)
   have hjk : j < k := by rw [← hcl]; exact (List.getElem?_eq_some_iff.1 hj).1
   have hp : (flat zs)[i * k + j]? = some (.d y) := by
    have hfp := flat_part zs hk i x hi
    have : (((flat zs).drop (i * k)).take k)[j]? = some (.d y) := by rw [hfp, List.getElem?_map, hj]; rfl
    rw [List.getElem?_take_of_lt hjk, List.getElem?_drop] at this
    exact this
   have hlt : i * k + j < vs0.size := Nat.lt_of_lt_of_le (List.getElem?_eq_some_iff.1 hp).1 h2
   have := h4 _ _ _ hp (Array.getElem?_eq_getElem hlt)
   cases this with | d _ _ _ hrd => exact ⟨_, Array.getElem?_eq_getElem hlt, hrd⟩
 · rw [hc] at hy0; simp at hy0
 · rw [hc] at hy0; simp at hy0
 · rw [hc] at hy0; simp at hy0
 · rw [hc] at hy0; simp at hy0
theorem row_val {l : List Nat} {off n : Nat} {pre xs post : List D} {v : Value} (h : RP w S O m l (.rsl b off n k) v) (hn : n = xs.length) (hoff : off = rlo k pre xs post) :
 ∃ ab cap, v = .slice ab xs.length cap ∧ xs.length ≤ cap ∧ (xs.length ≤ lim ∧ cap ≤ 9223372036854775807) ∧ ((xs = [] ∧ cap = 0) ∨ (cap ≠ 0 ∧ pre ++ xs ++ post ≠ [] ∧ ∃ r, m[b]? = some r ∧ ab = some ⟨r, pre.length * k, none⟩ ∧ Room w r (pre.length * k + cap * k))) := by
 subst hn; subst hoff
 cases h with
 | rsl _ _ _ _ _ ab cap hc hl h0 h1 =>
  refine ⟨ab, cap, rfl, hc, ⟨hl, by assumption⟩, ?_⟩
  by_cases hcz : cap = 0
  · exact .inl ⟨List.eq_nil_of_length_eq_zero (by omega), hcz⟩
  · right
    obtain ⟨r, g1, g2, g3⟩ := h1 hcz
    have hro : pre ++ xs ++ post ≠ [] ∧ rofs xs.length (rlo k pre xs post) = pre.length * k := by
     cases xs with
     | nil =>
      by_cases hp : pre ++ post = []
      · exact absurd (h0 rfl (by simp [rlo, hp])) hcz
      · refine ⟨by simpa using hp, ?_⟩
        simp only [rlo, List.isEmpty_iff, if_neg hp]; rfl
     | cons x r0 => exact ⟨by simp, rofs_pos (by simp)⟩
    rw [hro.2] at g2 g3
    exact ⟨hcz, hro.1, r, g1, g2, g3⟩
theorem row_mk (l : List Nat) {b k r cap : Nat} {pre xs post : List D} (hc : xs.length ≤ cap) (hl : xs.length ≤ lim) (hm : m[b]? = some r) (hne : pre ++ xs ++ post ≠ []) (hroom : Room w r (pre.length * k + cap * k)) (hmx : cap ≤ 9223372036854775807 := by assumption) :
 RP w S O m l (.rsl b (rlo k pre xs post) xs.length k) (.slice (some ⟨r, pre.length * k, none⟩) xs.length cap) := by
 refine .rsl _ _ _ _ _ _ _ hc hl (fun h h2 => ?_) (fun _ => ?_)
 · have hx := List.eq_nil_of_length_eq_zero h
   subst hx
   exfalso
   have hp : ¬ pre ++ post = [] := by simpa using hne
   simp only [rlo, List.isEmpty_iff, if_neg hp] at h2
   omega
 · have : rofs xs.length (rlo k pre xs post) = pre.length * k := by
    cases xs with
    | nil =>
     have hp : ¬ pre ++ post = [] := by simpa using hne
     simp only [rlo, List.isEmpty_iff, if_neg hp]; rfl
    | cons x r0 => exact rofs_pos (by simp)
   rw [this]
   exact ⟨r, hm, rfl, hroom⟩
theorem Y_appendG {t u off n : Nat} {y : Operand} {ty e rt : TypeId} {pos : String} {af : Array Edge} {g : Option (Nat × Bool)} {by_ : Nat} {pre xs post ys : List D} {z : Value}
 (hu : s.get u = some (.rsl b off n k)) (hn : n = xs.length) (hoff : off = rlo k pre xs post) (hmem : s.mem[b]? = some (flat (pre ++ xs ++ post))) (hbm : K.m0.length ≤ b) (hno : nrefM b 0 s.mem = true) (hy : (s.ev y).list? = some ys) (hne : ys ≠ []) (hkx : ∀ x ∈ pre ++ xs ++ post, x.cells.length = k) (hk : ∀ y ∈ ys, y.cells.length = k) (hk0 : 0 < k)
 (hun : K.P.underlying ty = some (.slice e)) (hinf : (K.P.info? e).map (fun i => (i.zero, i.size, i.bytes)) = some (some z, k, by_)) (hzs : z.cells.size = k) (hz1 : z.cells.all (·.oneCell') = true)
 (hlen : xs.length + ys.length ≤ lim) (hB : (xs.length + ys.length) * by_ ≤ lim) (ht : t < K.n) :
 YldE K ⟨some t, .call ⟨.builtin .append, #[.tmp u, y], #[ty, ty]⟩, rt, pos, af, g⟩ s fun s' => ∃ pre' post', (∀ x ∈ pre' ++ (xs ++ ys) ++ post', x.cells.length = k) ∧ s' = ⟨(t, .rsl b (rlo k pre' (xs ++ ys) post') (xs.length + ys.length) k) :: sansB b s.slots, s.mem.set b (flat (pre' ++ (xs ++ ys) ++ post'))⟩ := by
 rintro a w ⟨S, O, m, h⟩
 have hru := h.slots u _ hu
 have hry := h.evl hy
 obtain ⟨inf, hin, hiz, his, hib⟩ : ∃ inf, K.P.info? e = some inf ∧ inf.zero = some z ∧ inf.size = k ∧ inf.bytes = by_ := by
  cases hq : K.P.info? e with
  | none => simp [hq] at hinf
  | some i => simp [hq] at hinf; exact ⟨i, rfl, hinf.1, hinf.2.1, hinf.2.2⟩
 obtain ⟨ab, cap, hvu, hcap, ⟨_, hcapx⟩, hrow⟩ := row_val hru hn hoff
 replace hvu : a.eval (.tmp u) = .slice ab xs.length cap := hvu
 obtain ⟨ay, capy, hvy⟩ : ∃ ay capy, a.eval y = .slice (some ay) ys.length capy := by
  generalize a.eval y = vy at hry
  cases hry with
  | sl _ ay capy _ _ _ _ hn _ _ =>
   cases ay with
   | none => exact absurd (hn rfl) hne
   | some ay => exact ⟨ay, capy, rfl⟩
 rw [hvy] at hry
 obtain ⟨news, hnl, hnews, hnrd⟩ := hry.news hk
 have hrun0 : ∀ v w', (Builtin.append_ #[ty, ty] rt #[a.eval (.tmp u), a.eval y]).run K.P w = .ok v w' → (execOp a.eval ⟨some t, .call ⟨.builtin .append, #[.tmp u, y], #[ty, ty]⟩, rt, pos, af, g⟩).run K.P w = .ok (.value v) w' := by
  intro v w' hr
  simp [execOp, resolve, invoke, builtin, hr]
 have hyslen : 0 < ys.length := List.length_pos_iff.2 hne
 have hlimv : lim = 140737488355328 := rfl
 have hbl : b < s.mem.length := (List.getElem?_eq_some_iff.1 hmem).1
 have hkp : ∀ x ∈ pre, x.cells.length = k := fun x hx => hkx x (by simp [hx])
 have hkxs : ∀ x ∈ xs, x.cells.length = k := fun x hx => hkx x (by simp [hx])
 have hkpo : ∀ x ∈ post, x.cells.length = k := fun x hx => hkx x (by simp [hx])
 -- what is known of the result, whichever block it lies in
 have fin : ∀ (pre' post' : List D) (w' : World) (r' cap' : Nat) (vs' : Array Value) (el' : TypeId), (∀ x ∈ pre' ++ (xs ++ ys) ++ post', x.cells.length = k) → Ext S w w' → (r' = w.heap.size ∨ O r' = some ([b, 1], 0)) → (∀ q, q < w.heap.size → q ≠ r' → w'.heap[q]? = w.heap[q]?) →
  w'.heap[r']? = some (.cells vs' el' (0, 0)) → pre'.length * k + cap' * k ≤ vs'.size → (pre' ++ (xs ++ ys) ++ post').length * k ≤ vs'.size → (xs.length + ys.length ≤ cap' ∧ cap' ≤ 9223372036854775807) → (∀ (j : Nat) v, vs'[j]? = some v → v.oneCell' = true) →
  (∀ (i : Nat) x (j : Nat) y, (pre' ++ (xs ++ ys) ++ post')[i]? = some x → x.cells[j]? = some y → ∃ v, vs'[i * k + j]? = some v ∧ Rd w' S y v) →
  At K ⟨(t, .rsl b (rlo k pre' (xs ++ ys) post') (xs.length + ys.length) k) :: sansB b s.slots, s.mem.set b (flat (pre' ++ (xs ++ ys) ++ post'))⟩ (a.put (some t) (.slice (some ⟨r', pre'.length * k, none⟩) (xs.length + ys.length) cap')) w' := by
  intro pre' post' w' r' cap' vs' el' hkall hE hO hsame hh hsz hle ⟨hcap', hcapx'⟩ hone hcells
  have hfl := flat_length _ hkall
  have hblk : Blk w' S (fun q => if q = r' then some ([b, 1], 0) else O q) (m.set b r') b (flat (pre' ++ (xs ++ ys) ++ post')) r' := .inl ⟨vs', el', hh, by rw [hfl]; exact hle, hone, fun j p v hp hv => by
   obtain ⟨i, j', x, y', h1, h2, rfl, rfl⟩ := flat_inv _ hkall j p hp
   obtain ⟨v', h3, h4⟩ := hcells i x j' y' h1 h2
   rw [h3] at hv; injection hv with hv; subst hv
   exact .d _ _ _ h4⟩
  have hlt : r' < w'.heap.size := (Array.getElem?_eq_some_iff.1 hh).1
  have henv := h.env.renew hbl hE hO hlt hsame hno hblk
  refine ⟨S, _, _, henv, h.defers, by simp [Act.put, h.size], ?_, fun i p hp => ?_⟩
  · obtain ⟨tl, htl⟩ := h.pre
    refine ⟨tl.set (b - K.m0.length) r', ?_⟩
    rw [← htl, List.set_append_right _ _ hbm]
  rw [getD_put _ _ _ _ (by rw [h.size]; exact ht)]
  have hp' : (if i = t then some (PV.rsl b (rlo k pre' (xs ++ ys) post') (xs.length + ys.length) k) else (sansB b s.slots).lookup i) = some p := by
   by_cases hi : i = t
   · subst hi; rw [if_pos rfl]; simpa [GS.get, List.lookup] using hp
   · rw [if_neg hi]
     have : (i == t) = false := by simpa using hi
     simpa [GS.get, List.lookup, this] using hp
  by_cases hit : i = t
  · rw [if_pos hit] at hp' ⊢; injection hp' with hp'; subst hp'
    have := row_mk (S := S) (O := fun q => if q = r' then some ([b, 1], 0) else O q) (m := m.set b r') [i, 0] (b := b) (k := k) (r := r') (cap := cap') (pre := pre') (xs := xs ++ ys) (post := post') (w := w') (by rw [List.length_append]; exact hcap') (by rw [List.length_append]; exact hlen) (List.getElem?_set_self (by rw [h.env.mlen]; exact hbl)) (by simp [hne]) ⟨vs', el', hh, hsz⟩
    rw [List.length_append] at this
    exact this
  · rw [if_neg hit] at hp' ⊢
    obtain ⟨q, hq, ⟨hnq, rfl⟩ | rfl⟩ := sansB_lookup hp'
    · refine RP.reset ((h.slots i p hq).ext hE (fun _ _ h => h) (fun c t' x hx => ?_) (fun _ _ h => h)) b r' hnq
      rw [if_neg]; · exact hx
      rintro rfl
      rcases hO with h1 | h1
      · have := h.env.olt _ _ _ hx; omega
      · rw [hx] at h1; injection h1 with h1; injection h1 with h1 _
        have := congrArg List.getLast? h1; simp at this
    · exact .undef _ _
 have hkall0 : ∀ x ∈ [] ++ (xs ++ ys) ++ [], x.cells.length = k := fun x hx => by
  simp only [List.nil_append, List.append_nil, List.mem_append] at hx
  rcases hx with hx | hx
  · exact hkxs x hx
  · exact hk x hx
 have hkall : ∀ x ∈ xs ++ ys, x.cells.length = k := fun x hx => hkall0 x (by simpa using hx)
 -- a new block
 have grown : ∀ (old : Nat) (olds : List Value), olds.length = xs.length * k → (∀ (j : Nat) v, olds[j]? = some v → v.oneCell' = true) →
  (∀ (i : Nat) x (j : Nat) y v, xs[i]? = some x → x.cells[j]? = some y → olds[i * k + j]? = some v → Rd w S y v) →
  At K ⟨(t, .rsl b (rlo k [] (xs ++ ys) []) (xs.length + ys.length) k) :: sansB b s.slots, s.mem.set b (flat ([] ++ (xs ++ ys) ++ []))⟩
   (a.put (some t) (.slice (some ⟨w.heap.size, 0, none⟩) (xs.length + ys.length) (grownCap w (xs.length + ys.length) old e)))
   (w.drew.alloc (.cells (olds.toArray ++ news.toArray ++ Builtin.zeroCells z.cells (grownCap w (xs.length + ys.length) old e - (xs.length + ys.length))) e)) := by
  intro old olds hol ho1 hord
  have hge := grownCap_ge w (xs.length + ys.length) old e
  have hgx : grownCap w (xs.length + ys.length) old e ≤ 9223372036854775807 := grownCap_le_maxLen w (xs.length + ys.length) old e (by show _ ≤ 9223372036854775807; have : lim = 140737488355328 := rfl; omega)
  generalize grownCap w (xs.length + ys.length) old e = cp at hge hgx ⊢
  have hE : Ext S w (w.drew.alloc (.cells (olds.toArray ++ news.toArray ++ Builtin.zeroCells z.cells (cp - (xs.length + ys.length))) e)) :=
   (ext_drew S w).trans (ext_alloc S w.drew _ h.env.slt) (fun _ _ h => h)
  have hsum : (xs.length + ys.length) * k = olds.length + news.length := by rw [hol, hnl, Nat.add_mul]
  have hfin := fin [] [] _ w.heap.size cp _ e hkall0 hE (.inl rfl) (fun q hq _ => heap_alloc_old' w.drew _ q hq) (heap_alloc_new' w.drew _)
  simp only [List.length_nil, Nat.zero_mul, Nat.zero_add] at hfin
  refine hfin ?_ ?_ ⟨hge, hgx⟩ (fun j v hj => ?_) ?_
  · simp only [Array.size_append, List.size_toArray, size_zeroCells, hzs]
    rw [← hsum, ← Nat.add_mul]
    exact Nat.mul_le_mul_right _ (by omega)
  · rw [List.nil_append, List.append_nil, List.length_append]
    simp only [Array.size_append, List.size_toArray, size_zeroCells, hzs]
    rw [← hsum, ← Nat.add_mul]
    exact Nat.mul_le_mul_right _ (by omega)
  · by_cases h1 : j < olds.length
    · rw [Array.append_assoc, Array.getElem?_append_left (by simpa using h1)] at hj
      exact ho1 j v (by simpa using hj)
    · rw [Array.append_assoc, Array.getElem?_append_right (by simpa using Nat.le_of_not_lt h1)] at hj
      simp only [List.size_toArray] at hj
      by_cases h2 : j - olds.length < news.length
      · rw [Array.getElem?_append_left (by simpa using h2)] at hj
        exact (hnews _ v (by simpa using hj)).2
      · rw [Array.getElem?_append_right (by simpa using Nat.le_of_not_lt h2)] at hj
        exact zeroCells_one hz1 v (Array.mem_of_getElem? hj)
  · intro i x j y hi hj
    rw [List.nil_append, List.append_nil] at hi
    have hjk : j < k := by rw [← hkall x (List.mem_of_getElem? hi)]; exact (List.getElem?_eq_some_iff.1 hj).1
    by_cases hx : i < xs.length
    · rw [List.getElem?_append_left hx] at hi
      have hlt2 : i * k + j < olds.length := by
       rw [hol]
       calc i * k + j < i * k + k := by omega
        _ = (i + 1) * k := by rw [Nat.add_mul, Nat.one_mul]
        _ ≤ xs.length * k := Nat.mul_le_mul_right _ hx
      have hg := List.getElem?_eq_getElem hlt2
      refine ⟨olds[i * k + j], ?_, (hord i x j y _ hi hj hg).ext hE (fun _ _ h => h)⟩
      rw [Array.append_assoc, Array.getElem?_append_left (by simpa using hlt2)]
      simp [hg]
    · rw [List.getElem?_append_right (by omega)] at hi
      have hil2 : i - xs.length < ys.length := (List.getElem?_eq_some_iff.1 hi).1
      have hmul : xs.length * k ≤ i * k := Nat.mul_le_mul_right _ (by omega)
      have hsub : i * k + j - olds.length = (i - xs.length) * k + j := by rw [hol, Nat.sub_mul]; omega
      have hge2 : olds.length ≤ i * k + j := by rw [hol]; omega
      have hlt2 : (i - xs.length) * k + j < news.length := by
       rw [hnl]
       calc (i - xs.length) * k + j < (i - xs.length) * k + k := by omega
        _ = (i - xs.length + 1) * k := by rw [Nat.add_mul, Nat.one_mul]
        _ ≤ ys.length * k := Nat.mul_le_mul_right _ hil2
      have hg := List.getElem?_eq_getElem hlt2
      refine ⟨news[(i - xs.length) * k + j], ?_, (hnrd _ x j y _ hi hj hg).ext hE (fun _ _ h => h)⟩
      rw [Array.append_assoc, Array.getElem?_append_right (by simpa using hge2), Array.getElem?_append_left (by simp; omega)]
      simp only [List.size_toArray, List.getElem?_toArray]
      rw [hsub]; exact hg
 rcases hrow with ⟨rfl, rfl⟩ | ⟨_, hzne, r, hmr, rfl, vs, el, hheap, hsz⟩
 · have hgr := grown 0 [] (by simp) (by simp) (by simp)
   simp only [List.length_nil, Nat.zero_add, Array.empty_append] at hgr hvu hlen hB ⊢
   cases ab with
   | none =>
    have hr := run_append_nil (P := K.P) w ty rt e inf z hun hin hiz ay ys.length capy news (by rw [his]; exact hnl) (fun j v hj => (hnews j v hj).1) hyslen (by omega) (by rw [hib]; omega)
    exact ⟨_, _, _, ⟨[], [], hkall0, rfl⟩, hrun0 _ _ (by rw [hvu, hvy]; exact hr), by simpa only [List.length_nil, Nat.zero_add] using hgr⟩
   | some ad =>
    have hr := run_append_grow (P := K.P) w ty rt e inf z hun hin hiz ad 0 0 [] (by simp) (by simp) ay ys.length capy news (by rw [his]; exact hnl) (fun j v hj => (hnews j v hj).1) (by omega) (by omega) (growslice_fits (by omega) (by rw [hib, Nat.zero_add]; omega))
    simp only [Nat.zero_add, Array.empty_append] at hr
    exact ⟨_, _, _, ⟨[], [], hkall0, rfl⟩, hrun0 _ _ (by rw [hvu, hvy]; exact hr), by simpa only [List.length_nil, Nat.zero_add] using hgr⟩
 · obtain ⟨hOr, hzl, hone, hcells⟩ := row_cells h hmem hmr hkx hk0 hzne hheap
   have hvl : vs.toList.length = vs.size := by simp
   have hxc := Nat.mul_le_mul_right k hcap
   have hin2 : ∀ (i : Nat) x (j : Nat) y, xs[i]? = some x → x.cells[j]? = some y → ∃ v, vs[pre.length * k + (i * k + j)]? = some v ∧ Rd w S y v := fun i x j y hi hj => by
    have hil := (List.getElem?_eq_some_iff.1 hi).1
    obtain ⟨v, h1, h2⟩ := hcells (pre.length + i) x j y (by
     rw [List.append_assoc, List.getElem?_append_right (by omega), Nat.add_sub_cancel_left, List.getElem?_append_left hil]; exact hi) hj
    rw [Nat.add_mul, Nat.add_assoc] at h1
    exact ⟨v, h1, h2⟩
   by_cases hroom : xs.length + ys.length ≤ cap
   · have hfit : pre.length * k + xs.length * inf.size + news.length ≤ vs.size := by
      rw [his, hnl, Nat.add_assoc, ← Nat.add_mul]
      exact Nat.le_trans (Nat.add_le_add_left (Nat.mul_le_mul_right k hroom) _) hsz
     have hr := run_append_room_at (P := K.P) w ty rt e inf hun hin r (pre.length * k) xs.length cap vs el hheap ay ys.length capy news (by rw [his]; exact hnl) (fun j v hj => (hnews j v hj).1)
      (fun v hv => by obtain ⟨j, hj⟩ := List.getElem?_of_mem hv; exact (hnews j v hj).2) hroom hfit
     rw [his] at hr hfit
     have hkall1 : ∀ x ∈ pre ++ (xs ++ ys) ++ post.drop ys.length, x.cells.length = k := fun x hx => by
      simp only [List.mem_append] at hx
      rcases hx with (hx | hx | hx) | hx
      · exact hkp x hx
      · exact hkxs x hx
      · exact hk x hx
      · exact hkpo x (List.mem_of_mem_drop hx)
     refine ⟨_, _, _, ⟨pre, post.drop ys.length, hkall1, rfl⟩, hrun0 _ _ (by rw [hvu, hvy]; exact hr), ?_⟩
     have hfitL : pre.length * k + xs.length * k + news.length ≤ vs.toList.length := by simpa using hfit
     have hsz2 : (splice vs.toList (pre.length * k + xs.length * k) news).toArray.size = vs.size := List.size_toArray.trans ((splice_length _ _ _ hfitL).trans hvl)
     have hget : ∀ o, (splice vs.toList (pre.length * k + xs.length * k) news).toArray[o]? = if pre.length * k + xs.length * k ≤ o ∧ o < pre.length * k + xs.length * k + news.length then news[o - (pre.length * k + xs.length * k)]? else vs[o]? := fun o => by
      rw [List.getElem?_toArray, splice_get _ _ _ hfitL, show vs.toList[o]? = vs[o]? from by simp]
     have hE : Ext S w (w.setRow r (splice vs.toList (pre.length * k + xs.length * k) news).toArray) := ext_setRow hheap hsz2 (fun o hS => by have := h.env.sown _ o _ _ hS hOr; omega)
     refine fin pre (post.drop ys.length) _ r cap _ el hkall1 hE (.inr hOr) (fun q _ hq => setRow_other _ _ _ _ hq) (setRow_heap w r vs _ el (0, 0) hheap) (by rw [hsz2]; exact hsz) ?_ ⟨hroom, hcapx⟩ (fun j v hj => ?_) ?_
     · rw [hsz2]
       simp only [List.length_append, List.length_drop]
       by_cases hpl : ys.length ≤ post.length
       · refine Nat.le_trans (Nat.mul_le_mul_right k ?_) hzl
         simp only [List.length_append]; omega
       · rw [show post.length - ys.length = 0 by omega, Nat.add_zero, Nat.add_mul]
         exact Nat.le_trans (Nat.add_le_add_left (Nat.mul_le_mul_right k hroom) _) hsz
     · rw [hget] at hj
       split at hj
       · exact (hnews _ v hj).2
       · exact hone j v hj
     · intro i x j y hi hj
       have hjk : j < k := by rw [← hkall1 x (List.mem_of_getElem? hi)]; exact (List.getElem?_eq_some_iff.1 hj).1
       have hold : ∀ i', (pre ++ xs ++ post)[i']? = some x → i = i' → ¬ (pre.length * k + xs.length * k ≤ i * k + j ∧ i * k + j < pre.length * k + xs.length * k + news.length) → ∃ v, (splice vs.toList (pre.length * k + xs.length * k) news).toArray[i * k + j]? = some v ∧ Rd (w.setRow r (splice vs.toList (pre.length * k + xs.length * k) news).toArray) S y v := fun i' g1 g2 g3 => by
        subst g2
        obtain ⟨v, h1, h2⟩ := hcells i x j y g1 hj
        exact ⟨v, by rw [hget, if_neg g3]; exact h1, h2.ext hE (fun _ _ h => h)⟩
       by_cases hx : i < pre.length + xs.length
       · refine hold i ?_ rfl ?_
         · rw [List.append_assoc, List.append_assoc] at hi
           rw [List.append_assoc]
           by_cases hp1 : i < pre.length
           · rw [List.getElem?_append_left hp1] at hi ⊢; exact hi
           · rw [List.getElem?_append_right (by omega)] at hi ⊢
             rw [List.getElem?_append_left (by omega)] at hi ⊢; exact hi
         · have : i * k + j < (pre.length + xs.length) * k := by
            calc i * k + j < i * k + k := by omega
             _ = (i + 1) * k := by rw [Nat.add_mul, Nat.one_mul]
             _ ≤ (pre.length + xs.length) * k := Nat.mul_le_mul_right _ hx
           rw [Nat.add_mul] at this
           omega
       · have hmul : (pre.length + xs.length) * k ≤ i * k := Nat.mul_le_mul_right _ (by omega)
         by_cases hy2 : i < pre.length + xs.length + ys.length
         · have hi2 : ys[i - (pre.length + xs.length)]? = some x := by
            rw [List.append_assoc, List.append_assoc, List.getElem?_append_right (by omega), List.getElem?_append_right (by omega), List.getElem?_append_left (by omega)] at hi
            rw [show i - (pre.length + xs.length) = i - pre.length - xs.length by omega]; exact hi
           have hsub : (i - (pre.length + xs.length)) * k = i * k - (pre.length + xs.length) * k := Nat.sub_mul _ _ _
           have hlt2 : (i - (pre.length + xs.length)) * k + j < news.length := by
            rw [hnl]
            calc (i - (pre.length + xs.length)) * k + j < (i - (pre.length + xs.length)) * k + k := by omega
             _ = (i - (pre.length + xs.length) + 1) * k := by rw [Nat.add_mul, Nat.one_mul]
             _ ≤ ys.length * k := Nat.mul_le_mul_right _ (by omega)
           have hg := List.getElem?_eq_getElem hlt2
           rw [Nat.add_mul] at hmul hsub
           refine ⟨news[(i - (pre.length + xs.length)) * k + j], ?_, (hnrd _ x j y _ hi2 hj hg).ext hE (fun _ _ h => h)⟩
           rw [hget, if_pos (by omega), show i * k + j - (pre.length * k + xs.length * k) = (i - (pre.length + xs.length)) * k + j by omega]
           exact hg
         · refine hold i ?_ rfl ?_
           · rw [List.append_assoc, List.append_assoc, List.getElem?_append_right (by omega), List.getElem?_append_right (by omega), List.getElem?_append_right (by omega), List.getElem?_drop] at hi
             rw [List.append_assoc, List.getElem?_append_right (by omega), List.getElem?_append_right (by omega)]
             rw [show i - pre.length - xs.length = ys.length + (i - pre.length - xs.length - ys.length) by omega]
             exact hi
           · have : (pre.length + xs.length + ys.length) * k ≤ i * k := Nat.mul_le_mul_right _ (by omega)
             rw [Nat.add_mul, Nat.add_mul, ← hnl] at this
             omega
   · have hr := run_append_grow (P := K.P) w ty rt e inf z hun hin hiz ⟨r, pre.length * k, none⟩ xs.length cap ((vs.toList.drop (pre.length * k)).take (xs.length * k)) (by
         rw [his, List.length_take, List.length_drop]
         omega) (fun j v hj => by
         rw [add_at, cell_of_row w r _ vs el _ hheap]
         have hlt : j < xs.length * k := by
          have := (List.getElem?_eq_some_iff.1 hj).1
          rw [List.length_take] at this; omega
         rw [List.getElem?_take_of_lt hlt, List.getElem?_drop] at hj
         simpa using hj) ay ys.length capy news (by rw [his]; exact hnl) (fun j v hj => (hnews j v hj).1)
      (by omega) (by omega) (growslice_fits (by omega) (by rw [hib]; omega))
     refine ⟨_, _, _, ⟨[], [], hkall0, rfl⟩, hrun0 _ _ (by rw [hvu, hvy]; exact hr), grown cap _ ?_ (fun j v hj => ?_) (fun i x j y v hi hj hv => ?_)⟩
     · rw [List.length_take, List.length_drop]
       omega
     · have := List.mem_of_mem_drop (List.mem_of_mem_take (List.mem_of_getElem? hj))
       obtain ⟨j', hj'⟩ := List.getElem?_of_mem this
       exact hone j' v (by simpa using hj')
     · obtain ⟨v', h1, h2⟩ := hin2 i x j y hi hj
       have hlt : i * k + j < xs.length * k := by
        have := (List.getElem?_eq_some_iff.1 hv).1
        rw [List.length_take] at this; omega
       rw [List.getElem?_take_of_lt hlt, List.getElem?_drop] at hv
       have : vs[pre.length * k + (i * k + j)]? = some v := by simpa using hv
       rw [h1] at this; injection this with this; subst this
       exact h2
end Go.Proofs.YtoonleefemkalaaDoor.E
namespace Go.Proofs.YtoonleefemkalaaDoor.E
open Go
def GCallJ (j : Nat) (P : Program) (f : FuncId) (args : List PV) (mem : List (List PV)) (R : PV → List (List PV) → Prop) : Prop :=
 ∀ (w : World) (S : Reg) (O : Owns) (m : List Nat) (vals : Array Value), Env S O w S O m mem w → vals.size = args.length →
  (∀ (i : Nat) p v, args[i]? = some p → vals[i]? = some v → RP w S O m [i, 0] p v) →
  Calls P f vals w (fun e w' => ∃ v r mem' S' O' m', e = .returned v ∧ R r mem' ∧ Env S O w S' O' m' mem' w' ∧ mem.length ≤ mem'.length ∧ m.take j <+: m' ∧ RP w' S' O' m' [2] r v)
variable {f : FuncId}
theorem GCall.j {P : Program} {args : List PV} {mem : List (List PV)} {R : PV → List (List PV) → Prop} (j : Nat) (h : GCall P f args mem R) : GCallJ j P f args mem R := fun w S O m vals h1 h2 h3 =>
 (h w S O m vals h1 h2 h3).mono fun _ _ ⟨v, r, mem', S', O', m', e, g, he, hm, rest⟩ => ⟨v, r, mem', S', O', m', e, g, he, by rw [← h1.mlen, ← he.mlen]; exact hm.length_le, (List.take_prefix _ _).trans hm, rest⟩
theorem GCallJ.mono {j : Nat} {P : Program} {args : List PV} {mem : List (List PV)} {R R' : PV → List (List PV) → Prop} (h : GCallJ j P f args mem R) (hr : ∀ r m, R r m → R' r m) : GCallJ j P f args mem R' :=
 fun w S O m vals h1 h2 h3 => (h w S O m vals h1 h2 h3).mono fun _ _ ⟨v, r, mem', S', O', m', e, g, rest⟩ => ⟨v, r, mem', S', O', m', e, hr _ _ g, rest⟩
theorem gcall_bodyJ (jj : Nat) {P : Program} {f : FuncId} {fn : Func} {c : Code} {args : List PV} {mem : List (List PV)} {R : PV → List (List PV) → Prop} (n : Nat) (rvs : List ResultVar) (slots : List (Nat × PV)) (k : Nat)
 (hf : P.funcs[f]? = some fn) (hb : fn.body = some c) (hn : fn.ntmps = n) (hal : args.length ≤ n) (hres : fn.results = rvs.toArray) (hsl : (List.range args.length).zip args = slots) (hk : mem.length = k)
 (h : ∀ S0 O0 w0 m0, m0.length = min jj k → G ⟨P, n, S0, O0, w0, m0, [], []⟩ c (Fin P rvs k R) ⟨slots, mem⟩) : GCallJ jj P f args mem R := by
 subst hsl
 subst hk
 intro w S O m vals henv hvs hargs
 refine calls_of_wp hf hb ?_
 have hrep : At ⟨P, n, S, O, w, m.take jj, [], []⟩ ⟨(List.range args.length).zip args, mem⟩ { tmps := vals ++ Array.replicate (fn.ntmps - vals.size) undef, defers := [] } w := by
  refine ⟨S, O, m, henv, rfl, by simp [hn]; omega, List.take_prefix _ _, fun i p hp => ?_⟩
  have hp' : args[i]? = some p := by rw [← lookup_zip]; exact hp
  have hlt : i < args.length := (List.getElem?_eq_some_iff.1 hp').1
  have hlt2 : i < vals.size := by omega
  rw [Array.getD_eq_getD_getElem?, Array.getElem?_append_left hlt2, Array.getElem?_eq_getElem hlt2]
  exact hargs i p _ hp' (Array.getElem?_eq_getElem hlt2)
 refine wp_mono (h S O w (m.take jj) (by rw [List.length_take, henv.mlen]) _ _ hrep) ?_
 rintro e a' w' ⟨s', ⟨he, hfin⟩, S', O', m', hr'⟩
 have hex : ∃ v r mem' O'', (results fn a'.tmps).run P w' = .ok v w' ∧ R r mem' ∧ Env S O w S' O'' (m'.take mem'.length) mem' w' ∧ mem.length ≤ mem'.length ∧ m.take jj <+: m'.take mem'.length ∧ RP w' S' O'' (m'.take mem'.length) [2] r v := by
  rcases hfin with ⟨ps, mem', hL, hlen, hms, hrf, hR⟩ | ⟨t, k, xs, mem', hrv, hst, hlen, hms, hR⟩
  · obtain ⟨v, hrun, hrp⟩ := hL.run hr' hres O'
    exact ⟨v, _, mem', O', hrun, hR, hr'.env.less hms, hlen, List.prefix_take_iff.2 ⟨hr'.pre, by rw [List.length_take, henv.mlen]; omega⟩, hrp.take mem'.length hrf⟩
  · have hsl := hr'.slots t _ hst
    have hres' : fn.results = #[.tmp t] := by rw [hres, hrv]
    refine ⟨a'.tmps.getD t undef, _, mem', reo O' (renTR t), by simp [results, hres'], hR, (hr'.env.less hms).relab (renTR t) (fun _ => if_neg (by simp)) (fun i j q => if_neg (end_ne q j i t)),
     hlen, List.prefix_take_iff.2 ⟨hr'.pre, by rw [List.length_take, henv.mlen]; omega⟩, (hsl.move (l' := [2]) rfl (renTR t) (by simp [renTR])).take _ rfl⟩
 obtain ⟨v, r, mem', O'', hrun, hR, henv', hlen', hpre, hrp'⟩ := hex
 rcases he with rfl | rfl
 · exact ⟨hr'.defers, v, hrun, v, r, mem', S', O'', _, rfl, hR, henv', hlen', hpre, hrp'⟩
 · exact ⟨hr'.defers, v, hrun, v, r, mem', S', O'', _, rfl, hR, henv', hlen', hpre, hrp'⟩
def nrefL (L : List Nat) (p : PV) : Bool := L.all fun b => PV.nref b p
variable {L : List Nat} {p : PV}
theorem nrefL_of (h : nrefL L p = true) {b : Nat} (hb : b ∈ L) : PV.nref b p = true := List.all_eq_true.1 h b hb
variable {m m' : List Nat}
theorem RP.renew {w : World} {S : Reg} {O : Owns} {l : List Nat} {v : Value} (L : List Nat) (h : RP w S O m l p v) (hm : ∀ b r, b ∉ L → m[b]? = some r → m'[b]? = some r) : nrefL L p = true → RP w S O m' l p v := by
 have key : ∀ {b' : Nat}, (∀ b ∈ L, (!(b' == b)) = true) → b' ∉ L := fun {b'} hb hin => by have := hb b' hin; simp at this
 induction h with
 | d l x v h => exact fun _ => .d l x v h
 | nils l => exact fun _ => .nils l
 | osl l k xs a cap hr hk hn ht => exact fun _ => .osl l k xs a cap hr hk hn ht
 | ref l b off r h => intro hb; exact .ref l b off r (hm b r (key fun c hc => by have := nrefL_of hb hc; simpa only [PV.nref] using this) h)
 | rsl l b off n' k a cap hc hl h0 h => intro hb; exact .rsl l b off n' k a cap hc hl h0 (fun hn => by obtain ⟨r, h1, h2⟩ := h hn; exact ⟨r, hm b r (key fun c hc => by have := nrefL_of hb hc; simpa only [PV.nref] using this) h1, h2⟩)
 | mref l b r h => intro hb; exact .mref l b r (hm b r (key fun c hc => by have := nrefL_of hb hc; simpa only [PV.nref] using this) h)
 | fn l f first caps vf vc h1 h2 _ _ g1 g2 =>
  intro hb
  have hs : ∀ b ∈ L, PV.nrefs b first = true ∧ PV.nrefs b caps = true := fun b hb' => by have := nrefL_of hb hb'; simpa only [PV.nref, Bool.and_eq_true] using this
  exact .fn l f first caps vf vc h1 h2 (fun i p v hi hv => g1 i p v hi hv (List.all_eq_true.2 fun b hb' => PV.nrefs_get (hs b hb').1 hi)) (fun i p v hi hv => g2 i p v hi hv (List.all_eq_true.2 fun b hb' => PV.nrefs_get (hs b hb').2 hi))
 | agg l cs vs hl ho _ ih => intro hb; exact .agg l cs vs hl ho (fun i p v hi hv => ih i p v hi hv (List.all_eq_true.2 fun b hb' => PV.nrefs_get (by have := nrefL_of hb hb'; simpa only [PV.nref] using this) hi))
 | tup l cs vs hl _ ih => intro hb; exact .tup l cs vs hl (fun i p v hi hv => ih i p v hi hv (List.all_eq_true.2 fun b hb' => PV.nrefs_get (by have := nrefL_of hb hb'; simpa only [PV.nref] using this) hi))
 | whenT l b p v hbt _ ih => intro hb; exact .whenT l b p v hbt (ih (List.all_eq_true.2 fun c hc => by have := nrefL_of hb hc; simpa only [PV.nref] using this))
 | whenF l b p hbf => exact fun _ => .whenF l b p hbf
 | undef l v => exact fun _ => .undef l v
def sansL (L : List Nat) (l : List (Nat × PV)) : List (Nat × PV) := l.map fun x => (x.1, if nrefL L x.2 = true then x.2 else .undef)
variable {i : Nat}
theorem sansL_lookup : ∀ {l : List (Nat × PV)}, (sansL L l).lookup i = some p → ∃ q, l.lookup i = some q ∧ ((nrefL L q = true ∧ p = q) ∨ p = .undef)
 | [], h => by cases h
 | (j, q) :: l, h => by
  rw [show sansL L ((j, q) :: l) = (j, if nrefL L q = true then q else .undef) :: sansL L l from rfl, List.lookup_cons] at h
  rw [List.lookup_cons]
  cases hij : i == j with
  | true =>
   rw [hij] at h
   injection h with h
   refine ⟨q, rfl, ?_⟩
   split at h
   · rename_i h1; exact .inl ⟨h1, h.symm⟩
   · exact .inr h.symm
  | false =>
   rw [hij] at h
   exact sansL_lookup h
def nrefLM (L sel : List Nat) : Nat → List (List PV) → Bool
 | _, [] => true
 | i, c :: r => (sel.contains i || L.all fun b => PV.nrefs b c) && nrefLM L sel (i + 1) r
variable {sel : List Nat}
theorem nrefLM_get : ∀ {mem : List (List PV)} {k : Nat}, nrefLM L sel k mem = true → ∀ {i : Nat} {cs : List PV}, mem[i]? = some cs → k + i ∉ sel → ∀ b ∈ L, PV.nrefs b cs = true
 | [], _, _, i, cs, h, _ => by simp at h
 | c :: r, k, h, i, cs, hi, hne => by
  simp only [nrefLM, Bool.and_eq_true, Bool.or_eq_true] at h
  cases i with
  | zero =>
   simp at hi
   subst hi
   rcases h.1 with h1 | h1
   · exact absurd (by simpa using h1) hne
   · exact List.all_eq_true.1 h1
  | succ i => exact nrefLM_get (k := k + 1) h.2 (by simpa using hi) (by rw [show k + 1 + i = k + (i + 1) by omega]; exact hne)
def newM (m sel m' : List Nat) : List Nat := ((List.range m.length).map fun i => if i ∈ sel then m'.getD (sel.idxOf i) 0 else m.getD i 0) ++ m'.drop sel.length
theorem newM_old (h : i < m.length) (hi : i ∉ sel) : (newM m sel m')[i]? = m[i]? := by
 unfold newM
 rw [List.getElem?_append_left (by simpa using h), List.getElem?_map, List.getElem?_range h, Option.map_some, if_neg hi, List.getD_eq_getElem?_getD, List.getElem?_eq_getElem h]; rfl
theorem newM_sel {b : Nat} (hnd : sel.Nodup) (hsel : ∀ b ∈ sel, b < m.length) (hb : b < sel.length) (hl : sel.length ≤ m'.length) : (newM m sel m')[sel.getD b 0]? = m'[b]? := by
 have hs : sel.getD b 0 = sel[b] := by rw [List.getD_eq_getElem?_getD, List.getElem?_eq_getElem hb]; rfl
 have hin : sel[b] ∈ sel := List.getElem_mem hb
 have hlt := hsel _ hin
 unfold newM
 rw [hs, List.getElem?_append_left (by simpa using hlt), List.getElem?_map, List.getElem?_range hlt, Option.map_some, if_pos hin, hnd.idxOf_getElem b hb, List.getD_eq_getElem?_getD, List.getElem?_eq_getElem (by omega)]; rfl
theorem newM_new : (newM m sel m')[m.length + i]? = m'[sel.length + i]? := by
 unfold newM
 rw [List.getElem?_append_right (by simp), List.length_map, List.length_range, Nat.add_sub_cancel_left, List.getElem?_drop]
theorem newM_length : (newM m sel m').length = m.length + (m'.length - sel.length) := by simp [newM]
theorem Rep.afterJ {K : Ctx} {S : Reg} {O : Owns} {s : GS} {a : Act} {w w' : World} {S' : Reg} {O' : Owns} {mem' : List (List PV)} (h : Rep K S O m s a w) {sel m' : List Nat} (j : Nat) (hnd : sel.Nodup) (hsel : ∀ b ∈ sel, b < s.mem.length)
 (hpm : (sel.map (fun b => m.getD b 0)).take j <+: m') (hjK : ∀ b ∈ sel.drop j, K.m0.length ≤ b) (hno : nrefLM (sel.drop j) sel 0 s.mem = true) (hml0 : sel.length ≤ mem'.length) (he : Env S (fwd sel O) w S' O' m' mem' w')
 {t : Nat} (ht : t < K.n) {r : PV} {v : Value} (hr : RP w' S' O' m' [2] r v) :
 At K (GS.set ⟨sansL (sel.drop j) s.slots, setAll s.mem sel ((mem'.take sel.length).map (PV.rens (renN sel s.mem.length))) ++ (mem'.drop sel.length).map (PV.rens (renN sel s.mem.length))⟩ t (r.ren (renN sel s.mem.length))) (a.put (some t) v) w' := by
 have hml : mem'.length = m'.length := he.mlen.symm
 have hsm := h.env.mlen
 have hselm : ∀ b ∈ sel, b < m.length := fun b hb => by rw [hsm]; exact hsel b hb
 have hstab : ∀ x, x ∈ sel → x ∉ sel.drop j → (newM m sel m')[x]? = m[x]? := fun x hx hxd => by
  have hlt := List.idxOf_lt_length_of_mem hx
  have hxs : sel[sel.idxOf x] = x := List.getElem_idxOf hlt
  have hij : sel.idxOf x < j := by
   refine Nat.lt_of_not_le fun hle => hxd ?_
   rw [List.mem_iff_getElem?]
   refine ⟨sel.idxOf x - j, ?_⟩
   rw [List.getElem?_drop, show j + (sel.idxOf x - j) = sel.idxOf x by omega, List.getElem?_eq_getElem hlt, hxs]
  have h1 := newM_sel (m := m) (m' := m') hnd hselm hlt (by omega)
  have hsx : sel.getD (sel.idxOf x) 0 = x := by rw [List.getD_eq_getElem?_getD, List.getElem?_eq_getElem hlt]; exact hxs
  rw [hsx] at h1
  rw [h1]
  obtain ⟨tl, htl⟩ := hpm
  rw [← htl, List.getElem?_append_left (by rw [List.length_take, List.length_map]; omega), List.getElem?_take_of_lt hij, List.getElem?_map, List.getElem?_eq_getElem hlt, Option.map_some, hxs, List.getD_eq_getElem?_getD, List.getElem?_eq_getElem (hselm x hx)]; rfl
 have hm1 : ∀ (b r : Nat), b ∉ sel.drop j → m[b]? = some r → (newM m sel m')[b]? = some r := fun b r hbd hb => by
  by_cases hs : b ∈ sel
  · rw [hstab b hs hbd]; exact hb
  · rw [newM_old (List.getElem?_eq_some_iff.1 hb).1 hs]; exact hb
 have hfs : ∀ b, b < sel.length → renN sel s.mem.length b = sel.getD b 0 := fun b hb => if_pos hb
 have hfe : ∀ b, ¬ b < sel.length → renN sel s.mem.length b = b - sel.length + s.mem.length := fun b hb => if_neg hb
 have hfm : ∀ (b r : Nat), m'[b]? = some r → (newM m sel m')[renN sel s.mem.length b]? = some r := fun b r hb => by
  by_cases hlt : b < sel.length
  · rw [hfs b hlt, newM_sel hnd hselm hlt (by omega)]; exact hb
  · rw [hfe b hlt, show b - sel.length + s.mem.length = m.length + (b - sel.length) by omega, newM_new, show sel.length + (b - sel.length) = b by omega]; exact hb
 have hE := he.ext
 let pass : Nat → Prop := fun b => (fwd sel O b).isSome = true ∨ w.heap.size ≤ b
 have hdec : ∀ b, pass b ∨ ¬ pass b := fun b => Classical.em _
 let O'' : Owns := fun b => if (fwd sel O b).isSome = true ∨ w.heap.size ≤ b then reo O' (bwd (renN sel s.mem.length) t) b else O b
 have hOp : ∀ b, pass b → O'' b = reo O' (bwd (renN sel s.mem.length) t) b := fun b hb => if_pos hb
 have hOn : ∀ b, ¬ pass b → O'' b = O b := fun b hb => if_neg hb
 have hO'p : ∀ (b : Nat) l t', O' b = some (l, t') → pass b := fun b l t' hb => by
  rcases he.onew b l t' hb with h1 | ⟨l0, t0, h1, _⟩
  · exact .inr h1
  · exact .inl (by rw [h1]; rfl)
 have hold : ∀ b, ¬ pass b → w'.heap[b]? = w.heap[b]? := fun b hb => by
  refine he.old b (Nat.lt_of_not_le fun h => hb (.inr h)) ?_
  cases hf : fwd sel O b with
  | none => rfl
  | some x => exact absurd (.inl (by rw [hf]; rfl)) hb
 have hkeep : ∀ (b : Nat) l t' , O b = some (l, t') → (∀ q x, x ∈ sel → l ≠ q ++ [x, 1]) → O'' b = some (l, t') := fun b l t' hb hl => by
  rw [hOn b]
  · exact hb
  · rintro (h1 | h1)
    · rw [fwd_none hb hl] at h1; cases h1
    · exact absurd (h.env.olt b l t' hb) (Nat.not_lt_of_le h1)
 have hback : ∀ (l : List Nat) (q : PV) (u : Value) (l' : List Nat), (∀ q', bwd (renN sel s.mem.length) t (q' ++ l) = q' ++ l') → RP w' S' O' m' l q u → RP w' S' O'' (newM m sel m') l' (q.ren (renN sel s.mem.length)) u := fun l q u l' hb hq =>
  (hq.ren (renN sel s.mem.length) hfm).frame l' (Ext.refl _ _) (fun _ _ h => h) (fun b t' q' hO => by rw [hOp b (hO'p b _ t' hO), reo_of hO, hb]) (fun _ _ h => h)
 have hstay : ∀ (l : List Nat) (q : PV) (u : Value), (∀ q' q'' x, x ∈ sel → q' ++ l ≠ q'' ++ [x, 1]) → nrefL (sel.drop j) q = true → RP w S O m l q u → RP w' S' O'' (newM m sel m') l q u := fun l q u hl hnq hq =>
  (hq.ext hE he.s0 (fun b t' q' hO => hkeep b _ t' hO (fun q'' x hx => hl q' q'' x hx)) (fun _ _ h => h)).renew (sel.drop j) hm1 hnq
 have henv : Env K.S0 K.O0 K.w0 S' O'' (newM m sel m') (setAll s.mem sel ((mem'.take sel.length).map (PV.rens (renN sel s.mem.length))) ++ (mem'.drop sel.length).map (PV.rens (renN sel s.mem.length))) w' := by
  refine ⟨h.env.ext.trans hE h.env.s0, fun b hb hO => ?_, fun b l t' o hb hO hot => ?_, fun b o hb => he.s0 b o (h.env.s0 b o hb), fun b o hb => ?_, fun b o l t' hS hO => ?_, he.slt, fun b l t' hO => ?_, fun b l t' hO => ?_, by rw [newM_length, List.length_append, setAll_length, List.length_map, List.length_drop, hml, hsm], fun i cs r' hi hr' hne' => ?_⟩
  · rw [hold b, h.env.old b hb hO]
    rintro (h1 | h1)
    · cases hf : fwd sel O b with
      | none => rw [hf] at h1; cases h1
      | some x =>
       obtain ⟨l', t'⟩ := x
       obtain ⟨q, x, h2, _, _⟩ := fwd_some hf
       rcases h.env.onew b _ _ h2 with h3 | ⟨l0, t0, h3, _⟩
       · omega
       · rw [hO] at h3; cases h3
    · have := h.env.ext.size; omega
  · have hcell : w'.cell? ⟨b, o, none⟩ = w.cell? ⟨b, o, none⟩ := by
     cases hf : fwd sel O b with
     | none => simp only [World.cell?, hold b (by
      rintro (h1 | h1)
      · rw [hf] at h1; cases h1
      · have := h.env.ext.size; omega)]
     | some x =>
      obtain ⟨l', t''⟩ := x
      obtain ⟨q, x, h2, _, _⟩ := fwd_some hf
      refine he.part b l' t'' o (Nat.lt_of_lt_of_le hb h.env.ext.size) hf ?_
      rcases h.env.onew b _ _ h2 with h3 | ⟨l0, t0, h3, h4⟩
      · omega
      · rw [hO] at h3; injection h3 with h3; injection h3 with _ h3; omega
    rw [hcell]; exact h.env.part b l t' o hb hO hot
  · rcases he.snew b o hb with h1 | h1 | ⟨l, t', h1, h2⟩
    · exact h.env.snew b o h1
    · exact .inr (.inl (Nat.le_trans h.env.ext.size h1))
    · obtain ⟨q, x, h3, _, _⟩ := fwd_some h1
      rcases h.env.onew b _ _ h3 with h4 | ⟨l0, t0, h4, h5⟩
      · exact .inr (.inl h4)
      · exact .inr (.inr ⟨l0, t0, h4, by omega⟩)
  · rcases hdec b with hp | hp
    · rw [hOp b hp] at hO; obtain ⟨l0, h1, _⟩ := reo_some hO; exact he.sown b o l0 t' hS h1
    · rw [hOn b hp] at hO
      rcases he.snew b o hS with h1 | h1 | ⟨l1, t1, h1, _⟩
      · exact h.env.sown b o l t' h1 hO
      · exact absurd (.inr h1) hp
      · exact absurd (.inl (by rw [h1]; rfl)) hp
  · rcases hdec b with hp | hp
    · rw [hOp b hp] at hO; obtain ⟨l0, h1, _⟩ := reo_some hO; exact he.olt b l0 t' h1
    · rw [hOn b hp] at hO; exact Nat.lt_of_lt_of_le (h.env.olt b l t' hO) hE.size
  · rcases hdec b with hp | hp
    · rw [hOp b hp] at hO
      obtain ⟨l0, h1, _⟩ := reo_some hO
      rcases he.onew b l0 t' h1 with h2 | ⟨l1, t1, h2, h3⟩
      · exact .inl (Nat.le_trans h.env.ext.size h2)
      · obtain ⟨q, x, h4, _, _⟩ := fwd_some h2
        rcases h.env.onew b _ _ h4 with h5 | ⟨l2, t2, h5, h6⟩
        · exact .inl h5
        · exact .inr ⟨l2, t2, h5, by omega⟩
    · rw [hOn b hp] at hO; exact h.env.onew b l t' hO
  · by_cases hin : i < s.mem.length
    case neg =>
     have hge : s.mem.length ≤ i := Nat.le_of_not_lt hin
     rw [List.getElem?_append_right (by rw [setAll_length]; exact hge), setAll_length, List.getElem?_map, List.getElem?_drop] at hi
     rw [show i = m.length + (i - s.mem.length) by omega, newM_new] at hr'
     cases hc : mem'[sel.length + (i - s.mem.length)]? with
     | none => simp [hc] at hi
     | some cs0 =>
      simp only [hc, Option.map_some, Option.some.injEq] at hi; subst hi
      have hmi : m'[sel.length + (i - s.mem.length)]? = some r' := hr'
      obtain ⟨g1, g2⟩ := he.mem _ cs0 r' hc hmi (by rintro rfl; exact hne' rfl)
      have hfi : renN sel s.mem.length (sel.length + (i - s.mem.length)) = i := by rw [hfe _ (by omega)]; omega
      refine ⟨?_, g2.to rfl (Ext.refl _ _) (fun _ _ h => h) (by simp [PV.rens_map]) (fun jj p hp => ?_) PV.rens_fwd⟩
      · rw [hOp r' (hO'p r' _ _ g1), reo_of g1]
        have := bwd_blk (renN sel s.mem.length) t (sel.length + (i - s.mem.length)) []
        simp only [List.nil_append, hfi] at this; rw [this]
      · rw [PV.rens_get] at hp
        cases hq : cs0[jj]? with
        | none => simp [hq] at hp
        | some q =>
         simp only [hq, Option.map_some, Option.some.injEq] at hp; subst hp
         refine ⟨q, rfl, fun u hu => hback [jj, sel.length + (i - s.mem.length), 1] q u [jj, i, 1] (fun q' => ?_) hu⟩
         have := bwd_blk (renN sel s.mem.length) t (sel.length + (i - s.mem.length)) (q' ++ [jj])
         simp only [hfi, List.append_assoc, List.cons_append, List.nil_append] at this
         exact this
    case pos =>
    rw [List.getElem?_append_left (by rw [setAll_length]; exact hin), setAll_get sel _ s.mem hnd (by simp; omega) hsel] at hi
    by_cases his : i ∈ sel
    · rw [if_pos his, List.getElem?_map, List.getElem?_take_of_lt (List.idxOf_lt_length_of_mem his)] at hi
      have hidx : sel[sel.idxOf i]? = some i := by
       rw [List.getElem?_eq_getElem (List.idxOf_lt_length_of_mem his)]; simp
      cases hc : mem'[sel.idxOf i]? with
      | none => simp [hc] at hi
      | some cs0 =>
       simp only [hc, Option.map_some, Option.some.injEq] at hi; subst hi
       have hlt := List.idxOf_lt_length_of_mem his
       have hmi : m'[sel.idxOf i]? = some r' := by
        have h1 := newM_sel (m := m) (m' := m') hnd hselm hlt (by omega)
        rw [List.getD_eq_getElem?_getD, hidx] at h1
        exact h1.symm.trans hr'
       obtain ⟨g1, g2⟩ := he.mem _ cs0 r' hc hmi (by rintro rfl; exact hne' rfl)
       have hfi : renN sel s.mem.length (sel.idxOf i) = i := by rw [hfs _ hlt, List.getD_eq_getElem?_getD, hidx]; rfl
       refine ⟨?_, g2.to rfl (Ext.refl _ _) (fun _ _ h => h) (by simp [PV.rens_map]) (fun jj p hp => ?_) PV.rens_fwd⟩
       · rw [hOp r' (hO'p r' _ _ g1), reo_of g1]
         have := bwd_blk (renN sel s.mem.length) t (sel.idxOf i) []
         simp only [List.nil_append, hfi] at this; rw [this]
       · rw [PV.rens_get] at hp
         cases hq : cs0[jj]? with
         | none => simp [hq] at hp
         | some q =>
          simp only [hq, Option.map_some, Option.some.injEq] at hp; subst hp
          refine ⟨q, rfl, fun u hu => hback [jj, sel.idxOf i, 1] q u [jj, i, 1] (fun q' => ?_) hu⟩
          have := bwd_blk (renN sel s.mem.length) t (sel.idxOf i) (q' ++ [jj])
          simp only [hfi, List.append_assoc, List.cons_append, List.nil_append] at this
          exact this
    · rw [if_neg his] at hi
      rw [newM_old (by omega) his] at hr'
      obtain ⟨g1, g2⟩ := h.env.mem i cs r' hi hr' hne'
      have hne : ∀ q x, x ∈ sel → [i, 1] ≠ q ++ [x, 1] := fun q x hx heq => by
       have := congrArg (fun l => l.reverse[1]?) heq; simp at this; exact his (this ▸ hx)
      have hnp : ¬ pass r' := by
       rintro (h1 | h1)
       · rw [fwd_none g1 hne] at h1; cases h1
       · exact absurd (h.env.olt _ _ _ g1) (Nat.not_lt_of_le h1)
      refine ⟨hkeep _ _ _ g1 hne, g2.to (hold _ hnp) hE he.s0 rfl (fun jj p hp => ⟨p, hp, fun u hu => hstay _ p u (fun q' q'' x hx heq => ?_) (List.all_eq_true.2 fun b hb => PV.nrefs_get (nrefLM_get hno hi (by simpa using his) b hb) hp) hu⟩) (fun p p' h0 h1 _ => .inl (by rw [h0] at h1; injection h1 with h1; exact h1.symm))⟩
      have := congrArg (fun l => l.reverse[1]?) heq; simp at this; exact his (this ▸ hx)
 refine ⟨S', O'', newM m sel m', henv, h.defers, by simp [Act.put, h.size], ?_, fun i p hp => ?_⟩
 · have hp := h.pre
   rw [List.prefix_iff_eq_take]
   refine List.ext_getElem? fun i => ?_
   by_cases hi : i < K.m0.length
   · rw [List.getElem?_take_of_lt hi]
     have h1 : K.m0[i]? = m[i]? := by obtain ⟨tl, htl⟩ := hp; rw [← htl, List.getElem?_append_left hi]
     have him : i < m.length := Nat.lt_of_lt_of_le hi hp.length_le
     rw [h1, List.getElem?_eq_getElem him]
     exact (hm1 i _ (fun hd => by have := hjK i hd; omega) (List.getElem?_eq_getElem him)).symm
   · rw [List.getElem?_eq_none (by omega), List.getElem?_take_eq_none (by omega)]
 rw [getD_put _ _ _ _ (by rw [h.size]; exact ht)]
 rw [GS.get_set] at hp
 by_cases hi : i = t
 · rw [if_pos hi] at hp ⊢; injection hp with hp; subst hp; subst hi
   exact hback [2] r v [i, 0] (bwd_res _ i) hr
 · rw [if_neg hi] at hp ⊢
   obtain ⟨q, hq, ⟨hnq, rfl⟩ | rfl⟩ := sansL_lookup (show (sansL (sel.drop j) s.slots).lookup i = some p from hp)
   · refine hstay _ _ _ (fun q' q'' x hx heq => ?_) hnq (h.slots i p hq)
     have := congrArg List.getLast? heq; simp at this
   · exact .undef _ _
theorem GOps_callJ {K : Ctx} {ops : Array Oper} {Q : Exit → GS → Prop} {s : GS} {rest : List Nat} {o : Oper} {t : Nat} {fx : Operand} {xs : List Operand} {tys : Array TypeId} {fn : Func} {fa fc : List PV}
 {R : PV → List (List PV) → Prop} (jn : Nat) (sel : List Nat) (args0 : List PV) (mem0 : List (List PV))
 (ho : ops[i]? = some o) (hop : o.op = .call ⟨.value fx, xs.toArray, tys⟩) (hd : o.dst = some t) (hg : o.guard = none)
 (hfx : (s.ev fx).callee' = some (f, fa, fc)) (hargs : PV.copies (fa ++ xs.map s.ev ++ fc) = PV.rens (fun b => sel.getD b 0) args0)
 (hnd : sel.Nodup) (hsel : ∀ b ∈ sel, b < s.mem.length) (hmem : sel.map (fun b => s.mem.getD b []) = mem0.map (PV.rens (fun b => sel.getD b 0)))
 (hra : PV.refsBs sel.length args0 = true) (hrm : mem0.all (PV.refsBs sel.length) = true)
 (hf : K.P.funcs[f]? = some fn) (hb : fn.body.isSome = true) (hn : (fn.name == "runtime.NumGoroutine") = false) (ht : t < K.n)
 (hc : GCallJ jn K.P f args0 mem0 R) (hjK : ∀ b ∈ sel.drop jn, K.m0.length ≤ b) (hno : nrefLM (sel.drop jn) sel 0 s.mem = true)
 (h : ∀ r mem', R r mem' → sel.length ≤ mem'.length → GOps K ops Q rest (GS.set ⟨sansL (sel.drop jn) s.slots, setAll s.mem sel ((mem'.take sel.length).map (PV.rens (renN sel s.mem.length))) ++ (mem'.drop sel.length).map (PV.rens (renN sel s.mem.length))⟩ t (r.ren (renN sel s.mem.length)))) :
 GOps K ops Q (i :: rest) s := by
 rintro a w ⟨S, O, m, hr⟩
 obtain ⟨l, hrf⟩ := hr.ev fx
 obtain ⟨vf, vc, hvf, hs1, hs2, g1, g2⟩ := hrf.callee' hfx
 have hrun : (execOp a.eval o).run K.P w = .ok (.enter f (vf ++ (xs.map a.eval).toArray ++ vc)) w := by
  simp only [execOp, hop]
  simp [resolve, Deferred.ofValue, hvf, invoke, run_callFunc hf hb hn]
 simp only [wpOps, ho, Region.wanted, hg, if_true]
 refine .inl ?_
 simp only [Oper.wp, hrun, Oper.upon_enter]
 have hmget : ∀ (b x : Nat), sel[b]? = some x → (sel.map (fun b => m.getD b 0))[b]? = m[x]? := fun b x hb => by
  have hx : x < m.length := by rw [hr.env.mlen]; exact hsel x (List.mem_of_getElem? hb)
  rw [List.getElem?_map, hb, Option.map_some, List.getD_eq_getElem?_getD, List.getElem?_eq_getElem hx]; rfl
 have hum : ∀ (b r : Nat), b < sel.length → m[sel.getD b 0]? = some r → (sel.map (fun b => m.getD b 0))[b]? = some r := fun b r hb hm => by
  have hs : sel[b]? = some sel[b] := List.getElem?_eq_getElem hb
  rw [hmget b _ hs]
  rw [List.getD_eq_getElem?_getD, hs] at hm; exact hm
 have hml0 : mem0.length = sel.length := by have := congrArg List.length hmem; simpa using this.symm
 have hentry : Env S (fwd sel O) w S (fwd sel O) (sel.map (fun b => m.getD b 0)) mem0 w := by
  have he := hr.env
  refine ⟨Ext.refl S w, fun _ _ _ => rfl, fun _ _ _ _ _ _ _ => rfl, fun _ _ h => h, fun _ _ h => .inl h, fun b o l t' hS hO => ?_, he.slt, fun b l t' hO => ?_, fun b l t' hO => .inr ⟨l, t', hO, Nat.le_refl _⟩, by simp [hml0], fun j cs r' hj hr' hne' => ?_⟩
  · obtain ⟨q, x, h1, _, _⟩ := fwd_some hO; exact he.sown b o _ t' hS h1
  · obtain ⟨q, x, h1, _, _⟩ := fwd_some hO; exact he.olt b _ t' h1
  · have hjl : j < sel.length := by rw [← hml0]; exact (List.getElem?_eq_some_iff.1 hj).1
    have hsj : sel[j]? = some sel[j] := List.getElem?_eq_getElem hjl
    have hmx : m[sel[j]]? = some r' := by rw [← hmget j _ hsj]; exact hr'
    have hcx : s.mem[sel[j]]? = some (PV.rens (fun b => sel.getD b 0) cs) := by
     have h1 := congrArg (fun l => l[j]?) hmem
     simp only [List.getElem?_map, hsj, hj, Option.map_some, Option.some.injEq] at h1
     have hlt := hsel _ (List.mem_of_getElem? hsj)
     rw [List.getElem?_eq_getElem hlt, ← h1, List.getD_eq_getElem?_getD, List.getElem?_eq_getElem hlt]; rfl
    obtain ⟨k1, k2⟩ := he.mem _ _ r' hcx hmx (by rw [PV.rens_map]; simpa using hne')
    have hidx : sel.idxOf sel[j] = j := hnd.idxOf_getElem j hjl
    refine ⟨?_, k2.to rfl (Ext.refl _ _) (fun _ _ h => h) (by simp [PV.rens_map]) (fun jj p hp => ?_) PV.rens_bwd⟩
    · have := fwd_of (sel := sel) (O := O) (r := r') (x := sel[j]) (t := 0) (q := []) (by simpa using k1) (List.mem_of_getElem? hsj)
      simpa [hidx] using this
    · refine ⟨PV.ren (fun b => sel.getD b 0) p, by rw [PV.rens_get, hp]; rfl, fun u h2 => ?_⟩
      have hb2 : PV.refsB sel.length p = true := PV.refsBs_get (List.all_eq_true.1 hrm cs (List.mem_of_getElem? hj)) hp
      have h3 := h2.unren (m0 := sel.map (fun b => m.getD b 0)) (fun b => sel.getD b 0) sel.length hum p hb2 rfl
      refine h3.frame _ (Ext.refl _ _) (fun _ _ h => h) (fun b t' q hO => ?_) (fun _ _ h => h)
      have := fwd_of (sel := sel) (O := O) (r := b) (x := sel[j]) (t := t') (q := q ++ [jj]) (by simpa using hO) (List.mem_of_getElem? hsj)
      simpa [hidx] using this
 have hlen : (fa ++ xs.map s.ev ++ fc).length = args0.length := by have := congrArg List.length hargs; simpa [PV.copies_map, PV.rens_map] using this
 have hcall := hc w S (fwd sel O) (sel.map (fun b => m.getD b 0)) (vf ++ (xs.map a.eval).toArray ++ vc) hentry (by simp at hlen; simp [hs1, hs2]; omega) (fun j p v hp hv => by
  have hb2 : PV.refsB sel.length p = true := PV.refsBs_get hra hp
  have h1 : (PV.copies (fa ++ xs.map s.ev ++ fc))[j]? = some (PV.ren (fun b => sel.getD b 0) p) := by rw [hargs, PV.rens_get, hp]; rfl
  obtain ⟨q, hq, hqe⟩ := PV.copies_getElem? _ _ _ h1
  have hex : ∃ l', RP w S O m l' q v := by
   by_cases h1 : j < fa.length
   · rw [List.append_assoc, List.getElem?_append_left h1] at hq
     rw [Array.append_assoc, Array.getElem?_append_left (by omega)] at hv
     exact g1 j q v hq hv
   · by_cases h2 : j < fa.length + xs.length
     · rw [List.getElem?_append_left (by simp; omega), List.getElem?_append_right (by omega), List.getElem?_map] at hq
       rw [Array.getElem?_append_left (by simp; omega), Array.getElem?_append_right (by omega), hs1] at hv
       cases hx : xs[j - fa.length]? with
       | none => simp [hx] at hq
       | some x => simp [hx] at hq hv; subst hq; subst hv; exact hr.ev x
     · rw [List.getElem?_append_right (by simp; omega)] at hq
       rw [Array.getElem?_append_right (by simp; omega)] at hv
       refine g2 _ q v hq ?_
       rw [← hv]; congr 1; simp; omega
  obtain ⟨l', hl'⟩ := hex
  have h4 : RP w S (fwd sel O) m [j, 0] q.copy v := hl'.copy _ _
  rw [← hqe] at h4
  exact h4.unren (fun b => sel.getD b 0) sel.length hum p hb2 rfl)
 refine Calls.mono hcall ?_
 rintro e w' ⟨v, r, mem', S', O', m', rfl, hR, henv, hlen2, hm, hres⟩
 simp only
 rw [hd]
 exact h r mem' hR (by omega) _ _ (hr.afterJ jn hnd hsel hm hjK hno (by omega) henv ht hres)
end Go.Proofs.YtoonleefemkalaaDoor.E
namespace Go.Proofs.YtoonleefemkalaaDoor.E
open Go
variable {k : Nat}
theorem rofs_rlo {pre xs post : List D} (h : pre ++ xs ++ post ≠ []) : rofs xs.length (rlo k pre xs post) = pre.length * k := by
 cases xs with
 | nil =>
  have hp : ¬ pre ++ post = [] := by simpa using h
  simp only [rlo, List.isEmpty_iff, if_neg hp]; rfl
 | cons x r0 => exact rofs_pos (by simp)
theorem row_at {pre xs post : List D} {i : Nat} {d : D} (h : xs[i]? = some d) : (pre ++ xs ++ post)[pre.length + i]? = some d := by
 have hl := (List.getElem?_eq_some_iff.1 h).1
 rw [List.append_assoc, List.getElem?_append_right (by omega), Nat.add_sub_cancel_left, List.getElem?_append_left hl]; exact h
theorem flat_cell {zs : List D} (hk : ∀ x ∈ zs, x.cells.length = k) {i f : Nat} {d y : D} (hi : zs[i]? = some d) (hf : d.cells[f]? = some y) : (flat zs)[i * k + f]? = some (.d y) := by
 have hd : d.cells.length = k := hk d (List.mem_of_getElem? hi)
 have hfk : f < k := by rw [← hd]; exact (List.getElem?_eq_some_iff.1 hf).1
 have hp := flat_part zs hk i d hi
 have : (((flat zs).drop (i * k)).take k)[f]? = some (.d y) := by rw [hp, List.getElem?_map, hf]; rfl
 rw [List.getElem?_take_of_lt hfk, List.getElem?_drop] at this
 exact this
theorem flat_plain' {zs : List D} {j : Nat} {p : PV} (h : (flat zs)[j]? = some p) : plainB (flat zs) = true := flat_plain (fun hf => by rw [hf] at h; simp at h)
theorem Q_rowLeaf {K : Ctx} {s : GS} {t b o i f : Nat} {x : Operand} {ty rt : TypeId} {pos : String} {af : Array Edge} {g : Option (Nat × Bool)} {pre xs post : List D} {d y : D} {td : TypeDesc}
 (hx : s.ev x = .ref b o) (hm : s.mem[b]? = some (flat (pre ++ xs ++ post))) (ho : o = pre.length * k + i * k + f) (hi : xs[i]? = some d) (hf : d.cells[f]? = some y) (hk : ∀ x ∈ pre ++ xs ++ post, x.cells.length = k)
 (hu : K.P.underlying ty = some td) (hl : leafT td = true) (hB : K.Bs.contains b = false) (ht : t < K.n) : Qy K ⟨some t, .load ty x, rt, pos, af, g⟩ s t (.d y) := by
 subst ho
 have hc := flat_cell hk (row_at (pre := pre) (post := post) hi) hf
 rw [Nat.add_mul] at hc
 exact Q_load_leaf hx hm hc hu hl hB (flat_plain' hc) ht
end Go.Proofs.YtoonleefemkalaaDoor.E
