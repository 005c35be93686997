/- THE ENGINE, part 6: append, and slices written out. Conditions: none; generic in the program. -/
import Derived.Test.YtklkbfpjimeaoaaGreatE5
import Derived.Laws.AppendOwn
namespace Go.Proofs.YtklkbfpjimeaoaaGreat.E
open Go
/-- The cells of what reads as a list: their values, one behind the other. -/
theorem Rd.news {w : World} {S : Reg} {ys : List D} {ad : Addr} {n cap k : Nat} (h : Rd w S (.sl ys) (.slice (some ad) n cap)) (hk : ∀ y ∈ ys, y.cells.length = k) :
    ∃ news : List Value, news.length = ys.length * k ∧ (∀ (j : Nat) u, news[j]? = some u → w.cell? (ad.add j) = some u ∧ u.oneCell' = true) ∧
      ∀ (i : Nat) y (j : Nat) x u, ys[i]? = some y → y.cells[j]? = some x → news[i * k + j]? = some u → Rd w S x u := by
  generalize hv : Value.slice (some ad) n cap = v at h
  cases h with
  | sl _ a cap' k' hcap hlim hk' hn hc hr =>
    injection hv with h1 h2 h3
    subst h1; subst h3
    have hcell := hc ad rfl
    have hadd : ad.spot = none → ∀ j, ad.add j = ⟨ad.block, ad.off + j, none⟩ := fun hs j => by rw [show ad = ⟨ad.block, ad.off, none⟩ by cases ad; simp_all]; exact add_at _ _ _
    by_cases hys : ys = []
    · subst hys; exact ⟨[], by simp, by simp, by simp⟩
    · have hkk : k' = k := by
        obtain ⟨y, hy⟩ := List.exists_mem_of_ne_nil ys hys
        rw [← hk' y hy, hk y hy]
      subst hkk
      rcases Nat.eq_zero_or_pos k' with h0 | hpos
      · subst h0
        refine ⟨[], by simp, by simp, fun i y j x u hi hj hu => by simp at hu⟩
      · refine ⟨(List.range (ys.length * k')).map fun j => (w.cell? (ad.add j)).getD undef, by simp, fun j u hu => ?_, fun i y j x u hi hj hu => ?_⟩
        · rw [List.getElem?_map] at hu
          cases hj : (List.range (ys.length * k'))[j]? with
          | none => simp [hj] at hu
          | some j' =>
            obtain ⟨hlt, rfl⟩ := List.getElem?_eq_some_iff.1 hj
            simp only [List.length_range] at hlt
            simp only [hj, Option.map_some, List.getElem_range] at hu
            have hi : j / k' < ys.length := Nat.div_lt_of_lt_mul (by rw [Nat.mul_comm]; exact hlt)
            have hcl : (ys[j / k']).cells.length = k' := hk _ (List.getElem_mem hi)
            have hjm : j % k' < (ys[j / k']).cells.length := by rw [hcl]; exact Nat.mod_lt _ hpos
            obtain ⟨hs, _, u', h1, h2⟩ := hcell (j / k') _ (j % k') _ (List.getElem?_eq_getElem hi) (List.getElem?_eq_getElem hjm)
            have had := hadd hs
            have he : j / k' * k' + j % k' = j := by rw [Nat.mul_comm]; exact Nat.div_add_mod j k'
            rw [he] at h1
            rw [had, h1] at hu
            simp only [Option.getD_some, Option.some.injEq] at hu
            subst hu
            exact ⟨by rw [had]; exact h1, h2⟩
        · have hcl : y.cells.length = k' := hk _ (List.mem_of_getElem? hi)
          have hjl : j < k' := by rw [← hcl]; exact (List.getElem?_eq_some_iff.1 hj).1
          have hil : i < ys.length := (List.getElem?_eq_some_iff.1 hi).1
          have hlt : i * k' + j < ys.length * k' := by
            calc i * k' + j < i * k' + k' := by omega
              _ = (i + 1) * k' := by rw [Nat.add_mul, Nat.one_mul]
              _ ≤ ys.length * k' := Nat.mul_le_mul_right _ hil
          rw [List.getElem?_map, List.getElem?_range hlt] at hu
          simp only [Option.map_some, Option.some.injEq] at hu
          obtain ⟨hs, _, u', h1, h2⟩ := hcell i y j x hi hj
          have had := hadd hs
          rw [had, h1] at hu
          simp only [Option.getD_some] at hu
          subst hu
          exact hr ad i y j x u' rfl hi hj h1
theorem run_append_room_at {P : Program} (w : World) (t ty e : TypeId) (i : TypeInfo) (ht : P.underlying t = some (.slice e)) (hi : P.info? e = some i)
    (g o sLen sCap : Nat) (cur : Array Value) (el : TypeId) (hg : w.heap[g]? = some (.cells cur el (0, 0)))
    (a : Addr) (m c : Nat) (news : List Value) (hl : news.length = m * i.size) (hnews : ∀ (j : Nat) u, news[j]? = some u → w.cell? (a.add j) = some u) (h1 : ∀ u ∈ news, u.oneCell' = true)
    (hroom : sLen + m ≤ sCap) (hfit : o + sLen * i.size + news.length ≤ cur.size) :
    (Builtin.append_ #[t, t] ty #[.slice (some ⟨g, o, none⟩) sLen sCap, .slice (some a) m c]).run P w =
      .ok (.slice (some ⟨g, o, none⟩) (sLen + m) sCap) (w.setRow g (splice cur.toList (o + sLen * i.size) news).toArray) := by
  have hf := run_firstCells_some (P := P) w i.size m a m c news hl hnews
  have hst := run_storeCells_at P g (o + sLen * i.size) el news 0 cur w hg (by simpa using hfit) h1
  simp only [Nat.add_zero] at hst
  simp [Builtin.append_, run_underlying ht, sizeOf, typeInfo, hi, Builtin.lenOf, hroom, hf, add_at, hst, splice]
theorem Y_append {K : Ctx} {s : GS} {t u : Nat} {y : Operand} {ty e rt : TypeId} {pos : String} {af : Array Edge} {g : Option (Nat × Bool)} {k by_ : Nat} {xs ys : List D} {p : PV} {z : Value}
    (hu : s.get u = some p) (hp : p = .osl k xs ∨ (p = .nils ∧ xs = [])) (hy : (s.ev y).list? = some ys) (hne : ys ≠ []) (hk : ∀ y ∈ ys, y.cells.length = k) (hk0 : 0 < k)
    (hun : K.P.underlying ty = some (.slice e)) (hinf : (K.P.info? e).map (fun i => (i.zero, i.size, i.bytes)) = some (some z, k, by_)) (hzs : z.cells.size = k) (hz1 : z.cells.all (·.oneCell') = true)
    (hlen : xs.length + ys.length ≤ lim) (hB : (xs.length + ys.length) * by_ ≤ lim) (ht : t < K.n) :
    Yld K ⟨some t, .call ⟨.builtin .append, #[.tmp u, y], #[ty, ty]⟩, rt, pos, af, g⟩ s ((s.set u (.d (.sl xs))).set t (.osl k (xs ++ ys))) := by
  rintro a w ⟨S, O, m, h⟩
  have hru := h.slots u p hu
  have hry := h.evl hy
  obtain ⟨inf, hin, hiz, his, hib⟩ : ∃ inf, K.P.info? e = some inf ∧ inf.zero = some z ∧ inf.size = k ∧ inf.bytes = by_ := by
    cases hq : K.P.info? e with
    | none => simp [hq] at hinf
    | some i => simp [hq] at hinf; exact ⟨i, rfl, hinf.1, hinf.2.1, hinf.2.2⟩
  have hrd : Rd w S (.sl xs) (a.eval (.tmp u)) := by
    show Rd w S (.sl xs) (a.tmps.getD u undef)
    rcases hp with rfl | ⟨rfl, rfl⟩
    · exact hru.toD _ rfl
    · exact hru.toD _ rfl
  have hbase : ∃ ab cap, a.eval (.tmp u) = .slice ab xs.length cap ∧ (ab = none → xs = [] ∧ cap = 0) ∧ (∀ x ∈ xs, x.cells.length = k) ∧
      ∀ ad, ab = some ad → ad.spot = none ∧ O ad.block = some ([u, 0], ad.off + xs.length * k) ∧ ∃ vs el, w.heap[ad.block]? = some (.cells vs el (0, 0)) ∧ ad.off + cap * k ≤ vs.size := by
    show ∃ ab cap, a.tmps.getD u undef = _ ∧ _
    rcases hp with rfl | ⟨rfl, rfl⟩
    · generalize a.tmps.getD u undef = vu at hru
      cases hru with
      | osl _ _ _ ab cap hr hkk hn htt =>
        refine ⟨ab, cap, rfl, fun hnn => ⟨?_, hn hnn⟩, hkk, htt⟩
        cases hr with | sl _ _ _ _ _ _ _ hn' _ _ => exact hn' hnn
    · generalize a.tmps.getD u undef = vu at hru
      cases hru with
      | nils => exact ⟨none, 0, rfl, fun _ => ⟨rfl, rfl⟩, by simp, by simp⟩
  obtain ⟨ab, cap, hvu, hnone, hkx, htail⟩ := hbase
  obtain ⟨ay, capy, hvy, hyn⟩ : ∃ ay capy, a.eval y = .slice (some ay) ys.length capy ∧ True := by
    generalize hvy : a.eval y = vy at hry
    cases hry with
    | sl _ ay capy _ _ _ _ hn _ _ =>
      cases ay with
      | none => exact absurd (hn rfl) hne
      | some ay => exact ⟨ay, capy, rfl, trivial⟩
  rw [hvy] at hry
  obtain ⟨news, hnl, hnews, hnrd⟩ := hry.news hk
  have hrun0 : ∀ v w', (Builtin.append_ #[ty, ty] rt #[a.eval (.tmp u), a.eval y]).run K.P w = .ok v w' → (execOp a.eval ⟨some t, .call ⟨.builtin .append, #[.tmp u, y], #[ty, ty]⟩, rt, pos, af, g⟩).run K.P w = .ok (.value v) w' := by
    intro v w' hr
    simp [execOp, resolve, invoke, builtin, hr]
  have hyslen : 0 < ys.length := List.length_pos_iff.2 hne
  have hlimv : lim = 140737488355328 := rfl
  have hkall : ∀ x ∈ xs ++ ys, x.cells.length = k := fun x hx => by
    rcases List.mem_append.1 hx with hx | hx
    · exact hkx x hx
    · exact hk x hx
  -- what is known of the result, whichever block it lies in
  have fin : ∀ (w' : World) (S' : Reg) (O' : Owns) (nb off cap' : Nat) (vs' : Array Value) (el' : TypeId), Env K.S0 K.O0 K.w0 S' O' m s.mem w' → Ext S w w' → (∀ b o, S b o → S' b o) →
      (∀ b t' q i, i ≠ u → O b = some (q ++ [i, 0], t') → O' b = some (q ++ [i, 0], t')) → O' nb = some ([t, 0], off + (xs.length + ys.length) * k) →
      w'.heap[nb]? = some (.cells vs' el' (0, 0)) → off + cap' * k ≤ vs'.size → xs.length + ys.length ≤ cap' →
      (∀ (i : Nat) x (j : Nat) y, (xs ++ ys)[i]? = some x → x.cells[j]? = some y → S' nb (off + (i * k + j)) ∧ ∃ v, vs'[off + (i * k + j)]? = some v ∧ v.oneCell' = true ∧ Rd w' S' y v) →
      At K ((s.set u (.d (.sl xs))).set t (.osl k (xs ++ ys))) (a.put (some t) (.slice (some ⟨nb, off, none⟩) (xs.length + ys.length) cap')) w' := by
    intro w' S' O' nb off cap' vs' el' henv hE hS hO hOn hh hsz hcap hcells
    have hcell : ∀ o, w'.cell? ⟨nb, o, none⟩ = vs'[o]? := fun o => cell_of_row w' nb o vs' el' (0, 0) hh
    have hrdn : Rd w' S' (.sl (xs ++ ys)) (.slice (some ⟨nb, off, none⟩) (xs ++ ys).length cap') := by
      refine .sl (xs ++ ys) (some ⟨nb, off, none⟩) cap' k (by simp; omega) (by simp; omega) hkall (by simp) (fun ad had => ?_) (fun ad i x j y v had hi hj hv => ?_)
      · injection had with had; subst had
        intro i x j y hi hj
        obtain ⟨h1, v, h2, h3, _⟩ := hcells i x j y hi hj
        exact ⟨rfl, h1, v, (hcell _).trans h2, h3⟩
      · injection had with had; subst had
        obtain ⟨_, v', h2, _, h4⟩ := hcells i x j y hi hj
        rw [hcell, h2] at hv; injection hv with hv; subst hv; exact h4
    refine ⟨S', O', m, henv, h.defers, by simp [Act.put, h.size], h.pre, fun i q hq => ?_⟩
    rw [getD_put _ _ _ _ (by rw [h.size]; exact ht)]
    rw [GS.get_set] at hq
    by_cases hit : i = t
    · rw [if_pos hit] at hq ⊢; injection hq with hq; subst hq; subst hit
      have := RP.osl (O := O') (m := m) [i, 0] k (xs ++ ys) (some ⟨nb, off, none⟩) cap' hrdn hkall (by simp) (fun ad had => by
        injection had with had; subst had
        exact ⟨rfl, by rw [hOn]; simp, vs', el', hh, hsz⟩)
      simpa using this
    · rw [if_neg hit] at hq ⊢
      rw [GS.get_set] at hq
      by_cases hiu : i = u
      · rw [if_pos hiu] at hq; injection hq with hq; subst hq; subst hiu
        exact .d _ _ _ (hrd.ext hE hS)
      · rw [if_neg hiu] at hq
        exact (h.slots i q hq).ext hE hS (fun b t' q' hb => hO b t' q' i hiu hb) (fun _ _ h => h)
  -- a new block
  have grown : ∀ (old : Nat) (olds : List Value), olds.length = xs.length * k → (∀ (j : Nat) v, olds[j]? = some v → v.oneCell' = true) →
      (∀ (i : Nat) x (j : Nat) y v, xs[i]? = some x → x.cells[j]? = some y → olds[i * k + j]? = some v → Rd w S y v) →
      At K ((s.set u (.d (.sl xs))).set t (.osl k (xs ++ ys)))
        (a.put (some t) (.slice (some ⟨w.heap.size, 0, none⟩) (xs.length + ys.length) (grownCap w (xs.length + ys.length) old e)))
        (w.drew.alloc (.cells (olds.toArray ++ news.toArray ++ Builtin.zeroCells z.cells (grownCap w (xs.length + ys.length) old e - (xs.length + ys.length))) e)) := by
    intro old olds hol ho1 hord
    have hge := grownCap_ge w (xs.length + ys.length) old e
    generalize grownCap w (xs.length + ys.length) old e = cp at hge ⊢
    have hwz : w.heap.size = w.drew.heap.size := rfl
    have hE : Ext S w (w.drew.alloc (.cells (olds.toArray ++ news.toArray ++ Builtin.zeroCells z.cells (cp - (xs.length + ys.length))) e)) :=
      (ext_drew S w).trans (ext_alloc S w.drew _ h.env.slt) (fun _ _ h => h)
    have hsum : (xs.length + ys.length) * k = olds.length + news.length := by rw [hol, hnl, Nat.add_mul]
    refine fin _ (fun b o => S b o ∨ (b = w.heap.size ∧ o < (xs.length + ys.length) * k)) (fun b => if b = w.heap.size then some ([t, 0], (xs.length + ys.length) * k) else O b) w.heap.size 0 cp _ e ?_ hE (fun _ _ h => .inl h) ?_ (by simp) (heap_alloc_new' w.drew _) ?_ hge ?_
    · have he := h.env
      have hsz0 : K.w0.heap.size ≤ w.heap.size := he.ext.size
      refine ⟨he.ext.trans hE he.s0, fun b hb hO => ?_, fun b l t' o hb hO hot => ?_, fun b o h => .inl (he.s0 b o h), fun b o hb => ?_, fun b o l t' hS hO => ?_, fun b o hS => ?_, fun b l t' hO => ?_, fun b l t' hO => ?_, he.mlen, fun i cs r hi hr hne' => ?_⟩
      · rw [heap_alloc_old' w.drew _ b (show b < w.heap.size by omega)]; exact he.old b hb hO
      · rw [World.cell?_alloc_lt w.drew _ ⟨b, o, none⟩ (show b < w.heap.size by omega)]; exact he.part b l t' o hb hO hot
      · rcases hb with hb | ⟨rfl, _⟩
        · exact he.snew b o hb
        · exact .inr (.inl hsz0)
      · rcases hS with hS | ⟨rfl, hlt⟩
        · rw [if_neg (Nat.ne_of_lt (he.slt b o hS))] at hO; exact he.sown b o l t' hS hO
        · simp at hO; omega
      · rcases hS with hS | ⟨rfl, hlt⟩
        · have := he.slt b o hS; simp; omega
        · simp
      · by_cases hb : b = w.heap.size
        · subst hb; simp
        · rw [if_neg hb] at hO; have := he.olt b l t' hO; simp; omega
      · by_cases hb : b = w.heap.size
        · exact .inl (by omega)
        · rw [if_neg hb] at hO; exact he.onew b l t' hO
      · obtain ⟨g1, g2⟩ := he.mem i cs r hi hr hne'
        have hrl := he.olt _ _ _ g1
        exact ⟨by rw [if_neg (Nat.ne_of_lt hrl)]; exact g1, g2.frame (heap_alloc_old' w.drew _ r hrl) hE (fun _ _ h => .inl h) (fun j b t' q hb => by rw [if_neg (Nat.ne_of_lt (he.olt b _ t' hb))]; exact hb) (fun _ _ h => h)⟩
    · intro b t' q i _ hb
      rw [if_neg (Nat.ne_of_lt (h.env.olt b _ t' hb))]; exact hb
    · simp only [Array.size_append, List.size_toArray, size_zeroCells, hzs, Nat.zero_add]
      rw [← hsum, ← Nat.add_mul]
      exact Nat.mul_le_mul_right _ (by omega)
    · intro i x j y hi hj
      have hjk : j < k := by rw [← hkall x (List.mem_of_getElem? hi)]; exact (List.getElem?_eq_some_iff.1 hj).1
      have hil : i < xs.length + ys.length := by have := (List.getElem?_eq_some_iff.1 hi).1; simpa using this
      have hlt : i * k + j < (xs.length + ys.length) * k := by
        calc i * k + j < i * k + k := by omega
          _ = (i + 1) * k := by rw [Nat.add_mul, Nat.one_mul]
          _ ≤ (xs.length + ys.length) * k := Nat.mul_le_mul_right _ hil
      refine ⟨.inr ⟨rfl, by omega⟩, ?_⟩
      rw [Nat.zero_add]
      by_cases hx : i < xs.length
      · rw [List.getElem?_append_left hx] at hi
        have hlt2 : i * k + j < olds.length := by
          rw [hol]
          calc i * k + j < i * k + k := by omega
            _ = (i + 1) * k := by rw [Nat.add_mul, Nat.one_mul]
            _ ≤ xs.length * k := Nat.mul_le_mul_right _ hx
        have hg := List.getElem?_eq_getElem hlt2
        refine ⟨olds[i * k + j], ?_, ho1 _ _ hg, (hord i x j y _ hi hj hg).ext hE (fun _ _ h => .inl h)⟩
        rw [Array.append_assoc, Array.getElem?_append_left (by simpa using hlt2)]
        simp [hg]
      · rw [List.getElem?_append_right (by omega)] at hi
        have hil2 : i - xs.length < ys.length := (List.getElem?_eq_some_iff.1 hi).1
        have hsub : i * k + j - olds.length = (i - xs.length) * k + j := by
          rw [hol, Nat.sub_mul]
          have : xs.length * k ≤ i * k := Nat.mul_le_mul_right _ (by omega)
          omega
        have hge2 : olds.length ≤ i * k + j := by
          rw [hol]
          have : xs.length * k ≤ i * k := Nat.mul_le_mul_right _ (by omega)
          omega
        have hlt2 : (i - xs.length) * k + j < news.length := by
          rw [hnl]
          calc (i - xs.length) * k + j < (i - xs.length) * k + k := by omega
            _ = (i - xs.length + 1) * k := by rw [Nat.add_mul, Nat.one_mul]
            _ ≤ ys.length * k := Nat.mul_le_mul_right _ hil2
        have hg := List.getElem?_eq_getElem hlt2
        refine ⟨news[(i - xs.length) * k + j], ?_, (hnews _ _ hg).2, (hnrd _ x j y _ hi hj hg).ext hE (fun _ _ h => .inl h)⟩
        rw [Array.append_assoc, Array.getElem?_append_right (by simpa using hge2), Array.getElem?_append_left (by simp; omega)]
        simp only [List.size_toArray, List.getElem?_toArray]
        rw [hsub]; exact hg
  have hneed : ¬ (9223372036854775807 < xs.length + ys.length) := by omega
  cases ab with
  | none =>
    obtain ⟨hx0, hc0⟩ := hnone rfl
    subst hx0; subst hc0
    have hr := run_append_nil (P := K.P) w ty rt e inf z hun hin hiz ay ys.length capy news (by rw [his]; exact hnl) (fun j v hj => (hnews j v hj).1) hyslen (by omega) (by
      simp only [List.length_nil, Nat.zero_add] at hB; rw [hib]; omega)
    have hgr := grown 0 [] (by simp) (by simp) (by simp)
    simp only [List.length_nil, Nat.zero_add] at hgr hvu
    refine ⟨_, _, hrun0 _ _ (by rw [hvu, hvy]; exact hr), ?_⟩
    simp only [List.nil_append, Array.empty_append] at hgr ⊢
    exact hgr
  | some ad =>
    obtain ⟨hsp, hOad, vs, el, hheap, hcapk⟩ := htail ad rfl
    have had : ad = ⟨ad.block, ad.off, none⟩ := by cases ad; simp_all
    by_cases hroom : xs.length + ys.length ≤ cap
    · -- within the capacity
      have hfit : ad.off + xs.length * inf.size + news.length ≤ vs.size := by
        rw [his, hnl]
        calc ad.off + xs.length * k + ys.length * k = ad.off + (xs.length + ys.length) * k := by rw [Nat.add_mul]; omega
          _ ≤ ad.off + cap * k := by have := Nat.mul_le_mul_right k hroom; omega
          _ ≤ vs.size := hcapk
      have hr := run_append_room_at (P := K.P) w ty rt e inf hun hin ad.block ad.off xs.length cap vs el hheap ay ys.length capy news (by rw [his]; exact hnl) (fun j v hj => (hnews j v hj).1)
        (fun v hv => by obtain ⟨j, hj⟩ := List.getElem?_of_mem hv; exact (hnews j v hj).2) hroom hfit
      rw [his] at hr hfit
      refine ⟨_, _, hrun0 _ _ (by rw [hvu, hvy, had]; exact hr), ?_⟩
      have hfitL : ad.off + xs.length * k + news.length ≤ vs.toList.length := by simpa using hfit
      have hSr : ∀ o, S ad.block o → o < ad.off + xs.length * k := fun o hS => h.env.sown _ o _ _ hS hOad
      have hsz : (splice vs.toList (ad.off + xs.length * k) news).toArray.size = vs.size := by simp [splice_length _ _ _ hfitL]
      have hget : ∀ o, (splice vs.toList (ad.off + xs.length * k) news).toArray[o]? = if ad.off + xs.length * k ≤ o ∧ o < ad.off + xs.length * k + news.length then news[o - (ad.off + xs.length * k)]? else vs[o]? := fun o => by
        rw [List.getElem?_toArray, splice_get _ _ _ hfitL]; simp
      have hE : Ext S w (w.setRow ad.block (splice vs.toList (ad.off + xs.length * k) news).toArray) := ext_setRow hheap hsz (fun o hS => by rw [hget, if_neg (by have := hSr o hS; omega)])
      have hsum : (xs.length + ys.length) * k = xs.length * k + news.length := by rw [hnl, Nat.add_mul]
      refine fin _ (fun b o => S b o ∨ (b = ad.block ∧ ad.off + xs.length * k ≤ o ∧ o < ad.off + (xs.length + ys.length) * k)) (fun b => if b = ad.block then some ([t, 0], ad.off + (xs.length + ys.length) * k) else O b) ad.block ad.off cap _ el ?_ hE (fun _ _ h => .inl h) ?_ (by simp) (setRow_heap w ad.block vs _ el (0, 0) hheap) (by rw [hsz]; exact hcapk) hroom ?_
      · have he := h.env
        refine ⟨he.ext.trans hE he.s0, fun b hb hO => ?_, fun b l t' o hb hO hot => ?_, fun b o h => .inl (he.s0 b o h), fun b o hb => ?_, fun b o l t' hS hO => ?_, fun b o hS => ?_, fun b l t' hO => ?_, fun b l t' hO => ?_, he.mlen, fun i cs r hi hr hne' => ?_⟩
        · have : b ≠ ad.block := by
            rintro rfl
            rcases he.onew _ _ _ hOad with h1 | ⟨l0, t0, h1, _⟩
            · omega
            · rw [hO] at h1; cases h1
          rw [setRow_other _ _ _ _ this]; exact he.old b hb hO
        · by_cases hba : b = ad.block
          · subst hba
            rcases he.onew _ _ _ hOad with h1 | ⟨l0, t0, h1, h2⟩
            · omega
            · rw [hO] at h1; injection h1 with h1; injection h1 with _ h1
              rw [cell_of_row _ _ _ _ _ _ (setRow_heap w ad.block vs _ el (0, 0) hheap), hget, if_neg (by omega)]
              rw [← cell_of_row w ad.block o vs el _ hheap]
              exact he.part _ l t' o hb hO hot
          · rw [cell_setRow_other _ _ _ _ hba]; exact he.part b l t' o hb hO hot
        · rcases hb with hb | ⟨rfl, h1, _⟩
          · exact he.snew b o hb
          · rcases he.onew _ _ _ hOad with h2 | ⟨l0, t0, h2, h3⟩
            · exact .inr (.inl h2)
            · exact .inr (.inr ⟨l0, t0, h2, by omega⟩)
        · by_cases hba : b = ad.block
          · rw [if_pos hba] at hO; injection hO with hO; injection hO with hO1 hO2; subst hO2; subst hba
            rcases hS with hS | ⟨_, _, hS⟩
            · have := hSr o hS; have := Nat.mul_le_mul_right k (show xs.length ≤ xs.length + ys.length by omega); omega
            · exact hS
          · rw [if_neg hba] at hO
            rcases hS with hS | ⟨hS, _⟩
            · exact he.sown b o l t' hS hO
            · exact absurd hS hba
        · rcases hS with hS | ⟨rfl, _⟩
          · have := he.slt b o hS; simpa using this
          · have := he.olt _ _ _ hOad; simpa using this
        · by_cases hba : b = ad.block
          · subst hba; have := he.olt _ _ _ hOad; simpa using this
          · rw [if_neg hba] at hO; have := he.olt b l t' hO; simpa using this
        · by_cases hba : b = ad.block
          · rw [if_pos hba] at hO; injection hO with hO; injection hO with hO1 hO2; subst hO2; subst hba
            rcases he.onew _ _ _ hOad with h2 | ⟨l0, t0, h2, h3⟩
            · exact .inl h2
            · exact .inr ⟨l0, t0, h2, by have := Nat.mul_le_mul_right k (show xs.length ≤ xs.length + ys.length by omega); omega⟩
          · rw [if_neg hba] at hO; exact he.onew b l t' hO
        · obtain ⟨g1, g2⟩ := he.mem i cs r hi hr hne'
          have hrr : r ≠ ad.block := by
            rintro rfl
            rw [g1] at hOad; injection hOad with hOad; injection hOad with hOad _; simp at hOad
          refine ⟨by rw [if_neg hrr]; exact g1, g2.frame (setRow_other _ _ _ _ hrr) hE (fun _ _ h => .inl h) (fun j b t' q hb => ?_) (fun _ _ h => h)⟩
          rw [if_neg]; · exact hb
          rintro rfl
          rw [hb] at hOad; injection hOad with hOad; injection hOad with hOad _; exact end_ne q j i u hOad
      · intro b t' q i hi hb
        rw [if_neg]; · exact hb
        rintro rfl
        rw [hb] at hOad; injection hOad with hOad; injection hOad with hOad _
        exact end_ne' q i u hi hOad
      · intro i x j y hi hj
        have hjk : j < k := by rw [← hkall x (List.mem_of_getElem? hi)]; exact (List.getElem?_eq_some_iff.1 hj).1
        have hil : i < xs.length + ys.length := by have := (List.getElem?_eq_some_iff.1 hi).1; simpa using this
        by_cases hx : i < xs.length
        · rw [List.getElem?_append_left hx] at hi
          have hlt2 : i * k + j < xs.length * k := by
            calc i * k + j < i * k + k := by omega
              _ = (i + 1) * k := by rw [Nat.add_mul, Nat.one_mul]
              _ ≤ xs.length * k := Nat.mul_le_mul_right _ hx
          have hold : S ad.block (ad.off + (i * k + j)) ∧ ∃ v, w.cell? ⟨ad.block, ad.off + (i * k + j), none⟩ = some v ∧ v.oneCell' = true ∧ Rd w S y v := by
            have hrd' : Rd w S (.sl xs) (.slice (some ad) xs.length cap) := hvu ▸ hrd
            generalize hvv : Value.slice (some ad) xs.length cap = vv at hrd'
            cases hrd' with
            | sl _ a' cap' k' _ _ hk' _ hc hrc =>
              injection hvv with hv1 hv2 hv3
              subst hv1
              have hkk : k' = k := by rw [← hk' x (List.mem_of_getElem? hi), hkx x (List.mem_of_getElem? hi)]
              subst hkk
              obtain ⟨_, h1, v, h2, h3⟩ := hc ad rfl i x j y hi hj
              exact ⟨h1, v, h2, h3, hrc ad i x j y v rfl hi hj h2⟩
          obtain ⟨h1, v, h2, h3, h4⟩ := hold
          rw [cell_of_row w _ _ vs el _ hheap] at h2
          exact ⟨.inl h1, v, by rw [hget, if_neg (by omega)]; exact h2, h3, h4.ext hE (fun _ _ h => .inl h)⟩
        · rw [List.getElem?_append_right (by omega)] at hi
          have hil2 : i - xs.length < ys.length := (List.getElem?_eq_some_iff.1 hi).1
          have hmul : xs.length * k ≤ i * k := Nat.mul_le_mul_right _ (by omega)
          have hsub : (i - xs.length) * k = i * k - xs.length * k := Nat.sub_mul _ _ _
          have hlt2 : (i - xs.length) * k + j < news.length := by
            rw [hnl]
            calc (i - xs.length) * k + j < (i - xs.length) * k + k := by omega
              _ = (i - xs.length + 1) * k := by rw [Nat.add_mul, Nat.one_mul]
              _ ≤ ys.length * k := Nat.mul_le_mul_right _ hil2
          have hg := List.getElem?_eq_getElem hlt2
          refine ⟨.inr ⟨rfl, by omega, by omega⟩, news[(i - xs.length) * k + j], ?_, (hnews _ _ hg).2, (hnrd _ x j y _ hi hj hg).ext hE (fun _ _ h => .inl h)⟩
          rw [hget, if_pos (by omega), show ad.off + (i * k + j) - (ad.off + xs.length * k) = (i - xs.length) * k + j by omega]
          exact hg
    · -- beyond it
      obtain ⟨olds, hol, holds, hordd⟩ := (hvu ▸ hrd : Rd w S (.sl xs) (.slice (some ad) xs.length cap)).news hkx
      have hr := run_append_grow (P := K.P) w ty rt e inf z hun hin hiz ad xs.length cap olds (by rw [his]; exact hol) (fun j v hj => (holds j v hj).1) ay ys.length capy news (by rw [his]; exact hnl) (fun j v hj => (hnews j v hj).1)
        (by omega) (by omega) (growslice_fits (by omega) (by rw [hib]; omega))
      exact ⟨_, _, hrun0 _ _ (by rw [hvu, hvy]; exact hr), grown cap olds hol (fun j v hj => (holds j v hj).2) (fun i x j y v hi hj hv => hordd i x j y v hi hj hv)⟩
end Go.Proofs.YtklkbfpjimeaoaaGreat.E
