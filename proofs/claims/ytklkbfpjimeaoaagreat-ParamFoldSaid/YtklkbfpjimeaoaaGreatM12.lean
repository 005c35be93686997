import Derived.Test.YtklkbfpjimeaoaaGreatM11
/- Contracts of functions. Conditions: none. -/
set_option linter.unusedSimpArgs false
set_option linter.unusedVariables false
namespace Go.Proofs.YtklkbfpjimeaoaaGreat.E
open Go
section
def renN (sel : List Nat) (n : Nat) (b : Nat) : Nat := if b < sel.length then sel.getD b 0 else b - sel.length + n
theorem Rep.aftermn {K : Ctx} {S : Reg} {O : Owns} {m : List Nat} {s : GS} {a : Act} {w w' : World} (h : Rep K S O m s a w) {sel m0 ext : List Nat} (hnd : sel.Nodup) (hsel : ∀ b ∈ sel, b < s.mem.length)
 (hm0 : m0 = sel.map (fun b => m.getD b 0)) {S' : Reg} {O' : Owns} {mem' : List (List PV)} (he : Env S (fwd sel O) w S' O' (m0 ++ ext) mem' w')
 {t : Nat} (ht : t < K.n) {r : PV} {v : Value} (hr : RP w' S' O' (m0 ++ ext) [2] r v) :
 At K (GS.set ⟨s.slots, setAll s.mem sel ((mem'.take sel.length).map (PV.rens (renN sel s.mem.length))) ++ (mem'.drop sel.length).map (PV.rens (renN sel s.mem.length))⟩ t (r.ren (renN sel s.mem.length))) (a.put (some t) v) w' := by
 have hml : mem'.length = sel.length + ext.length := by rw [← he.mlen, hm0]; simp
 have hm0l : m0.length = sel.length := by rw [hm0]; simp
 have hsm := h.env.mlen
 have hmget : ∀ (b x : Nat), sel[b]? = some x → m0[b]? = m[x]? := fun b x hb => by
  have hx : x < m.length := by rw [h.env.mlen]; exact hsel x (mG hb)
  rw [hm0, List.getElem?_map, hb, Option.map_some, List.getD_eq_getElem?_getD, gE hx]; rfl
 have hm1 : ∀ (b r : Nat), m[b]? = some r → (m ++ ext)[b]? = some r := fun b r hb => by rw [List.getElem?_append_left (lG hb)]; exact hb
 have hfs : ∀ b, b < sel.length → renN sel s.mem.length b = sel.getD b 0 := fun b hb => if_pos hb
 have hfe : ∀ b, ¬ b < sel.length → renN sel s.mem.length b = b - sel.length + s.mem.length := fun b hb => if_neg hb
 have hfm : ∀ (b r : Nat), (m0 ++ ext)[b]? = some r → (m ++ ext)[renN sel s.mem.length b]? = some r := fun b r hb => by
  by_cases hlt : b < sel.length
  · rw [List.getElem?_append_left (by omega)] at hb
    have hs : sel[b]? = some sel[b] := gE hlt
    have : sel.getD b 0 = sel[b] := by rw [List.getD_eq_getElem?_getD, hs]; rfl
    rw [hfs b hlt, this]
    exact hm1 _ _ (by rw [← hmget b _ hs]; exact hb)
  · rw [List.getElem?_append_right (by omega), hm0l] at hb
    rw [hfe b hlt, List.getElem?_append_right (by omega), hsm, Nat.add_sub_cancel]
    exact hb
 have hE := he.ext
 let pass : Nat → Prop := fun b => (fwd sel O b).isSome = true ∨ w.heap.size ≤ b
 have hdec : ∀ b, pass b ∨ ¬ pass b := fun b => Classical.em _
 let O'' : Owns := fun b => if (fwd sel O b).isSome = true ∨ w.heap.size ≤ b then reo O' (bwd (renN sel s.mem.length) t) b else O b
 have hOp : ∀ b, pass b → O'' b = reo O' (bwd (renN sel s.mem.length) t) b := fun b hb => if_pos hb
 have hOn : ∀ b, ¬ pass b → O'' b = O b := fun b hb => if_neg hb
 have hO'p : ∀ (b : Nat) l t', O' b = some (l, t') → pass b := fun b l t' hb => by
  rcases he.onew b l t' hb with h1 | ⟨l0, t0, h1, _⟩
  · exact .inr h1
  · exact .inl (by rw [h1]; rfl)
 have hold : ∀ b, ¬ pass b → w'.heap[b]? = w.heap[b]? := fun b hb => by
  refine he.old b (Nat.lt_of_not_le fun h => hb (.inr h)) ?_
  cases hf : fwd sel O b with
  | none => rfl
  | some x => exact absurd (.inl (by rw [hf]; rfl)) hb
 have hkeep : ∀ (b : Nat) l t' , O b = some (l, t') → (∀ q x, x ∈ sel → l ≠ q ++ [x, 1]) → O'' b = some (l, t') := fun b l t' hb hl => by
  rw [hOn b]
  · exact hb
  · rintro (h1 | h1)
    · rw [fwd_none hb hl] at h1; cases h1
    · exact absurd (h.env.olt b l t' hb) (Nat.not_lt_of_le h1)
 have hback : ∀ (l : List Nat) (q : PV) (u : Value) (l' : List Nat), (∀ q', bwd (renN sel s.mem.length) t (q' ++ l) = q' ++ l') → RP w' S' O' (m0 ++ ext) l q u → RP w' S' O'' (m ++ ext) l' (q.ren (renN sel s.mem.length)) u := fun l q u l' hb hq =>
  (hq.ren (renN sel s.mem.length) hfm).frame l' (Ext.refl _ _) (fun _ _ h => h) (fun b t' q' hO => by rw [hOp b (hO'p b _ t' hO), reo_of hO, hb]) (fun _ _ h => h)
 have hstay : ∀ (l : List Nat) (q : PV) (u : Value), (∀ q' q'' x, x ∈ sel → q' ++ l ≠ q'' ++ [x, 1]) → RP w S O m l q u → RP w' S' O'' (m ++ ext) l q u := fun l q u hl hq =>
  hq.ext hE he.s0 (fun b t' q' hO => hkeep b _ t' hO (fun q'' x hx => hl q' q'' x hx)) hm1
 have henv : Env K.S0 K.O0 K.w0 S' O'' (m ++ ext) (setAll s.mem sel ((mem'.take sel.length).map (PV.rens (renN sel s.mem.length))) ++ (mem'.drop sel.length).map (PV.rens (renN sel s.mem.length))) w' := by
  refine ⟨h.env.ext.trans hE h.env.s0, fun b hb hO => ?_, fun b l t' o hb hO hot => ?_, fun b o hb => he.s0 b o (h.env.s0 b o hb), fun b o hb => ?_, fun b o l t' hS hO => ?_, he.slt, fun b l t' hO => ?_, fun b l t' hO => ?_, by rw [List.length_append, List.length_append, setAll_length, List.length_map, List.length_drop, hml, hsm]; omega, fun i cs r' hi hr' hne' => ?_⟩
  · rw [hold b, h.env.old b hb hO]
    rintro (h1 | h1)
    · cases hf : fwd sel O b with
      | none => rw [hf] at h1; cases h1
      | some x =>
       obtain ⟨l', t'⟩ := x
       obtain ⟨q, x, h2, _, _⟩ := fwd_some hf
       rcases h.env.onew b _ _ h2 with h3 | ⟨l0, t0, h3, _⟩
       · omega
       · rw [hO] at h3; cases h3
    · have := h.env.ext.size; omega
  · have hcell : w'.cell? ⟨b, o, none⟩ = w.cell? ⟨b, o, none⟩ := by
     cases hf : fwd sel O b with
     | none => simp only [World.cell?, hold b (by
      rintro (h1 | h1)
      · rw [hf] at h1; cases h1
      · have := h.env.ext.size; omega)]
     | some x =>
      obtain ⟨l', t''⟩ := x
      obtain ⟨q, x, h2, _, _⟩ := fwd_some hf
      refine he.part b l' t'' o (Nat.lt_of_lt_of_le hb h.env.ext.size) hf ?_
      rcases h.env.onew b _ _ h2 with h3 | ⟨l0, t0, h3, h4⟩
      · omega
      · rw [hO] at h3; injection h3 with h3; injection h3 with _ h3; omega
    rw [hcell]; exact h.env.part b l t' o hb hO hot
  · rcases he.snew b o hb with h1 | h1 | ⟨l, t', h1, h2⟩
    · exact h.env.snew b o h1
    · exact .inr (.inl (Nat.le_trans h.env.ext.size h1))
    · obtain ⟨q, x, h3, _, _⟩ := fwd_some h1
      rcases h.env.onew b _ _ h3 with h4 | ⟨l0, t0, h4, h5⟩
      · exact .inr (.inl h4)
      · exact .inr (.inr ⟨l0, t0, h4, by omega⟩)
  · rcases hdec b with hp | hp
    · rw [hOp b hp] at hO; obtain ⟨l0, h1, _⟩ := reo_some hO; exact he.sown b o l0 t' hS h1
    · rw [hOn b hp] at hO
      rcases he.snew b o hS with h1 | h1 | ⟨l1, t1, h1, _⟩
      · exact h.env.sown b o l t' h1 hO
      · exact absurd (.inr h1) hp
      · exact absurd (.inl (by rw [h1]; rfl)) hp
  · rcases hdec b with hp | hp
    · rw [hOp b hp] at hO; obtain ⟨l0, h1, _⟩ := reo_some hO; exact he.olt b l0 t' h1
    · rw [hOn b hp] at hO; exact Nat.lt_of_lt_of_le (h.env.olt b l t' hO) hE.size
  · rcases hdec b with hp | hp
    · rw [hOp b hp] at hO
      obtain ⟨l0, h1, _⟩ := reo_some hO
      rcases he.onew b l0 t' h1 with h2 | ⟨l1, t1, h2, h3⟩
      · exact .inl (Nat.le_trans h.env.ext.size h2)
      · obtain ⟨q, x, h4, _, _⟩ := fwd_some h2
        rcases h.env.onew b _ _ h4 with h5 | ⟨l2, t2, h5, h6⟩
        · exact .inl h5
        · exact .inr ⟨l2, t2, h5, by omega⟩
    · rw [hOn b hp] at hO; exact h.env.onew b l t' hO
  · by_cases hin : i < s.mem.length
    case neg =>
     have hge : s.mem.length ≤ i := Nat.le_of_not_lt hin
     rw [List.getElem?_append_right (by rw [setAll_length]; exact hge), setAll_length, List.getElem?_map, List.getElem?_drop] at hi
     rw [List.getElem?_append_right (by rw [hsm]; exact hge), hsm] at hr'
     cases hc : mem'[sel.length + (i - s.mem.length)]? with
     | none => simp [hc] at hi
     | some cs0 =>
      simp only [hc, Option.map_some, Option.some.injEq] at hi; subst hi
      have hmi : (m0 ++ ext)[sel.length + (i - s.mem.length)]? = some r' := by rw [List.getElem?_append_right (by omega), hm0l, Nat.add_sub_cancel_left]; exact hr'
      obtain ⟨g1, g2⟩ := he.mem _ cs0 r' hc hmi (by rintro rfl; exact hne' rfl)
      have hfi : renN sel s.mem.length (sel.length + (i - s.mem.length)) = i := by rw [hfe _ (by omega)]; omega
      refine ⟨?_, g2.to rfl (Ext.refl _ _) (fun _ _ h => h) (by simp [PV.rens_map]) (fun j p hp => ?_) (fun kvs hc => .inl (by rw [hc]; rfl)) (fun hc => by rw [hc]; rfl)⟩
      · rw [hOp r' (hO'p r' _ _ g1), reo_of g1]
        have := bwd_blk (renN sel s.mem.length) t (sel.length + (i - s.mem.length)) []
        simp only [List.nil_append, hfi] at this; rw [this]
      · rw [PV.rens_get] at hp
        cases hq : cs0[j]? with
        | none => simp [hq] at hp
        | some q =>
         simp only [hq, Option.map_some, Option.some.injEq] at hp; subst hp
         refine ⟨q, rfl, fun u hu => hback [j, sel.length + (i - s.mem.length), 1] q u [j, i, 1] (fun q' => ?_) hu⟩
         have := bwd_blk (renN sel s.mem.length) t (sel.length + (i - s.mem.length)) (q' ++ [j])
         simp only [hfi, List.append_assoc, List.cons_append, List.nil_append] at this
         exact this
    case pos =>
    rw [List.getElem?_append_left (by rw [setAll_length]; exact hin), setAll_get sel _ s.mem hnd (by simp [hml]) hsel] at hi
    rw [List.getElem?_append_left (by rw [hsm]; exact hin)] at hr'
    by_cases his : i ∈ sel
    · rw [if_pos his, List.getElem?_map, List.getElem?_take_of_lt (List.idxOf_lt_length_of_mem his)] at hi
      have hidx : sel[sel.idxOf i]? = some i := by
       rw [gE (List.idxOf_lt_length_of_mem his)]; simp
      cases hc : mem'[sel.idxOf i]? with
      | none => simp [hc] at hi
      | some cs0 =>
       simp only [hc, Option.map_some, Option.some.injEq] at hi; subst hi
       have hlt := List.idxOf_lt_length_of_mem his
       have hmi : (m0 ++ ext)[sel.idxOf i]? = some r' := by rw [List.getElem?_append_left (by omega), hmget _ i hidx]; exact hr'
       obtain ⟨g1, g2⟩ := he.mem _ cs0 r' hc hmi (by rintro rfl; exact hne' rfl)
       have hfi : renN sel s.mem.length (sel.idxOf i) = i := by rw [hfs _ hlt, List.getD_eq_getElem?_getD, hidx]; rfl
       refine ⟨?_, g2.to rfl (Ext.refl _ _) (fun _ _ h => h) (by simp [PV.rens_map]) (fun j p hp => ?_) (fun kvs hc => .inl (by rw [hc]; rfl)) (fun hc => by rw [hc]; rfl)⟩
       · rw [hOp r' (hO'p r' _ _ g1), reo_of g1]
         have := bwd_blk (renN sel s.mem.length) t (sel.idxOf i) []
         simp only [List.nil_append, hfi] at this; rw [this]
       · rw [PV.rens_get] at hp
         cases hq : cs0[j]? with
         | none => simp [hq] at hp
         | some q =>
          simp only [hq, Option.map_some, Option.some.injEq] at hp; subst hp
          refine ⟨q, rfl, fun u hu => hback [j, sel.idxOf i, 1] q u [j, i, 1] (fun q' => ?_) hu⟩
          have := bwd_blk (renN sel s.mem.length) t (sel.idxOf i) (q' ++ [j])
          simp only [hfi, List.append_assoc, List.cons_append, List.nil_append] at this
          exact this
    · rw [if_neg his] at hi
      obtain ⟨g1, g2⟩ := h.env.mem i cs r' hi hr' hne'
      have hne : ∀ q x, x ∈ sel → [i, 1] ≠ q ++ [x, 1] := fun q x hx heq => by
       have := congrArg (fun l => l.reverse[1]?) heq; simp at this; exact his (this ▸ hx)
      have hnp : ¬ pass r' := by
       rintro (h1 | h1)
       · rw [fwd_none g1 hne] at h1; cases h1
       · exact absurd (h.env.olt _ _ _ g1) (Nat.not_lt_of_le h1)
      refine ⟨hkeep _ _ _ g1 hne, g2.frame (hold _ hnp) hE he.s0 (fun j b t' q' hO => hkeep b _ t' hO (fun q'' x hx heq => ?_)) hm1⟩
      have := congrArg (fun l => l.reverse[1]?) heq; simp at this; exact his (this ▸ hx)
 refine ⟨S', O'', m ++ ext, henv, h.defers, by simp [Act.put, h.size], h.pre.trans (List.prefix_append _ _), fun i p hp => ?_⟩
 rw [getD_put _ _ _ _ (by rw [h.size]; exact ht)]
 rw [GS.get_set] at hp
 by_cases hi : i = t
 · rw [if_pos hi] at hp ⊢; injection hp with hp; subst hp; subst hi
   exact hback [2] r v [i, 0] (bwd_res _ i) hr
 · rw [if_neg hi] at hp ⊢
   refine hstay _ _ _ (fun q' q'' x hx heq => ?_) (h.slots i p hp)
   have := congrArg List.getLast? heq; simp at this
theorem GOps_callmn {K : Ctx} {ops : Array Oper} {Q : Exit → GS → Prop} {s : GS} {i : Nat} {rest : List Nat} {o : Oper} {t : Nat} {fx : Operand} {xs : List Operand} {tys : Array TypeId} {f : FuncId} {fn : Func} {fa fc : List PV}
 {R : PV → List (List PV) → Prop} (sel : List Nat) (args0 : List PV) (mem0 : List (List PV))
 (ho : ops[i]? = some o) (hop : o.op = .call ⟨.value fx, xs.toArray, tys⟩) (hd : o.dst = some t) (hg : o.guard = none)
 (hfx : (s.ev fx).callee' = some (f, fa, fc)) (hargs : PV.copies (fa ++ xs.map s.ev ++ fc) = PV.rens (fun b => sel.getD b 0) args0)
 (hnd : sel.Nodup) (hsel : ∀ b ∈ sel, b < s.mem.length) (hmem : sel.map (fun b => s.mem.getD b []) = mem0.map (PV.rens (fun b => sel.getD b 0)))
 (hra : PV.refsBs sel.length args0 = true) (hrm : mem0.all (PV.refsBs sel.length) = true)
 (hf : K.P.funcs[f]? = some fn) (hb : fn.body.isSome = true) (hn : (fn.name == "runtime.NumGoroutine") = false) (ht : t < K.n)
 (hc : GCall K.P f args0 mem0 R)
 (h : ∀ r mem', R r mem' → GOps K ops Q rest (GS.set ⟨s.slots, setAll s.mem sel ((mem'.take sel.length).map (PV.rens (renN sel s.mem.length))) ++ (mem'.drop sel.length).map (PV.rens (renN sel s.mem.length))⟩ t (r.ren (renN sel s.mem.length)))) :
 GOps K ops Q (i :: rest) s := by
 rintro a w ⟨S, O, m, hr⟩
 obtain ⟨l, hrf⟩ := hr.ev fx
 obtain ⟨vf, vc, hvf, hs1, hs2, g1, g2⟩ := hrf.callee' hfx
 have hrun : (execOp a.eval o).run K.P w = .ok (.enter f (vf ++ (xs.map a.eval).toArray ++ vc)) w := by
  simp only [execOp, hop]
  simp [resolve, Deferred.ofValue, hvf, invoke, run_callFunc hf hb hn]
 simp only [wpOps, ho, Region.wanted, hg, if_true]
 refine .inl ?_
 simp only [Oper.wp, hrun, Oper.upon_enter]
 have hmget : ∀ (b x : Nat), sel[b]? = some x → (sel.map (fun b => m.getD b 0))[b]? = m[x]? := fun b x hb => by
  have hx : x < m.length := by rw [hr.env.mlen]; exact hsel x (mG hb)
  rw [List.getElem?_map, hb, Option.map_some, List.getD_eq_getElem?_getD, gE hx]; rfl
 have hum : ∀ (b r : Nat), b < sel.length → m[sel.getD b 0]? = some r → (sel.map (fun b => m.getD b 0))[b]? = some r := fun b r hb hm => by
  have hs : sel[b]? = some sel[b] := gE hb
  rw [hmget b _ hs]
  rw [List.getD_eq_getElem?_getD, hs] at hm; exact hm
 have hml0 : mem0.length = sel.length := by have := congrArg List.length hmem; simpa using this.symm
 have hentry : Env S (fwd sel O) w S (fwd sel O) (sel.map (fun b => m.getD b 0)) mem0 w := by
  have he := hr.env
  refine ⟨Ext.refl S w, fun _ _ _ => rfl, fun _ _ _ _ _ _ _ => rfl, fun _ _ h => h, fun _ _ h => .inl h, fun b o l t' hS hO => ?_, he.slt, fun b l t' hO => ?_, fun b l t' hO => .inr ⟨l, t', hO, Nat.le_refl _⟩, by simp [hml0], fun j cs r' hj hr' hne' => ?_⟩
  · obtain ⟨q, x, h1, _, _⟩ := fwd_some hO; exact he.sown b o _ t' hS h1
  · obtain ⟨q, x, h1, _, _⟩ := fwd_some hO; exact he.olt b _ t' h1
  · have hjl : j < sel.length := by rw [← hml0]; exact (lG hj)
    have hsj : sel[j]? = some sel[j] := gE hjl
    have hmx : m[sel[j]]? = some r' := by rw [← hmget j _ hsj]; exact hr'
    have hcx : s.mem[sel[j]]? = some (PV.rens (fun b => sel.getD b 0) cs) := by
     have h1 := congrArg (fun l => l[j]?) hmem
     simp only [List.getElem?_map, hsj, hj, Option.map_some, Option.some.injEq] at h1
     have hlt := hsel _ (mG hsj)
     rw [gE hlt, ← h1, List.getD_eq_getElem?_getD, gE hlt]; rfl
    obtain ⟨k1, k2⟩ := he.mem _ _ r' hcx hmx (by rw [PV.rens_map]; simpa using hne')
    have hidx : sel.idxOf sel[j] = j := hnd.idxOf_getElem j hjl
    refine ⟨?_, k2.to rfl (Ext.refl _ _) (fun _ _ h => h) (by simp [PV.rens_map]) (fun jj p hp => ?_) (fun kvs hc => .inl (PV.rens_mapc hc)) (fun hc => PV.rens_undef hc)⟩
    · have := fwd_of (sel := sel) (O := O) (r := r') (x := sel[j]) (t := 0) (q := []) (by simpa using k1) (mG hsj)
      simpa [hidx] using this
    · refine ⟨PV.ren (fun b => sel.getD b 0) p, by rw [PV.rens_get, hp]; rfl, fun u h2 => ?_⟩
      have hb2 : PV.refsB sel.length p = true := PV.refsBs_get (List.all_eq_true.1 hrm cs (mG hj)) hp
      have h3 := h2.unren (m0 := sel.map (fun b => m.getD b 0)) (fun b => sel.getD b 0) sel.length hum p hb2 rfl
      refine h3.frame _ (Ext.refl _ _) (fun _ _ h => h) (fun b t' q hO => ?_) (fun _ _ h => h)
      have := fwd_of (sel := sel) (O := O) (r := b) (x := sel[j]) (t := t') (q := q ++ [jj]) (by simpa using hO) (mG hsj)
      simpa [hidx] using this
 have hlen : (fa ++ xs.map s.ev ++ fc).length = args0.length := by have := congrArg List.length hargs; simpa [PV.copies_map, PV.rens_map] using this
 have hcall := hc w S (fwd sel O) (sel.map (fun b => m.getD b 0)) (vf ++ (xs.map a.eval).toArray ++ vc) hentry (by simp at hlen; simp [hs1, hs2]; omega) (fun j p v hp hv => by
  have hb2 : PV.refsB sel.length p = true := PV.refsBs_get hra hp
  have h1 : (PV.copies (fa ++ xs.map s.ev ++ fc))[j]? = some (PV.ren (fun b => sel.getD b 0) p) := by rw [hargs, PV.rens_get, hp]; rfl
  obtain ⟨q, hq, hqe⟩ := PV.copies_getElem? _ _ _ h1
  have hex : ∃ l', RP w S O m l' q v := by
   by_cases h1 : j < fa.length
   · rw [List.append_assoc, List.getElem?_append_left h1] at hq
     rw [Array.append_assoc, Array.getElem?_append_left (by omega)] at hv
     exact g1 j q v hq hv
   · by_cases h2 : j < fa.length + xs.length
     · rw [List.getElem?_append_left (by simp; omega), List.getElem?_append_right (by omega), List.getElem?_map] at hq
       rw [Array.getElem?_append_left (by simp; omega), Array.getElem?_append_right (by omega), hs1] at hv
       cases hx : xs[j - fa.length]? with
       | none => simp [hx] at hq
       | some x => simp [hx] at hq hv; subst hq; subst hv; exact hr.ev x
     · rw [List.getElem?_append_right (by simp; omega)] at hq
       rw [Array.getElem?_append_right (by simp; omega)] at hv
       refine g2 _ q v hq ?_
       rw [← hv]; congr 1; simp; omega
  obtain ⟨l', hl'⟩ := hex
  have h4 : RP w S (fwd sel O) m [j, 0] q.copy v := hl'.copy _ _
  rw [← hqe] at h4
  exact h4.unren (fun b => sel.getD b 0) sel.length hum p hb2 rfl)
 refine Calls.mono hcall ?_
 rintro e w' ⟨v, r, mem', S', O', m', rfl, hR, henv, hm, hres⟩
 obtain ⟨ext, rfl⟩ := hm
 simp only
 rw [hd]
 exact h r mem' hR _ _ (hr.aftermn hnd hsel rfl henv ht hres)
end
section
variable {K : Ctx} {s : GS}
theorem g_callmn {ops : Array Oper} {Q : Exit → GS → Prop} {s'' : GS} {i : Nat} {rest : List Nat} {t : Nat} {fx : Operand} {xs : List Operand} {tys : Array TypeId} {ty : TypeId} {pos : String} {af : Array Edge} {f : FuncId} {fa fc args0 : List PV} {mem0 mem1 : List (List PV)} {r : PV} (sel : List Nat) (r' : PV) (mem'' : List (List PV))
 (ho : ops[i]? = some ⟨some t, .call ⟨.value fx, xs.toArray, tys⟩, ty, pos, af, none⟩) (hc : Gm K.P f args0 mem0 r mem1) (h : GOps K ops Q rest s'')
 (hfx : (s.ev fx).callee' = some (f, fa, fc) := by exact J10) (hargs : PV.copies (fa ++ xs.map s.ev ++ fc) = PV.rens (fun b => sel.getD b 0) args0 := by rfl)
 (hnd : sel.Nodup := by decide) (hsel : ∀ b ∈ sel, b < s.mem.length := by simp) (hmem : sel.map (fun b => s.mem.getD b []) = mem0.map (PV.rens (fun b => sel.getD b 0)) := by rfl)
 (hra : PV.refsBs sel.length args0 = true := by rfl) (hrm : mem0.all (PV.refsBs sel.length) = true := by rfl)
 (ht : t < K.n := by exact oR rfl) (hr : r.ren (renN sel s.mem.length) = r' := by rfl) (hm : setAll s.mem sel ((mem1.take sel.length).map (PV.rens (renN sel s.mem.length))) ++ (mem1.drop sel.length).map (PV.rens (renN sel s.mem.length)) = mem'' := by first | rfl | (show _ ++ [PV.rens _ (flat _)] = _; rw [rens_flat]; rfl))
 (hs : GS.set ⟨s.slots, mem''⟩ t r' = s'' := by exact J1) : GOps K ops Q (i :: rest) s := by
 subst hs; subst hr; subst hm
 obtain ⟨⟨fn, hf, hb, hn⟩, hc⟩ := hc
 exact GOps_callmn sel args0 mem0 ho rfl rfl rfl hfx hargs hnd hsel hmem hra hrm hf hb hn ht hc (fun r' m' hr => by obtain ⟨rfl, rfl⟩ := hr; exact h)
theorem Le_nilrowA (t k : Nat) (hs : s.get t = some .nils) : Le K s ⟨(t, .rsl s.mem.length 0 0 k) :: s.slots, s.mem ++ [[]]⟩ := by
 rintro a w ⟨S, O, m, h⟩
 have hd := h.dummy
 refine ⟨S, O, _, hd.env, hd.defers, hd.size, hd.pre, fun i p hp => ?_⟩
 have hp' : (if i = t then some (PV.rsl s.mem.length 0 0 k) else s.get i) = some p := by
  by_cases hi : i = t
  · subst hi; rw [if_pos rfl]; simpa [GS.get, List.lookup] using hp
  · have : (i == t) = false := by simpa using hi
    rw [if_neg hi]
    simpa [GS.get, List.lookup, this] using hp
 by_cases hi : i = t
 · rw [if_pos hi] at hp'
   injection hp' with hp'
   subst hp'; subst hi
   have := h.slots i _ hs
   generalize a.tmps.getD i undef = v at this
   cases this with
   | nils => exact .rsl _ _ _ _ _ none 0 (Nat.le_refl _) (by simp [lim]) (fun _ => rfl) (fun h => absurd rfl h)
 · rw [if_neg hi] at hp'
   exact hd.slots i p hp'
theorem g_nilrow {ops : Array Oper} {Q : Exit → GS → Prop} {l : List Nat} {s'' : GS} (t k : Nat) (h : GOps K ops Q l s'') (hs : s.get t = some .nils := by exact J0)
 (hm : (⟨(t, .rsl s.mem.length 0 0 k) :: s.slots, s.mem ++ [[]]⟩ : GS) = s'' := by simp only [List.length_cons, List.length_nil, Nat.reduceAdd, Nat.zero_add, List.cons_append, List.nil_append] <;> rfl) : GOps K ops Q l s := by
 subst hm
 exact GOps_le (Le_nilrowA t k hs) h
theorem y_appendR {t u b n n' : Nat} {y : Operand} {ty e rt : TypeId} {pos : String} {af : Array Edge} {g : Option (Nat × Bool)} {k by_ : Nat} {xs ys : List D} {z : Value} {sl : List (Nat × PV)} {mem' : List (List PV)}
 (hun : K.P.underlying ty = some (.slice e)) (hinf : (K.P.info? e).map (fun i => (i.zero, i.size, i.bytes)) = some (some z, k, by_)) (hkx : ∀ x ∈ xs, x.cells.length = k) (hn : xs.length = n) (hu : s.get u = some (.rsl b 0 n k) := by exact J0) (hmem : s.mem[b]? = some (flat xs) := by rfl)
 (hy : (s.ev y).list? = some ys := by exact J2) (hbm : K.m0.length ≤ b := by omega) (hno : nrefM b 0 s.mem = true := by rfl) (hne : ys ≠ [] := by simp) (hk : ∀ y ∈ ys, y.cells.length = k := by simp [D.cells]) (hk0 : 0 < k := by decide)
 (hzs : z.cells.size = k := by rfl) (hz1 : z.cells.all (·.oneCell') = true := by kernel_rfl) (hlen : xs.length + ys.length ≤ lim := by simp only [lim, List.length_cons, List.length_nil, List.length_append, List.length_map]; omega) (hB : (xs.length + ys.length) * by_ ≤ lim := by simp only [lim, List.length_cons, List.length_nil, List.length_append, List.length_map]; omega)
 (ht : t < K.n := by exact oR rfl) (hn' : n + ys.length = n' := by rfl) (hsl : sansB b s.slots = sl := by simp only [sansB, List.map_cons, List.map_nil, PV.nref, PV.nrefs, Nat.reduceBEq, Bool.not_true, Bool.not_false, Bool.and_true, if_true, if_false, Bool.false_eq_true, ite_true, ite_false] <;> rfl) (hmm : s.mem.set b (flat (xs ++ ys)) = mem' := by simp only [List.set_cons_zero, List.set_cons_succ] <;> rfl) :
 Yld K ⟨some t, .call ⟨.builtin .append, #[.tmp u, y], #[ty, ty]⟩, rt, pos, af, g⟩ s ⟨(t, .rsl b 0 n' k) :: sl, mem'⟩ := by
 subst hn; subst hn'; subst hsl; subst hmm
 exact Y_appendR hu hmem hbm hno hy hne hkx hk hk0 hun hinf hzs hz1 hlen hB ht
end
section
variable {K : Ctx} {s : GS}
theorem Le_forget {keep : List (List PV)} {cs : List PV} (n : Nat) (hmem : s.mem = keep ++ [cs]) (hn : keep.length = n) (hk : K.m0.length ≤ n)
 (hrf : keep.all (PV.refsBs n) = true) : Le K s ⟨s.slots.map fun x => (x.1, PV.frz n noF noH .undef x.2), keep⟩ := by
 refine Le_frz n 0 noF noH .undef hmem hn hk (Nat.zero_le _) rfl (fun i cs' hi => ⟨cs', hi, rfl, fun j p' hp => ⟨p', hp, .inl ⟨rfl, PV.refsBs_get (List.all_eq_true.1 hrf cs' (mG hi)) hp⟩⟩⟩) ?_
 intro S O m a w h r hr O'
 exact ⟨fun off l => .undef _ _, fun off c k ad cap l _ _ _ _ => .undef _ _, fun l => .undef _ _⟩
theorem g_forget {ops : Array Oper} {Q : Exit → GS → Prop} {l : List Nat} {s'' : GS} (n : Nat) (keep : List (List PV)) {cs : List PV} (hmem : s.mem = keep ++ [cs]) (hg : GOps K ops Q l s'') (hrf : keep.all (PV.refsBs n) = true := by rfl) (hk : K.m0.length ≤ n := by first | (dsimp only [List.length_cons, List.length_nil]; omega) | simp_all) (hn : keep.length = n := by rfl)
 (hs : GS.mk (s.slots.map fun x => (x.1, PV.frz n noF noH .undef x.2)) keep = s'' := by simp only [List.map_cons, List.map_nil, PV.frz, PV.frzs, noF, noH, if_true, if_false, Nat.reduceEqDiff] <;> rfl) : GOps K ops Q l s := by
 subst hs; exact GOps_le (Le_forget n hmem hn hk hrf) hg
theorem q_fieldAgg (part : List D) {K : Ctx} {s : GS} {t : Nat} {x : Operand} {st rt : TypeId} {f n : Nat} {pos : String} {af : Array Edge} {g : Option (Nat × Bool)} {fs : Array Field} {fl : Field} {ds : List D} (hu : K.P.underlying st = some (.struct fs)) (hf : fs[f]? = some fl) (hz : (K.P.info? fl.type).map (·.size) = some (n + 1)) (hx : s.ev x = .d (.ptr (.agg ds)) := by exact J0) (hp : (ds.drop fl.offset).take (n + 1) = part := by rfl) (ht : t < K.n := by exact oR rfl) :
 Qy K ⟨some t, .fieldAddr st x f, rt, pos, af, g⟩ s t (.d (.ptr (.agg part))) := hp ▸ Q_fieldp_agg hx hu hf hz ht
theorem y_allocM {t : Nat} {ty rt : TypeId} {pos : String} {af : Array Edge} {g : Option (Nat × Bool)} (hz : (K.P.info? ty).map (·.zero) = some (some (.map none))) (ht : t < K.n := by exact oR rfl) :
 Yld K ⟨some t, .alloc ty, rt, pos, af, g⟩ s ⟨(t, .ref s.mem.length 0) :: s.slots, s.mem ++ [[.d .nilM]]⟩ := by
 rintro a w ⟨S, O, m, h⟩
 have henv := h.env.alloc (Value.map none).cells ty [.d .nilM] (Nat.le_refl _) (fun j v hv => by
  match j, hv with
  | 0, hv => cases hv; rfl) (fun j p v hp hv => ⟨O, [], fun _ _ => rfl, by
  match j, hp, hv with
  | 0, hp, hv => cases hp; cases hv; exact .d _ _ _ .nilM⟩) rfl
 refine ⟨.pointer (some ⟨w.heap.size, 0, none⟩), w.alloc (.cells (Value.map none).cells ty), by simp [execOp, run_alloc hz], S, _, _, henv, h.defers, by simp [Act.put, h.size], h.pre.trans (List.prefix_append _ _), fun i p hi => ?_⟩
 have hE : Ext S w (w.alloc (.cells (Value.map none).cells ty)) := ext_alloc S w _ h.env.slt
 rw [getD_put _ _ _ _ (by rw [h.size]; exact ht)]
 have hi' : (s.set t (.ref s.mem.length 0)).get i = some p := hi
 rw [GS.get_set] at hi'
 by_cases hit : i = t
 · rw [if_pos hit] at hi' ⊢; injection hi' with hi'; subst hi'
   exact .ref _ _ _ _ (by rw [← h.env.mlen]; simp)
 · rw [if_neg hit] at hi' ⊢
   exact (h.slots i p hi').ext hE (fun _ _ h => h) (fun b t q hb => by rw [if_neg (Nat.ne_of_lt (h.env.olt b _ t hb))]; exact hb) (fun b r hb => by
    rw [List.getElem?_append_left (lG hb)]; exact hb)
end
end Go.Proofs.YtklkbfpjimeaoaaGreat.E
