import Derived.Test.YtklkbfpjimeaoaaGreatM10
/- Contracts of functions. Conditions: none. -/
namespace Go.Proofs.YtklkbfpjimeaoaaGreat.E
open Go
end Go.Proofs.YtklkbfpjimeaoaaGreat.E
namespace Go.Proofs.YtklkbfpjimeaoaaGreat.E
open Go
def alive (kl : List (Nat × Nat)) (b : Nat → Bool) (i : Nat) : Bool := b i && !(match kl.lookup i with | some j => b j | none => false)
def mkK (kl : List (Nat × Nat)) (b : Nat → Bool) (es : List (Nat × Nat × PV)) : List (Nat × PV) := es.map fun x => (x.2.1, cond (alive kl b x.1) x.2.2 .undef)
theorem mkK_lookup {kl : List (Nat × Nat)} {b : Nat → Bool} : ∀ {fs : List (Nat × Nat × PV)}, (fs.map (·.2.1)).Nodup → ∀ {i t : Nat} {p : PV}, (i, t, p) ∈ fs → (mkK kl b fs).lookup t = some (cond (alive kl b i) p .undef)
  | [], _, _, _, _, h => by cases h
  | x :: fs, hn, i, t, p, h => by
    rw [List.map_cons, List.nodup_cons] at hn
    simp only [mkK, List.map_cons, List.lookup_cons]
    rcases List.mem_cons.1 h with rfl | h
    · simp
    · have hne : (t == x.2.1) = false := by
        have : t ≠ x.2.1 := by rintro rfl; exact hn.1 (List.mem_map.2 ⟨_, h, rfl⟩)
        simpa using this
      rw [hne]
      exact mkK_lookup hn.2 h
theorem mkK_none {kl : List (Nat × Nat)} {b : Nat → Bool} : ∀ {fs : List (Nat × Nat × PV)} {t : Nat}, t ∉ fs.map (·.2.1) → (mkK kl b fs).lookup t = none
  | [], _, _ => rfl
  | x :: fs, t, h => by
    simp only [List.map_cons, List.mem_cons, not_or] at h
    have hne : (t == x.2.1) = false := by simpa using h.1
    simp only [mkK, List.map_cons, List.lookup_cons, hne]
    exact mkK_none h.2
theorem alive_of {kl : List (Nat × Nat)} {b : Nat → Bool} {d i : Nat} (h : b d = true) (hi : b i = false) (hk : kl.lookup d = none ∨ kl.lookup d = some i) : alive kl b d = true := by
  unfold alive
  rw [h]
  rcases hk with hk | hk <;> rw [hk]
  · rfl
  · show (true && !(b i)) = true
    rw [hi]; rfl
theorem alive_end {kl : List (Nat × Nat)} {fs : List (Nat × Nat × PV)} {base : List (Nat × PV)} {n : Nat} (hnd : (fs.map (·.2.1)).Nodup) (hfi : ∀ x ∈ fs, x.1 < n) (t : Nat) (p : PV) (h : ((fs.filter fun x => (kl.lookup x.1).isNone).map (·.2) ++ base).lookup t = some p) (hdis : ∀ x ∈ base, x.1 ∉ fs.map (·.2.1)) : (mkK kl (allB n) fs ++ base).lookup t = some p := by
  rw [lookup_append] at h ⊢
  cases hl : ((fs.filter fun x => (kl.lookup x.1).isNone).map (·.2)).lookup t with
  | some q =>
    rw [hl] at h
    have hqp : q = p := by simpa using h
    subst hqp
    obtain ⟨⟨i, y⟩, h1, h2⟩ := List.mem_map.1 (lookup_mem' _ _ _ hl)
    obtain ⟨h3, h4⟩ := List.mem_filter.1 h1
    replace h2 : y = (t, q) := h2
    subst h2
    have hlt : allB n i = true := show Nat.blt i n = true by rw [Nat.blt_eq]; exact hfi _ h3
    have hal : alive kl (allB n) i = true := by
      unfold alive
      replace h4 : (kl.lookup i).isNone = true := h4
      rw [Option.isNone_iff_eq_none] at h4
      rw [hlt, h4]; rfl
    rw [mkK_lookup hnd h3, hal]; rfl
  | none =>
    rw [hl] at h
    have hb : base.lookup t = some p := by simpa using h
    rw [mkK_none (hdis _ (lookup_mem' _ _ _ hb)), hb]; rfl
def StpK (K : Ctx) (ops : Array Oper) (M : (Nat → Bool) → List (List PV)) (base : List (Nat × PV)) (i : Nat) (sl r x : List (Nat × PV)) : Prop :=
  ∀ (b : Nat → Bool) (rest : List (Nat × PV)), b i = false → (∀ j ∈ depsOf ops i, b j = true) → Valid ops b →
    GOps K ops (fun e s' => e = .normal ∧ s' = ⟨r ++ (x ++ (sl ++ base ++ rest)), M (upd b i)⟩) [i] ⟨sl ++ base ++ rest, M b⟩
inductive ConfK (kl : List (Nat × Nat)) (K : Ctx) (ops : Array Oper) (M : (Nat → Bool) → List (List PV)) (base : List (Nat × PV)) : Nat → List (Nat × Nat × PV) → List (Nat × Nat × PV) → Prop
  | done {i : Nat} {es : List (Nat × Nat × PV)} : i = ops.size → ConfK kl K ops M base i es es
  | step {i : Nat} {es fs : List (Nat × Nat × PV)} {sl r xt : List (Nat × PV)} (hs : StpK K ops M base i sl r xt) (hsl : ∀ x ∈ sl, ∃ d ∈ depsOf ops i, (d, x) ∈ es ∧ (kl.lookup d = none ∨ kl.lookup d = some i)) (hx : ∀ x ∈ xt, ∃ d q, (d, x.1, q) ∈ es ∧ kl.lookup d = some i) (hc : ConfK kl K ops M base (i + 1) (es ++ r.map fun x => (i, x)) fs) : ConfK kl K ops M base i es fs
theorem ConfK.le {kl : List (Nat × Nat)} {K : Ctx} {ops : Array Oper} {M : (Nat → Bool) → List (List PV)} {base : List (Nat × PV)} {i : Nat} {es fs : List (Nat × Nat × PV)} (h : ConfK kl K ops M base i es fs) : ∃ later, fs = es ++ later := by
  induction h with
  | done _ => exact ⟨[], by simp⟩
  | step _ _ _ _ ih => obtain ⟨l, h⟩ := ih; exact ⟨_, by rw [h, List.append_assoc]⟩
theorem ConfK.idx {kl : List (Nat × Nat)} {K : Ctx} {ops : Array Oper} {M : (Nat → Bool) → List (List PV)} {base : List (Nat × PV)} {i0 : Nat} {es fs : List (Nat × Nat × PV)} (h : ConfK kl K ops M base i0 es fs) : ∀ x ∈ fs, x ∈ es ∨ i0 ≤ x.1 := by
  induction h with
  | done _ => exact fun x hx => .inl hx
  | @step j es fs sl r xt hs hsl hx hc ih =>
    intro x hx
    rcases ih x hx with h | h
    · rcases List.mem_append.1 h with h | h
      · exact .inl h
      · obtain ⟨y, _, rfl⟩ := List.mem_map.1 h; exact .inr (Nat.le_refl _)
    · exact .inr (by omega)
theorem ConfK.at {kl : List (Nat × Nat)} {K : Ctx} {ops : Array Oper} {M : (Nat → Bool) → List (List PV)} {base : List (Nat × PV)} {i0 : Nat} {es fs : List (Nat × Nat × PV)} (h : ConfK kl K ops M base i0 es fs) (hes : ∀ x ∈ es, x.1 < i0) :
    ∀ i, i0 ≤ i → i < ops.size → ∃ sl r xt, StpK K ops M base i sl r xt ∧ (∀ x ∈ r, (i, x) ∈ fs) ∧ (∀ x, (i, x) ∈ fs → x ∈ r) ∧ (∀ x ∈ sl, ∃ d ∈ depsOf ops i, (d, x) ∈ fs ∧ (kl.lookup d = none ∨ kl.lookup d = some i)) ∧ ∀ x ∈ xt, ∃ d q, (d, x.1, q) ∈ fs ∧ kl.lookup d = some i := by
  induction h with
  | done h => intro i h1 h2; omega
  | @step j es fs sl r xt hs hsl hx hc ih =>
    intro i h1 h2
    have hes' : ∀ x ∈ es ++ r.map (fun x => (j, x)), x.1 < j + 1 := fun x hx => by
      rcases List.mem_append.1 hx with hx | hx
      · have := hes x hx; omega
      · obtain ⟨y, _, rfl⟩ := List.mem_map.1 hx; exact Nat.lt_succ_self _
    by_cases hij : i = j
    · subst hij
      obtain ⟨l, hl⟩ := hc.le
      refine ⟨sl, r, xt, hs, fun x hx => ?_, fun x hx => ?_, fun x hx => ?_, fun x hx' => ?_⟩
      · rw [hl]; simp only [List.mem_append, List.mem_map]; exact .inl (.inr ⟨x, hx, rfl⟩)
      · rcases hc.idx _ hx with h | h
        · rcases List.mem_append.1 h with h | h
          · have := hes _ h; simp at this
          · obtain ⟨y, hy, he⟩ := List.mem_map.1 h
            injection he with _ he
            exact he ▸ hy
        · simp at h; omega
      · obtain ⟨d, hd, hm, hk⟩ := hsl x hx
        exact ⟨d, hd, by rw [hl]; simp only [List.mem_append]; exact .inl (.inl hm), hk⟩
      · obtain ⟨d, q, hm, hk⟩ := hx x hx'
        exact ⟨d, q, by rw [hl]; simp only [List.mem_append]; exact .inl (.inl hm), hk⟩
    · exact ih hes' i (by omega) h2
theorem G_confK {K : Ctx} {id : Nat} {ops : Array Oper} {Q : Exit → GS → Prop} {s s'' : GS} {M : (Nat → Bool) → List (List PV)} {base : List (Nat × PV)} {fs : List (Nat × Nat × PV)} {kl : List (Nat × Nat)} (n : Nat) (hn : ops.size = n) (hm : K.P.follows .mixedOrders = true)
    (hs : Le K s ⟨base, M noB⟩) (hc : ConfK kl K ops M base 0 [] fs) (hnd : (fs.map (·.2.1)).Nodup) (hdis : ∀ x ∈ base, x.1 ∉ fs.map (·.2.1)) (hdep : ∀ i, i < n → ∀ d ∈ depsOf ops i, d < i)
    (hs'' : Le K ⟨mkK kl (allB n) fs ++ base, M (allB n)⟩ s'') (hfi : ∀ x ∈ fs, x.1 < n) (hq : Q .normal s'') : G K (.region id ops true) Q s := by
  subst hn
  rintro a w ha
  obtain ⟨S, O, m, hr⟩ := hs a w ha
  have hd := hr.drew
  refine wp_mono (Q := endN K Q) (wp_region_any hm ?_) (fun e a' w' ⟨he, s', hq, hat⟩ => ⟨s', he ▸ hq, hat⟩)
  have hbl : ∀ {t p}, (base.lookup t) = some p → t ∉ fs.map (·.2.1) := fun h => hdis _ (lookup_mem' _ _ _ h)
  have key : ∀ fuel (listed : Array Bool) a w, listed.size = ops.size → open_ listed = fuel → Valid ops (bOf listed) → At K ⟨mkK kl (bOf listed) fs ++ base, M (bOf listed)⟩ a w → wpAny K.P .any ops (endN K Q) fuel listed a w := by
    intro fuel
    induction fuel with
    | zero =>
      intro listed a w hsz ho _ hat
      have hall : ∀ i, i < ops.size → listed.getD i true = true := fun i hi => open_zero ho i (by omega)
      have hb : bOf listed = allB ops.size := by
        funext j
        unfold bOf allB
        by_cases hj : j < ops.size
        · have := hall j hj
          rw [Array.getD_eq_getD_getElem?, Array.getElem?_eq_getElem (by omega)] at this
          rw [Array.getD_eq_getD_getElem?, Array.getElem?_eq_getElem (by omega)]
          simp at this ⊢
          rw [this]; exact (show Nat.blt j ops.size = true by rw [Nat.blt_eq]; exact hj).symm
        · rw [Array.getD_eq_getD_getElem?, Array.getElem?_eq_none (by omega)]
          have : Nat.blt j ops.size = false := by
            cases hb : Nat.blt j ops.size with
            | false => rfl
            | true => rw [Nat.blt_eq] at hb; omega
          rw [this]; rfl
      refine ⟨?_, rfl, s'', hq, ?_⟩
      · rw [List.eq_nil_iff_forall_not_mem]
        intro i hi
        obtain ⟨h1, o, ho, _⟩ := mem_ready.1 hi
        rw [hall i (Array.getElem?_eq_some_iff.1 ho).1] at h1; cases h1
      · rw [hb] at hat; exact hs'' a w hat
    | succ fuel ih =>
      intro listed a w hsz ho hv hat
      refine ⟨fun hr0 => ?_, fun i hi => ?_⟩
      · exfalso
        -- the least one that is open is ready
        have hex : ∃ i, i < ops.size ∧ listed.getD i true = false := by
          refine Classical.byContradiction fun hne => ?_
          have : open_ listed = 0 := by
            unfold open_
            rw [List.length_eq_zero_iff, List.filter_eq_nil_iff]
            intro x hx
            obtain ⟨i, hi, rfl⟩ := List.mem_iff_getElem.1 hx
            have hi' : i < listed.size := by simpa using hi
            have h1 : ¬ (listed.getD i true = false) := fun h => hne ⟨i, by omega, h⟩
            rw [Array.getD_eq_getD_getElem?, Array.getElem?_eq_getElem hi'] at h1
            simpa using h1
          omega
        have hmin : ∀ k i, i ≤ k → i < ops.size → listed.getD i true = false → ∃ j, j < ops.size ∧ listed.getD j true = false ∧ ∀ d, d < j → listed.getD d true = true := by
          intro k
          induction k with
          | zero => intro i h1 h2 h3; exact ⟨i, h2, h3, fun d hd => by omega⟩
          | succ k ihk =>
            intro i h1 h2 h3
            by_cases hd : ∃ d, d < i ∧ listed.getD d true = false
            · obtain ⟨d, h4, h5⟩ := hd; exact ihk d (by omega) (by omega) h5
            · exact ⟨i, h2, h3, fun d hd' => by
                cases h : listed.getD d true with
                | true => rfl
                | false => exact absurd ⟨d, hd', h⟩ hd⟩
        obtain ⟨i, h2, h3⟩ := hex
        obtain ⟨j, hj1, hj2, hj3⟩ := hmin i i (Nat.le_refl _) h2 h3
        have : j ∈ Region.ready .any ops listed := mem_ready.2 ⟨hj2, ops[j], Array.getElem?_eq_getElem hj1, fun e he hb => by
          have hlt := hdep j hj1 _ (depsOf_mem (Array.getElem?_eq_getElem hj1) he hb)
          have := hj3 _ hlt
          rw [Array.getD_eq_getD_getElem?, Array.getElem?_eq_getElem (by omega)] at this ⊢
          simpa using this⟩
        rw [hr0] at this; cases this
      · obtain ⟨hi1, o, hoi, hi2⟩ := mem_ready.1 hi
        have hilt : i < ops.size := (Array.getElem?_eq_some_iff.1 hoi).1
        have hbi : bOf listed i = false := by
          unfold bOf
          rw [Array.getD_eq_getD_getElem?, Array.getElem?_eq_getElem (by omega)] at hi1 ⊢
          simpa using hi1
        have hbd : ∀ j ∈ depsOf ops i, bOf listed j = true := fun j hj => by
          unfold depsOf at hj
          rw [hoi] at hj
          obtain ⟨e, he, rfl⟩ := List.mem_map.1 hj
          obtain ⟨he1, he2⟩ := List.mem_filter.1 he
          exact hi2 e (by simpa using he1) he2
        obtain ⟨sl, r, xt, hst, hr1, hr2, hsl, hxt⟩ := hc.at (fun x hx => by cases hx) i (Nat.zero_le _) hilt
        have hle : Le K ⟨mkK kl (bOf listed) fs ++ base, M (bOf listed)⟩ ⟨sl ++ base ++ (mkK kl (bOf listed) fs), M (bOf listed)⟩ := Le_slots rfl fun t p hp => by
          simp only [GS.get, lookup_append] at hp ⊢
          cases h1 : sl.lookup t with
          | some q =>
            rw [h1] at hp
            have hqp : q = p := by simpa using hp
            subst hqp
            obtain ⟨d, hd, hmem, hk⟩ := hsl _ (lookup_mem' _ _ _ h1)
            left
            rw [mkK_lookup hnd hmem, alive_of (hbd d hd) hbi hk]; rfl
          | none =>
            rw [h1] at hp
            cases h2 : base.lookup t with
            | some q =>
              rw [h2] at hp
              left
              rw [mkK_none (hbl h2)]; simpa using hp
            | none =>
              rw [h2] at hp
              left
              have h3 : (mkK kl (bOf listed) fs).lookup t = some p := by simpa using hp
              rw [h3]; rfl
        have h1 := hst (bOf listed) (mkK kl (bOf listed) fs) hbi hbd hv a w (hle a w hat)
        rw [wpOps_cons] at h1
        refine wpOp_to ?_ ?_ h1
        · rintro e a' w' hne' ⟨s', ⟨he, _⟩, _⟩
          exact absurd he hne'
        · intro a' w' h2
          obtain ⟨s', ⟨_, rfl⟩, hat'⟩ := (h2 : ∃ s', _ ∧ _)
          have hset := bOf_set (listed := listed) (i := i) (by omega)
          refine ih (listed.setIfInBounds i true) a' w' (by simpa using hsz) (by have := open_set (listed := listed) (i := i) (by omega) hi1; omega) ?_ ?_
          · rw [hset]
            intro j hj d hdj
            unfold upd at hj ⊢
            cases hdi : Nat.beq d i with
            | true => rfl
            | false =>
              simp only [cond_false]
              cases hji : Nat.beq j i with
              | true =>
                have : j = i := Nat.eq_of_beq_eq_true hji
                subst this; exact hbd d hdj
              | false => rw [hji] at hj; exact hv j (by simpa using hj) d hdj
          · rw [hset]
            refine Le_slots (s := ⟨r ++ (xt ++ (sl ++ base ++ mkK kl (bOf listed) fs)), M (upd (bOf listed) i)⟩) (s' := ⟨mkK kl (upd (bOf listed) i) fs ++ base, M (upd (bOf listed) i)⟩) rfl (fun t p hp => ?_) a' w' hat'
            simp only [GS.get, lookup_append] at hp ⊢
            have hui : upd (bOf listed) i i = true := by
              unfold upd
              rw [beq_yes]; rfl
            have hun : ∀ j, ¬ j = i → upd (bOf listed) i j = bOf listed j := fun j hj => by
              unfold upd
              rw [beq_no hj]; rfl
            by_cases ht : t ∈ fs.map (·.2.1)
            · obtain ⟨⟨j, t', p'⟩, hx, rfl⟩ := List.mem_map.1 ht
              rw [mkK_lookup hnd hx] at hp
              have hp' : cond (alive kl (upd (bOf listed) i) j) p' PV.undef = p := by simpa using hp
              cases hal : alive kl (upd (bOf listed) i) j with
              | false =>
                rw [hal] at hp'
                exact .inr hp'.symm
              | true =>
                rw [hal] at hp'
                have hpp : p' = p := hp'
                subst hpp
                left
                unfold alive at hal
                rw [Bool.and_eq_true] at hal
                obtain ⟨hal1, hal2⟩ := hal
                have hnk : ¬ kl.lookup j = some i := fun h => by rw [h] at hal2; simp only [hui] at hal2; cases hal2
                have hxn : xt.lookup t' = none := by
                  cases hxl : xt.lookup t' with
                  | none => rfl
                  | some q =>
                    exfalso
                    obtain ⟨d, q', hm, hk⟩ := hxt _ (lookup_mem' _ _ _ hxl)
                    have := key_uniq hnd hm hx rfl
                    injection this with h1 _
                    subst h1
                    exact hnk hk
                by_cases hji : j = i
                · subst hji
                  obtain ⟨q, hq⟩ := lookup_isSome (hr2 _ hx)
                  have := key_uniq hnd (hr1 _ (lookup_mem' _ _ _ hq)) hx rfl
                  injection this with _ this
                  injection this with _ this
                  subst this
                  show (r.lookup t').or _ = _
                  rw [show r.lookup t' = some q from hq]; rfl
                · have hbj : bOf listed j = true := by rw [← hun j hji]; exact hal1
                  have halj : alive kl (bOf listed) j = true := by
                    unfold alive
                    rw [hbj]
                    cases hk : kl.lookup j with
                    | none => rfl
                    | some m =>
                      rw [hk] at hal2
                      have hmi : ¬ m = i := fun h => hnk (h ▸ hk)
                      simp only [hun m hmi] at hal2
                      simpa using hal2
                  have hrn : r.lookup t' = none := by
                    cases hrl : r.lookup t' with
                    | none => rfl
                    | some q =>
                      exfalso
                      have := key_uniq hnd (hr1 _ (lookup_mem' _ _ _ hrl)) hx rfl
                      injection this with this _
                      exact hji this.symm
                  have hbn : base.lookup t' = none := by
                    cases hb : base.lookup t' with
                    | none => rfl
                    | some q => exact absurd ht (hbl hb)
                  show (r.lookup t').or _ = _
                  rw [hrn, hxn, hbn, mkK_lookup hnd hx, halj]
                  cases hsll : sl.lookup t' with
                  | some q =>
                    obtain ⟨d, hd, hmem, _⟩ := hsl _ (lookup_mem' _ _ _ hsll)
                    have := key_uniq hnd hmem hx rfl
                    injection this with h1 h2
                    injection h2 with _ h2
                    subst h1; subst h2
                    rfl
                  | none => rfl
            · rw [mkK_none ht] at hp
              have hp' : base.lookup t = some p := by simpa using hp
              have hrn : r.lookup t = none := by
                cases hrl : r.lookup t with
                | none => rfl
                | some q => exact absurd (List.mem_map.2 ⟨_, hr1 _ (lookup_mem' _ _ _ hrl), rfl⟩) ht
              have hxn : xt.lookup t = none := by
                cases hrl : xt.lookup t with
                | none => rfl
                | some q =>
                  obtain ⟨d, q', hmem, _⟩ := hxt _ (lookup_mem' _ _ _ hrl)
                  exact absurd (List.mem_map.2 ⟨_, hmem, rfl⟩) ht
              have hsn : sl.lookup t = none := by
                cases hrl : sl.lookup t with
                | none => rfl
                | some q =>
                  obtain ⟨d, _, hmem, _⟩ := hsl _ (lookup_mem' _ _ _ hrl)
                  exact absurd (List.mem_map.2 ⟨_, hmem, rfl⟩) ht
              left
              rw [hrn, hxn, hsn, hp']; rfl
  have hb0 : bOf (Array.replicate ops.size false) = noB := by
    funext j
    unfold bOf noB
    rw [Array.getD_eq_getD_getElem?, Array.getElem?_replicate]
    split <;> rfl
  refine key ops.size (Array.replicate ops.size false) a w.drew (by simp) (by simp [open_]) ?_ ?_
  · rw [hb0]; intro j hj; cases hj
  · rw [hb0]
    refine Le_slots (s := ⟨base, M noB⟩) (s' := ⟨mkK kl noB fs ++ base, M noB⟩) rfl (fun t p hp => ?_) a w.drew ⟨S, O, m, hd⟩
    simp only [GS.get, lookup_append] at hp ⊢
    by_cases ht : t ∈ fs.map (·.2.1)
    · obtain ⟨⟨j, t', p'⟩, hx, rfl⟩ := List.mem_map.1 ht
      rw [mkK_lookup hnd hx] at hp
      right
      have : PV.undef = p := by simpa [alive, noB] using hp
      exact this.symm
    · rw [mkK_none ht] at hp
      left; simpa using hp
def CGk (kl : List (Nat × Nat)) (K : Ctx) (ops : Array Oper) (M : (Nat → Bool) → List (List PV)) (base : List (Nat × PV)) (Q : Exit → GS → Prop) (i : Nat) (es : List (Nat × Nat × PV)) : Prop :=
  ∃ fs, ConfK kl K ops M base i es fs ∧ (fs.map (·.2.1)).Nodup ∧ (∀ x ∈ base, x.1 ∉ fs.map (·.2.1)) ∧ (∀ x ∈ fs, x.1 < ops.size) ∧ Q .normal ⟨(fs.filter fun x => (kl.lookup x.1).isNone).map (·.2) ++ base, M (allB ops.size)⟩
def CFk (kl : List (Nat × Nat)) (K : Ctx) (ops : Array Oper) (M : (Nat → Bool) → List (List PV)) (base : List (Nat × PV)) (Q : Exit → GS → Prop) (i : Nat) (es : List (Nat × Nat × PV)) (full : List (Nat × PV) → List (Nat × PV)) : Prop :=
  ∀ ds : List Nat, (∀ rest, pick es ds ++ base ++ rest = full rest) → (ds.all fun d => (depsOf ops i).contains d && (match kl.lookup d with | none => true | some m => Nat.beq m i)) = true → CGk kl K ops M base Q i es
theorem ck_pre {kl : List (Nat × Nat)} {K : Ctx} {ops : Array Oper} {M : (Nat → Bool) → List (List PV)} {base : List (Nat × PV)} {Q : Exit → GS → Prop} {i : Nat} {es : List (Nat × Nat × PV)} {full : List (Nat × PV) → List (Nat × PV)} (ds : List Nat) (h : CFk kl K ops M base Q i es full)
    (hfull : ∀ rest, pick es ds ++ base ++ rest = full rest := by intro rest; simp only [pick, List.filter_cons, List.filter_nil, List.contains_cons, List.contains_nil, Nat.reduceBEq, Bool.or_false, Bool.false_or, Bool.or_true, Bool.true_or, if_true, if_false, Bool.false_eq_true, List.map_cons, List.map_nil, List.cons_append, List.nil_append, List.append_nil] <;> rfl) (hds : (ds.all fun d => (depsOf ops i).contains d && (match kl.lookup d with | none => true | some m => Nat.beq m i)) = true := by kernel_rfl) : CGk kl K ops M base Q i es := h ds hfull hds
theorem ck_step (j : Nat) {kl : List (Nat × Nat)} {K : Ctx} {ops : Array Oper} {M : (Nat → Bool) → List (List PV)} {base : List (Nat × PV)} {Q : Exit → GS → Prop} {i : Nat} {es es' : List (Nat × Nat × PV)} {r xt : List (Nat × PV)} {full : List (Nat × PV) → List (Nat × PV)}
    (h : ∀ (b : Nat → Bool) (rest : List (Nat × PV)), b i = false → (∀ j ∈ depsOf ops i, b j = true) → Valid ops b → GOps K ops (fun e s' => e = .normal ∧ s' = ⟨r ++ (xt ++ full rest), M (upd b i)⟩) [i] ⟨full rest, M b⟩)
    (hc : CGk kl K ops M base Q j es') (hj : i + 1 = j) (hes : es ++ r.map (fun x => (i, x)) = es')
    (hx : (xt.all fun y => es.any fun e => Nat.beq e.2.1 y.1 && (match kl.lookup e.1 with | some m => Nat.beq m i | none => false)) = true) : CFk kl K ops M base Q i es full := by
  subst hj
  subst hes
  intro ds hfull hds
  obtain ⟨fs, h1, h2⟩ := hc
  refine ⟨fs, .step (sl := pick es ds) (r := r) (xt := xt) (fun b rest g1 g2 g3 => ?_) (fun x hx => ?_) (fun x hx' => ?_) h1, h2⟩
  · rw [hfull]; exact h b rest g1 g2 g3
  · obtain ⟨d, g1, g2⟩ := pick_mem hx
    have := List.all_eq_true.1 hds d g1
    rw [Bool.and_eq_true] at this
    refine ⟨d, by simpa using this.1, g2, ?_⟩
    cases hk : kl.lookup d with
    | none => exact .inl rfl
    | some m =>
      have h3 := this.2
      rw [hk] at h3
      exact .inr (by rw [Nat.eq_of_beq_eq_true h3])
  · have g1 := List.all_eq_true.1 hx x hx'
    obtain ⟨⟨d, t, q⟩, g2, g3⟩ := List.any_eq_true.1 g1
    rw [Bool.and_eq_true] at g3
    obtain ⟨g3, g4⟩ := g3
    have hte : t = x.1 := Nat.eq_of_beq_eq_true g3
    subst hte
    refine ⟨d, q, g2, ?_⟩
    cases hk : kl.lookup d with
    | none => simp only [hk] at g4; cases g4
    | some m =>
      simp only [hk] at g4
      rw [Nat.eq_of_beq_eq_true g4]
theorem ck_st (j : Nat) {kl : List (Nat × Nat)} {K : Ctx} {ops : Array Oper} {M : (Nat → Bool) → List (List PV)} {base : List (Nat × PV)} {Q : Exit → GS → Prop} {i t : Nat} {es es' : List (Nat × Nat × PV)} {p : PV} {full : List (Nat × PV) → List (Nat × PV)}
    (h : ∀ (b : Nat → Bool) (rest : List (Nat × PV)), b i = false → (∀ j ∈ depsOf ops i, b j = true) → Valid ops b → GOps K ops (fun e s' => e = .normal ∧ s' = ⟨(t, p) :: full rest, M (upd b i)⟩) [i] ⟨full rest, M b⟩)
    (hc : CGk kl K ops M base Q j es') (hj : i + 1 = j := by rfl) (hes : es ++ [(i, t, p)] = es' := by simp only [List.cons_append, List.nil_append] <;> rfl) : CFk kl K ops M base Q i es full := ck_step j (r := [(t, p)]) (xt := []) h hc hj hes rfl
theorem ck_tk (j u : Nat) {kl : List (Nat × Nat)} {K : Ctx} {ops : Array Oper} {M : (Nat → Bool) → List (List PV)} {base : List (Nat × PV)} {Q : Exit → GS → Prop} {i t : Nat} {es es' : List (Nat × Nat × PV)} {p q : PV} {full : List (Nat × PV) → List (Nat × PV)}
    (h : ∀ (b : Nat → Bool) (rest : List (Nat × PV)), b i = false → (∀ j ∈ depsOf ops i, b j = true) → Valid ops b → GOps K ops (fun e s' => e = .normal ∧ s' = ⟨(t, p) :: (u, q) :: full rest, M (upd b i)⟩) [i] ⟨full rest, M b⟩)
    (hc : CGk kl K ops M base Q j es') (hj : i + 1 = j := by rfl) (hes : es ++ [(i, t, p)] = es' := by simp only [List.cons_append, List.nil_append] <;> rfl)
    (hx : (([(u, q)] : List (Nat × PV)).all fun y => es.any fun e => Nat.beq e.2.1 y.1 && (match kl.lookup e.1 with | some m => Nat.beq m i | none => false)) = true := by rfl) : CFk kl K ops M base Q i es full := ck_step j (r := [(t, p)]) (xt := [(u, q)]) h hc hj hes hx
theorem ck_atk (j u : Nat) {kl : List (Nat × Nat)} {K : Ctx} {ops : Array Oper} {M : (Nat → Bool) → List (List PV)} {base : List (Nat × PV)} {Q : Exit → GS → Prop} {i : Nat} {es : List (Nat × Nat × PV)} {q : PV} {full : List (Nat × PV) → List (Nat × PV)}
    (h : ∀ (b : Nat → Bool) (rest : List (Nat × PV)), b i = false → (∀ j ∈ depsOf ops i, b j = true) → Valid ops b → GOps K ops (fun e s' => e = .normal ∧ s' = ⟨(u, q) :: full rest, M (upd b i)⟩) [i] ⟨full rest, M b⟩)
    (hc : CGk kl K ops M base Q j es) (hj : i + 1 = j := by rfl)
    (hx : (([(u, q)] : List (Nat × PV)).all fun y => es.any fun e => Nat.beq e.2.1 y.1 && (match kl.lookup e.1 with | some m => Nat.beq m i | none => false)) = true := by rfl) : CFk kl K ops M base Q i es full := ck_step j (r := []) (xt := [(u, q)]) h (by simpa using hc) hj rfl hx
theorem ck_done {kl : List (Nat × Nat)} {K : Ctx} {ops : Array Oper} {M : (Nat → Bool) → List (List PV)} {base : List (Nat × PV)} {Q : Exit → GS → Prop} {i : Nat} {es : List (Nat × Nat × PV)} {s'' : GS} {mem'' : List (List PV)} {ts bs is : List Nat} (hq : Q .normal s'')
    (hi : i = ops.size := by rfl) (hmm : M (allB ops.size) = mem'' := by rfl) (hts : es.map (·.2.1) = ts := by simp only [List.map_cons, List.map_nil] <;> rfl) (his : es.map (·.1) = is := by simp only [List.map_cons, List.map_nil] <;> rfl) (hbs : base.map (·.1) = bs := by simp only [List.map_cons, List.map_nil] <;> rfl)
    (hnd : nodupB ts = true := by kernel_rfl) (hdis : (bs.all fun x => !ts.contains x) = true := by kernel_rfl) (hfi : (is.all fun x => Nat.blt x ops.size) = true := by kernel_rfl)
    (hs'' : GS.mk ((es.filter fun x => (kl.lookup x.1).isNone).map (·.2) ++ base) mem'' = s'' := by simp only [List.filter_cons, List.filter_nil, List.lookup_cons, List.lookup_nil, Nat.reduceBEq, Option.isNone_none, Option.isNone_some, if_true, if_false, Bool.false_eq_true, List.map_cons, List.map_nil, List.cons_append, List.nil_append] <;> rfl) : CGk kl K ops M base Q i es := by
  subst hmm; subst hts; subst hbs; subst his
  refine ⟨es, .done hi, nodupB_iff hnd, fun x hx => ?_, fun x hx => ?_, hs'' ▸ hq⟩
  · have := List.all_eq_true.1 hdis x.1 (List.mem_map_of_mem hx)
    simpa using this
  · have := List.all_eq_true.1 hfi x.1 (List.mem_map_of_mem hx)
    simpa using this
theorem g_ck (kl : List (Nat × Nat)) {K : Ctx} {id : Nat} {ops : Array Oper} {Q : Exit → GS → Prop} {slots base : List (Nat × PV)} {mem : List (List PV)} (dsts : List Nat) (M : (Nat → Bool) → List (List PV)) (hM : M noB = mem) (hc : CGk kl K ops M base Q 0 [])
    (hbase : (slots.filter fun x => !dsts.contains x.1) = base := by simp only [List.filter_cons, List.filter_nil, List.contains_cons, List.contains_nil, Nat.reduceBEq, Bool.or_false, Bool.false_or, Bool.or_true, Bool.true_or, Bool.not_true, Bool.not_false, if_true, if_false, Bool.false_eq_true] <;> rfl)
    (hm : K.P.follows .mixedOrders = true := by kernel_rfl) (hdep : ((List.range ops.size).all fun i => (depsOf ops i).all fun d => Nat.blt d i) = true := by kernel_rfl) : G K (.region id ops true) Q ⟨slots, mem⟩ := by
  obtain ⟨fs, hc, hnd, hdis, hfi, hq⟩ := hc
  refine G_confK ops.size rfl hm (Le_slots (s' := ⟨base, M noB⟩) hM fun t p hp => .inl ?_) hc hnd hdis (fun i hi d hd => ?_) (Le_slots (s' := ⟨(fs.filter fun x => (kl.lookup x.1).isNone).map (·.2) ++ base, M (allB ops.size)⟩) rfl fun t p hp => .inl (alive_end hnd hfi t p hp hdis)) hfi hq
  · subst hbase
    exact filter_lookup (fun k => !dsts.contains k) _ t p hp
  · have h1 := List.all_eq_true.1 hdep i (List.mem_range.2 hi)
    have h2 := List.all_eq_true.1 h1 d hd
    simpa using h2
end Go.Proofs.YtklkbfpjimeaoaaGreat.E
