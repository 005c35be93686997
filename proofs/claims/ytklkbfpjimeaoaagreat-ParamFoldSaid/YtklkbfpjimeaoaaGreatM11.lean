import Derived.Test.YtklkbfpjimeaoaaGreatM10
import Derived.WalkMore
import Derived.Recover
import Derived.Laws.AppendOwn
/- Contracts of functions. Conditions: none. -/
set_option linter.unusedSimpArgs false
set_option linter.unusedVariables false
namespace Go.Proofs.YtklkbfpjimeaoaaGreat.E
open Go
section
def alive (kl : List (Nat × Nat)) (b : Nat → Bool) (i : Nat) : Bool := b i && !(match kl.lookup i with | some j => b j | none => false)
def mkK (kl : List (Nat × Nat)) (b : Nat → Bool) (es : List (Nat × Nat × PV)) : List (Nat × PV) := es.map fun x => (x.2.1, cond (alive kl b x.1) x.2.2 .undef)
variable {kl : List (Nat × Nat)}
theorem mkK_lookup {b : Nat → Bool} : ∀ {fs : List (Nat × Nat × PV)}, (fs.map (·.2.1)).Nodup → ∀ {i t : Nat} {p : PV}, (i, t, p) ∈ fs → (mkK kl b fs).lookup t = some (cond (alive kl b i) p .undef)
 | [], _, _, _, _, h => by cases h
 | x :: fs, hn, i, t, p, h => by
  rw [List.map_cons, List.nodup_cons] at hn
  simp only [mkK, List.map_cons, List.lookup_cons]
  rcases List.mem_cons.1 h with rfl | h
  · simp
  · have hne : (t == x.2.1) = false := by
     have : t ≠ x.2.1 := by rintro rfl; exact hn.1 (List.mem_map.2 ⟨_, h, rfl⟩)
     simpa using this
    rw [hne]
    exact mkK_lookup hn.2 h
theorem mkK_none {b : Nat → Bool} : ∀ {fs : List (Nat × Nat × PV)} {t : Nat}, t ∉ fs.map (·.2.1) → (mkK kl b fs).lookup t = none
 | [], _, _ => rfl
 | x :: fs, t, h => by
  simp only [List.map_cons, List.mem_cons, not_or] at h
  have hne : (t == x.2.1) = false := by simpa using h.1
  simp only [mkK, List.map_cons, List.lookup_cons, hne]
  exact mkK_none h.2
variable {i : Nat}
theorem alive_of {b : Nat → Bool} {d : Nat} (h : b d = true) (hi : b i = false) (hk : kl.lookup d = none ∨ kl.lookup d = some i) : alive kl b d = true := by
 unfold alive
 rw [h]
 rcases hk with hk | hk <;> rw [hk]
 · rfl
 · show (true && !(b i)) = true
   rw [hi]; rfl
variable {fs : List (Nat × Nat × PV)} {base : List (Nat × PV)}
theorem alive_end {n : Nat} (hnd : (fs.map (·.2.1)).Nodup) (hfi : ∀ x ∈ fs, x.1 < n) (t : Nat) (p : PV) (h : ((fs.filter fun x => (kl.lookup x.1).isNone).map (·.2) ++ base).lookup t = some p) (hdis : ∀ x ∈ base, x.1 ∉ fs.map (·.2.1)) : (mkK kl (allB n) fs ++ base).lookup t = some p := by
 rw [lookup_append] at h ⊢
 cases hl : ((fs.filter fun x => (kl.lookup x.1).isNone).map (·.2)).lookup t with
 | some q =>
  rw [hl] at h
  have hqp : q = p := by simpa using h
  subst hqp
  obtain ⟨⟨i, y⟩, h1, h2⟩ := List.mem_map.1 (lookup_mem' _ _ _ hl)
  obtain ⟨h3, h4⟩ := List.mem_filter.1 h1
  replace h2 : y = (t, q) := h2
  subst h2
  have hlt : allB n i = true := show Nat.blt i n = true by rw [Nat.blt_eq]; exact hfi _ h3
  have hal : alive kl (allB n) i = true := by
   unfold alive
   replace h4 : (kl.lookup i).isNone = true := h4
   rw [Option.isNone_iff_eq_none] at h4
   rw [hlt, h4]; rfl
  rw [mkK_lookup hnd h3, hal]; rfl
 | none =>
  rw [hl] at h
  have hb : base.lookup t = some p := by simpa using h
  rw [mkK_none (hdis _ (lookup_mem' _ _ _ hb)), hb]; rfl
def StpK (K : Ctx) (ops : Array Oper) (M : (Nat → Bool) → List (List PV)) (base : List (Nat × PV)) (i : Nat) (sl r x : List (Nat × PV)) : Prop :=
 ∀ (b : Nat → Bool) (rest : List (Nat × PV)), b i = false → (∀ j ∈ depsOf ops i, b j = true) → Valid ops b →
  GOps K ops (fun e s' => e = .normal ∧ s' = ⟨r ++ (x ++ (sl ++ base ++ rest)), M (upd b i)⟩) [i] ⟨sl ++ base ++ rest, M b⟩
inductive ConfK (kl : List (Nat × Nat)) (K : Ctx) (ops : Array Oper) (M : (Nat → Bool) → List (List PV)) (base : List (Nat × PV)) : Nat → List (Nat × Nat × PV) → List (Nat × Nat × PV) → Prop
 | done {i : Nat} {es : List (Nat × Nat × PV)} : i = ops.size → ConfK kl K ops M base i es es
 | step {i : Nat} {es fs : List (Nat × Nat × PV)} {sl r xt : List (Nat × PV)} (hs : StpK K ops M base i sl r xt) (hsl : ∀ x ∈ sl, ∃ d ∈ depsOf ops i, (d, x) ∈ es ∧ (kl.lookup d = none ∨ kl.lookup d = some i)) (hx : ∀ x ∈ xt, ∃ d q, (d, x.1, q) ∈ es ∧ kl.lookup d = some i) (hc : ConfK kl K ops M base (i + 1) (es ++ r.map fun x => (i, x)) fs) : ConfK kl K ops M base i es fs
variable {K : Ctx} {ops : Array Oper} {es : List (Nat × Nat × PV)}
theorem ConfK.le {M : (Nat → Bool) → List (List PV)} (h : ConfK kl K ops M base i es fs) : ∃ later, fs = es ++ later := by
 induction h with
 | done _ => exact ⟨[], by simp⟩
 | step _ _ _ _ ih => obtain ⟨l, h⟩ := ih; exact ⟨_, by rw [h, List.append_assoc]⟩
theorem ConfK.idx {M : (Nat → Bool) → List (List PV)} {i0 : Nat} (h : ConfK kl K ops M base i0 es fs) : ∀ x ∈ fs, x ∈ es ∨ i0 ≤ x.1 := by
 induction h with
 | done _ => exact fun x hx => .inl hx
 | @step j es fs sl r xt hs hsl hx hc ih =>
  intro x hx
  rcases ih x hx with h | h
  · rcases List.mem_append.1 h with h | h
    · exact .inl h
    · obtain ⟨y, _, rfl⟩ := List.mem_map.1 h; exact .inr (Nat.le_refl _)
  · exact .inr (by omega)
theorem ConfK.at {M : (Nat → Bool) → List (List PV)} {i0 : Nat} (h : ConfK kl K ops M base i0 es fs) (hes : ∀ x ∈ es, x.1 < i0) :
 ∀ i, i0 ≤ i → i < ops.size → ∃ sl r xt, StpK K ops M base i sl r xt ∧ (∀ x ∈ r, (i, x) ∈ fs) ∧ (∀ x, (i, x) ∈ fs → x ∈ r) ∧ (∀ x ∈ sl, ∃ d ∈ depsOf ops i, (d, x) ∈ fs ∧ (kl.lookup d = none ∨ kl.lookup d = some i)) ∧ ∀ x ∈ xt, ∃ d q, (d, x.1, q) ∈ fs ∧ kl.lookup d = some i := by
 induction h with
 | done h => intro i h1 h2; omega
 | @step j es fs sl r xt hs hsl hx hc ih =>
  intro i h1 h2
  have hes' : ∀ x ∈ es ++ r.map (fun x => (j, x)), x.1 < j + 1 := fun x hx => by
   rcases List.mem_append.1 hx with hx | hx
   · have := hes x hx; omega
   · obtain ⟨y, _, rfl⟩ := List.mem_map.1 hx; exact Nat.lt_succ_self _
  by_cases hij : i = j
  · subst hij
    obtain ⟨l, hl⟩ := hc.le
    refine ⟨sl, r, xt, hs, fun x hx => ?_, fun x hx => ?_, fun x hx => ?_, fun x hx' => ?_⟩
    · rw [hl]; simp only [List.mem_append, List.mem_map]; exact .inl (.inr ⟨x, hx, rfl⟩)
    · rcases hc.idx _ hx with h | h
      · rcases List.mem_append.1 h with h | h
        · have := hes _ h; simp at this
        · obtain ⟨y, hy, he⟩ := List.mem_map.1 h
          injection he with _ he
          exact he ▸ hy
      · simp at h; omega
    · obtain ⟨d, hd, hm, hk⟩ := hsl x hx
      exact ⟨d, hd, by rw [hl]; simp only [List.mem_append]; exact .inl (.inl hm), hk⟩
    · obtain ⟨d, q, hm, hk⟩ := hx x hx'
      exact ⟨d, q, by rw [hl]; simp only [List.mem_append]; exact .inl (.inl hm), hk⟩
  · exact ih hes' i (by omega) h2
theorem G_confK {id : Nat} {Q : Exit → GS → Prop} {s s'' : GS} {M : (Nat → Bool) → List (List PV)} (n : Nat) (hn : ops.size = n) (hm : K.P.follows .mixedOrders = true)
 (hs : Le K s ⟨base, M noB⟩) (hc : ConfK kl K ops M base 0 [] fs) (hnd : (fs.map (·.2.1)).Nodup) (hdis : ∀ x ∈ base, x.1 ∉ fs.map (·.2.1)) (hdep : ∀ i, i < n → ∀ d ∈ depsOf ops i, d < i)
 (hs'' : Le K ⟨mkK kl (allB n) fs ++ base, M (allB n)⟩ s'') (hfi : ∀ x ∈ fs, x.1 < n) (hq : Q .normal s'') : G K (.region id ops true) Q s := by
 subst hn
 rintro a w ha
 obtain ⟨S, O, m, hr⟩ := hs a w ha
 have hd := hr.drew
 refine wp_mono (Q := endN K Q) (wp_region_any hm ?_) (fun e a' w' ⟨he, s', hq, hat⟩ => ⟨s', he ▸ hq, hat⟩)
 have hbl : ∀ {t p}, (base.lookup t) = some p → t ∉ fs.map (·.2.1) := fun h => hdis _ (lookup_mem' _ _ _ h)
 have key : ∀ fuel (listed : Array Bool) a w, listed.size = ops.size → open_ listed = fuel → Valid ops (bOf listed) → At K ⟨mkK kl (bOf listed) fs ++ base, M (bOf listed)⟩ a w → wpAny K.P .any ops (endN K Q) fuel listed a w := by
  intro fuel
  induction fuel with
  | zero =>
   intro listed a w hsz ho _ hat
   have hall : ∀ i, i < ops.size → listed.getD i true = true := fun i hi => open_zero ho i (by omega)
   have hb : bOf listed = allB ops.size := by
    funext j
    unfold bOf allB
    by_cases hj : j < ops.size
    · have := hall j hj
      rw [Array.getD_eq_getD_getElem?, Array.getElem?_eq_getElem (by omega)] at this
      rw [Array.getD_eq_getD_getElem?, Array.getElem?_eq_getElem (by omega)]
      simp at this ⊢
      rw [this]; exact (show Nat.blt j ops.size = true by rw [Nat.blt_eq]; exact hj).symm
    · rw [Array.getD_eq_getD_getElem?, Array.getElem?_eq_none (by omega)]
      have : Nat.blt j ops.size = false := by
       cases hb : Nat.blt j ops.size with
       | false => rfl
       | true => rw [Nat.blt_eq] at hb; omega
      rw [this]; rfl
   refine ⟨?_, rfl, s'', hq, ?_⟩
   · rw [List.eq_nil_iff_forall_not_mem]
     intro i hi
     obtain ⟨h1, o, ho, _⟩ := mem_ready.1 hi
     rw [hall i (Array.getElem?_eq_some_iff.1 ho).1] at h1; cases h1
   · rw [hb] at hat; exact hs'' a w hat
  | succ fuel ih =>
   intro listed a w hsz ho hv hat
   refine ⟨fun hr0 => ?_, fun i hi => ?_⟩
   · exfalso
     -- the least one that is open is ready
     have hex : ∃ i, i < ops.size ∧ listed.getD i true = false := by
      refine Classical.byContradiction fun hne => ?_
      have : open_ listed = 0 := by
       unfold open_
       rw [List.length_eq_zero_iff, List.filter_eq_nil_iff]
       intro x hx
       obtain ⟨i, hi, rfl⟩ := List.mem_iff_getElem.1 hx
       have hi' : i < listed.size := by simpa using hi
       have h1 : ¬ (listed.getD i true = false) := fun h => hne ⟨i, by omega, h⟩
       rw [Array.getD_eq_getD_getElem?, Array.getElem?_eq_getElem hi'] at h1
       simpa using h1
      omega
     have hmin : ∀ k i, i ≤ k → i < ops.size → listed.getD i true = false → ∃ j, j < ops.size ∧ listed.getD j true = false ∧ ∀ d, d < j → listed.getD d true = true := by
      intro k
      induction k with
      | zero => intro i h1 h2 h3; exact ⟨i, h2, h3, fun d hd => by omega⟩
      | succ k ihk =>
       intro i h1 h2 h3
       by_cases hd : ∃ d, d < i ∧ listed.getD d true = false
       · obtain ⟨d, h4, h5⟩ := hd; exact ihk d (by omega) (by omega) h5
       · exact ⟨i, h2, h3, fun d hd' => by
          cases h : listed.getD d true with
          | true => rfl
          | false => exact absurd ⟨d, hd', h⟩ hd⟩
     obtain ⟨i, h2, h3⟩ := hex
     obtain ⟨j, hj1, hj2, hj3⟩ := hmin i i (Nat.le_refl _) h2 h3
     have : j ∈ Region.ready .any ops listed := mem_ready.2 ⟨hj2, ops[j], Array.getElem?_eq_getElem hj1, fun e he hb => by
      have hlt := hdep j hj1 _ (depsOf_mem (Array.getElem?_eq_getElem hj1) he hb)
      have := hj3 _ hlt
      rw [Array.getD_eq_getD_getElem?, Array.getElem?_eq_getElem (by omega)] at this ⊢
      simpa using this⟩
     rw [hr0] at this; cases this
   · obtain ⟨hi1, o, hoi, hi2⟩ := mem_ready.1 hi
     have hilt : i < ops.size := (Array.getElem?_eq_some_iff.1 hoi).1
     have hbi : bOf listed i = false := by
      unfold bOf
      rw [Array.getD_eq_getD_getElem?, Array.getElem?_eq_getElem (by omega)] at hi1 ⊢
      simpa using hi1
     have hbd : ∀ j ∈ depsOf ops i, bOf listed j = true := fun j hj => by
      unfold depsOf at hj
      rw [hoi] at hj
      obtain ⟨e, he, rfl⟩ := List.mem_map.1 hj
      obtain ⟨he1, he2⟩ := List.mem_filter.1 he
      exact hi2 e (by simpa using he1) he2
     obtain ⟨sl, r, xt, hst, hr1, hr2, hsl, hxt⟩ := hc.at (fun x hx => by cases hx) i (Nat.zero_le _) hilt
     have hle : Le K ⟨mkK kl (bOf listed) fs ++ base, M (bOf listed)⟩ ⟨sl ++ base ++ (mkK kl (bOf listed) fs), M (bOf listed)⟩ := Le_slots rfl fun t p hp => by
      simp only [GS.get, lookup_append] at hp ⊢
      cases h1 : sl.lookup t with
      | some q =>
       rw [h1] at hp
       have hqp : q = p := by simpa using hp
       subst hqp
       obtain ⟨d, hd, hmem, hk⟩ := hsl _ (lookup_mem' _ _ _ h1)
       left
       rw [mkK_lookup hnd hmem, alive_of (hbd d hd) hbi hk]; rfl
      | none =>
       rw [h1] at hp
       cases h2 : base.lookup t with
       | some q =>
        rw [h2] at hp
        left
        rw [mkK_none (hbl h2)]; simpa using hp
       | none =>
        rw [h2] at hp
        left
        have h3 : (mkK kl (bOf listed) fs).lookup t = some p := by simpa using hp
        rw [h3]; rfl
     have h1 := hst (bOf listed) (mkK kl (bOf listed) fs) hbi hbd hv a w (hle a w hat)
     rw [wpOps_cons] at h1
     refine wpOp_to ?_ ?_ h1
     · rintro e a' w' hne' ⟨s', ⟨he, _⟩, _⟩
       exact absurd he hne'
     · intro a' w' h2
       obtain ⟨s', ⟨_, rfl⟩, hat'⟩ := (h2 : ∃ s', _ ∧ _)
       have hset := bOf_set (listed := listed) (i := i) (by omega)
       refine ih (listed.setIfInBounds i true) a' w' (by simpa using hsz) (by have := open_set (listed := listed) (i := i) (by omega) hi1; omega) ?_ ?_
       · rw [hset]
         intro j hj d hdj
         unfold upd at hj ⊢
         cases hdi : Nat.beq d i with
         | true => rfl
         | false =>
          simp only [cond_false]
          cases hji : Nat.beq j i with
          | true =>
           have : j = i := Nat.eq_of_beq_eq_true hji
           subst this; exact hbd d hdj
          | false => rw [hji] at hj; exact hv j (by simpa using hj) d hdj
       · rw [hset]
         refine Le_slots (s := ⟨r ++ (xt ++ (sl ++ base ++ mkK kl (bOf listed) fs)), M (upd (bOf listed) i)⟩) (s' := ⟨mkK kl (upd (bOf listed) i) fs ++ base, M (upd (bOf listed) i)⟩) rfl (fun t p hp => ?_) a' w' hat'
         simp only [GS.get, lookup_append] at hp ⊢
         have hui : upd (bOf listed) i i = true := by
          unfold upd
          rw [beq_yes]; rfl
         have hun : ∀ j, ¬ j = i → upd (bOf listed) i j = bOf listed j := fun j hj => by
          unfold upd
          rw [beq_no hj]; rfl
         by_cases ht : t ∈ fs.map (·.2.1)
         · obtain ⟨⟨j, t', p'⟩, hx, rfl⟩ := List.mem_map.1 ht
           rw [mkK_lookup hnd hx] at hp
           have hp' : cond (alive kl (upd (bOf listed) i) j) p' PV.undef = p := by simpa using hp
           cases hal : alive kl (upd (bOf listed) i) j with
           | false =>
            rw [hal] at hp'
            exact .inr hp'.symm
           | true =>
            rw [hal] at hp'
            have hpp : p' = p := hp'
            subst hpp
            left
            unfold alive at hal
            rw [Bool.and_eq_true] at hal
            obtain ⟨hal1, hal2⟩ := hal
            have hnk : ¬ kl.lookup j = some i := fun h => by rw [h] at hal2; simp only [hui] at hal2; cases hal2
            have hxn : xt.lookup t' = none := by
             cases hxl : xt.lookup t' with
             | none => rfl
             | some q =>
              exfalso
              obtain ⟨d, q', hm, hk⟩ := hxt _ (lookup_mem' _ _ _ hxl)
              have := key_uniq hnd hm hx rfl
              injection this with h1 _
              subst h1
              exact hnk hk
            by_cases hji : j = i
            · subst hji
              obtain ⟨q, hq⟩ := lookup_isSome (hr2 _ hx)
              have := key_uniq hnd (hr1 _ (lookup_mem' _ _ _ hq)) hx rfl
              injection this with _ this
              injection this with _ this
              subst this
              show (r.lookup t').or _ = _
              rw [show r.lookup t' = some q from hq]; rfl
            · have hbj : bOf listed j = true := by rw [← hun j hji]; exact hal1
              have halj : alive kl (bOf listed) j = true := by
               unfold alive
               rw [hbj]
               cases hk : kl.lookup j with
               | none => rfl
               | some m =>
                rw [hk] at hal2
                have hmi : ¬ m = i := fun h => hnk (h ▸ hk)
                simp only [hun m hmi] at hal2
                simpa using hal2
              have hrn : r.lookup t' = none := by
               cases hrl : r.lookup t' with
               | none => rfl
               | some q =>
                exfalso
                have := key_uniq hnd (hr1 _ (lookup_mem' _ _ _ hrl)) hx rfl
                injection this with this _
                exact hji this.symm
              have hbn : base.lookup t' = none := by
               cases hb : base.lookup t' with
               | none => rfl
               | some q => exact absurd ht (hbl hb)
              show (r.lookup t').or _ = _
              rw [hrn, hxn, hbn, mkK_lookup hnd hx, halj]
              cases hsll : sl.lookup t' with
              | some q =>
               obtain ⟨d, hd, hmem, _⟩ := hsl _ (lookup_mem' _ _ _ hsll)
               have := key_uniq hnd hmem hx rfl
               injection this with h1 h2
               injection h2 with _ h2
               subst h1; subst h2
               rfl
              | none => rfl
         · rw [mkK_none ht] at hp
           have hp' : base.lookup t = some p := by simpa using hp
           have hrn : r.lookup t = none := by
            cases hrl : r.lookup t with
            | none => rfl
            | some q => exact absurd (List.mem_map.2 ⟨_, hr1 _ (lookup_mem' _ _ _ hrl), rfl⟩) ht
           have hxn : xt.lookup t = none := by
            cases hrl : xt.lookup t with
            | none => rfl
            | some q =>
             obtain ⟨d, q', hmem, _⟩ := hxt _ (lookup_mem' _ _ _ hrl)
             exact absurd (List.mem_map.2 ⟨_, hmem, rfl⟩) ht
           have hsn : sl.lookup t = none := by
            cases hrl : sl.lookup t with
            | none => rfl
            | some q =>
             obtain ⟨d, _, hmem, _⟩ := hsl _ (lookup_mem' _ _ _ hrl)
             exact absurd (List.mem_map.2 ⟨_, hmem, rfl⟩) ht
           left
           rw [hrn, hxn, hsn, hp']; rfl
 have hb0 : bOf (Array.replicate ops.size false) = noB := by
  funext j
  unfold bOf noB
  rw [Array.getD_eq_getD_getElem?, Array.getElem?_replicate]
  split <;> rfl
 refine key ops.size (Array.replicate ops.size false) a w.drew (by simp) (by simp [open_]) ?_ ?_
 · rw [hb0]; intro j hj; cases hj
 · rw [hb0]
   refine Le_slots (s := ⟨base, M noB⟩) (s' := ⟨mkK kl noB fs ++ base, M noB⟩) rfl (fun t p hp => ?_) a w.drew ⟨S, O, m, hd⟩
   simp only [GS.get, lookup_append] at hp ⊢
   by_cases ht : t ∈ fs.map (·.2.1)
   · obtain ⟨⟨j, t', p'⟩, hx, rfl⟩ := List.mem_map.1 ht
     rw [mkK_lookup hnd hx] at hp
     right
     have : PV.undef = p := by simpa [alive, noB] using hp
     exact this.symm
   · rw [mkK_none ht] at hp
     left; simpa using hp
def CGk (kl : List (Nat × Nat)) (K : Ctx) (ops : Array Oper) (M : (Nat → Bool) → List (List PV)) (base : List (Nat × PV)) (Q : Exit → GS → Prop) (i : Nat) (es : List (Nat × Nat × PV)) : Prop :=
 ∃ fs, ConfK kl K ops M base i es fs ∧ (fs.map (·.2.1)).Nodup ∧ (∀ x ∈ base, x.1 ∉ fs.map (·.2.1)) ∧ (∀ x ∈ fs, x.1 < ops.size) ∧ Q .normal ⟨(fs.filter fun x => (kl.lookup x.1).isNone).map (·.2) ++ base, M (allB ops.size)⟩
def CFk (kl : List (Nat × Nat)) (K : Ctx) (ops : Array Oper) (M : (Nat → Bool) → List (List PV)) (base : List (Nat × PV)) (Q : Exit → GS → Prop) (i : Nat) (es : List (Nat × Nat × PV)) (full : List (Nat × PV) → List (Nat × PV)) : Prop :=
 ∀ ds : List Nat, (∀ rest, pick es ds ++ base ++ rest = full rest) → (ds.all fun d => (depsOf ops i).contains d && (match kl.lookup d with | none => true | some m => Nat.beq m i)) = true → CGk kl K ops M base Q i es
theorem ck_pre {M : (Nat → Bool) → List (List PV)} {Q : Exit → GS → Prop} {full : List (Nat × PV) → List (Nat × PV)} (ds : List Nat) (h : CFk kl K ops M base Q i es full)
 (hfull : ∀ rest, pick es ds ++ base ++ rest = full rest := by intro rest; simp only [pick, List.filter_cons, List.filter_nil, List.contains_cons, List.contains_nil, Nat.reduceBEq, Bool.or_false, Bool.false_or, Bool.or_true, Bool.true_or, if_true, if_false, Bool.false_eq_true, List.map_cons, List.map_nil, List.cons_append, List.nil_append, List.append_nil] <;> rfl) (hds : (ds.all fun d => (depsOf ops i).contains d && (match kl.lookup d with | none => true | some m => Nat.beq m i)) = true := by kernel_rfl) : CGk kl K ops M base Q i es := h ds hfull hds
theorem ck_step (j : Nat) {kl : List (Nat × Nat)} {K : Ctx} {ops : Array Oper} {M : (Nat → Bool) → List (List PV)} {base : List (Nat × PV)} {Q : Exit → GS → Prop} {i : Nat} {es es' : List (Nat × Nat × PV)} {r xt : List (Nat × PV)} {full : List (Nat × PV) → List (Nat × PV)}
 (h : ∀ (b : Nat → Bool) (rest : List (Nat × PV)), b i = false → (∀ j ∈ depsOf ops i, b j = true) → Valid ops b → GOps K ops (fun e s' => e = .normal ∧ s' = ⟨r ++ (xt ++ full rest), M (upd b i)⟩) [i] ⟨full rest, M b⟩)
 (hc : CGk kl K ops M base Q j es') (hj : i + 1 = j) (hes : es ++ r.map (fun x => (i, x)) = es')
 (hx : (xt.all fun y => es.any fun e => Nat.beq e.2.1 y.1 && (match kl.lookup e.1 with | some m => Nat.beq m i | none => false)) = true) : CFk kl K ops M base Q i es full := by
 subst hj
 subst hes
 intro ds hfull hds
 obtain ⟨fs, h1, h2⟩ := hc
 refine ⟨fs, .step (sl := pick es ds) (r := r) (xt := xt) (fun b rest g1 g2 g3 => ?_) (fun x hx => ?_) (fun x hx' => ?_) h1, h2⟩
 · rw [hfull]; exact h b rest g1 g2 g3
 · obtain ⟨d, g1, g2⟩ := pick_mem hx
   have := List.all_eq_true.1 hds d g1
   rw [Bool.and_eq_true] at this
   refine ⟨d, by simpa using this.1, g2, ?_⟩
   cases hk : kl.lookup d with
   | none => exact .inl rfl
   | some m =>
    have h3 := this.2
    rw [hk] at h3
    exact .inr (by rw [Nat.eq_of_beq_eq_true h3])
 · have g1 := List.all_eq_true.1 hx x hx'
   obtain ⟨⟨d, t, q⟩, g2, g3⟩ := List.any_eq_true.1 g1
   rw [Bool.and_eq_true] at g3
   obtain ⟨g3, g4⟩ := g3
   have hte : t = x.1 := Nat.eq_of_beq_eq_true g3
   subst hte
   refine ⟨d, q, g2, ?_⟩
   cases hk : kl.lookup d with
   | none => simp only [hk] at g4; cases g4
   | some m =>
    simp only [hk] at g4
    rw [Nat.eq_of_beq_eq_true g4]
theorem ck_st (j : Nat) {kl : List (Nat × Nat)} {K : Ctx} {ops : Array Oper} {M : (Nat → Bool) → List (List PV)} {base : List (Nat × PV)} {Q : Exit → GS → Prop} {i t : Nat} {es es' : List (Nat × Nat × PV)} {p : PV} {full : List (Nat × PV) → List (Nat × PV)}
 (h : ∀ (b : Nat → Bool) (rest : List (Nat × PV)), b i = false → (∀ j ∈ depsOf ops i, b j = true) → Valid ops b → GOps K ops (fun e s' => e = .normal ∧ s' = ⟨(t, p) :: full rest, M (upd b i)⟩) [i] ⟨full rest, M b⟩)
 (hc : CGk kl K ops M base Q j es') (hj : i + 1 = j := by rfl) (hes : es ++ [(i, t, p)] = es' := by exact J13) : CFk kl K ops M base Q i es full := ck_step j (r := [(t, p)]) (xt := []) h hc hj hes rfl
theorem ck_tk (j u : Nat) {kl : List (Nat × Nat)} {K : Ctx} {ops : Array Oper} {M : (Nat → Bool) → List (List PV)} {base : List (Nat × PV)} {Q : Exit → GS → Prop} {i t : Nat} {es es' : List (Nat × Nat × PV)} {p q : PV} {full : List (Nat × PV) → List (Nat × PV)}
 (h : ∀ (b : Nat → Bool) (rest : List (Nat × PV)), b i = false → (∀ j ∈ depsOf ops i, b j = true) → Valid ops b → GOps K ops (fun e s' => e = .normal ∧ s' = ⟨(t, p) :: (u, q) :: full rest, M (upd b i)⟩) [i] ⟨full rest, M b⟩)
 (hc : CGk kl K ops M base Q j es') (hj : i + 1 = j := by rfl) (hes : es ++ [(i, t, p)] = es' := by exact J13)
 (hx : (([(u, q)] : List (Nat × PV)).all fun y => es.any fun e => Nat.beq e.2.1 y.1 && (match kl.lookup e.1 with | some m => Nat.beq m i | none => false)) = true := by rfl) : CFk kl K ops M base Q i es full := ck_step j (r := [(t, p)]) (xt := [(u, q)]) h hc hj hes hx
theorem ck_atk (j u : Nat) {kl : List (Nat × Nat)} {K : Ctx} {ops : Array Oper} {M : (Nat → Bool) → List (List PV)} {base : List (Nat × PV)} {Q : Exit → GS → Prop} {i : Nat} {es : List (Nat × Nat × PV)} {q : PV} {full : List (Nat × PV) → List (Nat × PV)}
 (h : ∀ (b : Nat → Bool) (rest : List (Nat × PV)), b i = false → (∀ j ∈ depsOf ops i, b j = true) → Valid ops b → GOps K ops (fun e s' => e = .normal ∧ s' = ⟨(u, q) :: full rest, M (upd b i)⟩) [i] ⟨full rest, M b⟩)
 (hc : CGk kl K ops M base Q j es) (hj : i + 1 = j := by rfl)
 (hx : (([(u, q)] : List (Nat × PV)).all fun y => es.any fun e => Nat.beq e.2.1 y.1 && (match kl.lookup e.1 with | some m => Nat.beq m i | none => false)) = true := by rfl) : CFk kl K ops M base Q i es full := ck_step j (r := []) (xt := [(u, q)]) h (by simpa using hc) hj rfl hx
theorem ck_done {M : (Nat → Bool) → List (List PV)} {Q : Exit → GS → Prop} {s'' : GS} {mem'' : List (List PV)} {ts bs is : List Nat} (hq : Q .normal s'')
 (hi : i = ops.size := by rfl) (hmm : M (allB ops.size) = mem'' := by rfl) (hts : es.map (·.2.1) = ts := by exact J9) (his : es.map (·.1) = is := by exact J9) (hbs : base.map (·.1) = bs := by exact J9)
 (hnd : nodupB ts = true := by kernel_rfl) (hdis : (bs.all fun x => !ts.contains x) = true := by kernel_rfl) (hfi : (is.all fun x => Nat.blt x ops.size) = true := by kernel_rfl)
 (hs'' : GS.mk ((es.filter fun x => (kl.lookup x.1).isNone).map (·.2) ++ base) mem'' = s'' := by simp only [List.filter_cons, List.filter_nil, List.lookup_cons, List.lookup_nil, Nat.reduceBEq, Option.isNone_none, Option.isNone_some, if_true, if_false, Bool.false_eq_true, List.map_cons, List.map_nil, List.cons_append, List.nil_append] <;> rfl) : CGk kl K ops M base Q i es := by
 subst hmm; subst hts; subst hbs; subst his
 refine ⟨es, .done hi, nodupB_iff hnd, fun x hx => ?_, fun x hx => ?_, hs'' ▸ hq⟩
 · have := List.all_eq_true.1 hdis x.1 (List.mem_map_of_mem hx)
   simpa using this
 · have := List.all_eq_true.1 hfi x.1 (List.mem_map_of_mem hx)
   simpa using this
theorem g_ck (kl : List (Nat × Nat)) {K : Ctx} {id : Nat} {ops : Array Oper} {Q : Exit → GS → Prop} {slots base : List (Nat × PV)} {mem : List (List PV)} (dsts : List Nat) (M : (Nat → Bool) → List (List PV)) (hM : M noB = mem) (hc : CGk kl K ops M base Q 0 [])
 (hbase : (slots.filter fun x => !dsts.contains x.1) = base := by exact J3)
 (hm : K.P.follows .mixedOrders = true := by kernel_rfl) (hdep : ((List.range ops.size).all fun i => (depsOf ops i).all fun d => Nat.blt d i) = true := by kernel_rfl) : G K (.region id ops true) Q ⟨slots, mem⟩ := by
 obtain ⟨fs, hc, hnd, hdis, hfi, hq⟩ := hc
 refine G_confK ops.size rfl hm (Le_slots (s' := ⟨base, M noB⟩) hM fun t p hp => .inl ?_) hc hnd hdis (fun i hi d hd => ?_) (Le_slots (s' := ⟨(fs.filter fun x => (kl.lookup x.1).isNone).map (·.2) ++ base, M (allB ops.size)⟩) rfl fun t p hp => .inl (alive_end hnd hfi t p hp hdis)) hfi hq
 · subst hbase
   exact filter_lookup (fun k => !dsts.contains k) _ t p hp
 · have h1 := List.all_eq_true.1 hdep i (List.mem_range.2 hi)
   have h2 := List.all_eq_true.1 h1 d hd
   simpa using h2
end
section
def inScp (Q : Exit → GS → Prop) : Exit → GS → Prop
 | .goto _, _ => False
 | e, s => Q e s
theorem G_scope {K : Ctx} {c : Code} {Q : Exit → GS → Prop} {s : GS} (h : G K c (inScp Q) s) : G K (.scope c) Q s := by
 intro a w ha
 refine wp_scope_straight (wp_mono (h a w ha) ?_)
 rintro e a' w' ⟨s', q, r⟩
 cases e with
 | normal => exact ⟨s', q, r⟩
 | exit id' => exact ⟨s', q, r⟩
 | goto l => exact q.elim
 | ret => exact ⟨s', q, r⟩
 | panic ch => exact ⟨s', q, r⟩
 | outgrown => exact ⟨s', q, r⟩
theorem G_label {K : Ctx} {l : Nat} {Q : Exit → GS → Prop} {s : GS} (h : Q .normal s) : G K (.label l) Q s := fun a w ha => wp_label ⟨s, h, ha⟩
section
variable {Q : Exit → GS → Prop} {s : GS} {id : Nat}
theorem scp_ret (h : Q .ret s) : inScp Q .ret s := h
end
end
section
def chain1 (v : Value) : List PanicEntry := [{ v := v, recovered := false }]
def GX (P : Program) (f : FuncId) (args : List PV) (mem : List (List PV)) (R : PV → List (List PV) → Prop) (RX : Value → List (List PV) → Prop) : Prop :=
 ∀ (w : World) (S : Reg) (O : Owns) (m : List Nat) (vals : Array Value), Env S O w S O m mem w → vals.size = args.length →
  (∀ (i : Nat) p v, args[i]? = some p → vals[i]? = some v → RP w S O m [i, 0] p v) →
  Calls P f vals w (fun e w' => (∃ v r mem' S' O' m', e = .returned v ∧ R r mem' ∧ Env S O w S' O' m' mem' w' ∧ m <+: m' ∧ RP w' S' O' m' [2] r v) ∨
   ∃ v mem' S' O' m', e = .panicked (chain1 v) ∧ RX v mem' ∧ Env S O w S' O' m' mem' w' ∧ m <+: m')
def Px (P : Program) (f : FuncId) (args : List D) (out : PV ⊕ Value) : Prop := Fok P f ∧ GX P f (args.map .d) [] (fun q m => out = .inl q ∧ m = []) (fun v m => out = .inr v ∧ m = [])
theorem Px.inl {P : Program} {f : FuncId} {args : List D} {r : PV} (h : Px P f args (.inl r)) : Pf P f args r :=
 ⟨h.1, fun w S O m vals h1 h2 h3 => (h.2 w S O m vals h1 h2 h3).mono fun _ _ hx => by
  rcases hx with ⟨v, q, mem', S', O', m', e, ⟨g, hm⟩, rest⟩ | ⟨v, mem', S', O', m', e, ⟨g, _⟩, _⟩
  · injection g with g
    exact ⟨v, q, mem', S', O', m', e, ⟨g.symm, hm⟩, rest⟩
  · cases g⟩
section
variable {K : Ctx} {y : Code} {Q : Exit → GS → Prop} {s : GS} {id : Nat} {ch : List PanicEntry} {P : Program} {rvs : List ResultVar} {k : Nat} {R : PV → List (List PV) → Prop} {RX : Value → List (List PV) → Prop}
end
end
section
mutual
/-- It does not name the block b. -/
def PV.nref (b : Nat) : PV → Bool
 | .ref b' _ => !(b' == b)
 | .rsl b' _ _ _ => !(b' == b)
 | .mref b' => !(b' == b)
 | .fn _ fs cs => PV.nrefs b fs && PV.nrefs b cs
 | .agg cs => PV.nrefs b cs
 | .tup cs => PV.nrefs b cs
 | .when _ p => PV.nref b p
 | _ => true
def PV.nrefs (b : Nat) : List PV → Bool
 | [] => true
 | p :: ps => PV.nref b p && PV.nrefs b ps
end
variable {b : Nat}
theorem PV.nrefs_get {ps : List PV} (h : PV.nrefs b ps = true) {j : Nat} {p : PV} (hp : ps[j]? = some p) : PV.nref b p = true := by
 induction ps generalizing j with
 | nil => simp at hp
 | cons q qs ih =>
  simp only [PV.nrefs, Bool.and_eq_true] at h
  cases j with
  | zero => simp at hp; exact hp ▸ h.1
  | succ j => exact ih h.2 (by simpa using hp)
theorem RP.reset {w : World} {S : Reg} {O : Owns} {m l : List Nat} {p : PV} {v : Value} (h : RP w S O m l p v) (b r' : Nat) : PV.nref b p = true → RP w S O (m.set b r') l p v := by
 have key : ∀ {b' r : Nat}, (!(b' == b)) = true → m[b']? = some r → (m.set b r')[b']? = some r := fun {b' r} hb hm => by
  rw [List.getElem?_set_ne (by intro he; subst he; simp at hb)]; exact hm
 induction h with
 | d l x v h => exact fun _ => .d l x v h
 | nils l => exact fun _ => .nils l
 | osl l k xs a cap hr hk hn ht => exact fun _ => .osl l k xs a cap hr hk hn ht
 | ref l b off r h => intro hb; simp only [PV.nref] at hb; exact .ref l b off r (key hb h)
 | rsl l b off n' k a cap hc hl h0 h => intro hb; simp only [PV.nref] at hb; exact .rsl l b off n' k a cap hc hl h0 (fun hn => by obtain ⟨r, h1, h2⟩ := h hn; exact ⟨r, key hb h1, h2⟩)
 | mref l b r h => intro hb; simp only [PV.nref] at hb; exact .mref l b r (key hb h)
 | fn l f first caps vf vc h1 h2 _ _ g1 g2 =>
  intro hb
  simp only [PV.nref, Bool.and_eq_true] at hb
  exact .fn l f first caps vf vc h1 h2 (fun i p v hi hv => g1 i p v hi hv (PV.nrefs_get hb.1 hi)) (fun i p v hi hv => g2 i p v hi hv (PV.nrefs_get hb.2 hi))
 | agg l cs vs hl ho _ ih => intro hb; simp only [PV.nref] at hb; exact .agg l cs vs hl ho (fun i p v hi hv => ih i p v hi hv (PV.nrefs_get hb hi))
 | tup l cs vs hl _ ih => intro hb; simp only [PV.nref] at hb; exact .tup l cs vs hl (fun i p v hi hv => ih i p v hi hv (PV.nrefs_get hb hi))
 | whenT l b p v hbt _ ih => intro hb; simp only [PV.nref] at hb; exact .whenT l b p v hbt (ih hb)
 | whenF l b p hbf => exact fun _ => .whenF l b p hbf
 | undef l v => exact fun _ => .undef l v
def nrefM (b : Nat) : Nat → List (List PV) → Bool
 | _, [] => true
 | i, c :: r => ((i == b) || PV.nrefs b c) && nrefM b (i + 1) r
theorem nrefM_get : ∀ {mem : List (List PV)} {k : Nat}, nrefM b k mem = true → ∀ {i : Nat} {cs : List PV}, mem[i]? = some cs → k + i ≠ b → PV.nrefs b cs = true
 | [], _, _, i, cs, h, _ => by simp at h
 | c :: r, k, h, i, cs, hi, hne => by
  simp only [nrefM, Bool.and_eq_true, Bool.or_eq_true, beq_iff_eq] at h
  cases i with
  | zero =>
   simp at hi
   subst hi
   rcases h.1 with h1 | h1
   · exact absurd h1 hne
   · exact h1
  | succ i => exact nrefM_get (k := k + 1) h.2 (by simpa using hi) (by omega)
def sansB (b : Nat) (l : List (Nat × PV)) : List (Nat × PV) := l.map fun x => (x.1, if PV.nref b x.2 = true then x.2 else .undef)
theorem sansB_lookup {i : Nat} {p : PV} : ∀ {l : List (Nat × PV)}, (sansB b l).lookup i = some p → ∃ q, l.lookup i = some q ∧ ((PV.nref b q = true ∧ p = q) ∨ p = .undef)
 | [], h => by cases h
 | (j, q) :: l, h => by
  rw [show sansB b ((j, q) :: l) = (j, if PV.nref b q = true then q else .undef) :: sansB b l from rfl, List.lookup_cons] at h
  rw [List.lookup_cons]
  cases hij : i == j with
  | true =>
   rw [hij] at h
   injection h with h
   refine ⟨q, rfl, ?_⟩
   split at h
   · rename_i h1; exact .inl ⟨h1, h.symm⟩
   · exact .inr h.symm
  | false =>
   rw [hij] at h
   exact sansB_lookup h
theorem Env.renew {S0 : Reg} {O0 : Owns} {w0 : World} {S : Reg} {O : Owns} {m : List Nat} {mem : List (List PV)} {w : World} (h : Env S0 O0 w0 S O m mem w) {b r' : Nat} {w' : World} {cs : List PV} (hb : b < mem.length) (hE : Ext S w w')
 (hO : r' = w.heap.size ∨ O r' = some ([b, 1], 0)) (hlt : r' < w'.heap.size) (hsame : ∀ q, q < w.heap.size → q ≠ r' → w'.heap[q]? = w.heap[q]?) (hno : nrefM b 0 mem = true)
 (hblk : Blk w' S (fun q => if q = r' then some ([b, 1], 0) else O q) (m.set b r') b cs r') : Env S0 O0 w0 S (fun q => if q = r' then some ([b, 1], 0) else O q) (m.set b r') (mem.set b cs) w' := by
 have hsz0 : w0.heap.size ≤ w.heap.size := h.ext.size
 have hnr : ∀ q, q < w0.heap.size → q = r' → ∃ l0 t0, O0 r' = some (l0, t0) ∧ t0 ≤ 0 := fun q hq he => by
  subst he
  rcases hO with h1 | h1
  · omega
  · rcases h.onew _ _ _ h1 with h2 | h2
    · omega
    · exact h2
 have hS : ∀ o, ¬ S r' o := fun o hS => by
  rcases hO with h1 | h1
  · have := h.slt _ _ hS; omega
  · have := h.sown _ _ _ _ hS h1; omega
 refine ⟨h.ext.trans hE h.s0, fun q hq hO' => ?_, fun q l t o hq hO' hot => ?_, h.s0, h.snew, fun q o l t hSq hO' => ?_, fun q o hSq => Nat.lt_of_lt_of_le (h.slt q o hSq) hE.size, fun q l t hO' => ?_, fun q l t hO' => ?_, by simp [h.mlen], fun i cs' r hi hr hne => ?_⟩
 · have hqr : q ≠ r' := fun he => by obtain ⟨l0, t0, h1, _⟩ := hnr q hq he; rw [← he, hO'] at h1; cases h1
   rw [hsame q (by omega) hqr]; exact h.old q hq hO'
 · have hqr : q ≠ r' := fun he => by
    obtain ⟨l0, t0, h1, h2⟩ := hnr q hq he
    rw [← he, hO'] at h1; injection h1 with h1; injection h1 with _ h1; omega
   have : w'.cell? ⟨q, o, none⟩ = w.cell? ⟨q, o, none⟩ := by simp only [World.cell?, hsame q (by omega) hqr]
   rw [this]; exact h.part q l t o hq hO' hot
 · by_cases hq : q = r'
   · subst hq; exact absurd hSq (hS o)
   · rw [if_neg hq] at hO'; exact h.sown q o l t hSq hO'
 · by_cases hq : q = r'
   · rw [hq]; exact hlt
   · rw [if_neg hq] at hO'; exact Nat.lt_of_lt_of_le (h.olt q l t hO') hE.size
 · by_cases hq : q = r'
   · rw [if_pos hq] at hO'
     injection hO' with hO'; injection hO' with h1 h2
     subst h1; subst h2; subst hq
     rcases hO with h1 | h1
     · exact .inl (by omega)
     · exact h.onew _ _ _ h1
   · rw [if_neg hq] at hO'; exact h.onew q l t hO'
 · by_cases hib : i = b
   · subst hib
     rw [List.getElem?_set_self hb] at hi
     rw [List.getElem?_set_self (by rw [h.mlen]; exact hb)] at hr
     injection hi with hi; injection hr with hr
     subst hi; subst hr
     exact ⟨if_pos rfl, hblk⟩
   · rw [List.getElem?_set_ne (by omega)] at hi hr
     obtain ⟨g1, g2⟩ := h.mem i cs' r hi hr hne
     have hrr : r ≠ r' := fun he => by
      subst he
      rcases hO with h1 | h1
      · have := h.olt _ _ _ g1; omega
      · rw [g1] at h1; simp at h1; exact hib h1
     refine ⟨by rw [if_neg hrr]; exact g1, g2.to (hsame r (h.olt _ _ _ g1) hrr) hE (fun _ _ h => h) (Nat.le_refl _) (fun j p hp => ⟨p, hp, fun v hv => ?_⟩) (fun kvs hk => .inl hk) (fun hu => hu)⟩
     refine RP.reset (hv.frame _ hE (fun _ _ h => h) (fun q t x hx => ?_) (fun _ _ h => h)) b r' (PV.nrefs_get (nrefM_get hno hi (by omega)) hp)
     rw [if_neg]; · exact hx
     rintro rfl
     rcases hO with h1 | h1
     · have := h.olt _ _ _ hx; omega
     · rw [hx] at h1; injection h1 with h1; injection h1 with h1 _
       have := congrArg List.length h1
       simp at this
theorem Y_appendR {K : Ctx} {s : GS} {t u : Nat} {y : Operand} {ty e rt : TypeId} {pos : String} {af : Array Edge} {g : Option (Nat × Bool)} {k by_ : Nat} {xs ys : List D} {z : Value}
 (hu : s.get u = some (.rsl b 0 xs.length k)) (hmem : s.mem[b]? = some (flat xs)) (hbm : K.m0.length ≤ b) (hno : nrefM b 0 s.mem = true) (hy : (s.ev y).list? = some ys) (hne : ys ≠ []) (hkx : ∀ x ∈ xs, x.cells.length = k) (hk : ∀ y ∈ ys, y.cells.length = k) (hk0 : 0 < k)
 (hun : K.P.underlying ty = some (.slice e)) (hinf : (K.P.info? e).map (fun i => (i.zero, i.size, i.bytes)) = some (some z, k, by_)) (hzs : z.cells.size = k) (hz1 : z.cells.all (·.oneCell') = true)
 (hlen : xs.length + ys.length ≤ lim) (hB : (xs.length + ys.length) * by_ ≤ lim) (ht : t < K.n) :
 Yld K ⟨some t, .call ⟨.builtin .append, #[.tmp u, y], #[ty, ty]⟩, rt, pos, af, g⟩ s ⟨(t, .rsl b 0 (xs.length + ys.length) k) :: sansB b s.slots, s.mem.set b (flat (xs ++ ys))⟩ := by
 rintro a w ⟨S, O, m, h⟩
 have hru := h.slots u _ hu
 have hry := h.evl hy
 obtain ⟨inf, hin, hiz, his, hib⟩ : ∃ inf, K.P.info? e = some inf ∧ inf.zero = some z ∧ inf.size = k ∧ inf.bytes = by_ := by
  cases hq : K.P.info? e with
  | none => simp [hq] at hinf
  | some i => simp [hq] at hinf; exact ⟨i, rfl, hinf.1, hinf.2.1, hinf.2.2⟩
 obtain ⟨ab, cap, hvu, hcap, hcz, hrow⟩ : ∃ ab cap, a.eval (.tmp u) = .slice ab xs.length cap ∧ xs.length ≤ cap ∧ (xs.length = 0 → cap = 0) ∧ (xs.length ≠ 0 → ∃ r, m[b]? = some r ∧ ab = some ⟨r, 0, none⟩ ∧ Room w r (0 + cap * k)) := by
  show ∃ ab cap, a.tmps.getD u undef = _ ∧ _
  generalize a.tmps.getD u undef = v at hru
  cases hru with | rsl _ _ _ _ _ ab cap hc _ h0 h1 => exact ⟨ab, cap, rfl, hc, h0, h1⟩
 obtain ⟨ay, capy, hvy⟩ : ∃ ay capy, a.eval y = .slice (some ay) ys.length capy := by
  generalize a.eval y = vy at hry
  cases hry with
  | sl _ ay capy _ _ _ _ hn _ _ =>
   cases ay with
   | none => exact absurd (hn rfl) hne
   | some ay => exact ⟨ay, capy, rfl⟩
 rw [hvy] at hry
 obtain ⟨news, hnl, hnews, hnrd⟩ := hry.news hk
 have hrun0 : ∀ v w', (Builtin.append_ #[ty, ty] rt #[a.eval (.tmp u), a.eval y]).run K.P w = .ok v w' → (execOp a.eval ⟨some t, .call ⟨.builtin .append, #[.tmp u, y], #[ty, ty]⟩, rt, pos, af, g⟩).run K.P w = .ok (.value v) w' := by
  intro v w' hr
  simp [execOp, resolve, invoke, builtin, hr]
 have hyslen : 0 < ys.length := List.length_pos_iff.2 hne
 have hlimv : lim = 140737488355328 := rfl
 have hbl : b < s.mem.length := (lG hmem)
 have hkall : ∀ x ∈ xs ++ ys, x.cells.length = k := fun x hx => by
  rcases List.mem_append.1 hx with hx | hx
  · exact hkx x hx
  · exact hk x hx
 have hfl : (flat (xs ++ ys)).length = (xs.length + ys.length) * k := by rw [flat_length _ hkall, List.length_append]
 -- what is known of the result, whichever block it lies in
 have fin : ∀ (w' : World) (r' cap' : Nat) (vs' : Array Value) (el' : TypeId), Ext S w w' → (r' = w.heap.size ∨ O r' = some ([b, 1], 0)) → (∀ q, q < w.heap.size → q ≠ r' → w'.heap[q]? = w.heap[q]?) →
  w'.heap[r']? = some (.cells vs' el' (0, 0)) → cap' * k ≤ vs'.size → xs.length + ys.length ≤ cap' → (∀ (j : Nat) v, vs'[j]? = some v → v.oneCell' = true) →
  (∀ (i : Nat) x (j : Nat) y, (xs ++ ys)[i]? = some x → x.cells[j]? = some y → ∃ v, vs'[i * k + j]? = some v ∧ Rd w' S y v) →
  At K ⟨(t, .rsl b 0 (xs.length + ys.length) k) :: sansB b s.slots, s.mem.set b (flat (xs ++ ys))⟩ (a.put (some t) (.slice (some ⟨r', 0, none⟩) (xs.length + ys.length) cap')) w' := by
  intro w' r' cap' vs' el' hE hO hsame hh hsz hcap' hone hcells
  have hle : (xs.length + ys.length) * k ≤ vs'.size := Nat.le_trans (Nat.mul_le_mul_right k hcap') hsz
  have hblk : Blk w' S (fun q => if q = r' then some ([b, 1], 0) else O q) (m.set b r') b (flat (xs ++ ys)) r' := .inl ⟨vs', el', hh, by rw [hfl]; exact hle, hone, fun j p v hp hv => by
   obtain ⟨i, j', x, y', h1, h2, rfl, rfl⟩ := flat_inv (xs ++ ys) hkall j p hp
   obtain ⟨v', h3, h4⟩ := hcells i x j' y' h1 h2
   rw [h3] at hv; injection hv with hv; subst hv
   exact .d _ _ _ h4⟩
  have hlt : r' < w'.heap.size := (Array.getElem?_eq_some_iff.1 hh).1
  have henv := h.env.renew hbl hE hO hlt hsame hno hblk
  refine ⟨S, _, _, henv, h.defers, by simp [Act.put, h.size], ?_, fun i p hp => ?_⟩
  · obtain ⟨tl, htl⟩ := h.pre
    refine ⟨tl.set (b - K.m0.length) r', ?_⟩
    rw [← htl, List.set_append_right _ _ hbm]
  rw [getD_put _ _ _ _ (by rw [h.size]; exact ht)]
  have hp' : (if i = t then some (PV.rsl b 0 (xs.length + ys.length) k) else (sansB b s.slots).lookup i) = some p := by
   by_cases hi : i = t
   · subst hi; rw [if_pos rfl]; simpa [GS.get, List.lookup] using hp
   · rw [if_neg hi]
     have : (i == t) = false := by simpa using hi
     simpa [GS.get, List.lookup, this] using hp
  by_cases hit : i = t
  · rw [if_pos hit] at hp' ⊢; injection hp' with hp'; subst hp'
    exact .rsl _ _ _ _ _ _ _ hcap' hlen (fun h => by omega) (fun _ => ⟨r', List.getElem?_set_self (by rw [h.env.mlen]; exact hbl), rfl, vs', el', hh, by rw [Nat.zero_add]; exact hsz⟩)
  · rw [if_neg hit] at hp' ⊢
    obtain ⟨q, hq, ⟨hnq, rfl⟩ | rfl⟩ := sansB_lookup hp'
    · refine RP.reset ((h.slots i p hq).ext hE (fun _ _ h => h) (fun c t' x hx => ?_) (fun _ _ h => h)) b r' hnq
      rw [if_neg]; · exact hx
      rintro rfl
      rcases hO with h1 | h1
      · have := h.env.olt _ _ _ hx; omega
      · rw [hx] at h1; injection h1 with h1; injection h1 with h1 _
        have := congrArg List.getLast? h1; simp at this
    · exact .undef _ _
 -- the elements so far
 have hold : xs.length ≠ 0 → ∃ r vs el, m[b]? = some r ∧ ab = some ⟨r, 0, none⟩ ∧ O r = some ([b, 1], 0) ∧ w.heap[r]? = some (.cells vs el (0, 0)) ∧ cap * k ≤ vs.size ∧ (∀ (j : Nat) v, vs[j]? = some v → v.oneCell' = true) ∧
  ∀ (i : Nat) x (j : Nat) y, xs[i]? = some x → x.cells[j]? = some y → ∃ v, vs[i * k + j]? = some v ∧ Rd w S y v := by
  intro hn
  obtain ⟨r, hr1, hr2, vs0, el0, hh0, hsz0⟩ := hrow hn
  have hxne : xs ≠ [] := fun h => hn (by rw [h]; rfl)
  have hpos : 0 < (flat xs).length := by rw [flat_length xs hkx]; exact Nat.mul_pos (by omega) hk0
  have hfne : flat xs ≠ [] := fun h => by rw [h] at hpos; simp at hpos
  obtain ⟨g1, g2⟩ := h.env.mem b (flat xs) r hmem hr1 hfne
  have hd0 : ∃ y, (flat xs)[0]? = some (.d y) := by
   have := gE hpos
   obtain ⟨i, j, x, y, _, _, _, h4⟩ := flat_inv xs hkx 0 _ this
   exact ⟨y, by rw [this, h4]⟩
  obtain ⟨y0, hy0⟩ := hd0
  rcases g2 with ⟨vs, el, h1, h2, h3, h4⟩ | ⟨kvs, es, c, hc, _⟩ | hc | ⟨c, pos, hc, _⟩
  · rw [hh0] at h1; injection h1 with h1; injection h1 with e1 e2 e3
    subst e1; subst e2
    refine ⟨r, vs0, el0, hr1, hr2, g1, hh0, by omega, h3, fun i x j y hi hj => ?_⟩
    have hcl : x.cells.length = k := hkx x (mG hi)
    have hjk : j < k := by rw [← hcl]; exact (lG hj)
    have hp : (flat xs)[i * k + j]? = some (.d y) := by
     have hfp := flat_part xs hkx i x hi
     have : (((flat xs).drop (i * k)).take k)[j]? = some (.d y) := by rw [hfp, List.getElem?_map, hj]; rfl
     rw [List.getElem?_take_of_lt hjk, List.getElem?_drop] at this
     exact this
    have hlt : i * k + j < vs0.size := Nat.lt_of_lt_of_le (lG hp) h2
    have := h4 _ _ _ hp (Array.getElem?_eq_getElem hlt)
    cases this with | d _ _ _ hrd => exact ⟨_, Array.getElem?_eq_getElem hlt, hrd⟩
  · rw [hc] at hy0; simp at hy0
  · rw [hc] at hy0; simp at hy0
  · rw [hc] at hy0; simp at hy0
 -- a new block
 have grown : ∀ (old : Nat) (olds : List Value), olds.length = xs.length * k → (∀ (j : Nat) v, olds[j]? = some v → v.oneCell' = true) →
  (∀ (i : Nat) x (j : Nat) y v, xs[i]? = some x → x.cells[j]? = some y → olds[i * k + j]? = some v → Rd w S y v) →
  At K ⟨(t, .rsl b 0 (xs.length + ys.length) k) :: sansB b s.slots, s.mem.set b (flat (xs ++ ys))⟩
   (a.put (some t) (.slice (some ⟨w.heap.size, 0, none⟩) (xs.length + ys.length) (grownCap w (xs.length + ys.length) old e)))
   (w.drew.alloc (.cells (olds.toArray ++ news.toArray ++ Builtin.zeroCells z.cells (grownCap w (xs.length + ys.length) old e - (xs.length + ys.length))) e)) := by
  intro old olds hol ho1 hord
  have hge := grownCap_ge w (xs.length + ys.length) old e
  generalize grownCap w (xs.length + ys.length) old e = cp at hge ⊢
  have hE : Ext S w (w.drew.alloc (.cells (olds.toArray ++ news.toArray ++ Builtin.zeroCells z.cells (cp - (xs.length + ys.length))) e)) :=
   (ext_drew S w).trans (ext_alloc S w.drew _ h.env.slt) (fun _ _ h => h)
  have hsum : (xs.length + ys.length) * k = olds.length + news.length := by rw [hol, hnl, Nat.add_mul]
  refine fin _ w.heap.size cp _ e hE (.inl rfl) (fun q hq _ => heap_alloc_old' w.drew _ q hq) (heap_alloc_new' w.drew _) ?_ hge (fun j v hj => ?_) ?_
  · simp only [Array.size_append, List.size_toArray, size_zeroCells, hzs]
    rw [← hsum, ← Nat.add_mul]
    exact Nat.mul_le_mul_right _ (by omega)
  · by_cases h1 : j < olds.length
    · rw [Array.append_assoc, Array.getElem?_append_left (by simpa using h1)] at hj
      exact ho1 j v (by simpa using hj)
    · rw [Array.append_assoc, Array.getElem?_append_right (by simpa using Nat.le_of_not_lt h1)] at hj
      simp only [List.size_toArray] at hj
      by_cases h2 : j - olds.length < news.length
      · rw [Array.getElem?_append_left (by simpa using h2)] at hj
        exact (hnews _ v (by simpa using hj)).2
      · rw [Array.getElem?_append_right (by simpa using Nat.le_of_not_lt h2)] at hj
        exact zeroCells_one hz1 v (Array.mem_of_getElem? hj)
  · intro i x j y hi hj
    have hjk : j < k := by rw [← hkall x (mG hi)]; exact (lG hj)
    by_cases hx : i < xs.length
    · rw [List.getElem?_append_left hx] at hi
      have hlt2 : i * k + j < olds.length := by
       rw [hol]
       calc i * k + j < i * k + k := by omega
        _ = (i + 1) * k := by rw [Nat.add_mul, Nat.one_mul]
        _ ≤ xs.length * k := Nat.mul_le_mul_right _ hx
      have hg := gE hlt2
      refine ⟨olds[i * k + j], ?_, (hord i x j y _ hi hj hg).ext hE (fun _ _ h => h)⟩
      rw [Array.append_assoc, Array.getElem?_append_left (by simpa using hlt2)]
      simp [hg]
    · rw [List.getElem?_append_right (by omega)] at hi
      have hil2 : i - xs.length < ys.length := (lG hi)
      have hmul : xs.length * k ≤ i * k := Nat.mul_le_mul_right _ (by omega)
      have hsub : i * k + j - olds.length = (i - xs.length) * k + j := by rw [hol, Nat.sub_mul]; omega
      have hge2 : olds.length ≤ i * k + j := by rw [hol]; omega
      have hlt2 : (i - xs.length) * k + j < news.length := by
       rw [hnl]
       calc (i - xs.length) * k + j < (i - xs.length) * k + k := by omega
        _ = (i - xs.length + 1) * k := by rw [Nat.add_mul, Nat.one_mul]
        _ ≤ ys.length * k := Nat.mul_le_mul_right _ hil2
      have hg := gE hlt2
      refine ⟨news[(i - xs.length) * k + j], ?_, (hnrd _ x j y _ hi hj hg).ext hE (fun _ _ h => h)⟩
      rw [Array.append_assoc, Array.getElem?_append_right (by simpa using hge2), Array.getElem?_append_left (by simp; omega)]
      simp only [List.size_toArray, List.getElem?_toArray]
      rw [hsub]; exact hg
 by_cases hn0 : xs.length = 0
 · have hx0 : xs = [] := List.eq_nil_of_length_eq_zero hn0
   have hc0 := hcz hn0
   subst hx0; subst hc0
   have hgr := grown 0 [] (by simp) (by simp) (by simp)
   simp only [List.length_nil, Nat.zero_add, List.nil_append, Array.empty_append] at hgr hvu hlen hB ⊢
   cases ab with
   | none =>
    have hr := run_append_nil (P := K.P) w ty rt e inf z hun hin hiz ay ys.length capy news (by rw [his]; exact hnl) (fun j v hj => (hnews j v hj).1) hyslen (by omega) (by rw [hib]; omega)
    exact ⟨_, _, hrun0 _ _ (by rw [hvu, hvy]; exact hr), hgr⟩
   | some ad =>
    have hr := run_append_grow (P := K.P) w ty rt e inf z hun hin hiz ad 0 0 [] (by simp) (by simp) ay ys.length capy news (by rw [his]; exact hnl) (fun j v hj => (hnews j v hj).1) (by omega) (by omega) (growslice_fits (by omega) (by rw [hib, Nat.zero_add]; omega))
    simp only [Nat.zero_add, Array.empty_append] at hr
    exact ⟨_, _, hrun0 _ _ (by rw [hvu, hvy]; exact hr), hgr⟩
 · obtain ⟨r, vs, el, hmr, rfl, hOr, hheap, hcapk, hone, hcells⟩ := hold hn0
   have hvl : vs.toList.length = vs.size := by simp
   have hxc := Nat.mul_le_mul_right k hcap
   by_cases hroom : xs.length + ys.length ≤ cap
   · have hfit : 0 + xs.length * inf.size + news.length ≤ vs.size := by
      rw [his, hnl, Nat.zero_add, ← Nat.add_mul]
      exact Nat.le_trans (Nat.mul_le_mul_right k hroom) hcapk
     have hr := run_append_room_at (P := K.P) w ty rt e inf hun hin r 0 xs.length cap vs el hheap ay ys.length capy news (by rw [his]; exact hnl) (fun j v hj => (hnews j v hj).1)
      (fun v hv => by obtain ⟨j, hj⟩ := List.getElem?_of_mem hv; exact (hnews j v hj).2) hroom hfit
     rw [his] at hr hfit
     refine ⟨_, _, hrun0 _ _ (by rw [hvu, hvy]; exact hr), ?_⟩
     have hfitL : 0 + xs.length * k + news.length ≤ vs.toList.length := by simpa using hfit
     have hsz : (splice vs.toList (0 + xs.length * k) news).toArray.size = vs.size := List.size_toArray.trans ((splice_length _ _ _ hfitL).trans hvl)
     have hget : ∀ o, (splice vs.toList (0 + xs.length * k) news).toArray[o]? = if 0 + xs.length * k ≤ o ∧ o < 0 + xs.length * k + news.length then news[o - (0 + xs.length * k)]? else vs[o]? := fun o => by
      rw [List.getElem?_toArray, splice_get _ _ _ hfitL, show vs.toList[o]? = vs[o]? from by simp]
     have hE : Ext S w (w.setRow r (splice vs.toList (0 + xs.length * k) news).toArray) := ext_setRow hheap hsz (fun o hS => by have := h.env.sown _ o _ _ hS hOr; omega)
     refine fin _ r cap _ el hE (.inr hOr) (fun q _ hq => setRow_other _ _ _ _ hq) (setRow_heap w r vs _ el (0, 0) hheap) (by rw [hsz]; exact hcapk) hroom (fun j v hj => ?_) ?_
     · rw [hget] at hj
       split at hj
       · exact (hnews _ v hj).2
       · exact hone j v hj
     · intro i x j y hi hj
       have hjk : j < k := by rw [← hkall x (mG hi)]; exact (lG hj)
       by_cases hx : i < xs.length
       · rw [List.getElem?_append_left hx] at hi
         have hlt2 : i * k + j < xs.length * k := by
          calc i * k + j < i * k + k := by omega
           _ = (i + 1) * k := by rw [Nat.add_mul, Nat.one_mul]
           _ ≤ xs.length * k := Nat.mul_le_mul_right _ hx
         obtain ⟨v, h1, h2⟩ := hcells i x j y hi hj
         exact ⟨v, by rw [hget, if_neg (by omega)]; exact h1, h2.ext hE (fun _ _ h => h)⟩
       · rw [List.getElem?_append_right (by omega)] at hi
         have hil2 : i - xs.length < ys.length := (lG hi)
         have hmul : xs.length * k ≤ i * k := Nat.mul_le_mul_right _ (by omega)
         have hsub : (i - xs.length) * k = i * k - xs.length * k := Nat.sub_mul _ _ _
         have hlt2 : (i - xs.length) * k + j < news.length := by
          rw [hnl]
          calc (i - xs.length) * k + j < (i - xs.length) * k + k := by omega
           _ = (i - xs.length + 1) * k := by rw [Nat.add_mul, Nat.one_mul]
           _ ≤ ys.length * k := Nat.mul_le_mul_right _ hil2
         have hg := gE hlt2
         refine ⟨news[(i - xs.length) * k + j], ?_, (hnrd _ x j y _ hi hj hg).ext hE (fun _ _ h => h)⟩
         rw [hget, if_pos (by omega), show i * k + j - (0 + xs.length * k) = (i - xs.length) * k + j by omega]
         exact hg
   · have hr := run_append_grow (P := K.P) w ty rt e inf z hun hin hiz ⟨r, 0, none⟩ xs.length cap (vs.toList.take (xs.length * k)) (by
         rw [his, List.length_take]
         omega) (fun j v hj => by
         rw [add_at, cell_of_row w r _ vs el _ hheap, Nat.zero_add]
         have hlt : j < xs.length * k := by
          have := (lG hj)
          rw [List.length_take] at this; omega
         rw [List.getElem?_take_of_lt hlt] at hj
         simpa using hj) ay ys.length capy news (by rw [his]; exact hnl) (fun j v hj => (hnews j v hj).1)
      (by omega) (by omega) (growslice_fits (by omega) (by rw [hib]; omega))
     refine ⟨_, _, hrun0 _ _ (by rw [hvu, hvy]; exact hr), grown cap _ ?_ (fun j v hj => ?_) (fun i x j y v hi hj hv => ?_)⟩
     · rw [List.length_take]
       omega
     · have := List.mem_of_mem_take (mG hj)
       obtain ⟨j', hj'⟩ := List.getElem?_of_mem this
       exact hone j' v (by simpa using hj')
     · obtain ⟨v', h1, h2⟩ := hcells i x j y hi hj
       have hlt : i * k + j < xs.length * k := by
        have := (lG hv)
        rw [List.length_take] at this; omega
       rw [List.getElem?_take_of_lt hlt] at hv
       have : vs[i * k + j]? = some v := by simpa using hv
       rw [h1] at this; injection this with this; subst this
       exact h2
end
end Go.Proofs.YtklkbfpjimeaoaaGreat.E
