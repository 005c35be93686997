import Derived.Test.YtklkbfpjimeaoaaM10
import Derived.WalkMore
import Derived.Recover
import Derived.Laws.AppendOwn
/- Contracts of functions. Conditions: none. -/
set_option linter.unusedSimpArgs false
set_option linter.unusedVariables false
namespace Go.Proofs.Ytklkbfpjimeaoaa.E
open Go
section
def alive (kl : List (Nat × Nat)) (b : Nat → Bool) (i : Nat) : Bool := b i && !(match kl.lookup i with | some j => b j | none => false)
def mkK (kl : List (Nat × Nat)) (b : Nat → Bool) (es : List (Nat × Nat × PV)) : List (Nat × PV) := es.map fun x => (x.2.1, cond (alive kl b x.1) x.2.2 .undef)
variable {kl : List (Nat × Nat)}
theorem mkK_lookup {b : Nat → Bool} : ∀ {fs : List (Nat × Nat × PV)}, (fs.map (·.2.1)).Nodup → ∀ {i t : Nat} {p : PV}, (i, t, p) ∈ fs → (mkK kl b fs).lookup t = some (cond (alive kl b i) p .undef)
 | [], _, _, _, _, h => by cases h
 | x :: fs, hn, i, t, p, h => by
  rw [List.map_cons, List.nodup_cons] at hn
  simp only [mkK, List.map_cons, List.lookup_cons]
  rcases List.mem_cons.1 h with rfl | h
  · simp
  · have hne : (t == x.2.1) = false := by
     have : t ≠ x.2.1 := by rintro rfl; exact hn.1 (List.mem_map.2 ⟨_, h, rfl⟩)
     simpa using this
    rw [hne]
    exact mkK_lookup hn.2 h
theorem mkK_none {b : Nat → Bool} : ∀ {fs : List (Nat × Nat × PV)} {t : Nat}, t ∉ fs.map (·.2.1) → (mkK kl b fs).lookup t = none
 | [], _, _ => rfl
 | x :: fs, t, h => by
  simp only [List.map_cons, List.mem_cons, not_or] at h
  have hne : (t == x.2.1) = false := by simpa using h.1
  simp only [mkK, List.map_cons, List.lookup_cons, hne]
  exact mkK_none h.2
theorem alive_of {b : Nat → Bool} {d i : Nat} (h : b d = true) (hi : b i = false) (hk : kl.lookup d = none ∨ kl.lookup d = some i) : alive kl b d = true := by
 unfold alive
 rw [h]
 rcases hk with hk | hk <;> rw [hk]
 · rfl
 · show (true && !(b i)) = true
   rw [hi]; rfl
variable {fs : List (Nat × Nat × PV)} {base : List (Nat × PV)}
theorem alive_end {n : Nat} (hnd : (fs.map (·.2.1)).Nodup) (hfi : ∀ x ∈ fs, x.1 < n) (t : Nat) (p : PV) (h : ((fs.filter fun x => (kl.lookup x.1).isNone).map (·.2) ++ base).lookup t = some p) (hdis : ∀ x ∈ base, x.1 ∉ fs.map (·.2.1)) : (mkK kl (allB n) fs ++ base).lookup t = some p := by
 rw [lookup_append] at h ⊢
 cases hl : ((fs.filter fun x => (kl.lookup x.1).isNone).map (·.2)).lookup t with
 | some q =>
  rw [hl] at h
  have hqp : q = p := by simpa using h
  subst hqp
  obtain ⟨⟨i, y⟩, h1, h2⟩ := List.mem_map.1 (lookup_mem' _ _ _ hl)
  obtain ⟨h3, h4⟩ := List.mem_filter.1 h1
  replace h2 : y = (t, q) := h2
  subst h2
  have hlt : allB n i = true := show Nat.blt i n = true by rw [Nat.blt_eq]; exact hfi _ h3
  have hal : alive kl (allB n) i = true := by
   unfold alive
   replace h4 : (kl.lookup i).isNone = true := h4
   rw [Option.isNone_iff_eq_none] at h4
   rw [hlt, h4]; rfl
  rw [mkK_lookup hnd h3, hal]; rfl
 | none =>
  rw [hl] at h
  have hb : base.lookup t = some p := by simpa using h
  rw [mkK_none (hdis _ (lookup_mem' _ _ _ hb)), hb]; rfl
def StpK (K : Ctx) (ops : Array Oper) (M : (Nat → Bool) → List (List PV)) (base : List (Nat × PV)) (i : Nat) (sl r x : List (Nat × PV)) : Prop :=
 ∀ (b : Nat → Bool) (rest : List (Nat × PV)), b i = false → (∀ j ∈ depsOf ops i, b j = true) → Valid ops b →
  GOps K ops (fun e s' => e = .normal ∧ s' = ⟨r ++ (x ++ (sl ++ base ++ rest)), M (upd b i)⟩) [i] ⟨sl ++ base ++ rest, M b⟩
inductive ConfK (kl : List (Nat × Nat)) (K : Ctx) (ops : Array Oper) (M : (Nat → Bool) → List (List PV)) (base : List (Nat × PV)) : Nat → List (Nat × Nat × PV) → List (Nat × Nat × PV) → Prop
 | done {i : Nat} {es : List (Nat × Nat × PV)} : i = ops.size → ConfK kl K ops M base i es es
 | step {i : Nat} {es fs : List (Nat × Nat × PV)} {sl r xt : List (Nat × PV)} (hs : StpK K ops M base i sl r xt) (hsl : ∀ x ∈ sl, ∃ d ∈ depsOf ops i, (d, x) ∈ es ∧ (kl.lookup d = none ∨ kl.lookup d = some i)) (hx : ∀ x ∈ xt, ∃ d q, (d, x.1, q) ∈ es ∧ kl.lookup d = some i) (hc : ConfK kl K ops M base (i + 1) (es ++ r.map fun x => (i, x)) fs) : ConfK kl K ops M base i es fs
variable {K : Ctx} {ops : Array Oper}
theorem ConfK.le {M : (Nat → Bool) → List (List PV)} {i : Nat} {es : List (Nat × Nat × PV)} (h : ConfK kl K ops M base i es fs) : ∃ later, fs = es ++ later := by
 induction h with
 | done _ => exact ⟨[], by simp⟩
 | step _ _ _ _ ih => obtain ⟨l, h⟩ := ih; exact ⟨_, by rw [h, List.append_assoc]⟩
theorem ConfK.idx {M : (Nat → Bool) → List (List PV)} {i0 : Nat} {es : List (Nat × Nat × PV)} (h : ConfK kl K ops M base i0 es fs) : ∀ x ∈ fs, x ∈ es ∨ i0 ≤ x.1 := by
 induction h with
 | done _ => exact fun x hx => .inl hx
 | @step j es fs sl r xt hs hsl hx hc ih =>
  intro x hx
  rcases ih x hx with h | h
  · rcases List.mem_append.1 h with h | h
    · exact .inl h
    · obtain ⟨y, _, rfl⟩ := List.mem_map.1 h; exact .inr (Nat.le_refl _)
  · exact .inr (by omega)
theorem ConfK.at {M : (Nat → Bool) → List (List PV)} {i0 : Nat} {es : List (Nat × Nat × PV)} (h : ConfK kl K ops M base i0 es fs) (hes : ∀ x ∈ es, x.1 < i0) :
 ∀ i, i0 ≤ i → i < ops.size → ∃ sl r xt, StpK K ops M base i sl r xt ∧ (∀ x ∈ r, (i, x) ∈ fs) ∧ (∀ x, (i, x) ∈ fs → x ∈ r) ∧ (∀ x ∈ sl, ∃ d ∈ depsOf ops i, (d, x) ∈ fs ∧ (kl.lookup d = none ∨ kl.lookup d = some i)) ∧ ∀ x ∈ xt, ∃ d q, (d, x.1, q) ∈ fs ∧ kl.lookup d = some i := by
 induction h with
 | done h => intro i h1 h2; omega
 | @step j es fs sl r xt hs hsl hx hc ih =>
  intro i h1 h2
  have hes' : ∀ x ∈ es ++ r.map (fun x => (j, x)), x.1 < j + 1 := fun x hx => by
   rcases List.mem_append.1 hx with hx | hx
   · have := hes x hx; omega
   · obtain ⟨y, _, rfl⟩ := List.mem_map.1 hx; exact Nat.lt_succ_self _
  by_cases hij : i = j
  · subst hij
    obtain ⟨l, hl⟩ := hc.le
    refine ⟨sl, r, xt, hs, fun x hx => ?_, fun x hx => ?_, fun x hx => ?_, fun x hx' => ?_⟩
    · rw [hl]; simp only [List.mem_append, List.mem_map]; exact .inl (.inr ⟨x, hx, rfl⟩)
    · rcases hc.idx _ hx with h | h
      · rcases List.mem_append.1 h with h | h
        · have := hes _ h; simp at this
        · obtain ⟨y, hy, he⟩ := List.mem_map.1 h
          injection he with _ he
          exact he ▸ hy
      · simp at h; omega
    · obtain ⟨d, hd, hm, hk⟩ := hsl x hx
      exact ⟨d, hd, by rw [hl]; simp only [List.mem_append]; exact .inl (.inl hm), hk⟩
    · obtain ⟨d, q, hm, hk⟩ := hx x hx'
      exact ⟨d, q, by rw [hl]; simp only [List.mem_append]; exact .inl (.inl hm), hk⟩
  · exact ih hes' i (by omega) h2
theorem G_confK {id : Nat} {Q : Exit → GS → Prop} {s s'' : GS} {M : (Nat → Bool) → List (List PV)} (n : Nat) (hn : ops.size = n) (hm : K.P.follows .mixedOrders = true)
 (hs : Le K s ⟨base, M noB⟩) (hc : ConfK kl K ops M base 0 [] fs) (hnd : (fs.map (·.2.1)).Nodup) (hdis : ∀ x ∈ base, x.1 ∉ fs.map (·.2.1)) (hdep : ∀ i, i < n → ∀ d ∈ depsOf ops i, d < i)
 (hs'' : Le K ⟨mkK kl (allB n) fs ++ base, M (allB n)⟩ s'') (hfi : ∀ x ∈ fs, x.1 < n) (hq : Q .normal s'') : G K (.region id ops true) Q s := by
 subst hn
 rintro a w ha
 obtain ⟨S, O, m, hr⟩ := hs a w ha
 have hd := hr.drew
 refine wp_mono (Q := endN K Q) (wp_region_any hm ?_) (fun e a' w' ⟨he, s', hq, hat⟩ => ⟨s', he ▸ hq, hat⟩)
 have hbl : ∀ {t p}, (base.lookup t) = some p → t ∉ fs.map (·.2.1) := fun h => hdis _ (lookup_mem' _ _ _ h)
 have key : ∀ fuel (listed : Array Bool) a w, listed.size = ops.size → open_ listed = fuel → Valid ops (bOf listed) → At K ⟨mkK kl (bOf listed) fs ++ base, M (bOf listed)⟩ a w → wpAny K.P .any ops (endN K Q) fuel listed a w := by
  intro fuel
  induction fuel with
  | zero =>
   intro listed a w hsz ho _ hat
   have hall : ∀ i, i < ops.size → listed.getD i true = true := fun i hi => open_zero ho i (by omega)
   have hb : bOf listed = allB ops.size := by
    funext j
    unfold bOf allB
    by_cases hj : j < ops.size
    · have := hall j hj
      rw [Array.getD_eq_getD_getElem?, Array.getElem?_eq_getElem (by omega)] at this
      rw [Array.getD_eq_getD_getElem?, Array.getElem?_eq_getElem (by omega)]
      simp at this ⊢
      rw [this]; exact (show Nat.blt j ops.size = true by rw [Nat.blt_eq]; exact hj).symm
    · rw [Array.getD_eq_getD_getElem?, Array.getElem?_eq_none (by omega)]
      have : Nat.blt j ops.size = false := by
       cases hb : Nat.blt j ops.size with
       | false => rfl
       | true => rw [Nat.blt_eq] at hb; omega
      rw [this]; rfl
   refine ⟨?_, rfl, s'', hq, ?_⟩
   · rw [List.eq_nil_iff_forall_not_mem]
     intro i hi
     obtain ⟨h1, o, ho, _⟩ := mem_ready.1 hi
     rw [hall i (Array.getElem?_eq_some_iff.1 ho).1] at h1; cases h1
   · rw [hb] at hat; exact hs'' a w hat
  | succ fuel ih =>
   intro listed a w hsz ho hv hat
   refine ⟨fun hr0 => ?_, fun i hi => ?_⟩
   · exfalso
     -- the least one that is open is ready
     have hex : ∃ i, i < ops.size ∧ listed.getD i true = false := by
      refine Classical.byContradiction fun hne => ?_
      have : open_ listed = 0 := by
       unfold open_
       rw [List.length_eq_zero_iff, List.filter_eq_nil_iff]
       intro x hx
       obtain ⟨i, hi, rfl⟩ := List.mem_iff_getElem.1 hx
       have hi' : i < listed.size := by simpa using hi
       have h1 : ¬ (listed.getD i true = false) := fun h => hne ⟨i, by omega, h⟩
       rw [Array.getD_eq_getD_getElem?, Array.getElem?_eq_getElem hi'] at h1
       simpa using h1
      omega
     have hmin : ∀ k i, i ≤ k → i < ops.size → listed.getD i true = false → ∃ j, j < ops.size ∧ listed.getD j true = false ∧ ∀ d, d < j → listed.getD d true = true := by
      intro k
      induction k with
      | zero => intro i h1 h2 h3; exact ⟨i, h2, h3, fun d hd => by omega⟩
      | succ k ihk =>
       intro i h1 h2 h3
       by_cases hd : ∃ d, d < i ∧ listed.getD d true = false
       · obtain ⟨d, h4, h5⟩ := hd; exact ihk d (by omega) (by omega) h5
       · exact ⟨i, h2, h3, fun d hd' => by
          cases h : listed.getD d true with
          | true => rfl
          | false => exact absurd ⟨d, hd', h⟩ hd⟩
     obtain ⟨i, h2, h3⟩ := hex
     obtain ⟨j, hj1, hj2, hj3⟩ := hmin i i (Nat.le_refl _) h2 h3
     have : j ∈ Region.ready .any ops listed := mem_ready.2 ⟨hj2, ops[j], Array.getElem?_eq_getElem hj1, fun e he hb => by
      have hlt := hdep j hj1 _ (depsOf_mem (Array.getElem?_eq_getElem hj1) he hb)
      have := hj3 _ hlt
      rw [Array.getD_eq_getD_getElem?, Array.getElem?_eq_getElem (by omega)] at this ⊢
      simpa using this⟩
     rw [hr0] at this; cases this
   · obtain ⟨hi1, o, hoi, hi2⟩ := mem_ready.1 hi
     have hilt : i < ops.size := (Array.getElem?_eq_some_iff.1 hoi).1
     have hbi : bOf listed i = false := by
      unfold bOf
      rw [Array.getD_eq_getD_getElem?, Array.getElem?_eq_getElem (by omega)] at hi1 ⊢
      simpa using hi1
     have hbd : ∀ j ∈ depsOf ops i, bOf listed j = true := fun j hj => by
      unfold depsOf at hj
      rw [hoi] at hj
      obtain ⟨e, he, rfl⟩ := List.mem_map.1 hj
      obtain ⟨he1, he2⟩ := List.mem_filter.1 he
      exact hi2 e (by simpa using he1) he2
     obtain ⟨sl, r, xt, hst, hr1, hr2, hsl, hxt⟩ := hc.at (fun x hx => by cases hx) i (Nat.zero_le _) hilt
     have hle : Le K ⟨mkK kl (bOf listed) fs ++ base, M (bOf listed)⟩ ⟨sl ++ base ++ (mkK kl (bOf listed) fs), M (bOf listed)⟩ := Le_slots rfl fun t p hp => by
      simp only [GS.get, lookup_append] at hp ⊢
      cases h1 : sl.lookup t with
      | some q =>
       rw [h1] at hp
       have hqp : q = p := by simpa using hp
       subst hqp
       obtain ⟨d, hd, hmem, hk⟩ := hsl _ (lookup_mem' _ _ _ h1)
       left
       rw [mkK_lookup hnd hmem, alive_of (hbd d hd) hbi hk]; rfl
      | none =>
       rw [h1] at hp
       cases h2 : base.lookup t with
       | some q =>
        rw [h2] at hp
        left
        rw [mkK_none (hbl h2)]; simpa using hp
       | none =>
        rw [h2] at hp
        left
        have h3 : (mkK kl (bOf listed) fs).lookup t = some p := by simpa using hp
        rw [h3]; rfl
     have h1 := hst (bOf listed) (mkK kl (bOf listed) fs) hbi hbd hv a w (hle a w hat)
     rw [wpOps_cons] at h1
     refine wpOp_to ?_ ?_ h1
     · rintro e a' w' hne' ⟨s', ⟨he, _⟩, _⟩
       exact absurd he hne'
     · intro a' w' h2
       obtain ⟨s', ⟨_, rfl⟩, hat'⟩ := (h2 : ∃ s', _ ∧ _)
       have hset := bOf_set (listed := listed) (i := i) (by omega)
       refine ih (listed.setIfInBounds i true) a' w' (by simpa using hsz) (by have := open_set (listed := listed) (i := i) (by omega) hi1; omega) ?_ ?_
       · rw [hset]
         intro j hj d hdj
         unfold upd at hj ⊢
         cases hdi : Nat.beq d i with
         | true => rfl
         | false =>
          simp only [cond_false]
          cases hji : Nat.beq j i with
          | true =>
           have : j = i := Nat.eq_of_beq_eq_true hji
           subst this; exact hbd d hdj
          | false => rw [hji] at hj; exact hv j (by simpa using hj) d hdj
       · rw [hset]
         refine Le_slots (s := ⟨r ++ (xt ++ (sl ++ base ++ mkK kl (bOf listed) fs)), M (upd (bOf listed) i)⟩) (s' := ⟨mkK kl (upd (bOf listed) i) fs ++ base, M (upd (bOf listed) i)⟩) rfl (fun t p hp => ?_) a' w' hat'
         simp only [GS.get, lookup_append] at hp ⊢
         have hui : upd (bOf listed) i i = true := by
          unfold upd
          rw [beq_yes]; rfl
         have hun : ∀ j, ¬ j = i → upd (bOf listed) i j = bOf listed j := fun j hj => by
          unfold upd
          rw [beq_no hj]; rfl
         by_cases ht : t ∈ fs.map (·.2.1)
         · obtain ⟨⟨j, t', p'⟩, hx, rfl⟩ := List.mem_map.1 ht
           rw [mkK_lookup hnd hx] at hp
           have hp' : cond (alive kl (upd (bOf listed) i) j) p' PV.undef = p := by simpa using hp
           cases hal : alive kl (upd (bOf listed) i) j with
           | false =>
            rw [hal] at hp'
            exact .inr hp'.symm
           | true =>
            rw [hal] at hp'
            have hpp : p' = p := hp'
            subst hpp
            left
            unfold alive at hal
            rw [Bool.and_eq_true] at hal
            obtain ⟨hal1, hal2⟩ := hal
            have hnk : ¬ kl.lookup j = some i := fun h => by rw [h] at hal2; simp only [hui] at hal2; cases hal2
            have hxn : xt.lookup t' = none := by
             cases hxl : xt.lookup t' with
             | none => rfl
             | some q =>
              exfalso
              obtain ⟨d, q', hm, hk⟩ := hxt _ (lookup_mem' _ _ _ hxl)
              have := key_uniq hnd hm hx rfl
              injection this with h1 _
              subst h1
              exact hnk hk
            by_cases hji : j = i
            · subst hji
              obtain ⟨q, hq⟩ := lookup_isSome (hr2 _ hx)
              have := key_uniq hnd (hr1 _ (lookup_mem' _ _ _ hq)) hx rfl
              injection this with _ this
              injection this with _ this
              subst this
              show (r.lookup t').or _ = _
              rw [show r.lookup t' = some q from hq]; rfl
            · have hbj : bOf listed j = true := by rw [← hun j hji]; exact hal1
              have halj : alive kl (bOf listed) j = true := by
               unfold alive
               rw [hbj]
               cases hk : kl.lookup j with
               | none => rfl
               | some m =>
                rw [hk] at hal2
                have hmi : ¬ m = i := fun h => hnk (h ▸ hk)
                simp only [hun m hmi] at hal2
                simpa using hal2
              have hrn : r.lookup t' = none := by
               cases hrl : r.lookup t' with
               | none => rfl
               | some q =>
                exfalso
                have := key_uniq hnd (hr1 _ (lookup_mem' _ _ _ hrl)) hx rfl
                injection this with this _
                exact hji this.symm
              have hbn : base.lookup t' = none := by
               cases hb : base.lookup t' with
               | none => rfl
               | some q => exact absurd ht (hbl hb)
              show (r.lookup t').or _ = _
              rw [hrn, hxn, hbn, mkK_lookup hnd hx, halj]
              cases hsll : sl.lookup t' with
              | some q =>
               obtain ⟨d, hd, hmem, _⟩ := hsl _ (lookup_mem' _ _ _ hsll)
               have := key_uniq hnd hmem hx rfl
               injection this with h1 h2
               injection h2 with _ h2
               subst h1; subst h2
               rfl
              | none => rfl
         · rw [mkK_none ht] at hp
           have hp' : base.lookup t = some p := by simpa using hp
           have hrn : r.lookup t = none := by
            cases hrl : r.lookup t with
            | none => rfl
            | some q => exact absurd (List.mem_map.2 ⟨_, hr1 _ (lookup_mem' _ _ _ hrl), rfl⟩) ht
           have hxn : xt.lookup t = none := by
            cases hrl : xt.lookup t with
            | none => rfl
            | some q =>
             obtain ⟨d, q', hmem, _⟩ := hxt _ (lookup_mem' _ _ _ hrl)
             exact absurd (List.mem_map.2 ⟨_, hmem, rfl⟩) ht
           have hsn : sl.lookup t = none := by
            cases hrl : sl.lookup t with
            | none => rfl
            | some q =>
             obtain ⟨d, _, hmem, _⟩ := hsl _ (lookup_mem' _ _ _ hrl)
             exact absurd (List.mem_map.2 ⟨_, hmem, rfl⟩) ht
           left
           rw [hrn, hxn, hsn, hp']; rfl
 have hb0 : bOf (Array.replicate ops.size false) = noB := by
  funext j
  unfold bOf noB
  rw [Array.getD_eq_getD_getElem?, Array.getElem?_replicate]
  split <;> rfl
 refine key ops.size (Array.replicate ops.size false) a w.drew (by simp) (by simp [open_]) ?_ ?_
 · rw [hb0]; intro j hj; cases hj
 · rw [hb0]
   refine Le_slots (s := ⟨base, M noB⟩) (s' := ⟨mkK kl noB fs ++ base, M noB⟩) rfl (fun t p hp => ?_) a w.drew ⟨S, O, m, hd⟩
   simp only [GS.get, lookup_append] at hp ⊢
   by_cases ht : t ∈ fs.map (·.2.1)
   · obtain ⟨⟨j, t', p'⟩, hx, rfl⟩ := List.mem_map.1 ht
     rw [mkK_lookup hnd hx] at hp
     right
     have : PV.undef = p := by simpa [alive, noB] using hp
     exact this.symm
   · rw [mkK_none ht] at hp
     left; simpa using hp
def CGk (kl : List (Nat × Nat)) (K : Ctx) (ops : Array Oper) (M : (Nat → Bool) → List (List PV)) (base : List (Nat × PV)) (Q : Exit → GS → Prop) (i : Nat) (es : List (Nat × Nat × PV)) : Prop :=
 ∃ fs, ConfK kl K ops M base i es fs ∧ (fs.map (·.2.1)).Nodup ∧ (∀ x ∈ base, x.1 ∉ fs.map (·.2.1)) ∧ (∀ x ∈ fs, x.1 < ops.size) ∧ Q .normal ⟨(fs.filter fun x => (kl.lookup x.1).isNone).map (·.2) ++ base, M (allB ops.size)⟩
def CFk (kl : List (Nat × Nat)) (K : Ctx) (ops : Array Oper) (M : (Nat → Bool) → List (List PV)) (base : List (Nat × PV)) (Q : Exit → GS → Prop) (i : Nat) (es : List (Nat × Nat × PV)) (full : List (Nat × PV) → List (Nat × PV)) : Prop :=
 ∀ ds : List Nat, (∀ rest, pick es ds ++ base ++ rest = full rest) → (ds.all fun d => (depsOf ops i).contains d && (match kl.lookup d with | none => true | some m => Nat.beq m i)) = true → CGk kl K ops M base Q i es
theorem ck_step (j : Nat) {kl : List (Nat × Nat)} {K : Ctx} {ops : Array Oper} {M : (Nat → Bool) → List (List PV)} {base : List (Nat × PV)} {Q : Exit → GS → Prop} {i : Nat} {es es' : List (Nat × Nat × PV)} {r xt : List (Nat × PV)} {full : List (Nat × PV) → List (Nat × PV)}
 (h : ∀ (b : Nat → Bool) (rest : List (Nat × PV)), b i = false → (∀ j ∈ depsOf ops i, b j = true) → Valid ops b → GOps K ops (fun e s' => e = .normal ∧ s' = ⟨r ++ (xt ++ full rest), M (upd b i)⟩) [i] ⟨full rest, M b⟩)
 (hc : CGk kl K ops M base Q j es') (hj : i + 1 = j) (hes : es ++ r.map (fun x => (i, x)) = es')
 (hx : (xt.all fun y => es.any fun e => Nat.beq e.2.1 y.1 && (match kl.lookup e.1 with | some m => Nat.beq m i | none => false)) = true) : CFk kl K ops M base Q i es full := by
 subst hj
 subst hes
 intro ds hfull hds
 obtain ⟨fs, h1, h2⟩ := hc
 refine ⟨fs, .step (sl := pick es ds) (r := r) (xt := xt) (fun b rest g1 g2 g3 => ?_) (fun x hx => ?_) (fun x hx' => ?_) h1, h2⟩
 · rw [hfull]; exact h b rest g1 g2 g3
 · obtain ⟨d, g1, g2⟩ := pick_mem hx
   have := List.all_eq_true.1 hds d g1
   rw [Bool.and_eq_true] at this
   refine ⟨d, by simpa using this.1, g2, ?_⟩
   cases hk : kl.lookup d with
   | none => exact .inl rfl
   | some m =>
    have h3 := this.2
    rw [hk] at h3
    exact .inr (by rw [Nat.eq_of_beq_eq_true h3])
 · have g1 := List.all_eq_true.1 hx x hx'
   obtain ⟨⟨d, t, q⟩, g2, g3⟩ := List.any_eq_true.1 g1
   rw [Bool.and_eq_true] at g3
   obtain ⟨g3, g4⟩ := g3
   have hte : t = x.1 := Nat.eq_of_beq_eq_true g3
   subst hte
   refine ⟨d, q, g2, ?_⟩
   cases hk : kl.lookup d with
   | none => simp only [hk] at g4; cases g4
   | some m =>
    simp only [hk] at g4
    rw [Nat.eq_of_beq_eq_true g4]
theorem ck_st (j : Nat) {kl : List (Nat × Nat)} {K : Ctx} {ops : Array Oper} {M : (Nat → Bool) → List (List PV)} {base : List (Nat × PV)} {Q : Exit → GS → Prop} {i t : Nat} {es es' : List (Nat × Nat × PV)} {p : PV} {full : List (Nat × PV) → List (Nat × PV)}
 (h : ∀ (b : Nat → Bool) (rest : List (Nat × PV)), b i = false → (∀ j ∈ depsOf ops i, b j = true) → Valid ops b → GOps K ops (fun e s' => e = .normal ∧ s' = ⟨(t, p) :: full rest, M (upd b i)⟩) [i] ⟨full rest, M b⟩)
 (hc : CGk kl K ops M base Q j es') (hj : i + 1 = j := by rfl) (hes : es ++ [(i, t, p)] = es' := by exact J10) : CFk kl K ops M base Q i es full := ck_step j (r := [(t, p)]) (xt := []) h hc hj hes rfl
theorem ck_tk (j u : Nat) {kl : List (Nat × Nat)} {K : Ctx} {ops : Array Oper} {M : (Nat → Bool) → List (List PV)} {base : List (Nat × PV)} {Q : Exit → GS → Prop} {i t : Nat} {es es' : List (Nat × Nat × PV)} {p q : PV} {full : List (Nat × PV) → List (Nat × PV)}
 (h : ∀ (b : Nat → Bool) (rest : List (Nat × PV)), b i = false → (∀ j ∈ depsOf ops i, b j = true) → Valid ops b → GOps K ops (fun e s' => e = .normal ∧ s' = ⟨(t, p) :: (u, q) :: full rest, M (upd b i)⟩) [i] ⟨full rest, M b⟩)
 (hc : CGk kl K ops M base Q j es') (hj : i + 1 = j := by rfl) (hes : es ++ [(i, t, p)] = es' := by exact J10)
 (hx : (([(u, q)] : List (Nat × PV)).all fun y => es.any fun e => Nat.beq e.2.1 y.1 && (match kl.lookup e.1 with | some m => Nat.beq m i | none => false)) = true := by rfl) : CFk kl K ops M base Q i es full := ck_step j (r := [(t, p)]) (xt := [(u, q)]) h hc hj hes hx
theorem ck_act (j : Nat) {kl : List (Nat × Nat)} {K : Ctx} {ops : Array Oper} {M : (Nat → Bool) → List (List PV)} {base : List (Nat × PV)} {Q : Exit → GS → Prop} {i : Nat} {es : List (Nat × Nat × PV)} {full : List (Nat × PV) → List (Nat × PV)}
 (h : ∀ (b : Nat → Bool) (rest : List (Nat × PV)), b i = false → (∀ j ∈ depsOf ops i, b j = true) → Valid ops b → GOps K ops (fun e s' => e = .normal ∧ s' = ⟨full rest, M (upd b i)⟩) [i] ⟨full rest, M b⟩)
 (hc : CGk kl K ops M base Q j es) (hj : i + 1 = j := by rfl) : CFk kl K ops M base Q i es full := ck_step j (r := []) (xt := []) h (by simpa using hc) hj rfl rfl
theorem ck_atk (j u : Nat) {kl : List (Nat × Nat)} {K : Ctx} {ops : Array Oper} {M : (Nat → Bool) → List (List PV)} {base : List (Nat × PV)} {Q : Exit → GS → Prop} {i : Nat} {es : List (Nat × Nat × PV)} {q : PV} {full : List (Nat × PV) → List (Nat × PV)}
 (h : ∀ (b : Nat → Bool) (rest : List (Nat × PV)), b i = false → (∀ j ∈ depsOf ops i, b j = true) → Valid ops b → GOps K ops (fun e s' => e = .normal ∧ s' = ⟨(u, q) :: full rest, M (upd b i)⟩) [i] ⟨full rest, M b⟩)
 (hc : CGk kl K ops M base Q j es) (hj : i + 1 = j := by rfl)
 (hx : (([(u, q)] : List (Nat × PV)).all fun y => es.any fun e => Nat.beq e.2.1 y.1 && (match kl.lookup e.1 with | some m => Nat.beq m i | none => false)) = true := by rfl) : CFk kl K ops M base Q i es full := ck_step j (r := []) (xt := [(u, q)]) h (by simpa using hc) hj rfl hx
theorem g_ck (kl : List (Nat × Nat)) {K : Ctx} {id : Nat} {ops : Array Oper} {Q : Exit → GS → Prop} {slots base : List (Nat × PV)} {mem : List (List PV)} (dsts : List Nat) (M : (Nat → Bool) → List (List PV)) (hM : M noB = mem) (hc : CGk kl K ops M base Q 0 [])
 (hbase : (slots.filter fun x => !dsts.contains x.1) = base := by exact J2)
 (hm : K.P.follows .mixedOrders = true := by kernel_rfl) (hdep : ((List.range ops.size).all fun i => (depsOf ops i).all fun d => Nat.blt d i) = true := by kernel_rfl) : G K (.region id ops true) Q ⟨slots, mem⟩ := by
 obtain ⟨fs, hc, hnd, hdis, hfi, hq⟩ := hc
 refine G_confK ops.size rfl hm (Le_slots (s' := ⟨base, M noB⟩) hM fun t p hp => .inl ?_) hc hnd hdis (fun i hi d hd => ?_) (Le_slots (s' := ⟨(fs.filter fun x => (kl.lookup x.1).isNone).map (·.2) ++ base, M (allB ops.size)⟩) rfl fun t p hp => .inl (alive_end hnd hfi t p hp hdis)) hfi hq
 · subst hbase
   exact filter_lookup (fun k => !dsts.contains k) _ t p hp
 · have h1 := List.all_eq_true.1 hdep i (List.mem_range.2 hi)
   have h2 := List.all_eq_true.1 h1 d hd
   simpa using h2
end
section
def inScp (Q : Exit → GS → Prop) : Exit → GS → Prop
 | .goto _, _ => False
 | e, s => Q e s
theorem G_scope {K : Ctx} {c : Code} {Q : Exit → GS → Prop} {s : GS} (h : G K c (inScp Q) s) : G K (.scope c) Q s := by
 intro a w ha
 refine wp_scope_straight (wp_mono (h a w ha) ?_)
 rintro e a' w' ⟨s', q, r⟩
 cases e with
 | normal => exact ⟨s', q, r⟩
 | exit id' => exact ⟨s', q, r⟩
 | goto l => exact q.elim
 | ret => exact ⟨s', q, r⟩
 | panic ch => exact ⟨s', q, r⟩
 | outgrown => exact ⟨s', q, r⟩
theorem G_label {K : Ctx} {l : Nat} {Q : Exit → GS → Prop} {s : GS} (h : Q .normal s) : G K (.label l) Q s := fun a w ha => wp_label ⟨s, h, ha⟩
section
variable {Q : Exit → GS → Prop} {s : GS} {id : Nat}
end
end
section
def chain1 (v : Value) : List PanicEntry := [{ v := v, recovered := false }]
def GX (P : Program) (f : FuncId) (args : List PV) (mem : List (List PV)) (R : PV → List (List PV) → Prop) (RX : Value → List (List PV) → Prop) : Prop :=
 ∀ (w : World) (S : Reg) (O : Owns) (m : List Nat) (vals : Array Value), Env S O w S O m mem w → vals.size = args.length →
  (∀ (i : Nat) p v, args[i]? = some p → vals[i]? = some v → RP w S O m [i, 0] p v) →
  Calls P f vals w (fun e w' => (∃ v r mem' S' O' m', e = .returned v ∧ R r mem' ∧ Env S O w S' O' m' mem' w' ∧ m <+: m' ∧ RP w' S' O' m' [2] r v) ∨
   ∃ v mem' S' O' m', e = .panicked (chain1 v) ∧ RX v mem' ∧ Env S O w S' O' m' mem' w' ∧ m <+: m')
def FinX (P : Program) (rvs : List ResultVar) (k : Nat) (R : PV → List (List PV) → Prop) (RX : Value → List (List PV) → Prop) : Exit → GS → Prop
 | .panic ch, s => ∃ v mem', ch = chain1 v ∧ k ≤ mem'.length ∧ MSub mem'.length s.mem mem' ∧ RX v mem'
 | e, s => Fin P rvs k R e s
theorem gx_body {P : Program} {f : FuncId} {fn : Func} {c : Code} {args : List PV} {mem : List (List PV)} {R : PV → List (List PV) → Prop} {RX : Value → List (List PV) → Prop} (n : Nat) (rvs : List ResultVar) (slots : List (Nat × PV)) (k : Nat)
 (hf : P.funcs[f]? = some fn) (hb : fn.body = some c) (hn : fn.ntmps = n) (hal : args.length ≤ n) (hres : fn.results = rvs.toArray) (hsl : (List.range args.length).zip args = slots) (hk : mem.length = k)
 (h : ∀ S0 O0 w0 m0, m0.length = k → G ⟨P, n, S0, O0, w0, m0, [], []⟩ c (FinX P rvs k R RX) ⟨slots, mem⟩) : GX P f args mem R RX := by
 subst hsl
 subst hk
 intro w S O m vals henv hvs hargs
 refine calls_of_wp hf hb ?_
 have hrep : At ⟨P, n, S, O, w, m, [], []⟩ ⟨(List.range args.length).zip args, mem⟩ { tmps := vals ++ Array.replicate (fn.ntmps - vals.size) undef, defers := [] } w := by
  refine ⟨S, O, m, henv, rfl, by simp [hn]; omega, List.prefix_rfl, fun i p hp => ?_⟩
  have hp' : args[i]? = some p := by rw [← lookup_zip]; exact hp
  have hlt : i < args.length := (lG hp')
  have hlt2 : i < vals.size := by omega
  rw [Array.getD_eq_getD_getElem?, Array.getElem?_append_left hlt2, Array.getElem?_eq_getElem hlt2]
  exact hargs i p _ hp' (Array.getElem?_eq_getElem hlt2)
 refine wp_mono (h S O w m henv.mlen _ _ hrep) ?_
 have key : ∀ e a' w' s', (e = .normal ∨ e = .ret) → Fin P rvs mem.length R e s' → At ⟨P, n, S, O, w, m, [], []⟩ s' a' w' → a'.defers = [] ∧ ∃ v, (results fn a'.tmps).run P w' = .ok v w' ∧ ∃ v' r mem' S' O' m', (Ending.returned v : Ending) = .returned v' ∧ R r mem' ∧ Env S O w S' O' m' mem' w' ∧ m <+: m' ∧ RP w' S' O' m' [2] r v' := by
  rintro e a' w' s' he ⟨-, hfin⟩ ⟨S', O', m', hr'⟩
  have hex : ∃ v r mem' O'', (results fn a'.tmps).run P w' = .ok v w' ∧ R r mem' ∧ Env S O w S' O'' (m'.take mem'.length) mem' w' ∧ m <+: m'.take mem'.length ∧ RP w' S' O'' (m'.take mem'.length) [2] r v := by
   rcases hfin with ⟨ps, mem', hL, hlen, hms, hrf, hR⟩ | ⟨t, k, xs, mem', hrv, hst, hlen, hms, hR⟩
   · obtain ⟨v, hrun, hrp⟩ := hL.run hr' hres O'
     exact ⟨v, _, mem', O', hrun, hR, hr'.env.less hms, List.prefix_take_iff.2 ⟨hr'.pre, by rw [henv.mlen]; exact hlen⟩, hrp.take mem'.length hrf⟩
   · have hsl := hr'.slots t _ hst
     have hres' : fn.results = #[.tmp t] := by rw [hres, hrv]
     refine ⟨a'.tmps.getD t undef, _, mem', reo O' (renTR t), by simp [results, hres'], hR, (hr'.env.less hms).relab (renTR t) (fun _ => if_neg (by simp)) (fun i j q => if_neg (end_ne q j i t)),
      List.prefix_take_iff.2 ⟨hr'.pre, by rw [henv.mlen]; exact hlen⟩, (hsl.move (l' := [2]) rfl (renTR t) (by simp [renTR])).take _ rfl⟩
  obtain ⟨v, r, mem', O'', hrun, hR, henv', hpre, hrp'⟩ := hex
  exact ⟨hr'.defers, v, hrun, v, r, mem', S', O'', _, rfl, hR, henv', hpre, hrp'⟩
 rintro e a' w' ⟨s', hq, hat⟩
 cases e with
 | normal => obtain ⟨h1, v, h2, h3⟩ := key _ a' w' s' (.inl rfl) hq hat; exact ⟨h1, v, h2, .inl h3⟩
 | ret => obtain ⟨h1, v, h2, h3⟩ := key _ a' w' s' (.inr rfl) hq hat; exact ⟨h1, v, h2, .inl h3⟩
 | panic ch =>
  obtain ⟨v, mem', rfl, hlen, hms, hR⟩ := hq
  obtain ⟨S', O', m', hr'⟩ := hat
  exact ⟨hr'.defers, .inr ⟨v, mem', S', O', _, rfl, hR, hr'.env.less hms, List.prefix_take_iff.2 ⟨hr'.pre, by rw [henv.mlen]; exact hlen⟩⟩⟩
 | exit id => obtain ⟨he, _⟩ := hq; simp at he
 | goto l => obtain ⟨he, _⟩ := hq; simp at he
 | outgrown => obtain ⟨he, _⟩ := hq; simp at he
def Px (P : Program) (f : FuncId) (args : List D) (out : PV ⊕ Value) : Prop := Fok P f ∧ GX P f (args.map .d) [] (fun q m => out = .inl q ∧ m = []) (fun v m => out = .inr v ∧ m = [])
theorem Px.inl {P : Program} {f : FuncId} {args : List D} {r : PV} (h : Px P f args (.inl r)) : Pf P f args r :=
 ⟨h.1, fun w S O m vals h1 h2 h3 => (h.2 w S O m vals h1 h2 h3).mono fun _ _ hx => by
  rcases hx with ⟨v, q, mem', S', O', m', e, ⟨g, hm⟩, rest⟩ | ⟨v, mem', S', O', m', e, ⟨g, _⟩, _⟩
  · injection g with g
    exact ⟨v, q, mem', S', O', m', e, ⟨g.symm, hm⟩, rest⟩
  · cases g⟩
theorem px_body {P : Program} {f : FuncId} {fn : Func} {c : Code} {args : List D} {out : PV ⊕ Value} {n : Nat} {rvs : List ResultVar} (slots : List (Nat × PV)) (hf : P.funcs[f]? = some fn) (hn : fn.ntmps = n) (hres : fn.results = rvs.toArray)
 (h : ∀ S0 O0 w0 m0, m0.length = 0 → G ⟨P, n, S0, O0, w0, m0, [], []⟩ c (FinX P rvs 0 (fun q m => out = .inl q ∧ m = []) (fun v m => out = .inr v ∧ m = [])) ⟨slots, []⟩)
 (hb : fn.body = some c := by rfl) (hnm : (fn.name == "runtime.NumGoroutine") = false := by rfl) (hal : args.length ≤ n := by exact oR rfl) (hsl : (List.range (args.map PV.d).length).zip (args.map PV.d) = slots := by rfl) : Px P f args out :=
 ⟨⟨fn, hf, by rw [hb]; rfl, hnm⟩, gx_body n rvs slots 0 hf hb hn (by simpa using hal) hres hsl rfl h⟩
section
variable {K : Ctx} {y : Code} {Q : Exit → GS → Prop} {s : GS} {id : Nat} {ch : List PanicEntry} {P : Program} {rvs : List ResultVar} {k : Nat} {R : PV → List (List PV) → Prop} {RX : Value → List (List PV) → Prop}
theorem fx_normal (h : Fin P rvs k R .normal s) : FinX P rvs k R RX .normal s := h
theorem fx_panic {v : Value} (h : RX v []) : FinX P rvs 0 R RX (.panic (chain1 v)) s := ⟨v, [], rfl, Nat.le_refl _, .nil, h⟩
end
theorem g_loopp {K : Ctx} {c : Code} {Q : Exit → GS → Prop} {s : GS} {α : Type} (St : α → GS) (mu : α → Nat) (I : α → Prop) (x0 : α) (h0 : I x0)
 (hr : ∀ x, I x → ∀ Q' : Exit → GS → Prop, (∀ s' x', I x' → mu x' < mu x → Le K s' (St x') → Q' .normal s') → (∀ id s', Q (.exit id) s' → Q' (.exit id) s') → (∀ s', Q .ret s' → Q' .ret s') → (∀ ch s', Q (.panic ch) s' → Q' (.panic ch) s') → G K c Q' (St x))
 (hs : Le K s (St x0)) : G K (.loop c) Q s :=
 G_loop St mu I x0 h0 hs (fun x hx => hr x hx _ (fun s' x' h1 h2 h3 => ⟨x', h1, h2, h3⟩) (fun _ _ h => h) (fun _ h => h) (fun _ _ h => h))
theorem Rep.afterP {K : Ctx} {S : Reg} {O : Owns} {m : List Nat} {s : GS} {a : Act} {w w' : World} (h : Rep K S O m s a w) {S' : Reg} {O' : Owns} {m' : List Nat} (he : Env S noOwns w S' O' m' [] w') : At K s a w' := by
 let O'' : Owns := fun b => if b < w.heap.size then O b else O' b
 have hO1 : ∀ b, b < w.heap.size → O'' b = O b := fun b hb => if_pos hb
 have hO2 : ∀ b, ¬ b < w.heap.size → O'' b = O' b := fun b hb => if_neg hb
 have hE := he.ext
 have hold : ∀ b, b < w.heap.size → w'.heap[b]? = w.heap[b]? := fun b hb => he.old b hb rfl
 have hk : ∀ (b : Nat) l t', O b = some (l, t') → O'' b = some (l, t') := fun b l t' hb => by rw [hO1 b (h.env.olt b l t' hb)]; exact hb
 refine ⟨S', O'', m, ⟨⟨h.env.ext.trans hE h.env.s0, fun b hb hO => ?_, fun b l t' o hb hO hot => ?_, fun b o hb => he.s0 b o (h.env.s0 b o hb), fun b o hb => ?_, fun b o l t' hS hO => ?_, he.slt, fun b l t' hO => ?_, fun b l t' hO => ?_, h.env.mlen, fun i cs r' hi hr' hne' => ?_⟩, h.defers, h.size, h.pre, fun i p hp => ?_⟩⟩
 · rw [hold b (Nat.lt_of_lt_of_le hb h.env.ext.size)]; exact h.env.old b hb hO
 · have : w'.cell? ⟨b, o, none⟩ = w.cell? ⟨b, o, none⟩ := by simp only [World.cell?, hold b (Nat.lt_of_lt_of_le hb h.env.ext.size)]
   rw [this]; exact h.env.part b l t' o hb hO hot
 · rcases he.snew b o hb with h1 | h1 | ⟨_, _, h1, _⟩
   · exact h.env.snew b o h1
   · exact .inr (.inl (Nat.le_trans h.env.ext.size h1))
   · cases h1
 · by_cases hb : b < w.heap.size
   · rw [hO1 b hb] at hO
     rcases he.snew b o hS with h1 | h1 | ⟨_, _, h1, _⟩
     · exact h.env.sown b o l t' h1 hO
     · omega
     · cases h1
   · rw [hO2 b hb] at hO
     exact he.sown b o l t' hS hO
 · by_cases hb : b < w.heap.size
   · exact Nat.lt_of_lt_of_le hb hE.size
   · rw [hO2 b hb] at hO; exact he.olt b l t' hO
 · by_cases hb : b < w.heap.size
   · rw [hO1 b hb] at hO; exact h.env.onew b l t' hO
   · exact .inl (Nat.le_trans h.env.ext.size (Nat.le_of_not_lt hb))
 · obtain ⟨g1, g2⟩ := h.env.mem i cs r' hi hr' hne'
   exact ⟨hk _ _ _ g1, g2.frame (hold _ (h.env.olt _ _ _ g1)) hE he.s0 (fun j b t' q hb => hk b _ t' hb) (fun _ _ h => h)⟩
 · exact (h.slots i p hp).ext hE he.s0 (fun b t' q hb => hk b _ t' hb) (fun _ _ h => h)
theorem GOps_callp {K : Ctx} {ops : Array Oper} {Q : Exit → GS → Prop} {s : GS} {i : Nat} {rest : List Nat} {o : Oper} {fx : Operand} {xs : List Operand} {tys : Array TypeId} {f : FuncId} {fn : Func} {fa fc ds : List D} {u : Value}
 (ho : ops[i]? = some o) (hop : o.op = .call ⟨.value fx, xs.toArray, tys⟩) (hg : o.guard = none)
 (hfx : (s.ev fx).callee = some (f, fa, fc)) (hxs : PV.toDs (xs.map s.ev) = some ds)
 (hf : K.P.funcs[f]? = some fn) (hb : fn.body.isSome = true) (hn : (fn.name == "runtime.NumGoroutine") = false)
 (hc : Px K.P f (fa ++ ds ++ fc) (.inr u)) (h : Q (.panic (chain1 u)) s) : GOps K ops Q (i :: rest) s := by
 rintro a w ⟨S, O, m, hr⟩
 obtain ⟨l, hrf⟩ := hr.ev fx
 obtain ⟨vf, vc, hvf, hs1, hs2, g1, g2⟩ := hrf.callee hfx
 obtain ⟨hlen, hrd⟩ := evs_rd hr xs hxs
 have hrun : (execOp a.eval o).run K.P w = .ok (.enter f (vf ++ (xs.map a.eval).toArray ++ vc)) w := by
  simp only [execOp, hop]
  simp [resolve, Deferred.ofValue, hvf, invoke, run_callFunc hf hb hn]
 simp only [wpOps, ho, Region.wanted, hg, if_true]
 refine .inl ?_
 simp only [Oper.wp, hrun, Oper.upon_enter]
 have hcall := hc.2 w S noOwns [] (vf ++ (xs.map a.eval).toArray ++ vc) hr.env.entry (by simp [hs1, hs2, hlen]) (fun j p v hp hv => by
  rw [List.getElem?_map] at hp
  cases hj : (fa ++ ds ++ fc)[j]? with
  | none => rw [hj] at hp; cases hp
  | some d =>
   simp only [hj, Option.map_some, Option.some.injEq] at hp; subst hp
   refine .d _ _ _ ?_
   by_cases h1 : j < fa.length
   · rw [List.append_assoc, List.getElem?_append_left h1] at hj
     rw [Array.append_assoc, Array.getElem?_append_left (by omega)] at hv
     exact g1 j d v hj hv
   · by_cases h2 : j < fa.length + ds.length
     · rw [List.getElem?_append_left (by simp; omega), List.getElem?_append_right (by omega)] at hj
       rw [Array.getElem?_append_left (by simp; omega), Array.getElem?_append_right (by omega), hs1] at hv
       exact hrd _ d v hj (by simpa using hv)
     · rw [List.getElem?_append_right (by simp; omega)] at hj
       rw [Array.getElem?_append_right (by simp; omega)] at hv
       refine g2 _ d v hj ?_
       rw [← hv]; congr 1; simp; omega)
 refine Calls.mono hcall ?_
 rintro e w' (⟨v, r, mem', S', O', m', rfl, ⟨hR, _⟩, _⟩ | ⟨v, mem', S', O', m', rfl, ⟨hR, rfl⟩, henv, _⟩)
 · cases hR
 · injection hR with hR
   subst hR
   exact ⟨s, h, hr.afterP henv⟩
end
section
def renN (sel : List Nat) (n : Nat) (b : Nat) : Nat := if b < sel.length then sel.getD b 0 else b - sel.length + n
theorem Rep.aftermn {K : Ctx} {S : Reg} {O : Owns} {m : List Nat} {s : GS} {a : Act} {w w' : World} (h : Rep K S O m s a w) {sel m0 ext : List Nat} (hnd : sel.Nodup) (hsel : ∀ b ∈ sel, b < s.mem.length)
 (hm0 : m0 = sel.map (fun b => m.getD b 0)) {S' : Reg} {O' : Owns} {mem' : List (List PV)} (he : Env S (fwd sel O) w S' O' (m0 ++ ext) mem' w')
 {t : Nat} (ht : t < K.n) {r : PV} {v : Value} (hr : RP w' S' O' (m0 ++ ext) [2] r v) :
 At K (GS.set ⟨s.slots, setAll s.mem sel ((mem'.take sel.length).map (PV.rens (renN sel s.mem.length))) ++ (mem'.drop sel.length).map (PV.rens (renN sel s.mem.length))⟩ t (r.ren (renN sel s.mem.length))) (a.put (some t) v) w' := by
 have hml : mem'.length = sel.length + ext.length := by rw [← he.mlen, hm0]; simp
 have hm0l : m0.length = sel.length := by rw [hm0]; simp
 have hsm := h.env.mlen
 have hmget : ∀ (b x : Nat), sel[b]? = some x → m0[b]? = m[x]? := fun b x hb => by
  have hx : x < m.length := by rw [h.env.mlen]; exact hsel x (mG hb)
  rw [hm0, List.getElem?_map, hb, Option.map_some, List.getD_eq_getElem?_getD, gE hx]; rfl
 have hm1 : ∀ (b r : Nat), m[b]? = some r → (m ++ ext)[b]? = some r := fun b r hb => by rw [List.getElem?_append_left (lG hb)]; exact hb
 have hfs : ∀ b, b < sel.length → renN sel s.mem.length b = sel.getD b 0 := fun b hb => if_pos hb
 have hfe : ∀ b, ¬ b < sel.length → renN sel s.mem.length b = b - sel.length + s.mem.length := fun b hb => if_neg hb
 have hfm : ∀ (b r : Nat), (m0 ++ ext)[b]? = some r → (m ++ ext)[renN sel s.mem.length b]? = some r := fun b r hb => by
  by_cases hlt : b < sel.length
  · rw [List.getElem?_append_left (by omega)] at hb
    have hs : sel[b]? = some sel[b] := gE hlt
    have : sel.getD b 0 = sel[b] := by rw [List.getD_eq_getElem?_getD, hs]; rfl
    rw [hfs b hlt, this]
    exact hm1 _ _ (by rw [← hmget b _ hs]; exact hb)
  · rw [List.getElem?_append_right (by omega), hm0l] at hb
    rw [hfe b hlt, List.getElem?_append_right (by omega), hsm, Nat.add_sub_cancel]
    exact hb
 have hE := he.ext
 let pass : Nat → Prop := fun b => (fwd sel O b).isSome = true ∨ w.heap.size ≤ b
 have hdec : ∀ b, pass b ∨ ¬ pass b := fun b => Classical.em _
 let O'' : Owns := fun b => if (fwd sel O b).isSome = true ∨ w.heap.size ≤ b then reo O' (bwd (renN sel s.mem.length) t) b else O b
 have hOp : ∀ b, pass b → O'' b = reo O' (bwd (renN sel s.mem.length) t) b := fun b hb => if_pos hb
 have hOn : ∀ b, ¬ pass b → O'' b = O b := fun b hb => if_neg hb
 have hO'p : ∀ (b : Nat) l t', O' b = some (l, t') → pass b := fun b l t' hb => by
  rcases he.onew b l t' hb with h1 | ⟨l0, t0, h1, _⟩
  · exact .inr h1
  · exact .inl (by rw [h1]; rfl)
 have hold : ∀ b, ¬ pass b → w'.heap[b]? = w.heap[b]? := fun b hb => by
  refine he.old b (Nat.lt_of_not_le fun h => hb (.inr h)) ?_
  cases hf : fwd sel O b with
  | none => rfl
  | some x => exact absurd (.inl (by rw [hf]; rfl)) hb
 have hkeep : ∀ (b : Nat) l t' , O b = some (l, t') → (∀ q x, x ∈ sel → l ≠ q ++ [x, 1]) → O'' b = some (l, t') := fun b l t' hb hl => by
  rw [hOn b]
  · exact hb
  · rintro (h1 | h1)
    · rw [fwd_none hb hl] at h1; cases h1
    · exact absurd (h.env.olt b l t' hb) (Nat.not_lt_of_le h1)
 have hback : ∀ (l : List Nat) (q : PV) (u : Value) (l' : List Nat), (∀ q', bwd (renN sel s.mem.length) t (q' ++ l) = q' ++ l') → RP w' S' O' (m0 ++ ext) l q u → RP w' S' O'' (m ++ ext) l' (q.ren (renN sel s.mem.length)) u := fun l q u l' hb hq =>
  (hq.ren (renN sel s.mem.length) hfm).frame l' (Ext.refl _ _) (fun _ _ h => h) (fun b t' q' hO => by rw [hOp b (hO'p b _ t' hO), reo_of hO, hb]) (fun _ _ h => h)
 have hstay : ∀ (l : List Nat) (q : PV) (u : Value), (∀ q' q'' x, x ∈ sel → q' ++ l ≠ q'' ++ [x, 1]) → RP w S O m l q u → RP w' S' O'' (m ++ ext) l q u := fun l q u hl hq =>
  hq.ext hE he.s0 (fun b t' q' hO => hkeep b _ t' hO (fun q'' x hx => hl q' q'' x hx)) hm1
 have henv : Env K.S0 K.O0 K.w0 S' O'' (m ++ ext) (setAll s.mem sel ((mem'.take sel.length).map (PV.rens (renN sel s.mem.length))) ++ (mem'.drop sel.length).map (PV.rens (renN sel s.mem.length))) w' := by
  refine ⟨h.env.ext.trans hE h.env.s0, fun b hb hO => ?_, fun b l t' o hb hO hot => ?_, fun b o hb => he.s0 b o (h.env.s0 b o hb), fun b o hb => ?_, fun b o l t' hS hO => ?_, he.slt, fun b l t' hO => ?_, fun b l t' hO => ?_, by rw [List.length_append, List.length_append, setAll_length, List.length_map, List.length_drop, hml, hsm]; omega, fun i cs r' hi hr' hne' => ?_⟩
  · rw [hold b, h.env.old b hb hO]
    rintro (h1 | h1)
    · cases hf : fwd sel O b with
      | none => rw [hf] at h1; cases h1
      | some x =>
       obtain ⟨l', t'⟩ := x
       obtain ⟨q, x, h2, _, _⟩ := fwd_some hf
       rcases h.env.onew b _ _ h2 with h3 | ⟨l0, t0, h3, _⟩
       · omega
       · rw [hO] at h3; cases h3
    · have := h.env.ext.size; omega
  · have hcell : w'.cell? ⟨b, o, none⟩ = w.cell? ⟨b, o, none⟩ := by
     cases hf : fwd sel O b with
     | none => simp only [World.cell?, hold b (by
      rintro (h1 | h1)
      · rw [hf] at h1; cases h1
      · have := h.env.ext.size; omega)]
     | some x =>
      obtain ⟨l', t''⟩ := x
      obtain ⟨q, x, h2, _, _⟩ := fwd_some hf
      refine he.part b l' t'' o (Nat.lt_of_lt_of_le hb h.env.ext.size) hf ?_
      rcases h.env.onew b _ _ h2 with h3 | ⟨l0, t0, h3, h4⟩
      · omega
      · rw [hO] at h3; injection h3 with h3; injection h3 with _ h3; omega
    rw [hcell]; exact h.env.part b l t' o hb hO hot
  · rcases he.snew b o hb with h1 | h1 | ⟨l, t', h1, h2⟩
    · exact h.env.snew b o h1
    · exact .inr (.inl (Nat.le_trans h.env.ext.size h1))
    · obtain ⟨q, x, h3, _, _⟩ := fwd_some h1
      rcases h.env.onew b _ _ h3 with h4 | ⟨l0, t0, h4, h5⟩
      · exact .inr (.inl h4)
      · exact .inr (.inr ⟨l0, t0, h4, by omega⟩)
  · rcases hdec b with hp | hp
    · rw [hOp b hp] at hO; obtain ⟨l0, h1, _⟩ := reo_some hO; exact he.sown b o l0 t' hS h1
    · rw [hOn b hp] at hO
      rcases he.snew b o hS with h1 | h1 | ⟨l1, t1, h1, _⟩
      · exact h.env.sown b o l t' h1 hO
      · exact absurd (.inr h1) hp
      · exact absurd (.inl (by rw [h1]; rfl)) hp
  · rcases hdec b with hp | hp
    · rw [hOp b hp] at hO; obtain ⟨l0, h1, _⟩ := reo_some hO; exact he.olt b l0 t' h1
    · rw [hOn b hp] at hO; exact Nat.lt_of_lt_of_le (h.env.olt b l t' hO) hE.size
  · rcases hdec b with hp | hp
    · rw [hOp b hp] at hO
      obtain ⟨l0, h1, _⟩ := reo_some hO
      rcases he.onew b l0 t' h1 with h2 | ⟨l1, t1, h2, h3⟩
      · exact .inl (Nat.le_trans h.env.ext.size h2)
      · obtain ⟨q, x, h4, _, _⟩ := fwd_some h2
        rcases h.env.onew b _ _ h4 with h5 | ⟨l2, t2, h5, h6⟩
        · exact .inl h5
        · exact .inr ⟨l2, t2, h5, by omega⟩
    · rw [hOn b hp] at hO; exact h.env.onew b l t' hO
  · by_cases hin : i < s.mem.length
    case neg =>
     have hge : s.mem.length ≤ i := Nat.le_of_not_lt hin
     rw [List.getElem?_append_right (by rw [setAll_length]; exact hge), setAll_length, List.getElem?_map, List.getElem?_drop] at hi
     rw [List.getElem?_append_right (by rw [hsm]; exact hge), hsm] at hr'
     cases hc : mem'[sel.length + (i - s.mem.length)]? with
     | none => simp [hc] at hi
     | some cs0 =>
      simp only [hc, Option.map_some, Option.some.injEq] at hi; subst hi
      have hmi : (m0 ++ ext)[sel.length + (i - s.mem.length)]? = some r' := by rw [List.getElem?_append_right (by omega), hm0l, Nat.add_sub_cancel_left]; exact hr'
      obtain ⟨g1, g2⟩ := he.mem _ cs0 r' hc hmi (by rintro rfl; exact hne' rfl)
      have hfi : renN sel s.mem.length (sel.length + (i - s.mem.length)) = i := by rw [hfe _ (by omega)]; omega
      refine ⟨?_, g2.to rfl (Ext.refl _ _) (fun _ _ h => h) (by simp [PV.rens_map]) (fun j p hp => ?_) PV.rens_fwd⟩
      · rw [hOp r' (hO'p r' _ _ g1), reo_of g1]
        have := bwd_blk (renN sel s.mem.length) t (sel.length + (i - s.mem.length)) []
        simp only [List.nil_append, hfi] at this; rw [this]
      · rw [PV.rens_get] at hp
        cases hq : cs0[j]? with
        | none => simp [hq] at hp
        | some q =>
         simp only [hq, Option.map_some, Option.some.injEq] at hp; subst hp
         refine ⟨q, rfl, fun u hu => hback [j, sel.length + (i - s.mem.length), 1] q u [j, i, 1] (fun q' => ?_) hu⟩
         have := bwd_blk (renN sel s.mem.length) t (sel.length + (i - s.mem.length)) (q' ++ [j])
         simp only [hfi, List.append_assoc, List.cons_append, List.nil_append] at this
         exact this
    case pos =>
    rw [List.getElem?_append_left (by rw [setAll_length]; exact hin), setAll_get sel _ s.mem hnd (by simp [hml]) hsel] at hi
    rw [List.getElem?_append_left (by rw [hsm]; exact hin)] at hr'
    by_cases his : i ∈ sel
    · rw [if_pos his, List.getElem?_map, List.getElem?_take_of_lt (List.idxOf_lt_length_of_mem his)] at hi
      have hidx : sel[sel.idxOf i]? = some i := by
       rw [gE (List.idxOf_lt_length_of_mem his)]; simp
      cases hc : mem'[sel.idxOf i]? with
      | none => simp [hc] at hi
      | some cs0 =>
       simp only [hc, Option.map_some, Option.some.injEq] at hi; subst hi
       have hlt := List.idxOf_lt_length_of_mem his
       have hmi : (m0 ++ ext)[sel.idxOf i]? = some r' := by rw [List.getElem?_append_left (by omega), hmget _ i hidx]; exact hr'
       obtain ⟨g1, g2⟩ := he.mem _ cs0 r' hc hmi (by rintro rfl; exact hne' rfl)
       have hfi : renN sel s.mem.length (sel.idxOf i) = i := by rw [hfs _ hlt, List.getD_eq_getElem?_getD, hidx]; rfl
       refine ⟨?_, g2.to rfl (Ext.refl _ _) (fun _ _ h => h) (by simp [PV.rens_map]) (fun j p hp => ?_) PV.rens_fwd⟩
       · rw [hOp r' (hO'p r' _ _ g1), reo_of g1]
         have := bwd_blk (renN sel s.mem.length) t (sel.idxOf i) []
         simp only [List.nil_append, hfi] at this; rw [this]
       · rw [PV.rens_get] at hp
         cases hq : cs0[j]? with
         | none => simp [hq] at hp
         | some q =>
          simp only [hq, Option.map_some, Option.some.injEq] at hp; subst hp
          refine ⟨q, rfl, fun u hu => hback [j, sel.idxOf i, 1] q u [j, i, 1] (fun q' => ?_) hu⟩
          have := bwd_blk (renN sel s.mem.length) t (sel.idxOf i) (q' ++ [j])
          simp only [hfi, List.append_assoc, List.cons_append, List.nil_append] at this
          exact this
    · rw [if_neg his] at hi
      obtain ⟨g1, g2⟩ := h.env.mem i cs r' hi hr' hne'
      have hne : ∀ q x, x ∈ sel → [i, 1] ≠ q ++ [x, 1] := fun q x hx heq => by
       have := congrArg (fun l => l.reverse[1]?) heq; simp at this; exact his (this ▸ hx)
      have hnp : ¬ pass r' := by
       rintro (h1 | h1)
       · rw [fwd_none g1 hne] at h1; cases h1
       · exact absurd (h.env.olt _ _ _ g1) (Nat.not_lt_of_le h1)
      refine ⟨hkeep _ _ _ g1 hne, g2.frame (hold _ hnp) hE he.s0 (fun j b t' q' hO => hkeep b _ t' hO (fun q'' x hx heq => ?_)) hm1⟩
      have := congrArg (fun l => l.reverse[1]?) heq; simp at this; exact his (this ▸ hx)
 refine ⟨S', O'', m ++ ext, henv, h.defers, by simp [Act.put, h.size], h.pre.trans (List.prefix_append _ _), fun i p hp => ?_⟩
 rw [getD_put _ _ _ _ (by rw [h.size]; exact ht)]
 rw [GS.get_set] at hp
 by_cases hi : i = t
 · rw [if_pos hi] at hp ⊢; injection hp with hp; subst hp; subst hi
   exact hback [2] r v [i, 0] (bwd_res _ i) hr
 · rw [if_neg hi] at hp ⊢
   refine hstay _ _ _ (fun q' q'' x hx heq => ?_) (h.slots i p hp)
   have := congrArg List.getLast? heq; simp at this
theorem GOps_callmn {K : Ctx} {ops : Array Oper} {Q : Exit → GS → Prop} {s : GS} {i : Nat} {rest : List Nat} {o : Oper} {t : Nat} {fx : Operand} {xs : List Operand} {tys : Array TypeId} {f : FuncId} {fn : Func} {fa fc : List PV}
 {R : PV → List (List PV) → Prop} (sel : List Nat) (args0 : List PV) (mem0 : List (List PV))
 (ho : ops[i]? = some o) (hop : o.op = .call ⟨.value fx, xs.toArray, tys⟩) (hd : o.dst = some t) (hg : o.guard = none)
 (hfx : (s.ev fx).callee' = some (f, fa, fc)) (hargs : PV.copies (fa ++ xs.map s.ev ++ fc) = PV.rens (fun b => sel.getD b 0) args0)
 (hnd : sel.Nodup) (hsel : ∀ b ∈ sel, b < s.mem.length) (hmem : sel.map (fun b => s.mem.getD b []) = mem0.map (PV.rens (fun b => sel.getD b 0)))
 (hra : PV.refsBs sel.length args0 = true) (hrm : mem0.all (PV.refsBs sel.length) = true)
 (hf : K.P.funcs[f]? = some fn) (hb : fn.body.isSome = true) (hn : (fn.name == "runtime.NumGoroutine") = false) (ht : t < K.n)
 (hc : GCall K.P f args0 mem0 R)
 (h : ∀ r mem', R r mem' → GOps K ops Q rest (GS.set ⟨s.slots, setAll s.mem sel ((mem'.take sel.length).map (PV.rens (renN sel s.mem.length))) ++ (mem'.drop sel.length).map (PV.rens (renN sel s.mem.length))⟩ t (r.ren (renN sel s.mem.length)))) :
 GOps K ops Q (i :: rest) s := by
 rintro a w ⟨S, O, m, hr⟩
 obtain ⟨l, hrf⟩ := hr.ev fx
 obtain ⟨vf, vc, hvf, hs1, hs2, g1, g2⟩ := hrf.callee' hfx
 have hrun : (execOp a.eval o).run K.P w = .ok (.enter f (vf ++ (xs.map a.eval).toArray ++ vc)) w := by
  simp only [execOp, hop]
  simp [resolve, Deferred.ofValue, hvf, invoke, run_callFunc hf hb hn]
 simp only [wpOps, ho, Region.wanted, hg, if_true]
 refine .inl ?_
 simp only [Oper.wp, hrun, Oper.upon_enter]
 have hmget : ∀ (b x : Nat), sel[b]? = some x → (sel.map (fun b => m.getD b 0))[b]? = m[x]? := fun b x hb => by
  have hx : x < m.length := by rw [hr.env.mlen]; exact hsel x (mG hb)
  rw [List.getElem?_map, hb, Option.map_some, List.getD_eq_getElem?_getD, gE hx]; rfl
 have hum : ∀ (b r : Nat), b < sel.length → m[sel.getD b 0]? = some r → (sel.map (fun b => m.getD b 0))[b]? = some r := fun b r hb hm => by
  have hs : sel[b]? = some sel[b] := gE hb
  rw [hmget b _ hs]
  rw [List.getD_eq_getElem?_getD, hs] at hm; exact hm
 have hml0 : mem0.length = sel.length := by have := congrArg List.length hmem; simpa using this.symm
 have hentry : Env S (fwd sel O) w S (fwd sel O) (sel.map (fun b => m.getD b 0)) mem0 w := by
  have he := hr.env
  refine ⟨Ext.refl S w, fun _ _ _ => rfl, fun _ _ _ _ _ _ _ => rfl, fun _ _ h => h, fun _ _ h => .inl h, fun b o l t' hS hO => ?_, he.slt, fun b l t' hO => ?_, fun b l t' hO => .inr ⟨l, t', hO, Nat.le_refl _⟩, by simp [hml0], fun j cs r' hj hr' hne' => ?_⟩
  · obtain ⟨q, x, h1, _, _⟩ := fwd_some hO; exact he.sown b o _ t' hS h1
  · obtain ⟨q, x, h1, _, _⟩ := fwd_some hO; exact he.olt b _ t' h1
  · have hjl : j < sel.length := by rw [← hml0]; exact (lG hj)
    have hsj : sel[j]? = some sel[j] := gE hjl
    have hmx : m[sel[j]]? = some r' := by rw [← hmget j _ hsj]; exact hr'
    have hcx : s.mem[sel[j]]? = some (PV.rens (fun b => sel.getD b 0) cs) := by
     have h1 := congrArg (fun l => l[j]?) hmem
     simp only [List.getElem?_map, hsj, hj, Option.map_some, Option.some.injEq] at h1
     have hlt := hsel _ (mG hsj)
     rw [gE hlt, ← h1, List.getD_eq_getElem?_getD, gE hlt]; rfl
    obtain ⟨k1, k2⟩ := he.mem _ _ r' hcx hmx (by rw [PV.rens_map]; simpa using hne')
    have hidx : sel.idxOf sel[j] = j := hnd.idxOf_getElem j hjl
    refine ⟨?_, k2.to rfl (Ext.refl _ _) (fun _ _ h => h) (by simp [PV.rens_map]) (fun jj p hp => ?_) PV.rens_bwd⟩
    · have := fwd_of (sel := sel) (O := O) (r := r') (x := sel[j]) (t := 0) (q := []) (by simpa using k1) (mG hsj)
      simpa [hidx] using this
    · refine ⟨PV.ren (fun b => sel.getD b 0) p, by rw [PV.rens_get, hp]; rfl, fun u h2 => ?_⟩
      have hb2 : PV.refsB sel.length p = true := PV.refsBs_get (List.all_eq_true.1 hrm cs (mG hj)) hp
      have h3 := h2.unren (m0 := sel.map (fun b => m.getD b 0)) (fun b => sel.getD b 0) sel.length hum p hb2 rfl
      refine h3.frame _ (Ext.refl _ _) (fun _ _ h => h) (fun b t' q hO => ?_) (fun _ _ h => h)
      have := fwd_of (sel := sel) (O := O) (r := b) (x := sel[j]) (t := t') (q := q ++ [jj]) (by simpa using hO) (mG hsj)
      simpa [hidx] using this
 have hlen : (fa ++ xs.map s.ev ++ fc).length = args0.length := by have := congrArg List.length hargs; simpa [PV.copies_map, PV.rens_map] using this
 have hcall := hc w S (fwd sel O) (sel.map (fun b => m.getD b 0)) (vf ++ (xs.map a.eval).toArray ++ vc) hentry (by simp at hlen; simp [hs1, hs2]; omega) (fun j p v hp hv => by
  have hb2 : PV.refsB sel.length p = true := PV.refsBs_get hra hp
  have h1 : (PV.copies (fa ++ xs.map s.ev ++ fc))[j]? = some (PV.ren (fun b => sel.getD b 0) p) := by rw [hargs, PV.rens_get, hp]; rfl
  obtain ⟨q, hq, hqe⟩ := PV.copies_getElem? _ _ _ h1
  have hex : ∃ l', RP w S O m l' q v := by
   by_cases h1 : j < fa.length
   · rw [List.append_assoc, List.getElem?_append_left h1] at hq
     rw [Array.append_assoc, Array.getElem?_append_left (by omega)] at hv
     exact g1 j q v hq hv
   · by_cases h2 : j < fa.length + xs.length
     · rw [List.getElem?_append_left (by simp; omega), List.getElem?_append_right (by omega), List.getElem?_map] at hq
       rw [Array.getElem?_append_left (by simp; omega), Array.getElem?_append_right (by omega), hs1] at hv
       cases hx : xs[j - fa.length]? with
       | none => simp [hx] at hq
       | some x => simp [hx] at hq hv; subst hq; subst hv; exact hr.ev x
     · rw [List.getElem?_append_right (by simp; omega)] at hq
       rw [Array.getElem?_append_right (by simp; omega)] at hv
       refine g2 _ q v hq ?_
       rw [← hv]; congr 1; simp; omega
  obtain ⟨l', hl'⟩ := hex
  have h4 : RP w S (fwd sel O) m [j, 0] q.copy v := hl'.copy _ _
  rw [← hqe] at h4
  exact h4.unren (fun b => sel.getD b 0) sel.length hum p hb2 rfl)
 refine Calls.mono hcall ?_
 rintro e w' ⟨v, r, mem', S', O', m', rfl, hR, henv, hm, hres⟩
 obtain ⟨ext, rfl⟩ := hm
 simp only
 rw [hd]
 exact h r mem' hR _ _ (hr.aftermn hnd hsel rfl henv ht hres)
end
end Go.Proofs.Ytklkbfpjimeaoaa.E
