import Derived.Test.YtklkbfpjimeaoaaM8
import Derived.MapKept
/- Contracts of functions. Conditions: none. -/
set_option linter.unusedSimpArgs false
set_option linter.unusedVariables false
namespace Go.Proofs.Ytklkbfpjimeaoaa.E
open Go
section
def depsOf (ops : Array Oper) (i : Nat) : List Nat := match ops[i]? with
 | some o => (o.after.toList.filter fun e => Region.binds .any e).map (·.on)
 | none => []
def upd (b : Nat → Bool) (i : Nat) : Nat → Bool := fun j => cond (Nat.beq j i) true (b j)
def noB : Nat → Bool := fun _ => false
def allB (n : Nat) : Nat → Bool := fun j => Nat.blt j n
def mkS (b : Nat → Bool) (es : List (Nat × Nat × PV)) : List (Nat × PV) := es.map fun x => (x.2.1, cond (b x.1) x.2.2 .undef)
def Valid (ops : Array Oper) (b : Nat → Bool) : Prop := ∀ j, b j = true → ∀ d ∈ depsOf ops j, b d = true
def Stp (K : Ctx) (ops : Array Oper) (M : (Nat → Bool) → List (List PV)) (base : List (Nat × PV)) (i : Nat) (sl r : List (Nat × PV)) : Prop :=
 ∀ (b : Nat → Bool) (rest : List (Nat × PV)), b i = false → (∀ j ∈ depsOf ops i, b j = true) → Valid ops b →
  GOps K ops (fun e s' => e = .normal ∧ s' = ⟨r ++ (sl ++ base ++ rest), M (upd b i)⟩) [i] ⟨sl ++ base ++ rest, M b⟩
inductive Conf (K : Ctx) (ops : Array Oper) (M : (Nat → Bool) → List (List PV)) (base : List (Nat × PV)) : Nat → List (Nat × Nat × PV) → List (Nat × Nat × PV) → Prop
 | done {i : Nat} {es : List (Nat × Nat × PV)} : i = ops.size → Conf K ops M base i es es
 | step {i : Nat} {es fs : List (Nat × Nat × PV)} {sl r : List (Nat × PV)} (hs : Stp K ops M base i sl r) (hsl : ∀ x ∈ sl, ∃ d ∈ depsOf ops i, (d, x) ∈ es) (hc : Conf K ops M base (i + 1) (es ++ r.map fun x => (i, x)) fs) : Conf K ops M base i es fs
variable {K : Ctx} {ops : Array Oper} {base : List (Nat × PV)} {i : Nat} {fs : List (Nat × Nat × PV)}
theorem Conf.le {M : (Nat → Bool) → List (List PV)} {es : List (Nat × Nat × PV)} (h : Conf K ops M base i es fs) : ∃ later, fs = es ++ later := by
 induction h with
 | done _ => exact ⟨[], by simp⟩
 | step _ _ _ ih => obtain ⟨l, h⟩ := ih; exact ⟨_, by rw [h, List.append_assoc]⟩
theorem Conf.idx {M : (Nat → Bool) → List (List PV)} {i0 : Nat} {es : List (Nat × Nat × PV)} (h : Conf K ops M base i0 es fs) : ∀ x ∈ fs, x ∈ es ∨ i0 ≤ x.1 := by
 induction h with
 | done _ => exact fun x hx => .inl hx
 | @step j es fs sl r hs hsl hc ih =>
  intro x hx
  rcases ih x hx with h | h
  · rcases List.mem_append.1 h with h | h
    · exact .inl h
    · obtain ⟨y, _, rfl⟩ := List.mem_map.1 h; exact .inr (Nat.le_refl _)
  · exact .inr (by omega)
theorem Conf.at {M : (Nat → Bool) → List (List PV)} {i0 : Nat} {es : List (Nat × Nat × PV)} (h : Conf K ops M base i0 es fs) (hes : ∀ x ∈ es, x.1 < i0) :
 ∀ i, i0 ≤ i → i < ops.size → ∃ sl r, Stp K ops M base i sl r ∧ (∀ x ∈ r, (i, x) ∈ fs) ∧ (∀ x, (i, x) ∈ fs → x ∈ r) ∧ ∀ x ∈ sl, ∃ d ∈ depsOf ops i, (d, x) ∈ fs := by
 induction h with
 | done h => intro i h1 h2; omega
 | @step j es fs sl r hs hsl hc ih =>
  intro i h1 h2
  have hes' : ∀ x ∈ es ++ r.map (fun x => (j, x)), x.1 < j + 1 := fun x hx => by
   rcases List.mem_append.1 hx with hx | hx
   · have := hes x hx; omega
   · obtain ⟨y, _, rfl⟩ := List.mem_map.1 hx; exact Nat.lt_succ_self _
  by_cases hij : i = j
  · subst hij
    obtain ⟨l, hl⟩ := hc.le
    refine ⟨sl, r, hs, fun x hx => ?_, fun x hx => ?_, fun x hx => ?_⟩
    · rw [hl]; simp only [List.mem_append, List.mem_map]; exact .inl (.inr ⟨x, hx, rfl⟩)
    · rcases hc.idx _ hx with h | h
      · rcases List.mem_append.1 h with h | h
        · have := hes _ h; simp at this
        · obtain ⟨y, hy, he⟩ := List.mem_map.1 h
          injection he with _ he
          exact he ▸ hy
      · simp at h; omega
    · obtain ⟨d, hd, hm⟩ := hsl x hx
      exact ⟨d, hd, by rw [hl]; simp only [List.mem_append]; exact .inl (.inl hm)⟩
  · exact ih hes' i (by omega) h2
theorem key_uniq : ∀ {fs : List (Nat × Nat × PV)}, (fs.map (·.2.1)).Nodup → ∀ {x y : Nat × Nat × PV}, x ∈ fs → y ∈ fs → x.2.1 = y.2.1 → x = y
 | [], _, _, _, h, _, _ => by cases h
 | z :: fs, hn, x, y, hx, hy, he => by
  rw [List.map_cons, List.nodup_cons] at hn
  rcases List.mem_cons.1 hx with rfl | hx'
  · rcases List.mem_cons.1 hy with rfl | hy'
    · rfl
    · exact absurd (List.mem_map.2 ⟨y, hy', he.symm⟩) hn.1
  · rcases List.mem_cons.1 hy with rfl | hy'
    · exact absurd (List.mem_map.2 ⟨x, hx', he⟩) hn.1
    · exact key_uniq hn.2 hx' hy' he
theorem lookup_isSome {l : List (Nat × PV)} {x : Nat × PV} (h : x ∈ l) : ∃ q, l.lookup x.1 = some q := by
 induction l with
 | nil => cases h
 | cons y l ih =>
  obtain ⟨k, q⟩ := y
  rw [List.lookup_cons]
  split
  · exact ⟨_, rfl⟩
  · rcases List.mem_cons.1 h with rfl | h
    · rename_i hb; simp at hb
    · exact ih h
theorem mkS_lookup {b : Nat → Bool} : ∀ {fs : List (Nat × Nat × PV)}, (fs.map (·.2.1)).Nodup → ∀ {i t : Nat} {p : PV}, (i, t, p) ∈ fs → (mkS b fs).lookup t = some (cond (b i) p .undef)
 | [], _, _, _, _, h => by cases h
 | x :: fs, hn, i, t, p, h => by
  rw [List.map_cons, List.nodup_cons] at hn
  simp only [mkS, List.map_cons, List.lookup_cons]
  rcases List.mem_cons.1 h with rfl | h
  · simp
  · have hne : (t == x.2.1) = false := by
     have : t ≠ x.2.1 := by rintro rfl; exact hn.1 (List.mem_map.2 ⟨_, h, rfl⟩)
     simpa using this
    rw [hne]
    exact mkS_lookup hn.2 h
theorem mkS_none {b : Nat → Bool} : ∀ {fs : List (Nat × Nat × PV)} {t : Nat}, t ∉ fs.map (·.2.1) → (mkS b fs).lookup t = none
 | [], _, _ => rfl
 | x :: fs, t, h => by
  simp only [List.map_cons, List.mem_cons, not_or] at h
  have hne : (t == x.2.1) = false := by simpa using h.1
  simp only [mkS, List.map_cons, List.lookup_cons, hne]
  exact mkS_none h.2
theorem lookup_append (l m : List (Nat × PV)) (t : Nat) : (l ++ m).lookup t = (l.lookup t).or (m.lookup t) := by
 induction l with
 | nil => simp
 | cons x l ih =>
  obtain ⟨k, p⟩ := x
  simp only [List.cons_append, List.lookup_cons]
  split
  · simp
  · exact ih
theorem lookup_mem' : ∀ (l : List (Nat × PV)) (t : Nat) (p : PV), l.lookup t = some p → (t, p) ∈ l
 | [], _, _, h => by cases h
 | (k, q) :: l, t, p, h => by
  rw [List.lookup_cons] at h
  split at h
  · rename_i hb
    injection h with h
    have := eq_of_beq hb
    subst this; subst h; simp
  · exact List.mem_cons_of_mem _ (lookup_mem' l t p h)
theorem Le_slots {s s' : GS} (hm : s'.mem = s.mem) (h : ∀ t p, s'.get t = some p → s.get t = some p ∨ p = .undef) : Le K s s' := by
 rintro a w ⟨S, O, m, hr⟩
 refine ⟨S, O, m, hm ▸ hr.env, hr.defers, hr.size, hr.pre, fun t p hp => ?_⟩
 rcases h t p hp with h | rfl
 · exact hr.slots t p h
 · exact .undef _ _
theorem beq_no {j : Nat} (h : ¬ j = i) : Nat.beq j i = false := by
 cases hb : Nat.beq j i with
 | false => rfl
 | true => exact absurd (Nat.eq_of_beq_eq_true hb) h
theorem beq_yes (j : Nat) : Nat.beq j j = true := Nat.beq_refl j
def bOf (listed : Array Bool) : Nat → Bool := fun j => listed.getD j false
variable {listed : Array Bool}
theorem bOf_set (hi : i < listed.size) : bOf (listed.setIfInBounds i true) = upd (bOf listed) i := by
 funext j
 unfold bOf upd
 by_cases hj : j = i
 · subst hj
   rw [beq_yes]; simp [Array.getD, hi]
 · have : Nat.beq j i = false := beq_no hj
   rw [this]
   simp only [cond_false, Array.getD_eq_getD_getElem?]
   rw [Array.getElem?_setIfInBounds_ne (Ne.symm hj)]
def open_ (listed : Array Bool) : Nat := (listed.toList.filter (!·)).length
theorem open_set (hi : i < listed.size) (hf : listed.getD i true = false) : open_ (listed.setIfInBounds i true) + 1 = open_ listed := by
 have key : ∀ (l : List Bool) (i : Nat), l[i]? = some false → ((l.set i true).filter (!·)).length + 1 = (l.filter (!·)).length := by
  intro l
  induction l with
  | nil => intro i h; simp at h
  | cons x l ih =>
   intro i h
   cases i with
   | zero => simp at h; subst h; simp
   | succ i =>
    have := ih i (by simpa using h)
    rw [List.set_cons_succ, List.filter_cons, List.filter_cons]
    split
    · rw [List.length_cons, List.length_cons]; omega
    · exact this
 unfold open_
 rw [show (listed.setIfInBounds i true).toList = listed.toList.set i true by simp]
 refine key _ i ?_
 have hl : listed[i]? = some listed[i] := Array.getElem?_eq_getElem hi
 rw [Array.getD_eq_getD_getElem?, hl] at hf
 rw [Array.getElem?_toList, hl]
 simpa using hf
theorem open_zero (h : open_ listed = 0) (i : Nat) (hi : i < listed.size) : listed.getD i true = true := by
 unfold open_ at h
 rw [List.length_eq_zero_iff, List.filter_eq_nil_iff] at h
 have := h listed[i] (by simp)
 rw [Array.getD_eq_getD_getElem?, Array.getElem?_eq_getElem hi]
 simpa using this
theorem depsOf_mem {o : Oper} (ho : ops[i]? = some o) {e : Edge} (he : e ∈ o.after) (hb : Region.binds .any e = true) : e.on ∈ depsOf ops i := by
 unfold depsOf
 rw [ho]
 exact List.mem_map.2 ⟨e, List.mem_filter.2 ⟨by simpa using he, hb⟩, rfl⟩
theorem G_conf {id : Nat} {Q : Exit → GS → Prop} {s s'' : GS} {M : (Nat → Bool) → List (List PV)} (n : Nat) (hn : ops.size = n) (hm : K.P.follows .mixedOrders = true)
 (hs : Le K s ⟨base, M noB⟩) (hc : Conf K ops M base 0 [] fs) (hnd : (fs.map (·.2.1)).Nodup) (hdis : ∀ x ∈ base, x.1 ∉ fs.map (·.2.1)) (hdep : ∀ i, i < n → ∀ d ∈ depsOf ops i, d < i)
 (hs'' : GS.mk (fs.map (·.2) ++ base) (M (allB n)) = s'') (hfi : ∀ x ∈ fs, x.1 < n) (hq : Q .normal s'') : G K (.region id ops true) Q s := by
 subst hn
 rintro a w ha
 obtain ⟨S, O, m, hr⟩ := hs a w ha
 have hd := hr.drew
 refine wp_mono (Q := endN K Q) (wp_region_any hm ?_) (fun e a' w' ⟨he, s', hq, hat⟩ => ⟨s', he ▸ hq, hat⟩)
 have hbl : ∀ {t p}, (base.lookup t) = some p → t ∉ fs.map (·.2.1) := fun h => hdis _ (lookup_mem' _ _ _ h)
 have key : ∀ fuel (listed : Array Bool) a w, listed.size = ops.size → open_ listed = fuel → Valid ops (bOf listed) → At K ⟨mkS (bOf listed) fs ++ base, M (bOf listed)⟩ a w → wpAny K.P .any ops (endN K Q) fuel listed a w := by
  intro fuel
  induction fuel with
  | zero =>
   intro listed a w hsz ho _ hat
   have hall : ∀ i, i < ops.size → listed.getD i true = true := fun i hi => open_zero ho i (by omega)
   have hb : bOf listed = allB ops.size := by
    funext j
    unfold bOf allB
    by_cases hj : j < ops.size
    · have := hall j hj
      rw [Array.getD_eq_getD_getElem?, Array.getElem?_eq_getElem (by omega)] at this
      rw [Array.getD_eq_getD_getElem?, Array.getElem?_eq_getElem (by omega)]
      simp at this ⊢
      rw [this]; exact (show Nat.blt j ops.size = true by rw [Nat.blt_eq]; exact hj).symm
    · rw [Array.getD_eq_getD_getElem?, Array.getElem?_eq_none (by omega)]
      have : Nat.blt j ops.size = false := by
       cases hb : Nat.blt j ops.size with
       | false => rfl
       | true => rw [Nat.blt_eq] at hb; omega
      rw [this]; rfl
   refine ⟨?_, rfl, s'', hq, ?_⟩
   · rw [List.eq_nil_iff_forall_not_mem]
     intro i hi
     obtain ⟨h1, o, ho, _⟩ := mem_ready.1 hi
     rw [hall i (Array.getElem?_eq_some_iff.1 ho).1] at h1; cases h1
   · rw [← hs'']
     refine Le_slots (s := ⟨mkS (bOf listed) fs ++ base, M (bOf listed)⟩) (by rw [hb]) (fun t p hp => .inl ?_) a w hat
     simp only [GS.get, lookup_append] at hp ⊢
     by_cases ht : t ∈ fs.map (·.2.1)
     · obtain ⟨⟨i, t', p'⟩, hx, rfl⟩ := List.mem_map.1 ht
       have h1 : (fs.map (·.2)).lookup t' = some p' := by
        have := mkS_lookup (b := fun _ => true) hnd hx
        simpa [mkS] using this
       rw [h1] at hp
       rw [mkS_lookup hnd hx, hb]
       have hlt := hfi _ hx
       have : allB ops.size i = true := (show Nat.blt i ops.size = true by rw [Nat.blt_eq]; exact hlt)
       rw [this]; simpa using hp
     · have h1 : (fs.map (·.2)).lookup t = none := by
        have := mkS_none (b := fun _ => true) ht
        simpa [mkS] using this
       rw [h1] at hp
       rw [mkS_none ht]; simpa using hp
  | succ fuel ih =>
   intro listed a w hsz ho hv hat
   refine ⟨fun hr0 => ?_, fun i hi => ?_⟩
   · exfalso
     -- the least one that is open is ready
     have hex : ∃ i, i < ops.size ∧ listed.getD i true = false := by
      refine Classical.byContradiction fun hne => ?_
      have : open_ listed = 0 := by
       unfold open_
       rw [List.length_eq_zero_iff, List.filter_eq_nil_iff]
       intro x hx
       obtain ⟨i, hi, rfl⟩ := List.mem_iff_getElem.1 hx
       have hi' : i < listed.size := by simpa using hi
       have h1 : ¬ (listed.getD i true = false) := fun h => hne ⟨i, by omega, h⟩
       rw [Array.getD_eq_getD_getElem?, Array.getElem?_eq_getElem hi'] at h1
       simpa using h1
      omega
     have hmin : ∀ k i, i ≤ k → i < ops.size → listed.getD i true = false → ∃ j, j < ops.size ∧ listed.getD j true = false ∧ ∀ d, d < j → listed.getD d true = true := by
      intro k
      induction k with
      | zero => intro i h1 h2 h3; exact ⟨i, h2, h3, fun d hd => by omega⟩
      | succ k ihk =>
       intro i h1 h2 h3
       by_cases hd : ∃ d, d < i ∧ listed.getD d true = false
       · obtain ⟨d, h4, h5⟩ := hd; exact ihk d (by omega) (by omega) h5
       · exact ⟨i, h2, h3, fun d hd' => by
          cases h : listed.getD d true with
          | true => rfl
          | false => exact absurd ⟨d, hd', h⟩ hd⟩
     obtain ⟨i, h2, h3⟩ := hex
     obtain ⟨j, hj1, hj2, hj3⟩ := hmin i i (Nat.le_refl _) h2 h3
     have : j ∈ Region.ready .any ops listed := mem_ready.2 ⟨hj2, ops[j], Array.getElem?_eq_getElem hj1, fun e he hb => by
      have hlt := hdep j hj1 _ (depsOf_mem (Array.getElem?_eq_getElem hj1) he hb)
      have := hj3 _ hlt
      rw [Array.getD_eq_getD_getElem?, Array.getElem?_eq_getElem (by omega)] at this ⊢
      simpa using this⟩
     rw [hr0] at this; cases this
   · obtain ⟨hi1, o, hoi, hi2⟩ := mem_ready.1 hi
     have hilt : i < ops.size := (Array.getElem?_eq_some_iff.1 hoi).1
     have hbi : bOf listed i = false := by
      unfold bOf
      rw [Array.getD_eq_getD_getElem?, Array.getElem?_eq_getElem (by omega)] at hi1 ⊢
      simpa using hi1
     have hbd : ∀ j ∈ depsOf ops i, bOf listed j = true := fun j hj => by
      unfold depsOf at hj
      rw [hoi] at hj
      obtain ⟨e, he, rfl⟩ := List.mem_map.1 hj
      obtain ⟨he1, he2⟩ := List.mem_filter.1 he
      exact hi2 e (by simpa using he1) he2
     obtain ⟨sl, r, hst, hr1, hr2, hsl⟩ := hc.at (fun x hx => by cases hx) i (Nat.zero_le _) hilt
     have hle : Le K ⟨mkS (bOf listed) fs ++ base, M (bOf listed)⟩ ⟨sl ++ base ++ (mkS (bOf listed) fs), M (bOf listed)⟩ := Le_slots rfl fun t p hp => by
      simp only [GS.get, lookup_append] at hp ⊢
      cases h1 : sl.lookup t with
      | some q =>
       rw [h1] at hp
       have hqp : q = p := by simpa using hp
       subst hqp
       obtain ⟨d, hd, hmem⟩ := hsl _ (lookup_mem' _ _ _ h1)
       left
       rw [mkS_lookup hnd hmem, hbd d hd]; rfl
      | none =>
       rw [h1] at hp
       cases h2 : base.lookup t with
       | some q =>
        rw [h2] at hp
        left
        rw [mkS_none (hbl h2)]; simpa using hp
       | none =>
        rw [h2] at hp
        left
        have h3 : (mkS (bOf listed) fs).lookup t = some p := by simpa using hp
        rw [h3]; rfl
     have h1 := hst (bOf listed) (mkS (bOf listed) fs) hbi hbd hv a w (hle a w hat)
     rw [wpOps_cons] at h1
     refine wpOp_to ?_ ?_ h1
     · rintro e a' w' hne' ⟨s', ⟨he, _⟩, _⟩
       exact absurd he hne'
     · intro a' w' h2
       obtain ⟨s', ⟨_, rfl⟩, hat'⟩ := (h2 : ∃ s', _ ∧ _)
       have hset := bOf_set (listed := listed) (i := i) (by omega)
       refine ih (listed.setIfInBounds i true) a' w' (by simpa using hsz) (by have := open_set (listed := listed) (i := i) (by omega) hi1; omega) ?_ ?_
       · rw [hset]
         intro j hj d hdj
         unfold upd at hj ⊢
         cases hdi : Nat.beq d i with
         | true => rfl
         | false =>
          simp only [cond_false]
          cases hji : Nat.beq j i with
          | true =>
           have : j = i := Nat.eq_of_beq_eq_true hji
           subst this; exact hbd d hdj
          | false => rw [hji] at hj; exact hv j (by simpa using hj) d hdj
       · rw [hset]
         refine Le_slots (s := ⟨r ++ (sl ++ base ++ mkS (bOf listed) fs), M (upd (bOf listed) i)⟩) (s' := ⟨mkS (upd (bOf listed) i) fs ++ base, M (upd (bOf listed) i)⟩) rfl (fun t p hp => ?_) a' w' hat'
         simp only [GS.get, lookup_append] at hp ⊢
         by_cases ht : t ∈ fs.map (·.2.1)
         · obtain ⟨⟨j, t', p'⟩, hx, rfl⟩ := List.mem_map.1 ht
           rw [mkS_lookup hnd hx] at hp
           have hp' : cond (upd (bOf listed) i j) p' PV.undef = p := by simpa using hp
           left
           by_cases hji : j = i
           · subst hji
             have hu : upd (bOf listed) j j = true := by
              unfold upd
              rw [beq_yes]; rfl
             rw [hu] at hp'
             have hpp : p' = p := hp'
             subst hpp
             obtain ⟨q, hq⟩ := lookup_isSome (hr2 _ hx)
             have := key_uniq hnd (hr1 _ (lookup_mem' _ _ _ hq)) hx rfl
             injection this with _ this
             injection this with _ this
             subst this
             show (r.lookup t').or _ = _
             rw [show r.lookup t' = some q from hq]; rfl
           · have hu : upd (bOf listed) i j = bOf listed j := by
              unfold upd
              rw [beq_no hji]; rfl
             rw [hu] at hp'
             have hrn : r.lookup t' = none := by
              cases hrl : r.lookup t' with
              | none => rfl
              | some q =>
               exfalso
               have := key_uniq hnd (hr1 _ (lookup_mem' _ _ _ hrl)) hx rfl
               injection this with this _
               exact hji this.symm
             have hbn : base.lookup t' = none := by
              cases hb : base.lookup t' with
              | none => rfl
              | some q => exact absurd ht (hbl hb)
             show (r.lookup t').or _ = _
             rw [hrn, hbn, mkS_lookup hnd hx]
             cases hsll : sl.lookup t' with
             | some q =>
              obtain ⟨d, hd, hmem⟩ := hsl _ (lookup_mem' _ _ _ hsll)
              have := key_uniq hnd hmem hx rfl
              injection this with h1 h2
              injection h2 with _ h2
              subst h1; subst h2
              rw [hbd d hd] at hp'
              have hpp : q = p := hp'
              rw [hpp]; rfl
             | none => rw [hp']; rfl
         · rw [mkS_none ht] at hp
           have hp' : base.lookup t = some p := by simpa using hp
           have hrn : r.lookup t = none := by
            cases hrl : r.lookup t with
            | none => rfl
            | some q => exact absurd (List.mem_map.2 ⟨_, hr1 _ (lookup_mem' _ _ _ hrl), rfl⟩) ht
           have hsn : sl.lookup t = none := by
            cases hrl : sl.lookup t with
            | none => rfl
            | some q =>
             obtain ⟨d, _, hmem⟩ := hsl _ (lookup_mem' _ _ _ hrl)
             exact absurd (List.mem_map.2 ⟨_, hmem, rfl⟩) ht
           left
           rw [hrn, hsn, hp']; rfl
 have hb0 : bOf (Array.replicate ops.size false) = noB := by
  funext j
  unfold bOf noB
  rw [Array.getD_eq_getD_getElem?, Array.getElem?_replicate]
  split <;> rfl
 refine key ops.size (Array.replicate ops.size false) a w.drew (by simp) (by simp [open_]) ?_ ?_
 · rw [hb0]; intro j hj; cases hj
 · rw [hb0]
   refine Le_slots (s := ⟨base, M noB⟩) (s' := ⟨mkS noB fs ++ base, M noB⟩) rfl (fun t p hp => ?_) a w.drew ⟨S, O, m, hd⟩
   simp only [GS.get, lookup_append] at hp ⊢
   by_cases ht : t ∈ fs.map (·.2.1)
   · obtain ⟨⟨j, t', p'⟩, hx, rfl⟩ := List.mem_map.1 ht
     rw [mkS_lookup hnd hx] at hp
     right
     have : PV.undef = p := by simpa [noB] using hp
     exact this.symm
   · rw [mkS_none ht] at hp
     left; simpa using hp
end
section
def pick (es : List (Nat × Nat × PV)) (ds : List Nat) : List (Nat × PV) := (es.filter fun x => ds.contains x.1).map (·.2)
theorem pick_mem {es : List (Nat × Nat × PV)} {ds : List Nat} {x : Nat × PV} (h : x ∈ pick es ds) : ∃ d ∈ ds, (d, x) ∈ es := by
 obtain ⟨⟨d, y⟩, hy, rfl⟩ := List.mem_map.1 h
 obtain ⟨h1, h2⟩ := List.mem_filter.1 hy
 exact ⟨d, by simpa using h2, h1⟩
theorem J10 {A : Prop} (h : A := by simp only [List.cons_append, List.nil_append] <;> rfl) : A := h
theorem conf_val {K : Ctx} {ops : Array Oper} {M : (Nat → Bool) → List (List PV)} {base : List (Nat × PV)} {i t : Nat} {es es' fs : List (Nat × Nat × PV)} {p : PV} {full : List (Nat × PV) → List (Nat × PV)} (ds : List Nat)
 (h : ∀ (b : Nat → Bool) (rest : List (Nat × PV)), b i = false → (∀ j ∈ depsOf ops i, b j = true) → Valid ops b → GOps K ops (fun e s' => e = .normal ∧ s' = ⟨(t, p) :: full rest, M (upd b i)⟩) [i] ⟨full rest, M b⟩)
 (hc : Conf K ops M base (i + 1) es' fs)
 (hfull : ∀ rest, pick es ds ++ base ++ rest = full rest := by intro rest; simp only [pick, List.filter_cons, List.filter_nil, List.contains_cons, List.contains_nil, Nat.reduceBEq, Bool.or_false, Bool.false_or, Bool.or_true, Bool.true_or, if_true, if_false, Bool.false_eq_true, List.map_cons, List.map_nil, List.cons_append, List.nil_append, List.append_nil] <;> rfl) (hes : es ++ [(i, t, p)] = es' := by exact J10)
 (hds : (ds.all fun d => (depsOf ops i).contains d) = true := by kernel_rfl) : Conf K ops M base i es fs := by
 subst hes
 refine .step (sl := pick es ds) (r := [(t, p)]) (fun b rest h1 h2 h3 => ?_) (fun x hx => ?_) hc
 · rw [hfull]; exact h b rest h1 h2 h3
 · obtain ⟨d, h1, h2⟩ := pick_mem hx
   exact ⟨d, by have := List.all_eq_true.1 hds d h1; simpa using this, h2⟩
theorem conf_act {K : Ctx} {ops : Array Oper} {M : (Nat → Bool) → List (List PV)} {base : List (Nat × PV)} {i : Nat} {es fs : List (Nat × Nat × PV)} {full : List (Nat × PV) → List (Nat × PV)} (ds : List Nat)
 (h : ∀ (b : Nat → Bool) (rest : List (Nat × PV)), b i = false → (∀ j ∈ depsOf ops i, b j = true) → Valid ops b → GOps K ops (fun e s' => e = .normal ∧ s' = ⟨full rest, M (upd b i)⟩) [i] ⟨full rest, M b⟩)
 (hc : Conf K ops M base (i + 1) es fs)
 (hfull : ∀ rest, pick es ds ++ base ++ rest = full rest := by intro rest; simp only [pick, List.filter_cons, List.filter_nil, List.contains_cons, List.contains_nil, Nat.reduceBEq, Bool.or_false, Bool.false_or, Bool.or_true, Bool.true_or, if_true, if_false, Bool.false_eq_true, List.map_cons, List.map_nil, List.cons_append, List.nil_append, List.append_nil] <;> rfl)
 (hds : (ds.all fun d => (depsOf ops i).contains d) = true := by kernel_rfl) : Conf K ops M base i es fs := by
 refine .step (sl := pick es ds) (r := []) (fun b rest h1 h2 h3 => ?_) (fun x hx => ?_) (by simpa using hc)
 · rw [hfull]; exact h b rest h1 h2 h3
 · obtain ⟨d, h1, h2⟩ := pick_mem hx
   exact ⟨d, by have := List.all_eq_true.1 hds d h1; simpa using this, h2⟩
def nodupB : List Nat → Bool
 | [] => true
 | x :: r => !r.contains x && nodupB r
theorem nodupB_iff : ∀ {l : List Nat}, nodupB l = true → l.Nodup
 | [], _ => .nil
 | x :: r, h => by
  simp only [nodupB, Bool.and_eq_true, Bool.not_eq_true', List.contains_eq_mem, decide_eq_false_iff_not] at h
  exact List.nodup_cons.2 ⟨h.1, nodupB_iff h.2⟩
theorem filter_lookup (f : Nat → Bool) : ∀ (l : List (Nat × PV)) (t : Nat) (p : PV), (l.filter fun x => f x.1).lookup t = some p → l.lookup t = some p
 | [], _, _, h => by cases h
 | (k, q) :: l, t, p, h => by
  have hft : ∀ (l : List (Nat × PV)), (l.filter fun x => f x.1).lookup t = some p → f t = true := by
   intro l
   induction l with
   | nil => intro h; cases h
   | cons y r ih =>
    intro h
    rw [List.filter_cons] at h
    split at h
    · rename_i hx
      obtain ⟨k2, q2⟩ := y
      rw [List.lookup_cons] at h
      split at h
      · rename_i hb2
        have : t = k2 := by simpa using hb2
        subst this; exact hx
      · exact ih h
    · exact ih h
  have h0 := hft _ h
  rw [List.filter_cons] at h
  rw [List.lookup_cons]
  by_cases hk : f k = true
  · rw [if_pos hk, List.lookup_cons] at h
    split
    · rename_i hb; rw [hb] at h; exact h
    · rename_i hb; rw [hb] at h; exact filter_lookup f l t p h
  · rw [if_neg hk] at h
    split
    · rename_i hb
      have : t = k := by simpa using hb
      subst this; exact absurd h0 hk
    · exact filter_lookup f l t p h
end
section
def D.keyEq : D → D → Bool
 | .int k a, .int k' b => decide (k = k') && decide (a = b)
 | .str a, .str b => decide (a = b)
 | .bool a, .bool b => decide (a = b)
 | _, _ => false
def D.keyOf : TypeDesc → D → Bool
 | .int k, .int k' _ => decide (k' = k)
 | .string, .str _ => true
 | .bool, .bool _ => true
 | _, _ => false
variable {d : TypeDesc}
theorem keyOf_isKey {x : D} (h : x.keyOf d = true) : ∃ v, x.keyV = some v ∧ MapKept.IsKey d v := by
 cases d <;> cases x <;> simp only [D.keyOf, decide_eq_true_eq] at h <;> first | cases h | skip
 all_goals exact ⟨_, rfl, by first | exact h | trivial | rfl⟩
theorem keyEq_iff {x y : D} (hx : x.keyOf d = true) (hy : y.keyOf d = true) : x.keyEq y = true ↔ x.keyV = y.keyV := by
 cases d <;> cases x <;> simp only [D.keyOf, decide_eq_true_eq] at hx <;> first | cases hx | skip
 all_goals cases y <;> simp only [D.keyOf, decide_eq_true_eq] at hy <;> first | cases hy | skip
 all_goals simp_all [D.keyEq, D.keyV, D.lit]
def mget (kvs : List (D × D)) (k z : D) : D := match kvs.find? (fun x => x.1.keyEq k) with | some x => x.2 | none => z
def mhas (kvs : List (D × D)) (k : D) : Bool := kvs.any fun x => x.1.keyEq k
theorem mhas_of_find {kvs : List (D × D)} {k : D} {x : D × D} (h : kvs.find? (fun x => x.1.keyEq k) = some x) : mhas kvs k = true := by
 have h1 := List.mem_of_find?_eq_some h
 have h2 : (fun x : D × D => x.1.keyEq k) x = true := List.find?_some (p := fun x : D × D => x.1.keyEq k) h
 exact List.any_eq_true.2 ⟨x, h1, h2⟩
variable {es : Array MapEntry}
theorem IsKey_of_rel {w : World} {S : Reg} {kvs : List (D × D)} (h : ∀ (i : Nat) e, es[i]? = some e → ∃ x ∈ kvs, x.1.keyV = some e.key) (hk : ∀ x ∈ kvs, x.1.keyOf d = true) : ∀ e ∈ es.toList, MapKept.IsKey d e.key := by
 intro e he
 obtain ⟨i, hi⟩ := List.mem_iff_getElem?.1 he
 obtain ⟨x, hx, hxe⟩ := h i e (by simpa using hi)
 obtain ⟨v, hv, hkv⟩ := keyOf_isKey (hk x hx)
 rw [hxe] at hv; injection hv with hv; exact hv ▸ hkv
variable {w : World} {S : Reg}
theorem find_rel {kvs : List (D × D)} {k : D} {kv : Value} (hrel : MapRel w S kvs es) (hks : ∀ x ∈ kvs, x.1.keyOf d = true) (hk : k.keyOf d = true) (hkv : k.keyV = some kv) :
 (Instr.findNow d kv es.toList 0 = some none ∧ kvs.find? (fun x => x.1.keyEq k) = none) ∨
  ∃ j e x, Instr.findNow d kv es.toList 0 = some (some (j, e.val)) ∧ es[j]? = some e ∧ e.key = kv ∧ kvs.find? (fun x => x.1.keyEq k) = some x ∧ Rd w S x.2 e.val := by
 obtain ⟨h1, h2, h3⟩ := hrel
 obtain ⟨v, hv, hkey⟩ := keyOf_isKey hk
 rw [hkv] at hv; injection hv with hv; subst hv
 rcases MapKept.findNow_spec hkey es.toList 0 (IsKey_of_rel (w := w) (S := S) h1 hks) with ⟨g1, g2⟩ | ⟨j, e, g1, g2, g3⟩
 · refine .inl ⟨g1, List.find?_eq_none.2 fun x hx he => ?_⟩
   obtain ⟨i, e, hi, hxe⟩ := h2 x hx
   rw [(keyEq_iff (hks x hx) hk).1 he, hkv] at hxe
   injection hxe with hxe
   exact g2 e (List.mem_iff_getElem?.2 ⟨i, by simpa using hi⟩) hxe.symm
 · rw [Nat.zero_add] at g1
   have ge : es[j]? = some e := by simpa using g2
   obtain ⟨x0, hx0, hxe0⟩ := h1 j e ge
   have hex : ∃ x, kvs.find? (fun x => x.1.keyEq k) = some x := by
    cases hf : kvs.find? (fun x => x.1.keyEq k) with
    | some x => exact ⟨x, rfl⟩
    | none =>
     exfalso
     have := List.find?_eq_none.1 hf x0 hx0
     exact this ((keyEq_iff (hks x0 hx0) hk).2 (by rw [hxe0, hkv, g3]))
   obtain ⟨x, hx⟩ := hex
   have hm := List.mem_of_find?_eq_some hx
   have he := List.find?_some hx
   refine .inr ⟨j, e, x, g1, ge, g3, hx, h3 j e x ge hm ?_⟩
   rw [(keyEq_iff (hks x hm) hk).1 he, hkv, g3]
variable {v : Value}
theorem rd_key {k : D} (hk : k.keyOf d = true) (h : Rd w S k v) : k.keyV = some v := by
 cases d <;> cases k <;> simp only [D.keyOf] at hk <;> first | cases hk | skip
 all_goals cases h; rfl
variable {K : Ctx} {s : GS} {ty rt : TypeId} {pos : String} {af : Array Edge}
theorem Y_makeMap {t : Nat} {g : Option (Nat × Bool)} (ht : t < K.n) :
 Yld K ⟨some t, .makeMap ty none, rt, pos, af, g⟩ s ⟨(t, .mref s.mem.length) :: s.slots, s.mem ++ [[.mapc []]]⟩ := by
 rintro a w ⟨S, O, m, h⟩
 have he := h.env
 have hE : Ext S w (w.alloc (.map #[] 0)) := ext_alloc S w _ he.slt
 have hsz0 : K.w0.heap.size ≤ w.heap.size := he.ext.size
 have hO : ∀ (b : Nat) l t, O b = some (l, t) → (if b = w.heap.size then some ([s.mem.length, 1], 0) else O b) = some (l, t) := fun b l t hb => by
  rw [if_neg (Nat.ne_of_lt (he.olt b l t hb))]; exact hb
 have hmm : ∀ (b r : Nat), m[b]? = some r → (m ++ [w.heap.size])[b]? = some r := fun b r hb => by rw [List.getElem?_append_left (lG hb)]; exact hb
 refine ⟨.map (some w.heap.size), w.alloc (.map #[] 0), by simp [execOp, Instr.makeMap], S, fun b => if b = w.heap.size then some ([s.mem.length, 1], 0) else O b, m ++ [w.heap.size], ⟨he.ext.trans hE he.s0, fun b hb hO' => ?_, fun b l t o hb hO' hlt => ?_, he.s0, he.snew, fun b o l t hS hO' => ?_, fun b o hS => ?_, fun b l t hO' => ?_, fun b l t hO' => ?_, by simp [he.mlen], fun i cs r hi hr hne => ?_⟩, h.defers, by simp [Act.put, h.size], h.pre.trans (List.prefix_append _ _), fun i p hi => ?_⟩
 · rw [heap_alloc_old' _ _ _ (by omega)]; exact he.old b hb hO'
 · rw [World.cell?_alloc_lt w _ ⟨b, o, none⟩ (show b < w.heap.size by omega)]; exact he.part b l t o hb hO' hlt
 · have := he.slt b o hS; rw [if_neg (Nat.ne_of_lt this)] at hO'; exact he.sown b o l t hS hO'
 · have := he.slt b o hS; simp; omega
 · by_cases hb : b = w.heap.size
   · subst hb; simp
   · rw [if_neg hb] at hO'; have := he.olt b l t hO'; simp; omega
 · by_cases hb : b = w.heap.size
   · exact .inl (by omega)
   · rw [if_neg hb] at hO'; exact he.onew b l t hO'
 · by_cases hi' : i < s.mem.length
   · rw [List.getElem?_append_left hi'] at hi
     rw [List.getElem?_append_left (by rw [he.mlen]; exact hi')] at hr
     obtain ⟨g1, g2⟩ := he.mem i cs r hi hr hne
     exact ⟨hO _ _ _ g1, g2.frame (heap_alloc_old' _ _ _ (he.olt _ _ _ g1)) hE (fun _ _ h => h) (fun j b t q hb => hO b _ t hb) hmm⟩
   · have hil : i = s.mem.length := by
      have := (lG hi); simp at this; omega
     subst hil
     rw [List.getElem?_append_right (Nat.le_refl _)] at hi
     rw [← he.mlen, List.getElem?_append_right (Nat.le_refl _)] at hr
     simp only [Nat.sub_self, List.getElem?_cons_zero, Option.some.injEq] at hi hr
     subst hi; subst hr
     exact ⟨by simp, .inr (.inl ⟨[], #[], 0, rfl, heap_alloc_new' w _, fun i e h => (by simp at h), fun x h => (by cases h), fun i e x h => (by simp at h)⟩)⟩
 · rw [getD_put _ _ _ _ (by rw [h.size]; exact ht)]
   have hi' : (s.set t (.mref s.mem.length)).get i = some p := hi
   rw [GS.get_set] at hi'
   by_cases hit : i = t
   · rw [if_pos hit] at hi' ⊢; injection hi' with hi'; subst hi'
     exact .mref _ _ _ (by rw [← he.mlen]; simp)
   · rw [if_neg hit] at hi' ⊢
     exact (h.slots i p hi').ext hE (fun _ _ h => h) (fun b t q hb => hO b _ t hb) hmm
theorem ext_setMap {r : Nat} {es' : Array MapEntry} {c c' : Nat} (hh : w.heap[r]? = some (.map es c)) (hS : ∀ o, ¬ S r o) : Ext S w { w with heap := w.heap.setIfInBounds r (.map es' c') } where
 size := by simp
 shape := fun b us el fz hb => by
  have hbr : b ≠ r := by rintro rfl; rw [hh] at hb; injection hb with hb; cases hb
  exact ⟨us, by rw [(MapKept.heap_set hh).2 b hbr]; exact hb, rfl⟩
 cell := fun b o hb => by
  have hbr : b ≠ r := by rintro rfl; exact hS o hb
  simp only [World.cell?, (MapKept.heap_set (o' := .map es' c') hh).2 b hbr]
 maps := fun b es0 c0 hb hm => by
  have hbr : b ≠ r := by rintro rfl; exact hS 0 hb
  rw [(MapKept.heap_set (o' := .map es' c') hh).2 b hbr]; exact hm
variable {O : Owns} {m : List Nat}
theorem Rep.setMap {a : Act} (h : Rep K S O m s a w) {b r : Nat} {kvs kvs' : List (D × D)} {es es' : Array MapEntry} {c c' : Nat} (hb : s.mem[b]? = some [.mapc kvs]) (hr : m[b]? = some r)
 (hh : w.heap[r]? = some (.map es c)) (hrel : MapRel w S kvs' es') : Rep K S O m ⟨s.slots, s.mem.set b [.mapc kvs']⟩ a { w with heap := w.heap.setIfInBounds r (.map es' c') } := by
 have he := h.env
 obtain ⟨hown, _⟩ := he.mem b _ r hb hr (by simp)
 have hSr : ∀ o, ¬ S r o := fun o hS => absurd (he.sown r o _ _ hS hown) (Nat.not_lt_zero _)
 have hE : Ext S w { w with heap := w.heap.setIfInBounds r (.map es' c') } := ext_setMap hh hSr
 have hoth : ∀ b', b' ≠ r → ({ w with heap := w.heap.setIfInBounds r (.map es' c') } : World).heap[b']? = w.heap[b']? := fun b' hb' => (MapKept.heap_set hh).2 b' hb'
 refine ⟨⟨he.ext.trans hE he.s0, fun k hk hO => ?_, fun k l t o hk hO hot => ?_, he.s0, he.snew, he.sown, fun k o hS => ?_, fun k l t hO => ?_, he.onew, by simp [he.mlen], fun i cs r' hi hr' hne => ?_⟩, h.defers, h.size, h.pre, fun i p hp => (h.slots i p hp).ext hE (fun _ _ h => h) (fun _ _ _ h => h) (fun _ _ h => h)⟩
 · have : k ≠ r := by
    rintro rfl
    rcases he.onew k _ _ hown with h1 | ⟨l0, t0, h1, _⟩
    · omega
    · rw [hO] at h1; cases h1
   rw [hoth k this]; exact he.old k hk hO
 · have : k ≠ r := by
    rintro rfl
    rcases he.onew k _ _ hown with h1 | ⟨l0, t0, h1, h2⟩
    · omega
    · rw [hO] at h1; injection h1 with h1; injection h1 with _ h1; omega
   have hc : ({ w with heap := w.heap.setIfInBounds r (.map es' c') } : World).cell? ⟨k, o, none⟩ = w.cell? ⟨k, o, none⟩ := by simp only [World.cell?, hoth k this]
   rw [hc]; exact he.part k l t o hk hO hot
 · have := he.slt k o hS; simpa using this
 · have := he.olt k l t hO; simpa using this
 · by_cases hib : i = b
   · subst hib
     rw [hr] at hr'; injection hr' with hr'; subst hr'
     have hlt : i < s.mem.length := (lG hb)
     have hi' : [PV.mapc kvs'] = cs := by
      have : (s.mem.set i [.mapc kvs'])[i]? = some cs := hi
      rw [List.getElem?_set_self hlt] at this; injection this
     subst hi'
     obtain ⟨h1, h2, h3⟩ := hrel
     exact ⟨hown, .inr (.inl ⟨kvs', es', c', rfl, (MapKept.heap_set hh).1, h1, h2, fun i e x hi hx hk => (h3 i e x hi hx hk).ext hE (fun _ _ h => h)⟩)⟩
   · have hi' : s.mem[i]? = some cs := by
      have : (s.mem.set b [.mapc kvs'])[i]? = some cs := hi
      rwa [List.getElem?_set_ne (Ne.symm hib)] at this
     obtain ⟨g1, g2⟩ := he.mem i cs r' hi' hr' hne
     have hrr : r' ≠ r := by
      rintro rfl
      rw [g1] at hown; injection hown with hown; injection hown with hown _; injection hown with hown _; exact hib hown
     exact ⟨g1, g2.frame (hoth r' hrr) hE (fun _ _ h => h) (fun _ _ _ _ h => h) (fun _ _ h => h)⟩
theorem Rep.mapBlock {a : Act} (h : Rep K S O m s a w) {b : Nat} {kvs : List (D × D)} (hb : s.mem[b]? = some [.mapc kvs]) (hit : isIter kvs = false) :
 ∃ r es c, m[b]? = some r ∧ w.heap[r]? = some (.map es c) ∧ MapRel w S kvs es := by
 have hlt : b < m.length := by rw [h.env.mlen]; exact (lG hb)
 obtain ⟨_, hblk⟩ := h.env.mem b _ m[b] hb (gE hlt) (by simp)
 rcases hblk with ⟨vs, el, h1, h2, h3, h4⟩ | ⟨kvs', es, c, hc, h1, h2⟩ | ⟨_, hc⟩ | ⟨b', pos, hc, h1⟩ | ⟨_, _, _, _, _, hc, _⟩
 · exfalso
   have hlt : 0 < vs.size := by simp at h2; omega
   have := h4 0 _ _ rfl (Array.getElem?_eq_getElem hlt)
   cases this
 · injection hc with hc _
   injection hc with hc
   subst hc
   exact ⟨m[b], es, c, gE hlt, h1, h2⟩
 · cases hc
 · injection hc with hc _
   injection hc with hc
   subst hc
   cases hit
 · cases hc
def PV.toDn1 : PV → Option D
 | .nils => some .nilS
 | p => p.toD
def PV.toDn1s : List PV → Option (List D)
 | [] => some []
 | p :: ps => match p.toDn1, PV.toDn1s ps with
  | some x, some xs => some (x :: xs)
  | _, _ => none
def PV.toDn : PV → Option D
 | .agg cs => (PV.toDn1s cs).map .agg
 | p => p.toDn1
variable {p : PV}
theorem RP.toDn1 {l : List Nat} (h : RP w S O m l p v) (d : D) (hd : p.toDn1 = some d) : Rd w S d v := by
 by_cases hp : p = .nils
 · subst hp
   injection hd with hd
   subst hd
   cases h; exact .nilS
 · refine h.toD d ?_
   rw [← hd]
   cases p <;> first | rfl | exact absurd rfl hp
theorem PV.toDn1s_get : ∀ (ps : List PV) (ds : List D), PV.toDn1s ps = some ds → ds.length = ps.length ∧ ∀ (i : Nat) x, ds[i]? = some x → ∃ p, ps[i]? = some p ∧ p.toDn1 = some x
 | [], ds, h => by
  injection h with h; subst h
  exact ⟨rfl, fun i _ hi => by simp at hi⟩
 | p :: ps, ds, h => by
  simp only [PV.toDn1s] at h
  cases h1 : p.toDn1 with
  | none => rw [h1] at h; cases h
  | some dd =>
   cases h2 : PV.toDn1s ps with
   | none => simp [h1, h2] at h
   | some r =>
    rw [h1, h2] at h
    injection h with h; subst h
    obtain ⟨g1, g2⟩ := PV.toDn1s_get ps r h2
    refine ⟨by simp [g1], fun i x hi => ?_⟩
    cases i with
    | zero => simp at hi; subst hi; exact ⟨p, rfl, h1⟩
    | succ i => obtain ⟨q, g3, g4⟩ := g2 i x (by simpa using hi); exact ⟨q, by simpa using g3, g4⟩
theorem RP.toDn {l : List Nat} (h : RP w S O m l p v) (d : D) (hd : p.toDn = some d) : Rd w S d v := by
 cases h with
 | agg _ cs vs hl ho h =>
  simp only [PV.toDn] at hd
  cases hc : PV.toDn1s cs with
  | none => rw [hc] at hd; cases hd
  | some ds =>
   rw [hc] at hd
   injection hd with hd; subst hd
   obtain ⟨g1, g2⟩ := PV.toDn1s_get cs ds hc
   refine .agg ds vs (by omega) ho (fun i d v hi hv => ?_)
   obtain ⟨p, hp, hpd⟩ := g2 i d hi
   exact (h i p v hp hv).toDn1 d hpd
 | d _ x _ h => exact (RP.d (O := O) (m := m) l _ _ h).toDn1 d hd
 | nils => exact (RP.nils (O := O) (m := m) (w := w) (S := S) l).toDn1 d hd
 | osl _ k xs a cap hr hk hn ht => exact (RP.osl (O := O) (m := m) l k xs a cap hr hk hn ht).toDn1 d hd
 | fn _ f first caps vf vc h1 h2 g1 g2 => exact (RP.fn (O := O) (m := m) l f first caps vf vc h1 h2 g1 g2).toDn1 d hd
 | ref => simp [PV.toDn, PV.toDn1, PV.toD] at hd
 | rsl => simp [PV.toDn, PV.toDn1, PV.toD] at hd
 | mref => simp [PV.toDn, PV.toDn1, PV.toD] at hd
 | tup => simp [PV.toDn, PV.toDn1, PV.toD] at hd
 | whenT => simp [PV.toDn, PV.toDn1, PV.toD] at hd
 | whenF => simp [PV.toDn, PV.toDn1, PV.toD] at hd
 | undef => simp [PV.toDn, PV.toDn1, PV.toD] at hd
variable {kt et : TypeId} {kd : TypeDesc}
theorem D_insert {mx kx vx : Operand} {g : Option (Nat × Bool)} {b : Nat} {kvs : List (D × D)} {k v : D}
 (hu : K.P.underlying ty = some (.map kt et)) (hkd : K.P.underlying kt = some kd)
 (hmx : s.ev mx = .mref b) (hm : s.mem[b]? = some [.mapc kvs]) (hkx : s.ev kx = .d k) (hvx : s.ev vx = p) (hv : p.toDn = some v) (hks : (kvs.all fun x => x.1.keyOf kd) = true) (hk : k.keyOf kd = true) (hnew : mhas kvs k = false) :
 Does K ⟨none, .insert ty mx kx vx, rt, pos, af, g⟩ s ⟨s.slots, s.mem.set b [.mapc (kvs ++ [(k, v)])]⟩ := by
 rintro a w ⟨S, O, m, h⟩
 have hit : isIter kvs = false := by
  cases kvs with
  | nil => rfl
  | cons x r =>
   obtain ⟨kx, vx⟩ := x
   have h0 := List.all_eq_true.1 hks (kx, vx) (by simp)
   cases kx with
   | nilF => cases kd <;> cases h0
   | _ => rfl
 obtain ⟨r, es, c, hr, hh, hrel⟩ := h.mapBlock hm hit
 obtain ⟨l, hrm⟩ := h.ev mx
 rw [hmx] at hrm
 generalize hmv : a.eval mx = mv at hrm
 obtain ⟨lv, hrv⟩ := h.ev vx
 rw [hvx] at hrv
 have hrd := hrv.toDn v hv
 have hkr := h.evd hkx
 have hkv := rd_key hk hkr
 have hks' : ∀ x ∈ kvs, x.1.keyOf kd = true := fun x hx => List.all_eq_true.1 hks x hx
 cases hrm with
 | mref _ _ r' hr' =>
  rw [hr] at hr'; injection hr' with hr'; subst hr'
  obtain ⟨kv, hkv2, hisk⟩ := keyOf_isKey hk
  rw [hkv] at hkv2; injection hkv2 with hkv2; subst hkv2
  rcases find_rel hrel hks' hk hkv with ⟨f1, f2⟩ | ⟨j, e, x, _, _, _, f2, _⟩
  · have hrun : (Instr.mapUpdate ty (.map (some r)) (a.eval kx) (a.eval vx)).run K.P w = .ok () { w with heap := w.heap.setIfInBounds r (.map (es.push { key := a.eval kx, val := a.eval vx, born := c }) (c + 1)) } := by
     simp [Instr.mapUpdate, run_underlying hu, MapKept.run_getObj_map hh, MapKept.run_checkKey hkd hisk, MapKept.run_findKey hkd f1, MapKept.run_setObj_map _ hh, Result.andThen]
    have hrel' : MapRel w S (kvs ++ [(k, v)]) (es.push { key := a.eval kx, val := a.eval vx, born := c }) := by
     obtain ⟨h1, h2, h3⟩ := hrel
     refine ⟨fun i e hi => ?_, fun x hx => ?_, fun i e x hi hx hxe => ?_⟩
     · rw [Array.getElem?_push] at hi
       split at hi
       · injection hi with hi; subst hi; exact ⟨(k, v), by simp, hkv⟩
       · obtain ⟨x, hx, hxe⟩ := h1 i e hi; exact ⟨x, by simp [hx], hxe⟩
     · rcases List.mem_append.1 hx with hx | hx
       · obtain ⟨i, e, hi, hxe⟩ := h2 x hx
         exact ⟨i, e, by rw [Array.getElem?_push, if_neg (by have := (Array.getElem?_eq_some_iff.1 hi).1; omega)]; exact hi, hxe⟩
       · rw [List.mem_singleton.1 hx]
         exact ⟨es.size, { key := a.eval kx, val := a.eval vx, born := c }, by simp, hkv⟩
     · rw [Array.getElem?_push] at hi
       rcases List.mem_append.1 hx with hx | hx
       · split at hi
         · injection hi with hi; subst hi
           exfalso
           have := List.find?_eq_none.1 f2 x hx
           exact this ((keyEq_iff (hks' x hx) hk).2 (by rw [hxe, hkv]))
         · exact h3 i e x hi hx hxe
       · rw [List.mem_singleton.1 hx] at hxe ⊢
         split at hi
         · injection hi with hi; subst hi; exact hrd
         · exfalso
           obtain ⟨y, hy, hye⟩ := h1 i e hi
           have := List.find?_eq_none.1 f2 y hy
           exact this ((keyEq_iff (hks' y hy) hk).2 (by rw [hye, ← hxe]))
    refine ⟨_, ?_, S, O, m, h.setMap (c' := c + 1) hm hr hh hrel'⟩
    simp only [execOp, hmv]
    simp [hrun]
  · exfalso
    have : mhas kvs k = true := mhas_of_find f2
    rw [hnew] at this; cases this
def zeroD (z : Value) : Option D := match z with
 | .agg _ => (PV.toDs (zeros z)).map .agg
 | v => (ofConst v).toD
variable {z : Value}
theorem zeroD_rd {d : D} (h : zeroD z = some d) (h1 : z.cells.all (·.oneCell') = true) (w : World) (S : Reg) : Rd w S d z := by
 unfold zeroD at h
 split at h
 · rename_i cs
   cases hz : PV.toDs (zeros (.agg cs)) with
   | none => rw [hz] at h; cases h
   | some ds =>
    rw [hz] at h
    injection h with h
    subst h
    obtain ⟨g1, g2⟩ := PV.toDs_get _ _ hz
    have hcl : (Value.agg cs).cells = cs := rfl
    refine .agg ds cs (by rw [g1]; simp [zeros, hcl]) (fun i v hv => ?_) (fun i d v hd hv => ?_)
    · have := Array.all_eq_true_iff_forall_mem.1 h1 v (by rw [hcl]; exact Array.mem_of_getElem? hv); exact this
    · obtain ⟨p, hp, hpd⟩ := g2 i d hd
      simp only [zeros, hcl, List.getElem?_map] at hp
      rw [show cs.toList[i]? = some v by simpa using hv] at hp
      simp only [Option.map_some, Option.some.injEq] at hp
      subst hp
      exact (ofConst_rp w S noOwns [] [] v).toD d hpd
 · exact (ofConst_rp w S noOwns [] [] z).toD d h
theorem run_lookup {P : Program} {r c : Nat} {kvs : List (D × D)} {k zd : D} {kv : Value} (hu : P.underlying ty = some (.map kt et)) (hkd : P.underlying kt = some kd)
 (hz : (P.info? et).map (·.zero) = some (some z)) (hzd : zeroD z = some zd) (h1 : z.cells.all (·.oneCell') = true) (hh : w.heap[r]? = some (.map es c)) (hrel : MapRel w S kvs es) (hks : ∀ x ∈ kvs, x.1.keyOf kd = true) (hk : k.keyOf kd = true) (hkv : k.keyV = some kv) :
 ∃ v, (∀ w' : World, w'.heap[r]? = w.heap[r]? → ∀ ok, (Instr.lookup ty (.map (some r)) kv ok).run P w' = .ok (if ok = true then .tuple #[v, .bool (mhas kvs k)] else v) w') ∧ Rd w S (mget kvs k zd) v := by
 obtain ⟨kv2, hkv2, hisk⟩ := keyOf_isKey hk
 rw [hkv] at hkv2; injection hkv2 with hkv2; subst hkv2
 have hzr : ∀ w' : World, (zeroValue et).run P w' = .ok z w' := fun w' => by
  cases hq : P.info? et with
  | none => simp [hq] at hz
  | some i =>
   have hs : i.zero = some z := by simpa [hq] using hz
   simp [zeroValue, typeInfo, hq, hs]
 rcases find_rel hrel hks hk hkv with ⟨f1, f2⟩ | ⟨j, e, x, f1, _, _, f2, f3⟩
 · have hhas : mhas kvs k = false := by
    unfold mhas
    rw [List.any_eq_false]
    intro x hx
    have := List.find?_eq_none.1 f2 x hx
    simpa using this
   refine ⟨z, fun w' hw' ok => ?_, ?_⟩
   · have hh' : w'.heap[r]? = some (.map es c) := hw'.trans hh
     rw [hhas]
     cases ok <;> simp [Instr.lookup, run_underlying hu, MapKept.run_getObj_map hh', MapKept.run_checkKey hkd hisk, MapKept.run_findKey hkd f1, hzr, Result.andThen]
   · unfold mget; rw [f2]; exact zeroD_rd hzd h1 w S
 · have hhas : mhas kvs k = true := mhas_of_find f2
   refine ⟨e.val, fun w' hw' ok => ?_, ?_⟩
   · have hh' : w'.heap[r]? = some (.map es c) := hw'.trans hh
     rw [hhas]
     cases ok <;> simp [Instr.lookup, run_underlying hu, MapKept.run_getObj_map hh', MapKept.run_checkKey hkd hisk, MapKept.run_findKey hkd f1, Result.andThen]
   · unfold mget; rw [f2]; exact f3
theorem Q_lookup2 {t : Nat} {mx kx : Operand} {g : Option (Nat × Bool)} {kvs : List (D × D)} {k zd : D}
 (hu : K.P.underlying ty = some (.map kt et)) (hkd : K.P.underlying kt = some kd) (hz : (K.P.info? et).map (·.zero) = some (some z)) (hzd : zeroD z = some zd) (h1 : z.cells.all (·.oneCell') = true)
 (hmx : s.ev mx = .d (.map kvs)) (hkx : s.ev kx = .d k) (hks : (kvs.all fun x => x.1.keyOf kd) = true) (hk : k.keyOf kd = true) (ht : t < K.n) : Qy K ⟨some t, .lookup ty mx kx true, rt, pos, af, g⟩ s t (.tup [.d (mget kvs k zd), .d (.bool (mhas kvs k))]) := by
 refine fun S O m a w h => ?_
 have hr := h.evd hmx
 have hkv := rd_key hk (h.evd hkx)
 generalize hv : a.eval mx = v at hr
 cases hr with
 | map _ r es c hS hh g1 g2 g3 =>
  obtain ⟨v, hrun, hrd⟩ := run_lookup (S := S) hu hkd hz hzd h1 hh ⟨g1, g2, g3⟩ (fun x hx => List.all_eq_true.1 hks x hx) hk hkv
  refine ⟨.tuple #[v, .bool (mhas kvs k)], fun w' he => ?_, .tup _ _ _ (by simp) (fun i p u hi hu' => ?_)⟩
  · have := hrun w' ((he.maps r es c (.inl hS) hh).trans hh.symm) true
    simp only [execOp, hv]
    simp [this]
  · match i with
    | 0 => simp at hi hu'; subst hi; subst hu'; exact .d _ _ _ hrd
    | 1 => simp at hi hu'; subst hi; subst hu'; exact .d _ _ _ (.bool _)
    | i + 2 => simp at hi
end
end Go.Proofs.Ytklkbfpjimeaoaa.E
