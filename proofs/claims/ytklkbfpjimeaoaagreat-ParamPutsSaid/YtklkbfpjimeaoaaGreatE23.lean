/- THE ENGINE, part 23: regions whose order is open, one step for each operation: where each leaves the same whatever came up ahead of it. Conditions: none; generic in the program. -/
import Derived.Test.YtklkbfpjimeaoaaGreatE22
namespace Go.Proofs.YtklkbfpjimeaoaaGreat.E
open Go
/-- What an operation waits for. -/
def depsOf (ops : Array Oper) (i : Nat) : List Nat := match ops[i]? with
  | some o => (o.after.toList.filter fun e => Region.binds .any e).map (·.on)
  | none => []
def upd (b : Nat → Bool) (i : Nat) : Nat → Bool := fun j => cond (Nat.beq j i) true (b j)
def noB : Nat → Bool := fun _ => false
def allB (n : Nat) : Nat → Bool := fun j => Nat.blt j n
/-- The temporaries of those that came up. -/
def mkS (b : Nat → Bool) (es : List (Nat × Nat × PV)) : List (Nat × PV) := es.map fun x => (x.2.1, cond (b x.1) x.2.2 .undef)
def Valid (ops : Array Oper) (b : Nat → Bool) : Prop := ∀ j, b j = true → ∀ d ∈ depsOf ops j, b d = true
/-- One operation: it needs what sl holds, and leaves r. -/
def Stp (K : Ctx) (ops : Array Oper) (M : (Nat → Bool) → List (List PV)) (base : List (Nat × PV)) (i : Nat) (sl r : List (Nat × PV)) : Prop :=
  ∀ (b : Nat → Bool) (rest : List (Nat × PV)), b i = false → (∀ j ∈ depsOf ops i, b j = true) → Valid ops b →
    GOps K ops (fun e s' => e = .normal ∧ s' = ⟨r ++ (sl ++ base ++ rest), M (upd b i)⟩) [i] ⟨sl ++ base ++ rest, M b⟩
/-- All operations from number i on; es: what is known of those ahead. -/
inductive Conf (K : Ctx) (ops : Array Oper) (M : (Nat → Bool) → List (List PV)) (base : List (Nat × PV)) : Nat → List (Nat × Nat × PV) → List (Nat × Nat × PV) → Prop
  | done {i : Nat} {es : List (Nat × Nat × PV)} : i = ops.size → Conf K ops M base i es es
  | step {i : Nat} {es fs : List (Nat × Nat × PV)} {sl r : List (Nat × PV)} (hs : Stp K ops M base i sl r) (hsl : ∀ x ∈ sl, ∃ d ∈ depsOf ops i, (d, x) ∈ es) (hc : Conf K ops M base (i + 1) (es ++ r.map fun x => (i, x)) fs) : Conf K ops M base i es fs
theorem Conf.le {K : Ctx} {ops : Array Oper} {M : (Nat → Bool) → List (List PV)} {base : List (Nat × PV)} {i : Nat} {es fs : List (Nat × Nat × PV)} (h : Conf K ops M base i es fs) : ∃ later, fs = es ++ later := by
  induction h with
  | done _ => exact ⟨[], by simp⟩
  | step _ _ _ ih => obtain ⟨l, h⟩ := ih; exact ⟨_, by rw [h, List.append_assoc]⟩
theorem Conf.idx {K : Ctx} {ops : Array Oper} {M : (Nat → Bool) → List (List PV)} {base : List (Nat × PV)} {i0 : Nat} {es fs : List (Nat × Nat × PV)} (h : Conf K ops M base i0 es fs) : ∀ x ∈ fs, x ∈ es ∨ i0 ≤ x.1 := by
  induction h with
  | done _ => exact fun x hx => .inl hx
  | @step j es fs sl r hs hsl hc ih =>
    intro x hx
    rcases ih x hx with h | h
    · rcases List.mem_append.1 h with h | h
      · exact .inl h
      · obtain ⟨y, _, rfl⟩ := List.mem_map.1 h; exact .inr (Nat.le_refl _)
    · exact .inr (by omega)
theorem Conf.at {K : Ctx} {ops : Array Oper} {M : (Nat → Bool) → List (List PV)} {base : List (Nat × PV)} {i0 : Nat} {es fs : List (Nat × Nat × PV)} (h : Conf K ops M base i0 es fs) (hes : ∀ x ∈ es, x.1 < i0) :
    ∀ i, i0 ≤ i → i < ops.size → ∃ sl r, Stp K ops M base i sl r ∧ (∀ x ∈ r, (i, x) ∈ fs) ∧ (∀ x, (i, x) ∈ fs → x ∈ r) ∧ ∀ x ∈ sl, ∃ d ∈ depsOf ops i, (d, x) ∈ fs := by
  induction h with
  | done h => intro i h1 h2; omega
  | @step j es fs sl r hs hsl hc ih =>
    intro i h1 h2
    have hes' : ∀ x ∈ es ++ r.map (fun x => (j, x)), x.1 < j + 1 := fun x hx => by
      rcases List.mem_append.1 hx with hx | hx
      · have := hes x hx; omega
      · obtain ⟨y, _, rfl⟩ := List.mem_map.1 hx; exact Nat.lt_succ_self _
    by_cases hij : i = j
    · subst hij
      obtain ⟨l, hl⟩ := hc.le
      refine ⟨sl, r, hs, fun x hx => ?_, fun x hx => ?_, fun x hx => ?_⟩
      · rw [hl]; simp only [List.mem_append, List.mem_map]; exact .inl (.inr ⟨x, hx, rfl⟩)
      · rcases hc.idx _ hx with h | h
        · rcases List.mem_append.1 h with h | h
          · have := hes _ h; simp at this
          · obtain ⟨y, hy, he⟩ := List.mem_map.1 h
            injection he with _ he
            exact he ▸ hy
        · simp at h; omega
      · obtain ⟨d, hd, hm⟩ := hsl x hx
        exact ⟨d, hd, by rw [hl]; simp only [List.mem_append]; exact .inl (.inl hm)⟩
    · exact ih hes' i (by omega) h2
theorem key_uniq : ∀ {fs : List (Nat × Nat × PV)}, (fs.map (·.2.1)).Nodup → ∀ {x y : Nat × Nat × PV}, x ∈ fs → y ∈ fs → x.2.1 = y.2.1 → x = y
  | [], _, _, _, h, _, _ => by cases h
  | z :: fs, hn, x, y, hx, hy, he => by
    rw [List.map_cons, List.nodup_cons] at hn
    rcases List.mem_cons.1 hx with rfl | hx'
    · rcases List.mem_cons.1 hy with rfl | hy'
      · rfl
      · exact absurd (List.mem_map.2 ⟨y, hy', he.symm⟩) hn.1
    · rcases List.mem_cons.1 hy with rfl | hy'
      · exact absurd (List.mem_map.2 ⟨x, hx', he⟩) hn.1
      · exact key_uniq hn.2 hx' hy' he
theorem lookup_isSome {l : List (Nat × PV)} {x : Nat × PV} (h : x ∈ l) : ∃ q, l.lookup x.1 = some q := by
  induction l with
  | nil => cases h
  | cons y l ih =>
    obtain ⟨k, q⟩ := y
    rw [List.lookup_cons]
    split
    · exact ⟨_, rfl⟩
    · rcases List.mem_cons.1 h with rfl | h
      · rename_i hb; simp at hb
      · exact ih h
theorem mkS_lookup {b : Nat → Bool} : ∀ {fs : List (Nat × Nat × PV)}, (fs.map (·.2.1)).Nodup → ∀ {i t : Nat} {p : PV}, (i, t, p) ∈ fs → (mkS b fs).lookup t = some (cond (b i) p .undef)
  | [], _, _, _, _, h => by cases h
  | x :: fs, hn, i, t, p, h => by
    rw [List.map_cons, List.nodup_cons] at hn
    simp only [mkS, List.map_cons, List.lookup_cons]
    rcases List.mem_cons.1 h with rfl | h
    · simp
    · have hne : (t == x.2.1) = false := by
        have : t ≠ x.2.1 := by rintro rfl; exact hn.1 (List.mem_map.2 ⟨_, h, rfl⟩)
        simpa using this
      rw [hne]
      exact mkS_lookup hn.2 h
theorem mkS_none {b : Nat → Bool} : ∀ {fs : List (Nat × Nat × PV)} {t : Nat}, t ∉ fs.map (·.2.1) → (mkS b fs).lookup t = none
  | [], _, _ => rfl
  | x :: fs, t, h => by
    simp only [List.map_cons, List.mem_cons, not_or] at h
    have hne : (t == x.2.1) = false := by simpa using h.1
    simp only [mkS, List.map_cons, List.lookup_cons, hne]
    exact mkS_none h.2
theorem lookup_append (l m : List (Nat × PV)) (t : Nat) : (l ++ m).lookup t = (l.lookup t).or (m.lookup t) := by
  induction l with
  | nil => simp
  | cons x l ih =>
    obtain ⟨k, p⟩ := x
    simp only [List.cons_append, List.lookup_cons]
    split
    · simp
    · exact ih
theorem lookup_mem' : ∀ (l : List (Nat × PV)) (t : Nat) (p : PV), l.lookup t = some p → (t, p) ∈ l
  | [], _, _, h => by cases h
  | (k, q) :: l, t, p, h => by
    rw [List.lookup_cons] at h
    split at h
    · rename_i hb
      injection h with h
      have := eq_of_beq hb
      subst this; subst h; simp
    · exact List.mem_cons_of_mem _ (lookup_mem' l t p h)
/-- The same memory; every temporary that is named on the right stands so on the left. -/
theorem Le_slots {K : Ctx} {s s' : GS} (hm : s'.mem = s.mem) (h : ∀ t p, s'.get t = some p → s.get t = some p ∨ p = .undef) : Le K s s' := by
  rintro a w ⟨S, O, m, hr⟩
  refine ⟨S, O, m, hm ▸ hr.env, hr.defers, hr.size, hr.pre, fun t p hp => ?_⟩
  rcases h t p hp with h | rfl
  · exact hr.slots t p h
  · exact .undef _ _
theorem beq_no {j i : Nat} (h : ¬ j = i) : Nat.beq j i = false := by
  cases hb : Nat.beq j i with
  | false => rfl
  | true => exact absurd (Nat.eq_of_beq_eq_true hb) h
theorem beq_yes (j : Nat) : Nat.beq j j = true := Nat.beq_refl j
def bOf (listed : Array Bool) : Nat → Bool := fun j => listed.getD j false
theorem bOf_set {listed : Array Bool} {i : Nat} (hi : i < listed.size) : bOf (listed.setIfInBounds i true) = upd (bOf listed) i := by
  funext j
  unfold bOf upd
  by_cases hj : j = i
  · subst hj
    rw [beq_yes]; simp [Array.getD, hi]
  · have : Nat.beq j i = false := beq_no hj
    rw [this]
    simp only [cond_false, Array.getD_eq_getD_getElem?]
    rw [Array.getElem?_setIfInBounds_ne (Ne.symm hj)]
def open_ (listed : Array Bool) : Nat := (listed.toList.filter (!·)).length
theorem open_set {listed : Array Bool} {i : Nat} (hi : i < listed.size) (hf : listed.getD i true = false) : open_ (listed.setIfInBounds i true) + 1 = open_ listed := by
  have key : ∀ (l : List Bool) (i : Nat), l[i]? = some false → ((l.set i true).filter (!·)).length + 1 = (l.filter (!·)).length := by
    intro l
    induction l with
    | nil => intro i h; simp at h
    | cons x l ih =>
      intro i h
      cases i with
      | zero => simp at h; subst h; simp
      | succ i =>
        have := ih i (by simpa using h)
        rw [List.set_cons_succ, List.filter_cons, List.filter_cons]
        split
        · rw [List.length_cons, List.length_cons]; omega
        · exact this
  unfold open_
  rw [show (listed.setIfInBounds i true).toList = listed.toList.set i true by simp]
  refine key _ i ?_
  have hl : listed[i]? = some listed[i] := Array.getElem?_eq_getElem hi
  rw [Array.getD_eq_getD_getElem?, hl] at hf
  rw [Array.getElem?_toList, hl]
  simpa using hf
theorem open_zero {listed : Array Bool} (h : open_ listed = 0) (i : Nat) (hi : i < listed.size) : listed.getD i true = true := by
  unfold open_ at h
  rw [List.length_eq_zero_iff, List.filter_eq_nil_iff] at h
  have := h listed[i] (by simp)
  rw [Array.getD_eq_getD_getElem?, Array.getElem?_eq_getElem hi]
  simpa using this
theorem depsOf_mem {ops : Array Oper} {i : Nat} {o : Oper} (ho : ops[i]? = some o) {e : Edge} (he : e ∈ o.after) (hb : Region.binds .any e = true) : e.on ∈ depsOf ops i := by
  unfold depsOf
  rw [ho]
  exact List.mem_map.2 ⟨e, List.mem_filter.2 ⟨by simpa using he, hb⟩, rfl⟩
/-- A region whose order is open: each operation once. -/
theorem G_conf {K : Ctx} {id : Nat} {ops : Array Oper} {Q : Exit → GS → Prop} {s s'' : GS} {M : (Nat → Bool) → List (List PV)} {base : List (Nat × PV)} {fs : List (Nat × Nat × PV)} (n : Nat) (hn : ops.size = n) (hm : K.P.follows .mixedOrders = true)
    (hs : Le K s ⟨base, M noB⟩) (hc : Conf K ops M base 0 [] fs) (hnd : (fs.map (·.2.1)).Nodup) (hdis : ∀ x ∈ base, x.1 ∉ fs.map (·.2.1)) (hdep : ∀ i, i < n → ∀ d ∈ depsOf ops i, d < i)
    (hs'' : GS.mk (fs.map (·.2) ++ base) (M (allB n)) = s'') (hfi : ∀ x ∈ fs, x.1 < n) (hq : Q .normal s'') : G K (.region id ops true) Q s := by
  subst hn
  rintro a w ha
  obtain ⟨S, O, m, hr⟩ := hs a w ha
  have hd := hr.drew
  refine wp_mono (Q := endN K Q) (wp_region_any hm ?_) (fun e a' w' ⟨he, s', hq, hat⟩ => ⟨s', he ▸ hq, hat⟩)
  have hbl : ∀ {t p}, (base.lookup t) = some p → t ∉ fs.map (·.2.1) := fun h => hdis _ (lookup_mem' _ _ _ h)
  have key : ∀ fuel (listed : Array Bool) a w, listed.size = ops.size → open_ listed = fuel → Valid ops (bOf listed) → At K ⟨mkS (bOf listed) fs ++ base, M (bOf listed)⟩ a w → wpAny K.P .any ops (endN K Q) fuel listed a w := by
    intro fuel
    induction fuel with
    | zero =>
      intro listed a w hsz ho _ hat
      have hall : ∀ i, i < ops.size → listed.getD i true = true := fun i hi => open_zero ho i (by omega)
      have hb : bOf listed = allB ops.size := by
        funext j
        unfold bOf allB
        by_cases hj : j < ops.size
        · have := hall j hj
          rw [Array.getD_eq_getD_getElem?, Array.getElem?_eq_getElem (by omega)] at this
          rw [Array.getD_eq_getD_getElem?, Array.getElem?_eq_getElem (by omega)]
          simp at this ⊢
          rw [this]; exact (show Nat.blt j ops.size = true by rw [Nat.blt_eq]; exact hj).symm
        · rw [Array.getD_eq_getD_getElem?, Array.getElem?_eq_none (by omega)]
          have : Nat.blt j ops.size = false := by
            cases hb : Nat.blt j ops.size with
            | false => rfl
            | true => rw [Nat.blt_eq] at hb; omega
          rw [this]; rfl
      refine ⟨?_, rfl, s'', hq, ?_⟩
      · rw [List.eq_nil_iff_forall_not_mem]
        intro i hi
        obtain ⟨h1, o, ho, _⟩ := mem_ready.1 hi
        rw [hall i (Array.getElem?_eq_some_iff.1 ho).1] at h1; cases h1
      · rw [← hs'']
        refine Le_slots (s := ⟨mkS (bOf listed) fs ++ base, M (bOf listed)⟩) (by rw [hb]) (fun t p hp => .inl ?_) a w hat
        simp only [GS.get, lookup_append] at hp ⊢
        by_cases ht : t ∈ fs.map (·.2.1)
        · obtain ⟨⟨i, t', p'⟩, hx, rfl⟩ := List.mem_map.1 ht
          have h1 : (fs.map (·.2)).lookup t' = some p' := by
            have := mkS_lookup (b := fun _ => true) hnd hx
            simpa [mkS] using this
          rw [h1] at hp
          rw [mkS_lookup hnd hx, hb]
          have hlt := hfi _ hx
          have : allB ops.size i = true := (show Nat.blt i ops.size = true by rw [Nat.blt_eq]; exact hlt)
          rw [this]; simpa using hp
        · have h1 : (fs.map (·.2)).lookup t = none := by
            have := mkS_none (b := fun _ => true) ht
            simpa [mkS] using this
          rw [h1] at hp
          rw [mkS_none ht]; simpa using hp
    | succ fuel ih =>
      intro listed a w hsz ho hv hat
      refine ⟨fun hr0 => ?_, fun i hi => ?_⟩
      · exfalso
        -- the least one that is open is ready
        have hex : ∃ i, i < ops.size ∧ listed.getD i true = false := by
          refine Classical.byContradiction fun hne => ?_
          have : open_ listed = 0 := by
            unfold open_
            rw [List.length_eq_zero_iff, List.filter_eq_nil_iff]
            intro x hx
            obtain ⟨i, hi, rfl⟩ := List.mem_iff_getElem.1 hx
            have hi' : i < listed.size := by simpa using hi
            have h1 : ¬ (listed.getD i true = false) := fun h => hne ⟨i, by omega, h⟩
            rw [Array.getD_eq_getD_getElem?, Array.getElem?_eq_getElem hi'] at h1
            simpa using h1
          omega
        have hmin : ∀ k i, i ≤ k → i < ops.size → listed.getD i true = false → ∃ j, j < ops.size ∧ listed.getD j true = false ∧ ∀ d, d < j → listed.getD d true = true := by
          intro k
          induction k with
          | zero => intro i h1 h2 h3; exact ⟨i, h2, h3, fun d hd => by omega⟩
          | succ k ihk =>
            intro i h1 h2 h3
            by_cases hd : ∃ d, d < i ∧ listed.getD d true = false
            · obtain ⟨d, h4, h5⟩ := hd; exact ihk d (by omega) (by omega) h5
            · exact ⟨i, h2, h3, fun d hd' => by
                cases h : listed.getD d true with
                | true => rfl
                | false => exact absurd ⟨d, hd', h⟩ hd⟩
        obtain ⟨i, h2, h3⟩ := hex
        obtain ⟨j, hj1, hj2, hj3⟩ := hmin i i (Nat.le_refl _) h2 h3
        have : j ∈ Region.ready .any ops listed := mem_ready.2 ⟨hj2, ops[j], Array.getElem?_eq_getElem hj1, fun e he hb => by
          have hlt := hdep j hj1 _ (depsOf_mem (Array.getElem?_eq_getElem hj1) he hb)
          have := hj3 _ hlt
          rw [Array.getD_eq_getD_getElem?, Array.getElem?_eq_getElem (by omega)] at this ⊢
          simpa using this⟩
        rw [hr0] at this; cases this
      · obtain ⟨hi1, o, hoi, hi2⟩ := mem_ready.1 hi
        have hilt : i < ops.size := (Array.getElem?_eq_some_iff.1 hoi).1
        have hbi : bOf listed i = false := by
          unfold bOf
          rw [Array.getD_eq_getD_getElem?, Array.getElem?_eq_getElem (by omega)] at hi1 ⊢
          simpa using hi1
        have hbd : ∀ j ∈ depsOf ops i, bOf listed j = true := fun j hj => by
          unfold depsOf at hj
          rw [hoi] at hj
          obtain ⟨e, he, rfl⟩ := List.mem_map.1 hj
          obtain ⟨he1, he2⟩ := List.mem_filter.1 he
          exact hi2 e (by simpa using he1) he2
        obtain ⟨sl, r, hst, hr1, hr2, hsl⟩ := hc.at (fun x hx => by cases hx) i (Nat.zero_le _) hilt
        have hle : Le K ⟨mkS (bOf listed) fs ++ base, M (bOf listed)⟩ ⟨sl ++ base ++ (mkS (bOf listed) fs), M (bOf listed)⟩ := Le_slots rfl fun t p hp => by
          simp only [GS.get, lookup_append] at hp ⊢
          cases h1 : sl.lookup t with
          | some q =>
            rw [h1] at hp
            have hqp : q = p := by simpa using hp
            subst hqp
            obtain ⟨d, hd, hmem⟩ := hsl _ (lookup_mem' _ _ _ h1)
            left
            rw [mkS_lookup hnd hmem, hbd d hd]; rfl
          | none =>
            rw [h1] at hp
            cases h2 : base.lookup t with
            | some q =>
              rw [h2] at hp
              left
              rw [mkS_none (hbl h2)]; simpa using hp
            | none =>
              rw [h2] at hp
              left
              have h3 : (mkS (bOf listed) fs).lookup t = some p := by simpa using hp
              rw [h3]; rfl
        have h1 := hst (bOf listed) (mkS (bOf listed) fs) hbi hbd hv a w (hle a w hat)
        rw [wpOps_cons] at h1
        refine wpOp_to ?_ ?_ h1
        · rintro e a' w' hne' ⟨s', ⟨he, _⟩, _⟩
          exact absurd he hne'
        · intro a' w' h2
          obtain ⟨s', ⟨_, rfl⟩, hat'⟩ := (h2 : ∃ s', _ ∧ _)
          have hset := bOf_set (listed := listed) (i := i) (by omega)
          refine ih (listed.setIfInBounds i true) a' w' (by simpa using hsz) (by have := open_set (listed := listed) (i := i) (by omega) hi1; omega) ?_ ?_
          · rw [hset]
            intro j hj d hdj
            unfold upd at hj ⊢
            cases hdi : Nat.beq d i with
            | true => rfl
            | false =>
              simp only [cond_false]
              cases hji : Nat.beq j i with
              | true =>
                have : j = i := Nat.eq_of_beq_eq_true hji
                subst this; exact hbd d hdj
              | false => rw [hji] at hj; exact hv j (by simpa using hj) d hdj
          · rw [hset]
            refine Le_slots (s := ⟨r ++ (sl ++ base ++ mkS (bOf listed) fs), M (upd (bOf listed) i)⟩) (s' := ⟨mkS (upd (bOf listed) i) fs ++ base, M (upd (bOf listed) i)⟩) rfl (fun t p hp => ?_) a' w' hat'
            simp only [GS.get, lookup_append] at hp ⊢
            by_cases ht : t ∈ fs.map (·.2.1)
            · obtain ⟨⟨j, t', p'⟩, hx, rfl⟩ := List.mem_map.1 ht
              rw [mkS_lookup hnd hx] at hp
              have hp' : cond (upd (bOf listed) i j) p' PV.undef = p := by simpa using hp
              left
              by_cases hji : j = i
              · subst hji
                have hu : upd (bOf listed) j j = true := by
                  unfold upd
                  rw [beq_yes]; rfl
                rw [hu] at hp'
                have hpp : p' = p := hp'
                subst hpp
                obtain ⟨q, hq⟩ := lookup_isSome (hr2 _ hx)
                have := key_uniq hnd (hr1 _ (lookup_mem' _ _ _ hq)) hx rfl
                injection this with _ this
                injection this with _ this
                subst this
                show (r.lookup t').or _ = _
                rw [show r.lookup t' = some q from hq]; rfl
              · have hu : upd (bOf listed) i j = bOf listed j := by
                  unfold upd
                  rw [beq_no hji]; rfl
                rw [hu] at hp'
                have hrn : r.lookup t' = none := by
                  cases hrl : r.lookup t' with
                  | none => rfl
                  | some q =>
                    exfalso
                    have := key_uniq hnd (hr1 _ (lookup_mem' _ _ _ hrl)) hx rfl
                    injection this with this _
                    exact hji this.symm
                have hbn : base.lookup t' = none := by
                  cases hb : base.lookup t' with
                  | none => rfl
                  | some q => exact absurd ht (hbl hb)
                show (r.lookup t').or _ = _
                rw [hrn, hbn, mkS_lookup hnd hx]
                cases hsll : sl.lookup t' with
                | some q =>
                  obtain ⟨d, hd, hmem⟩ := hsl _ (lookup_mem' _ _ _ hsll)
                  have := key_uniq hnd hmem hx rfl
                  injection this with h1 h2
                  injection h2 with _ h2
                  subst h1; subst h2
                  rw [hbd d hd] at hp'
                  have hpp : q = p := hp'
                  rw [hpp]; rfl
                | none => rw [hp']; rfl
            · rw [mkS_none ht] at hp
              have hp' : base.lookup t = some p := by simpa using hp
              have hrn : r.lookup t = none := by
                cases hrl : r.lookup t with
                | none => rfl
                | some q => exact absurd (List.mem_map.2 ⟨_, hr1 _ (lookup_mem' _ _ _ hrl), rfl⟩) ht
              have hsn : sl.lookup t = none := by
                cases hrl : sl.lookup t with
                | none => rfl
                | some q =>
                  obtain ⟨d, _, hmem⟩ := hsl _ (lookup_mem' _ _ _ hrl)
                  exact absurd (List.mem_map.2 ⟨_, hmem, rfl⟩) ht
              left
              rw [hrn, hsn, hp']; rfl
  have hb0 : bOf (Array.replicate ops.size false) = noB := by
    funext j
    unfold bOf noB
    rw [Array.getD_eq_getD_getElem?, Array.getElem?_replicate]
    split <;> rfl
  refine key ops.size (Array.replicate ops.size false) a w.drew (by simp) (by simp [open_]) ?_ ?_
  · rw [hb0]; intro j hj; cases hj
  · rw [hb0]
    refine Le_slots (s := ⟨base, M noB⟩) (s' := ⟨mkS noB fs ++ base, M noB⟩) rfl (fun t p hp => ?_) a w.drew ⟨S, O, m, hd⟩
    simp only [GS.get, lookup_append] at hp ⊢
    by_cases ht : t ∈ fs.map (·.2.1)
    · obtain ⟨⟨j, t', p'⟩, hx, rfl⟩ := List.mem_map.1 ht
      rw [mkS_lookup hnd hx] at hp
      right
      have : PV.undef = p := by simpa [noB] using hp
      exact this.symm
    · rw [mkS_none ht] at hp
      left; simpa using hp
end Go.Proofs.YtklkbfpjimeaoaaGreat.E
