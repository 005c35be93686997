import Derived.Test.YtklkbfpjimeaoaaM16
/- Contracts of functions. Conditions: none. -/
set_option linter.unusedSimpArgs false
set_option linter.unusedVariables false
namespace Go.Proofs.Ytklkbfpjimeaoaa.E
open Go
section
def memM (iA iS : Nat) (mem mem1 mem2 : List (List PV)) (b : Nat → Bool) : List (List PV) := cond (b iA) (cond (b iS) mem2 mem1) mem
def COm (K : Ctx) (fr : List Fr) (ops : Array Oper) (base : List (Nat × PV)) (iA iS : Nat) (mem mem1 mem2 : List (List PV)) (i : Nat) (es : List (Nat × Nat × PV)) (Q : Exit → GS → Prop) : Prop := CGk [] K ops (memM iA iS mem mem1 mem2) base (unf K Q fr) i es
section
variable {K : Ctx} {fr : List Fr} {ops : Array Oper} {base pre : List (Nat × PV)} {iA iS : Nat} {mem mem1 mem2 : List (List PV)} {i j t : Nat} {es es' : List (Nat × Nat × PV)} {Q : Exit → GS → Prop} {p : PV}
theorem beq_sw {a b : Nat} (h : Nat.beq a b = false) : Nat.beq b a = false := by
 cases h' : Nat.beq b a with
 | false => rfl
 | true => rw [Nat.eq_of_beq_eq_true h', Nat.beq_refl] at h; cases h
theorem numj (hj : nth nums (i + 1) = some j) : i + 1 = j := by
 rw [nth_eq, nums_eq] at hj
 obtain ⟨_, h⟩ := List.getElem?_eq_some_iff.1 hj
 simpa using h
theorem see_ds {ds : List Nat} : (ds.all fun d => ds.contains d && (match ([] : List (Nat × Nat)).lookup d with | none => true | some m => Nat.beq m i)) = true := by
 rw [List.all_eq_true]
 intro d hd
 rw [Bool.and_eq_true]
 exact ⟨by simpa using hd, rfl⟩
theorem oStepM (hs : see ops.toList i es base = some pre) (hj : nth nums (i + 1) = some j) (hes : snocK es (i, t, p) some = some es') (hiA : Nat.beq i iA = false) (hiS : Nat.beq i iS = false)
 (hc : COm K fr ops base iA iS mem mem1 mem2 j es' Q) (hstep : ∀ (rest : List (Nat × PV)) (mm : List (List PV)) (Q' : Exit → GS → Prop), GF K [] (.ops ops []) Q' ⟨(t, p) :: (pre ++ rest), mm⟩ → GF K [] (.ops ops [i]) Q' ⟨pre ++ rest, mm⟩) : COm K fr ops base iA iS mem mem1 mem2 i es Q := by
 obtain ⟨o, ho, rfl⟩ := see_of hs
 have hj := numj hj
 rw [snocK_eq] at hes
 injection hes with hes
 subst hj; subst hes
 have hM : ∀ b, memM iA iS mem mem1 mem2 (upd b i) = memM iA iS mem mem1 mem2 b := fun b => by
  unfold memM upd
  rw [beq_sw hiA, beq_sw hiS]
  rfl
 have hck : CFk [] K ops (memM iA iS mem mem1 mem2) base (unf K Q fr) i es (fun rest => pick es (depsOf ops i) ++ base ++ rest) :=
  ck_st (i + 1) (fun b rest _ _ _ => by rw [hM]; exact ofO (fr := []) (hstep rest _ (fun e s' => e = .normal ∧ s' = ⟨(t, p) :: (pick es (depsOf ops i) ++ base ++ rest), memM iA iS mem mem1 mem2 b⟩) (toO (fr := []) (gN ⟨rfl, rfl⟩)))) hc rfl rfl
 exact hck (depsOf ops i) (fun _ => rfl) (see_ds (i := i))
theorem oMake (hs : see ops.toList iA es base = some pre) (hj : nth nums (iA + 1) = some j) (hes : snocK es (iA, t, p) some = some es') (hdep : memN iA (depsOf ops iS) = true)
 (hne : Nat.beq iS iA = false) (hc : COm K fr ops base iA iS mem mem1 mem2 j es' Q) (hstep : ∀ (rest : List (Nat × PV)) (Q' : Exit → GS → Prop), GF K [] (.ops ops []) Q' ⟨(t, p) :: (pre ++ rest), mem1⟩ → GF K [] (.ops ops [iA]) Q' ⟨pre ++ rest, mem⟩) : COm K fr ops base iA iS mem mem1 mem2 iA es Q := by
 obtain ⟨o, ho, rfl⟩ := see_of hs
 have hj := numj hj
 rw [snocK_eq] at hes
 injection hes with hes
 subst hj; subst hes
 rw [memN_eq] at hdep
 have hck : CFk [] K ops (memM iA iS mem mem1 mem2) base (unf K Q fr) iA es (fun rest => pick es (depsOf ops iA) ++ base ++ rest) :=
  ck_st (iA + 1) (fun b rest hb _ hv => by
   have hbS : b iS = false := by
    cases h : b iS with
    | false => rfl
    | true => rw [hv iS h iA (by simpa using hdep)] at hb; cases hb
   have h1 : memM iA iS mem mem1 mem2 b = mem := by unfold memM; rw [hb]; rfl
   have h2 : memM iA iS mem mem1 mem2 (upd b iA) = mem1 := by unfold memM upd; rw [Nat.beq_refl, hne, hbS]; rfl
   rw [h1, h2]
   exact ofO (fr := []) (hstep rest (fun e s' => e = .normal ∧ s' = ⟨(t, p) :: (pick es (depsOf ops iA) ++ base ++ rest), mem1⟩) (toO (fr := []) (gN ⟨rfl, rfl⟩)))) hc rfl rfl
 exact hck (depsOf ops iA) (fun _ => rfl) (see_ds (i := iA))
theorem oFill (hs : see ops.toList iS es base = some pre) (hj : nth nums (iS + 1) = some j) (hdep : memN iA (depsOf ops iS) = true) (hne : Nat.beq iA iS = false)
 (hc : COm K fr ops base iA iS mem mem1 mem2 j es Q) (hstep : ∀ (rest : List (Nat × PV)) (Q' : Exit → GS → Prop), GF K [] (.ops ops []) Q' ⟨pre ++ rest, mem2⟩ → GF K [] (.ops ops [iS]) Q' ⟨pre ++ rest, mem1⟩) : COm K fr ops base iA iS mem mem1 mem2 iS es Q := by
 obtain ⟨o, ho, rfl⟩ := see_of hs
 have hj := numj hj
 subst hj
 rw [memN_eq] at hdep
 have hck : CFk [] K ops (memM iA iS mem mem1 mem2) base (unf K Q fr) iS es (fun rest => pick es (depsOf ops iS) ++ base ++ rest) :=
  ck_act (iS + 1) (fun b rest hb hd _ => by
   have hbA : b iA = true := hd iA (by simpa using hdep)
   have h1 : memM iA iS mem mem1 mem2 b = mem1 := by unfold memM; rw [hbA, hb]; rfl
   have h2 : memM iA iS mem mem1 mem2 (upd b iS) = mem2 := by unfold memM upd; rw [Nat.beq_refl, hne, hbA]; rfl
   rw [h1, h2]
   exact ofO (fr := []) (hstep rest (fun e s' => e = .normal ∧ s' = ⟨pick es (depsOf ops iS) ++ base ++ rest, mem2⟩) (toO (fr := []) (gN ⟨rfl, rfl⟩)))) hc rfl
 exact hck (depsOf ops iS) (fun _ => rfl) (see_ds (i := iS))
theorem oEndM {sl : List (Nat × PV)} (hi : sizeIs ops.toList i = true) (hp : putK es base some = some sl) (hA : Nat.blt iA ops.size = true) (hS : Nat.blt iS ops.size = true) (h : GF K fr (.leave .normal) Q ⟨sl, mem2⟩)
 (hn : nodupB (es.map (·.2.1)) = true) (hb : base.all (fun x => !(es.map (·.2.1)).contains x.1) = true) (hf : es.all (fun x => Nat.blt x.1 ops.size) = true) : COm K fr ops base iA iS mem mem1 mem2 i es Q := by
 have hi := sizeIs_of _ _ hi
 have hp := putK_of hp
 injection hp with hp
 subst hp
 refine ⟨es, .done hi.symm, nodupB_iff hn, fun x hx hm => ?_, fun x hx => blt_of (List.all_eq_true.1 hf x hx), ?_⟩
 · have := List.all_eq_true.1 hb x hx
   simp only [Bool.not_eq_true', List.contains_eq_mem, decide_eq_false_iff_not] at this
   exact this hm
 · have h1 : (es.filter fun x => (List.lookup x.1 ([] : List (Nat × Nat))).isNone) = es := List.filter_eq_self.2 (fun x _ => rfl)
   have h2 : memM iA iS mem mem1 mem2 (allB ops.size) = mem2 := by unfold memM allB; rw [hA, hS]; rfl
   rw [h1, h2]
   exact h
end
theorem gOpenM (iA iS : Nat) {K : Ctx} {fr : List Fr} {id : Nat} {ops : Array Oper} {sl base : List (Nat × PV)} {mem mem1 mem2 : List (List PV)} {ds : List Nat} {Q : Exit → GS → Prop} (hb : baseK ops.toList sl = some (ds, base)) (hm : K.P.follows .mixedOrders = true)
 (hdep : ((List.range ops.size).all fun i => (depsOf ops i).all fun d => Nat.blt d i) = true) (h : COm K fr ops base iA iS mem mem1 mem2 0 [] Q) : GF K fr (.code (.region id ops true)) Q ⟨sl, mem⟩ := by
 obtain ⟨ds', h1⟩ := dstsK_any hb
 have h2 := fltK_of ds' h1
 injection h2 with h2; injection h2 with h3 h4
 subst h3
 exact g_ck [] ds' (memM iA iS mem mem1 mem2) rfl h h4 hm hdep
end
section
inductive ConfP (p0 : Nat) (kl : List (Nat × Nat)) (K : Ctx) (ops : Array Oper) (M : (Nat → Bool) → List (List PV)) (base : List (Nat × PV)) : Nat → List (Nat × Nat × PV) → List (Nat × Nat × PV) → Prop
 | done {i : Nat} {es : List (Nat × Nat × PV)} : i = p0 → ConfP p0 kl K ops M base i es es
 | step {i : Nat} {es fs : List (Nat × Nat × PV)} {sl r xt : List (Nat × PV)} (hs : StpK K ops M base i sl r xt) (hsl : ∀ x ∈ sl, ∃ d ∈ depsOf ops i, (d, x) ∈ es ∧ (kl.lookup d = none ∨ kl.lookup d = some i)) (hx : ∀ x ∈ xt, ∃ d q, (d, x.1, q) ∈ es ∧ kl.lookup d = some i) (hc : ConfP p0 kl K ops M base (i + 1) (es ++ r.map fun x => (i, x)) fs) : ConfP p0 kl K ops M base i es fs
variable {p0 : Nat} {kl : List (Nat × Nat)} {K : Ctx} {ops : Array Oper} {base : List (Nat × PV)} {fs : List (Nat × Nat × PV)}
theorem ConfP.le {M : (Nat → Bool) → List (List PV)} {i : Nat} {es : List (Nat × Nat × PV)} (h : ConfP p0 kl K ops M base i es fs) : ∃ later, fs = es ++ later := by
 induction h with
 | done _ => exact ⟨[], by simp⟩
 | step _ _ _ _ ih => obtain ⟨l, h⟩ := ih; exact ⟨_, by rw [h, List.append_assoc]⟩
theorem ConfP.idx {M : (Nat → Bool) → List (List PV)} {i0 : Nat} {es : List (Nat × Nat × PV)} (h : ConfP p0 kl K ops M base i0 es fs) : ∀ x ∈ fs, x ∈ es ∨ i0 ≤ x.1 := by
 induction h with
 | done _ => exact fun x hx => .inl hx
 | @step j es fs sl r xt hs hsl hx hc ih =>
  intro x hx
  rcases ih x hx with h | h
  · rcases List.mem_append.1 h with h | h
    · exact .inl h
    · obtain ⟨y, _, rfl⟩ := List.mem_map.1 h; exact .inr (Nat.le_refl _)
  · exact .inr (by omega)
theorem ConfP.at {M : (Nat → Bool) → List (List PV)} {i0 : Nat} {es : List (Nat × Nat × PV)} (h : ConfP p0 kl K ops M base i0 es fs) (hes : ∀ x ∈ es, x.1 < i0) :
 ∀ i, i0 ≤ i → i < p0 → ∃ sl r xt, StpK K ops M base i sl r xt ∧ (∀ x ∈ r, (i, x) ∈ fs) ∧ (∀ x, (i, x) ∈ fs → x ∈ r) ∧ (∀ x ∈ sl, ∃ d ∈ depsOf ops i, (d, x) ∈ fs ∧ (kl.lookup d = none ∨ kl.lookup d = some i)) ∧ ∀ x ∈ xt, ∃ d q, (d, x.1, q) ∈ fs ∧ kl.lookup d = some i := by
 induction h with
 | done h => intro i h1 h2; omega
 | @step j es fs sl r xt hs hsl hx hc ih =>
  intro i h1 h2
  have hes' : ∀ x ∈ es ++ r.map (fun x => (j, x)), x.1 < j + 1 := fun x hx => by
   rcases List.mem_append.1 hx with hx | hx
   · have := hes x hx; omega
   · obtain ⟨y, _, rfl⟩ := List.mem_map.1 hx; exact Nat.lt_succ_self _
  by_cases hij : i = j
  · subst hij
    obtain ⟨l, hl⟩ := hc.le
    refine ⟨sl, r, xt, hs, fun x hx => ?_, fun x hx => ?_, fun x hx => ?_, fun x hx' => ?_⟩
    · rw [hl]; simp only [List.mem_append, List.mem_map]; exact .inl (.inr ⟨x, hx, rfl⟩)
    · rcases hc.idx _ hx with h | h
      · rcases List.mem_append.1 h with h | h
        · have := hes _ h; simp at this
        · obtain ⟨y, hy, he⟩ := List.mem_map.1 h
          injection he with _ he
          exact he ▸ hy
      · simp at h; omega
    · obtain ⟨d, hd, hm, hk⟩ := hsl x hx
      exact ⟨d, hd, by rw [hl]; simp only [List.mem_append]; exact .inl (.inl hm), hk⟩
    · obtain ⟨d, q, hm, hk⟩ := hx x hx'
      exact ⟨d, q, by rw [hl]; simp only [List.mem_append]; exact .inl (.inl hm), hk⟩
  · exact ih hes' i (by omega) h2
theorem G_confP {id : Nat} {Q : Exit → GS → Prop} {s : GS} {M : (Nat → Bool) → List (List PV)} {slp : List (Nat × PV)} (p0 : Nat) (n : Nat) (hn : ops.size = n) (hm : K.P.follows .mixedOrders = true)
 (hs : Le K s ⟨base, M noB⟩) (hc : ConfP p0 kl K ops M base 0 [] fs) (hp0 : p0 < ops.size) (hlater : ∀ j, p0 < j → j < ops.size → p0 ∈ depsOf ops j) (hpan : ∀ (b : Nat → Bool) (rest : List (Nat × PV)), (∀ j ∈ depsOf ops p0, b j = true) → GOps K ops (fun e s' => e ≠ .normal ∧ Q e s') [p0] ⟨slp ++ base ++ rest, M b⟩) (hslp : ∀ x ∈ slp, ∃ d ∈ depsOf ops p0, (d, x) ∈ fs ∧ (kl.lookup d = none ∨ kl.lookup d = some p0)) (hnd : (fs.map (·.2.1)).Nodup) (hdis : ∀ x ∈ base, x.1 ∉ fs.map (·.2.1)) (hdep : ∀ i, i < n → ∀ d ∈ depsOf ops i, d < i)
 (hfi : ∀ x ∈ fs, x.1 < n) : G K (.region id ops true) Q s := by
 subst hn
 rintro a w ha
 obtain ⟨S, O, m, hr⟩ := hs a w ha
 have hd := hr.drew
 refine wp_region_any hm ?_
 have hbl : ∀ {t p}, (base.lookup t) = some p → t ∉ fs.map (·.2.1) := fun h => hdis _ (lookup_mem' _ _ _ h)
 have key : ∀ fuel (listed : Array Bool) a w, listed.size = ops.size → open_ listed = fuel → Valid ops (bOf listed) → bOf listed p0 = false → At K ⟨mkK kl (bOf listed) fs ++ base, M (bOf listed)⟩ a w → wpAny K.P .any ops (fun e a' w' => ∃ s', Q e s' ∧ At K s' a' w') fuel listed a w := by
  intro fuel
  induction fuel with
  | zero =>
   intro listed a w hsz ho _ hbp hat
   exfalso
   have hall := open_zero ho p0 (by omega)
   unfold bOf at hbp
   rw [Array.getD_eq_getD_getElem?, Array.getElem?_eq_getElem (by omega)] at hall hbp
   simp at hall hbp
   rw [hall] at hbp
   cases hbp
  | succ fuel ih =>
   intro listed a w hsz ho hv hbp hat
   refine ⟨fun hr0 => ?_, fun i hi => ?_⟩
   · exfalso
     -- the least one that is open is ready
     have hex : ∃ i, i < ops.size ∧ listed.getD i true = false := by
      refine Classical.byContradiction fun hne => ?_
      have : open_ listed = 0 := by
       unfold open_
       rw [List.length_eq_zero_iff, List.filter_eq_nil_iff]
       intro x hx
       obtain ⟨i, hi, rfl⟩ := List.mem_iff_getElem.1 hx
       have hi' : i < listed.size := by simpa using hi
       have h1 : ¬ (listed.getD i true = false) := fun h => hne ⟨i, by omega, h⟩
       rw [Array.getD_eq_getD_getElem?, Array.getElem?_eq_getElem hi'] at h1
       simpa using h1
      omega
     have hmin : ∀ k i, i ≤ k → i < ops.size → listed.getD i true = false → ∃ j, j < ops.size ∧ listed.getD j true = false ∧ ∀ d, d < j → listed.getD d true = true := by
      intro k
      induction k with
      | zero => intro i h1 h2 h3; exact ⟨i, h2, h3, fun d hd => by omega⟩
      | succ k ihk =>
       intro i h1 h2 h3
       by_cases hd : ∃ d, d < i ∧ listed.getD d true = false
       · obtain ⟨d, h4, h5⟩ := hd; exact ihk d (by omega) (by omega) h5
       · exact ⟨i, h2, h3, fun d hd' => by
          cases h : listed.getD d true with
          | true => rfl
          | false => exact absurd ⟨d, hd', h⟩ hd⟩
     obtain ⟨i, h2, h3⟩ := hex
     obtain ⟨j, hj1, hj2, hj3⟩ := hmin i i (Nat.le_refl _) h2 h3
     have : j ∈ Region.ready .any ops listed := mem_ready.2 ⟨hj2, ops[j], Array.getElem?_eq_getElem hj1, fun e he hb => by
      have hlt := hdep j hj1 _ (depsOf_mem (Array.getElem?_eq_getElem hj1) he hb)
      have := hj3 _ hlt
      rw [Array.getD_eq_getD_getElem?, Array.getElem?_eq_getElem (by omega)] at this ⊢
      simpa using this⟩
     rw [hr0] at this; cases this
   · obtain ⟨hi1, o, hoi, hi2⟩ := mem_ready.1 hi
     have hilt : i < ops.size := (Array.getElem?_eq_some_iff.1 hoi).1
     have hbi : bOf listed i = false := by
      unfold bOf
      rw [Array.getD_eq_getD_getElem?, Array.getElem?_eq_getElem (by omega)] at hi1 ⊢
      simpa using hi1
     have hbd : ∀ j ∈ depsOf ops i, bOf listed j = true := fun j hj => by
      unfold depsOf at hj
      rw [hoi] at hj
      obtain ⟨e, he, rfl⟩ := List.mem_map.1 hj
      obtain ⟨he1, he2⟩ := List.mem_filter.1 he
      exact hi2 e (by simpa using he1) he2
     have hle : ∀ sl : List (Nat × PV), (∀ x ∈ sl, ∃ d ∈ depsOf ops i, (d, x) ∈ fs ∧ (kl.lookup d = none ∨ kl.lookup d = some i)) → Le K ⟨mkK kl (bOf listed) fs ++ base, M (bOf listed)⟩ ⟨sl ++ base ++ (mkK kl (bOf listed) fs), M (bOf listed)⟩ := fun sl hsl => Le_slots rfl fun t p hp => by
      simp only [GS.get, lookup_append] at hp ⊢
      cases h1 : sl.lookup t with
      | some q =>
       rw [h1] at hp
       have hqp : q = p := by simpa using hp
       subst hqp
       obtain ⟨d, hd, hmem, hk⟩ := hsl _ (lookup_mem' _ _ _ h1)
       left
       rw [mkK_lookup hnd hmem, alive_of (hbd d hd) hbi hk]; rfl
      | none =>
       rw [h1] at hp
       cases h2 : base.lookup t with
       | some q =>
        rw [h2] at hp
        left
        rw [mkK_none (hbl h2)]; simpa using hp
       | none =>
        rw [h2] at hp
        left
        have h3 : (mkK kl (bOf listed) fs).lookup t = some p := by simpa using hp
        rw [h3]; rfl
     by_cases hip : i = p0
     · subst hip
       have h1 := hpan (bOf listed) (mkK kl (bOf listed) fs) hbd a w (hle slp hslp a w hat)
       rw [wpOps_cons] at h1
       refine wpOp_to (fun e a w hne hx => ?_) (fun a w hx => ?_) h1
       · obtain ⟨s', ⟨_, hq⟩, hat'⟩ := hx
         exact ⟨s', hq, hat'⟩
       · obtain ⟨s', ⟨hx, _⟩, _⟩ := (hx : ∃ s', _ ∧ _)
         exact absurd rfl hx
     have hilp : i < p0 := by
      rcases Nat.lt_trichotomy i p0 with h | h | h
      · exact h
      · exact absurd h hip
      · have := hbd p0 (hlater i h hilt)
        rw [hbp] at this; cases this
     obtain ⟨sl, r, xt, hst, hr1, hr2, hsl, hxt⟩ := hc.at (fun x hx => by cases hx) i (Nat.zero_le _) hilp
     have h1 := hst (bOf listed) (mkK kl (bOf listed) fs) hbi hbd hv a w (hle sl hsl a w hat)
     rw [wpOps_cons] at h1
     refine wpOp_to ?_ ?_ h1
     · rintro e a' w' hne' ⟨s', ⟨he, _⟩, _⟩
       exact absurd he hne'
     · intro a' w' h2
       obtain ⟨s', ⟨_, rfl⟩, hat'⟩ := (h2 : ∃ s', _ ∧ _)
       have hset := bOf_set (listed := listed) (i := i) (by omega)
       refine ih (listed.setIfInBounds i true) a' w' (by simpa using hsz) (by have := open_set (listed := listed) (i := i) (by omega) hi1; omega) ?_ ?_ ?_
       · rw [hset]
         intro j hj d hdj
         unfold upd at hj ⊢
         cases hdi : Nat.beq d i with
         | true => rfl
         | false =>
          simp only [cond_false]
          cases hji : Nat.beq j i with
          | true =>
           have : j = i := Nat.eq_of_beq_eq_true hji
           subst this; exact hbd d hdj
          | false => rw [hji] at hj; exact hv j (by simpa using hj) d hdj
       · rw [hset]
         unfold upd
         rw [beq_no (fun h => hip h.symm)]
         exact hbp
       · rw [hset]
         refine Le_slots (s := ⟨r ++ (xt ++ (sl ++ base ++ mkK kl (bOf listed) fs)), M (upd (bOf listed) i)⟩) (s' := ⟨mkK kl (upd (bOf listed) i) fs ++ base, M (upd (bOf listed) i)⟩) rfl (fun t p hp => ?_) a' w' hat'
         simp only [GS.get, lookup_append] at hp ⊢
         have hui : upd (bOf listed) i i = true := by
          unfold upd
          rw [beq_yes]; rfl
         have hun : ∀ j, ¬ j = i → upd (bOf listed) i j = bOf listed j := fun j hj => by
          unfold upd
          rw [beq_no hj]; rfl
         by_cases ht : t ∈ fs.map (·.2.1)
         · obtain ⟨⟨j, t', p'⟩, hx, rfl⟩ := List.mem_map.1 ht
           rw [mkK_lookup hnd hx] at hp
           have hp' : cond (alive kl (upd (bOf listed) i) j) p' PV.undef = p := by simpa using hp
           cases hal : alive kl (upd (bOf listed) i) j with
           | false =>
            rw [hal] at hp'
            exact .inr hp'.symm
           | true =>
            rw [hal] at hp'
            have hpp : p' = p := hp'
            subst hpp
            left
            unfold alive at hal
            rw [Bool.and_eq_true] at hal
            obtain ⟨hal1, hal2⟩ := hal
            have hnk : ¬ kl.lookup j = some i := fun h => by rw [h] at hal2; simp only [hui] at hal2; cases hal2
            have hxn : xt.lookup t' = none := by
             cases hxl : xt.lookup t' with
             | none => rfl
             | some q =>
              exfalso
              obtain ⟨d, q', hm, hk⟩ := hxt _ (lookup_mem' _ _ _ hxl)
              have := key_uniq hnd hm hx rfl
              injection this with h1 _
              subst h1
              exact hnk hk
            by_cases hji : j = i
            · subst hji
              obtain ⟨q, hq⟩ := lookup_isSome (hr2 _ hx)
              have := key_uniq hnd (hr1 _ (lookup_mem' _ _ _ hq)) hx rfl
              injection this with _ this
              injection this with _ this
              subst this
              show (r.lookup t').or _ = _
              rw [show r.lookup t' = some q from hq]; rfl
            · have hbj : bOf listed j = true := by rw [← hun j hji]; exact hal1
              have halj : alive kl (bOf listed) j = true := by
               unfold alive
               rw [hbj]
               cases hk : kl.lookup j with
               | none => rfl
               | some m =>
                rw [hk] at hal2
                have hmi : ¬ m = i := fun h => hnk (h ▸ hk)
                simp only [hun m hmi] at hal2
                simpa using hal2
              have hrn : r.lookup t' = none := by
               cases hrl : r.lookup t' with
               | none => rfl
               | some q =>
                exfalso
                have := key_uniq hnd (hr1 _ (lookup_mem' _ _ _ hrl)) hx rfl
                injection this with this _
                exact hji this.symm
              have hbn : base.lookup t' = none := by
               cases hb : base.lookup t' with
               | none => rfl
               | some q => exact absurd ht (hbl hb)
              show (r.lookup t').or _ = _
              rw [hrn, hxn, hbn, mkK_lookup hnd hx, halj]
              cases hsll : sl.lookup t' with
              | some q =>
               obtain ⟨d, hd, hmem, _⟩ := hsl _ (lookup_mem' _ _ _ hsll)
               have := key_uniq hnd hmem hx rfl
               injection this with h1 h2
               injection h2 with _ h2
               subst h1; subst h2
               rfl
              | none => rfl
         · rw [mkK_none ht] at hp
           have hp' : base.lookup t = some p := by simpa using hp
           have hrn : r.lookup t = none := by
            cases hrl : r.lookup t with
            | none => rfl
            | some q => exact absurd (List.mem_map.2 ⟨_, hr1 _ (lookup_mem' _ _ _ hrl), rfl⟩) ht
           have hxn : xt.lookup t = none := by
            cases hrl : xt.lookup t with
            | none => rfl
            | some q =>
             obtain ⟨d, q', hmem, _⟩ := hxt _ (lookup_mem' _ _ _ hrl)
             exact absurd (List.mem_map.2 ⟨_, hmem, rfl⟩) ht
           have hsn : sl.lookup t = none := by
            cases hrl : sl.lookup t with
            | none => rfl
            | some q =>
             obtain ⟨d, _, hmem, _⟩ := hsl _ (lookup_mem' _ _ _ hrl)
             exact absurd (List.mem_map.2 ⟨_, hmem, rfl⟩) ht
           left
           rw [hrn, hxn, hsn, hp']; rfl
 have hb0 : bOf (Array.replicate ops.size false) = noB := by
  funext j
  unfold bOf noB
  rw [Array.getD_eq_getD_getElem?, Array.getElem?_replicate]
  split <;> rfl
 refine key ops.size (Array.replicate ops.size false) a w.drew (by simp) (by simp [open_]) ?_ ?_ ?_
 · rw [hb0]; intro j hj; cases hj
 · rw [hb0]; rfl
 · rw [hb0]
   refine Le_slots (s := ⟨base, M noB⟩) (s' := ⟨mkK kl noB fs ++ base, M noB⟩) rfl (fun t p hp => ?_) a w.drew ⟨S, O, m, hd⟩
   simp only [GS.get, lookup_append] at hp ⊢
   by_cases ht : t ∈ fs.map (·.2.1)
   · obtain ⟨⟨j, t', p'⟩, hx, rfl⟩ := List.mem_map.1 ht
     rw [mkK_lookup hnd hx] at hp
     right
     have : PV.undef = p := by simpa [alive, noB] using hp
     exact this.symm
   · rw [mkK_none ht] at hp
     left; simpa using hp
end
section
def COp (K : Ctx) (fr : List Fr) (ops : Array Oper) (base : List (Nat × PV)) (mem : List (List PV)) (p0 i : Nat) (es : List (Nat × Nat × PV)) (Q : Exit → GS → Prop) : Prop :=
 ∃ fs, ConfP p0 [] K ops (fun _ => mem) base i es fs ∧ (fs.map (·.2.1)).Nodup ∧ (∀ x ∈ base, x.1 ∉ fs.map (·.2.1)) ∧ (∀ x ∈ fs, x.1 < ops.size) ∧
  ∃ slp : List (Nat × PV), (∀ x ∈ slp, ∃ d ∈ depsOf ops p0, (d, x) ∈ fs ∧ (([] : List (Nat × Nat)).lookup d = none ∨ ([] : List (Nat × Nat)).lookup d = some p0)) ∧ ∀ (b : Nat → Bool) (rest : List (Nat × PV)), (∀ j ∈ depsOf ops p0, b j = true) → GOps K ops (fun e s' => e ≠ .normal ∧ unf K Q fr e s') [p0] ⟨slp ++ base ++ rest, mem⟩
theorem oStepP {K : Ctx} {fr : List Fr} {ops : Array Oper} {base pre : List (Nat × PV)} {mem : List (List PV)} {p0 i j t : Nat} {es es' : List (Nat × Nat × PV)} {Q : Exit → GS → Prop} {p : PV} (hs : see ops.toList i es base = some pre) (hj : nth nums (i + 1) = some j) (hes : snocK es (i, t, p) some = some es')
 (hc : COp K fr ops base mem p0 j es' Q) (hstep : ∀ (rest : List (Nat × PV)) (Q' : Exit → GS → Prop), GF K [] (.ops ops []) Q' ⟨(t, p) :: (pre ++ rest), mem⟩ → GF K [] (.ops ops [i]) Q' ⟨pre ++ rest, mem⟩) : COp K fr ops base mem p0 i es Q := by
 obtain ⟨o, ho, rfl⟩ := see_of hs
 have hj := numj hj
 rw [snocK_eq] at hes
 injection hes with hes
 subst hj; subst hes
 obtain ⟨fs, h1, h2⟩ := hc
 refine ⟨fs, .step (sl := pick es (depsOf ops i)) (r := [(t, p)]) (xt := []) (fun b rest _ _ _ => ofO (fr := []) (hstep rest (fun e s' => e = .normal ∧ s' = ⟨(t, p) :: (pick es (depsOf ops i) ++ base ++ rest), mem⟩) (toO (fr := []) (gN ⟨rfl, rfl⟩)))) (fun x hx => ?_) (fun x hx => by cases hx) h1, h2⟩
 obtain ⟨d, g1, g2⟩ := pick_mem hx
 exact ⟨d, g1, g2, .inl rfl⟩
theorem oPanic {K : Ctx} {fr : List Fr} {ops : Array Oper} {base pre : List (Nat × PV)} {mem : List (List PV)} {i t : Nat} {es : List (Nat × Nat × PV)} {Q : Exit → GS → Prop} {ob : List (Bool × Bool)} {f : FuncId} {ds : List D} {u : Value} (hs : see ops.toList i es base = some pre)
 (h : ∀ rest, cls ops.toList K.n i (pre ++ rest) = some (t, none, ob, f, ds)) (hc : Px K.P f ds (.inr u)) (hg : ∀ s', GF K fr (.leave (.panic (chain1 u))) Q s')
 (hn : nodupB (es.map (·.2.1)) = true) (hb : base.all (fun x => !(es.map (·.2.1)).contains x.1) = true) (hf : es.all (fun x => Nat.blt x.1 ops.size) = true) : COp K fr ops base mem i i es Q := by
 obtain ⟨o, ho, rfl⟩ := see_of hs
 refine ⟨es, .done rfl, nodupB_iff hn, fun x hx hm => ?_, fun x hx => blt_of (List.all_eq_true.1 hf x hx), pick es (depsOf ops i), fun x hx => ?_, fun b rest _ => ?_⟩
 · have := List.all_eq_true.1 hb x hx
   simp only [Bool.not_eq_true', List.contains_eq_mem, decide_eq_false_iff_not] at this
   exact this hm
 · obtain ⟨d, g1, g2⟩ := pick_mem hx
   exact ⟨d, g1, g2, .inl rfl⟩
 · exact ofO (fr := []) (gCP (fr := []) (Q := fun e s' => e ≠ .normal ∧ unf K Q fr e s') (h rest) hc ⟨(by intro h; cases h), hg _⟩)
theorem gOpenP (p0 : Nat) {K : Ctx} {fr : List Fr} {id : Nat} {ops : Array Oper} {sl base : List (Nat × PV)} {mem : List (List PV)} {ds : List Nat} {Q : Exit → GS → Prop} (hb : baseK ops.toList sl = some (ds, base)) (hm : K.P.follows .mixedOrders = true)
 (hdep : ((List.range ops.size).all fun i => (depsOf ops i).all fun d => Nat.blt d i) = true) (hp0 : Nat.blt p0 ops.size = true) (hlater : ((List.range ops.size).all fun j => !(Nat.blt p0 j) || (depsOf ops j).contains p0) = true) (h : COp K fr ops base mem p0 0 [] Q) : GF K fr (.code (.region id ops true)) Q ⟨sl, mem⟩ := by
 obtain ⟨ds', h1⟩ := dstsK_any hb
 have h2 := fltK_of ds' h1
 injection h2 with h2; injection h2 with h3 h4
 subst h3
 obtain ⟨fs, hc, hnd, hdis, hfi, slp, hslp, hpan⟩ := h
 refine G_confP (slp := slp) (kl := []) (M := fun _ => mem) (fs := fs) p0 ops.size rfl hm (Le_slots (s' := ⟨base, mem⟩) rfl fun t p hp => .inl ?_) hc (blt_of hp0) (fun j hj hjn => ?_) hpan hslp hnd hdis (fun i hi d hd => ?_) hfi
 · subst h4
   exact filter_lookup (fun k => !ds'.contains k) _ t p hp
 · have := List.all_eq_true.1 hlater j (List.mem_range.2 hjn)
   rw [show Nat.blt p0 j = true from by rw [Nat.blt_eq]; exact hj] at this
   simpa using this
 · exact blt_of (List.all_eq_true.1 (List.all_eq_true.1 hdep i (List.mem_range.2 hi)) d hd)
end
section
variable {ops : Array Oper} {i t : Nat} {f : FuncId} {args : List PV}
theorem cms_of {n : Nat} {sl : List (Nat × PV)} (h : cms ops.toList n i sl = some (t, f, args)) :
 ∃ (o : Oper) (ar : Array Operand) (tys : Array TypeId) (fx : Operand) (a b : List PV), ops[i]? = some o ∧ o.dst = some t ∧ t < n ∧ o.guard = none ∧ o.op = .call ⟨.value fx, ar, tys⟩ ∧ ∀ mem : List (List PV), (GS.ev ⟨sl, mem⟩ fx).callee' = some (f, a, b) ∧ PV.copies (a ++ ar.toList.map (GS.ev ⟨sl, mem⟩) ++ b) = args := by
 obtain ⟨o, ho1, h1⟩ := opK_of h
 obtain ⟨t', hdt, ht, h2⟩ := dstK_of h1
 clear h h1
 have hoi : ops[i]? = some o := by rw [nth_eq] at ho1; rw [← ho1]; simp
 split at h2
 · cases h2
 · rename_i hgd
   split at h2
   · rename_i c hop
     split at h2
     · rename_i fx hcal
       rw [evsK_eq] at h2
       obtain ⟨ca, ar, tys⟩ := c
       dsimp only at hcal h2
       subst hcal
       have hm : ∀ mem : List (List PV), ar.toList.map (evl sl) = ar.toList.map (GS.ev ⟨sl, mem⟩) := fun mem => List.map_congr_left fun x _ => evl_eq' sl mem x
       split at h2
       · rename_i f' a b hfx
         rw [appK_eq, appK_eq, copiesK_eq] at h2
         injection h2 with h2; injection h2 with e1 h2; injection h2 with e2 e3
         subst e2; subst e1
         refine ⟨o, ar, tys, fx, a, b, hoi, hdt, ht, hgd, hop, fun mem => ?_⟩
         rw [evl_eq' sl mem] at hfx
         exact ⟨by rw [hfx]; rfl, by rw [← hm]; exact e3⟩
       · rename_i f' a b hfx
         rw [appK_eq, appK_eq, copiesK_eq] at h2
         injection h2 with h2; injection h2 with e1 h2; injection h2 with e2 e3
         subst e2; subst e1
         refine ⟨o, ar, tys, fx, a.map .d, b.map .d, hoi, hdt, ht, hgd, hop, fun mem => ?_⟩
         rw [evl_eq' sl mem] at hfx
         exact ⟨by rw [hfx]; rfl, by rw [← hm]; exact e3⟩
       · cases h2
     · cases h2
   · cases h2
theorem gMs {K : Ctx} {fr : List Fr} {Q : Exit → GS → Prop} {l : List Nat} {sl : List (Nat × PV)} {mem mem0 mem1 mem' : List (List PV)} {args0 : List PV} {r r' : PV} (sel : List Nat)
 (h : cms ops.toList K.n i sl = some (t, f, args)) (hc : Gm K.P f args0 mem0 r mem1) (hargs : args = PV.rens (fun b => sel.getD b 0) args0) (hnd : sel.Nodup) (hsel : ∀ b ∈ sel, b < mem.length)
 (hmem : sel.map (fun b => mem.getD b []) = mem0.map (PV.rens (fun b => sel.getD b 0))) (hra : PV.refsBs sel.length args0 = true) (hrm : mem0.all (PV.refsBs sel.length) = true) (hl : mem1.length = sel.length)
 (hr : r.ren (fun b => sel.getD b 0) = r') (hm : setAll mem sel (mem1.map (PV.rens (fun b => sel.getD b 0))) = mem') (hg : GF K fr (.ops ops l) Q ⟨(t, r') :: sl, mem'⟩) : GF K fr (.ops ops (i :: l)) Q ⟨sl, mem⟩ := by
 subst hr; subst hm
 refine toO ?_
 have hg := ofO hg
 obtain ⟨o, ar, tys, fx, a, b, hoi, hdt, ht, hgd, hop, hcal⟩ := cms_of h
 obtain ⟨h1, h2⟩ := hcal mem
 obtain ⟨⟨fn, hf, hb, hn⟩, hp⟩ := hc
 exact GOps_callm (xs := ar.toList) sel args0 mem0 hoi (by simpa using hop) hdt hgd h1 (h2.trans hargs) hnd hsel hmem hra hrm hf hb hn ht hp (fun r' m' hr => by obtain ⟨rfl, rfl⟩ := hr; exact ⟨hl, hg⟩)
theorem gXs {K : Ctx} {fr : List Fr} {Q : Exit → GS → Prop} {l : List Nat} {sl : List (Nat × PV)} {mem mem0 mem1 mem' : List (List PV)} {args0 : List PV} {r r' : PV} (sel : List Nat)
 (h : cms ops.toList K.n i sl = some (t, f, args)) (hc : Xm K.P f args0 mem0 (.inl r) mem1) (hargs : args = PV.rens (fun b => sel.getD b 0) args0) (hnd : sel.Nodup) (hsel : ∀ b ∈ sel, b < mem.length)
 (hmem : sel.map (fun b => mem.getD b []) = mem0.map (PV.rens (fun b => sel.getD b 0))) (hra : PV.refsBs sel.length args0 = true) (hrm : mem0.all (PV.refsBs sel.length) = true) (hl : mem1.length = sel.length)
 (hr : r.ren (fun b => sel.getD b 0) = r') (hm : setAll mem sel (mem1.map (PV.rens (fun b => sel.getD b 0))) = mem') (hg : GF K fr (.ops ops l) Q ⟨(t, r') :: sl, mem'⟩) : GF K fr (.ops ops (i :: l)) Q ⟨sl, mem⟩ := by
 subst hr; subst hm
 refine toO ?_
 have hg := ofO hg
 obtain ⟨o, ar, tys, fx, a, b, hoi, hdt, ht, hgd, hop, hcal⟩ := cms_of h
 obtain ⟨h1, h2⟩ := hcal mem
 obtain ⟨⟨fn, hf, hb, hn⟩, hp⟩ := hc
 refine GOps_callx (xs := ar.toList) sel args0 mem0 hoi (by simpa using hop) hdt hgd h1 (h2.trans hargs) hnd hsel hmem hra hrm hf hb hn ht hp (fun r' m' hr => ?_) (fun v m' hv => ?_)
 · obtain ⟨hr, rfl⟩ := hr
   injection hr with hr; subst hr
   exact ⟨hl, hg⟩
 · obtain ⟨hv, _⟩ := hv; cases hv
end
section
theorem gCutF {K : Ctx} {fr : List Fr} {x y : Code} {Q : Exit → GS → Prop} {s : GS} {α : Type} (St : α → GS) (I : α → Prop)
 (hx : ∀ Q' : Exit → GS → Prop, (∀ s' z, I z → Le K s' (St z) → Q' .normal s') → (∀ id s', GF K fr (.leave (.exit id)) Q s' → Q' (.exit id) s') → (∀ s', GF K fr (.leave .ret) Q s' → Q' .ret s') → (∀ ch s', GF K fr (.leave (.panic ch)) Q s' → Q' (.panic ch) s') → GF K [] (.code x) Q' s)
 (hy : ∀ z, I z → GF K fr (.code y) Q (St z)) : GF K (.thn y :: fr) (.code x) Q s :=
 hx (thn K y (unf K Q fr)) (fun _ z hz hl => G_le hl (hy z hz)) (fun _ _ h => h) (fun _ h => h) (fun _ _ h => h)
end
section
theorem leFz {K : Ctx} {s s' : GS} {n : Nat} {d : D} (isAgg : Bool) (h : frs isAgg s = some (n, d, s')) (hk : K.m0.length ≤ n) (hrf : s'.mem.all (PV.refsBs n) = true) : Le K s s' := by
 obtain ⟨sl, mem⟩ := s
 unfold frs at h
 dsimp only at h
 obtain ⟨keep, cs, hm, h⟩ := popK_of h
 rw [lenK_eq] at h
 split at h
 · rename_i ds hds
   split at h
   · rw [frzK_eq] at h
     injection h with h; injection h with f1 h; injection h with f2 f3
     subst f1; subst f2; subst f3
     exact Le_freeze keep.length hm rfl hds rfl hk hrf
   · split at h
     · split at h
       · rename_i hl
         rw [frzK_eq] at h
         injection h with h; injection h with f1 h; injection h with f2 f3
         subst f1; subst f2; subst f3
         exact Le_freeze keep.length hm rfl hds (isLeaf_of hl) hk hrf
       · cases h
     · cases h
 · cases h
theorem leFm {K : Ctx} {s s' : GS} {keep : List (List PV)} {ks : List D} {vs : List PV} {ds : List D} {kvs : List (D × D)} (n : Nat) (hmem : s.mem = keep ++ [mpc ks vs]) (hn : keep.length = n) (hds : PV.toDs vs = some ds) (hl : vs.length = ks.length) (hit : ∀ k ∈ ks, k ≠ .nilF) (hz : ks.zip ds = kvs) (hm : K.m0.length ≤ n)
 (hs : GS.mk (s.slots.map fun x => (x.1, PV.frz n noF noH (.d (.map kvs)) x.2)) (keep.map (PV.frzs n noF noH (.d (.map kvs)))) = s') : Le K s s' := by
 subst hs; subst hz
 exact Le_freezeP n hmem hn hds hl hit hm
def COh (K : Ctx) (fr : List Fr) (ops : Array Oper) (base : List (Nat × PV)) (iS : Nat) (c1 c2 : List PV) (tl : List (List PV)) (i : Nat) (es : List (Nat × Nat × PV)) (Q : Exit → GS → Prop) : Prop := CGk [] K ops (fun b => (cond (b iS) c2 c1) :: tl) base (unf K Q fr) i es
section
variable {K : Ctx} {fr : List Fr} {ops : Array Oper} {base pre : List (Nat × PV)} {iS : Nat} {c1 c2 : List PV} {tl : List (List PV)} {i j t : Nat} {es es' : List (Nat × Nat × PV)} {Q : Exit → GS → Prop} {p : PV}
theorem oStepH (hs : see ops.toList i es base = some pre) (hj : nth nums (i + 1) = some j) (hes : snocK es (i, t, p) some = some es') (hiS : Nat.beq i iS = false)
 (hc : COh K fr ops base iS c1 c2 tl j es' Q) (hstep : ∀ (rest : List (Nat × PV)) (X : List PV) (Q' : Exit → GS → Prop), GF K [] (.ops ops []) Q' ⟨(t, p) :: (pre ++ rest), X :: tl⟩ → GF K [] (.ops ops [i]) Q' ⟨pre ++ rest, X :: tl⟩) : COh K fr ops base iS c1 c2 tl i es Q := by
 obtain ⟨o, ho, rfl⟩ := see_of hs
 have hj := numj hj
 rw [snocK_eq] at hes
 injection hes with hes
 subst hj; subst hes
 have hM : ∀ b : Nat → Bool, upd b i iS = b iS := fun b => by
  unfold upd
  rw [beq_sw hiS]; rfl
 have hck : CFk [] K ops (fun b => (cond (b iS) c2 c1) :: tl) base (unf K Q fr) i es (fun rest => pick es (depsOf ops i) ++ base ++ rest) :=
  ck_st (i + 1) (fun b rest _ _ _ => by rw [hM]; exact ofO (fr := []) (hstep rest _ (fun e s' => e = .normal ∧ s' = ⟨(t, p) :: (pick es (depsOf ops i) ++ base ++ rest), (cond (b iS) c2 c1) :: tl⟩) (toO (fr := []) (gN ⟨rfl, rfl⟩)))) hc rfl rfl
 exact hck (depsOf ops i) (fun _ => rfl) (see_ds (i := i))
theorem oFillH (hs : see ops.toList iS es base = some pre) (hj : nth nums (iS + 1) = some j)
 (hc : COh K fr ops base iS c1 c2 tl j es Q) (hstep : ∀ (rest : List (Nat × PV)) (Q' : Exit → GS → Prop), GF K [] (.ops ops []) Q' ⟨pre ++ rest, c2 :: tl⟩ → GF K [] (.ops ops [iS]) Q' ⟨pre ++ rest, c1 :: tl⟩) : COh K fr ops base iS c1 c2 tl iS es Q := by
 obtain ⟨o, ho, rfl⟩ := see_of hs
 have hj := numj hj
 subst hj
 have hck : CFk [] K ops (fun b => (cond (b iS) c2 c1) :: tl) base (unf K Q fr) iS es (fun rest => pick es (depsOf ops iS) ++ base ++ rest) :=
  ck_act (iS + 1) (fun b rest hb hd _ => by
   have h2 : upd b iS iS = true := by unfold upd; rw [Nat.beq_refl]; rfl
   rw [h2, hb]
   exact ofO (fr := []) (hstep rest (fun e s' => e = .normal ∧ s' = ⟨pick es (depsOf ops iS) ++ base ++ rest, c2 :: tl⟩) (toO (fr := []) (gN ⟨rfl, rfl⟩)))) hc rfl
 exact hck (depsOf ops iS) (fun _ => rfl) (see_ds (i := iS))
theorem oEndH {sl : List (Nat × PV)} (hi : sizeIs ops.toList i = true) (hp : putK es base some = some sl) (hS : Nat.blt iS ops.size = true) (h : GF K fr (.leave .normal) Q ⟨sl, c2 :: tl⟩)
 (hn : nodupB (es.map (·.2.1)) = true) (hb : base.all (fun x => !(es.map (·.2.1)).contains x.1) = true) (hf : es.all (fun x => Nat.blt x.1 ops.size) = true) : COh K fr ops base iS c1 c2 tl i es Q := by
 have hi := sizeIs_of _ _ hi
 have hp := putK_of hp
 injection hp with hp
 subst hp
 refine ⟨es, .done hi.symm, nodupB_iff hn, fun x hx hm => ?_, fun x hx => blt_of (List.all_eq_true.1 hf x hx), ?_⟩
 · have := List.all_eq_true.1 hb x hx
   simp only [Bool.not_eq_true', List.contains_eq_mem, decide_eq_false_iff_not] at this
   exact this hm
 · have h1 : (es.filter fun x => (List.lookup x.1 ([] : List (Nat × Nat))).isNone) = es := List.filter_eq_self.2 (fun x _ => rfl)
   have h2 : allB ops.size iS = true := by unfold allB; rw [hS]
   dsimp only
   rw [h1, h2]
   exact h
end
theorem gOpenH (iS : Nat) {K : Ctx} {fr : List Fr} {id : Nat} {ops : Array Oper} {sl base : List (Nat × PV)} {c1 c2 : List PV} {tl : List (List PV)} {ds : List Nat} {Q : Exit → GS → Prop} (hb : baseK ops.toList sl = some (ds, base)) (hm : K.P.follows .mixedOrders = true)
 (hdep : ((List.range ops.size).all fun i => (depsOf ops i).all fun d => Nat.blt d i) = true) (h : COh K fr ops base iS c1 c2 tl 0 [] Q) : GF K fr (.code (.region id ops true)) Q ⟨sl, c1 :: tl⟩ := by
 obtain ⟨ds', h1⟩ := dstsK_any hb
 have h2 := fltK_of ds' h1
 injection h2 with h2; injection h2 with h3 h4
 subst h3
 exact g_ck [] ds' (fun b => (cond (b iS) c2 c1) :: tl) rfl h h4 hm hdep
end
section
def klOk (kl : List (Nat × Nat)) (i d : Nat) : Bool := match kl.lookup d with
 | none => true
 | some m => Nat.beq m i
def seeF (kl : List (Nat × Nat)) (ops : List Oper) (i : Nat) (es : List (Nat × Nat × PV)) (base : List (Nat × PV)) : Option (List (Nat × PV)) := opK ops i fun o => dpK o.after.toList fun ds => pickK (ds.filter (klOk kl i)) es fun l => appK l base some
theorem seeF_of {kl : List (Nat × Nat)} {ops : Array Oper} {i : Nat} {es : List (Nat × Nat × PV)} {base pre : List (Nat × PV)} (h : seeF kl ops.toList i es base = some pre) : pre = pick es ((depsOf ops i).filter (klOk kl i)) ++ base := by
 obtain ⟨o, ho, h⟩ := opK_of h
 have hoi : ops[i]? = some o := by rw [nth_eq] at ho; rw [← ho]; simp
 have h1 := pickK_of _ (dpK_of h)
 rw [appK_eq] at h1
 injection h1 with h1
 unfold depsOf
 rw [hoi]
 exact h1.symm
theorem klF {kl : List (Nat × Nat)} {ops : Array Oper} {i : Nat} : (((depsOf ops i).filter (klOk kl i)).all fun d => (depsOf ops i).contains d && (match kl.lookup d with | none => true | some m => Nat.beq m i)) = true := by
 rw [List.all_eq_true]
 intro d hd
 obtain ⟨h1, h2⟩ := List.mem_filter.1 hd
 rw [Bool.and_eq_true]
 exact ⟨by simpa using h1, h2⟩
def tkB (kl : List (Nat × Nat)) (es : List (Nat × Nat × PV)) (u i : Nat) : Bool := es.any fun e => Nat.beq e.2.1 u && (match kl.lookup e.1 with | some m => Nat.beq m i | none => false)
theorem tkB_x {kl : List (Nat × Nat)} {es : List (Nat × Nat × PV)} {u i : Nat} {q : PV} (h : tkB kl es u i = true) : (([(u, q)] : List (Nat × PV)).all fun y => es.any fun e => Nat.beq e.2.1 y.1 && (match kl.lookup e.1 with | some m => Nat.beq m i | none => false)) = true := by
 rw [List.all_cons, List.all_nil, Bool.and_true]
 exact h
def COk (kl : List (Nat × Nat)) (K : Ctx) (fr : List Fr) (ops : Array Oper) (base : List (Nat × PV)) (mem : List (List PV)) (i : Nat) (es : List (Nat × Nat × PV)) (Q : Exit → GS → Prop) : Prop := CGk kl K ops (fun _ => mem) base (unf K Q fr) i es
section
variable {kl : List (Nat × Nat)} {K : Ctx} {fr : List Fr} {ops : Array Oper} {base pre : List (Nat × PV)} {mem : List (List PV)} {i j t u : Nat} {es es' : List (Nat × Nat × PV)} {Q : Exit → GS → Prop} {p q : PV}
theorem kStep (hs : seeF kl ops.toList i es base = some pre) (hj : nth nums (i + 1) = some j) (hes : snocK es (i, t, p) some = some es')
 (hc : COk kl K fr ops base mem j es' Q) (hstep : ∀ (rest : List (Nat × PV)) (Q' : Exit → GS → Prop), GF K [] (.ops ops []) Q' ⟨(t, p) :: (pre ++ rest), mem⟩ → GF K [] (.ops ops [i]) Q' ⟨pre ++ rest, mem⟩) : COk kl K fr ops base mem i es Q := by
 have hpre := seeF_of hs
 subst hpre
 have hj := numj hj
 rw [snocK_eq] at hes
 injection hes with hes
 subst hj; subst hes
 have hck : CFk kl K ops (fun _ => mem) base (unf K Q fr) i es (fun rest => pick es ((depsOf ops i).filter (klOk kl i)) ++ base ++ rest) :=
  ck_st (i + 1) (fun b rest _ _ _ => ofO (fr := []) (hstep rest (fun e s' => e = .normal ∧ s' = ⟨(t, p) :: (pick es ((depsOf ops i).filter (klOk kl i)) ++ base ++ rest), mem⟩) (toO (fr := []) (gN ⟨rfl, rfl⟩)))) hc rfl rfl
 exact hck ((depsOf ops i).filter (klOk kl i)) (fun _ => rfl) klF
theorem kTake (hs : seeF kl ops.toList i es base = some pre) (hj : nth nums (i + 1) = some j) (hes : snocK es (i, t, p) some = some es') (hx : tkB kl es u i = true)
 (hc : COk kl K fr ops base mem j es' Q) (hstep : ∀ (rest : List (Nat × PV)) (Q' : Exit → GS → Prop), GF K [] (.ops ops []) Q' ⟨(t, p) :: (u, q) :: (pre ++ rest), mem⟩ → GF K [] (.ops ops [i]) Q' ⟨pre ++ rest, mem⟩) : COk kl K fr ops base mem i es Q := by
 have hpre := seeF_of hs
 subst hpre
 have hj := numj hj
 rw [snocK_eq] at hes
 injection hes with hes
 subst hj; subst hes
 have hck : CFk kl K ops (fun _ => mem) base (unf K Q fr) i es (fun rest => pick es ((depsOf ops i).filter (klOk kl i)) ++ base ++ rest) :=
  ck_tk (i + 1) u (q := q) (fun b rest _ _ _ => ofO (fr := []) (hstep rest (fun e s' => e = .normal ∧ s' = ⟨(t, p) :: (u, q) :: (pick es ((depsOf ops i).filter (klOk kl i)) ++ base ++ rest), mem⟩) (toO (fr := []) (gN ⟨rfl, rfl⟩)))) hc rfl rfl (tkB_x hx)
 exact hck ((depsOf ops i).filter (klOk kl i)) (fun _ => rfl) klF
theorem cg_end {kl : List (Nat × Nat)} {K : Ctx} {fr : List Fr} {ops : Array Oper} {base sl : List (Nat × PV)} {M : (Nat → Bool) → List (List PV)} {mem : List (List PV)} {i : Nat} {es : List (Nat × Nat × PV)} {Q : Exit → GS → Prop} (hi : sizeIs ops.toList i = true) (hM : M (allB ops.size) = mem) (hp : (es.filter fun x => (kl.lookup x.1).isNone).map (·.2) ++ base = sl) (h : GF K fr (.leave .normal) Q ⟨sl, mem⟩)
 (hn : nodupB (es.map (·.2.1)) = true) (hb : base.all (fun x => !(es.map (·.2.1)).contains x.1) = true) (hf : es.all (fun x => Nat.blt x.1 ops.size) = true) : CGk kl K ops M base (unf K Q fr) i es := by
 have hi := sizeIs_of _ _ hi
 subst hp
 refine ⟨es, .done hi.symm, nodupB_iff hn, fun x hx hm => ?_, fun x hx => blt_of (List.all_eq_true.1 hf x hx), ?_⟩
 · have := List.all_eq_true.1 hb x hx
   simp only [Bool.not_eq_true', List.contains_eq_mem, decide_eq_false_iff_not] at this
   exact this hm
 · rw [hM]
   exact h
end
theorem gOpenCG (kl : List (Nat × Nat)) {K : Ctx} {fr : List Fr} {id : Nat} {ops : Array Oper} {sl base : List (Nat × PV)} {M : (Nat → Bool) → List (List PV)} {mem : List (List PV)} {ds : List Nat} {Q : Exit → GS → Prop} (hb : baseK ops.toList sl = some (ds, base)) (hm : K.P.follows .mixedOrders = true)
 (hdep : ((List.range ops.size).all fun i => (depsOf ops i).all fun d => Nat.blt d i) = true) (hM : M noB = mem) (h : CGk kl K ops M base (unf K Q fr) 0 []) : GF K fr (.code (.region id ops true)) Q ⟨sl, mem⟩ := by
 obtain ⟨ds', h1⟩ := dstsK_any hb
 have h2 := fltK_of ds' h1
 injection h2 with h2; injection h2 with h3 h4
 subst h3
 exact g_ck kl ds' M hM h h4 hm hdep
def COa (K : Ctx) (fr : List Fr) (ops : Array Oper) (base : List (Nat × PV)) (iL iA iS : Nat) (c0 c1 c2 : List PV) (tl : List (List PV)) (i : Nat) (es : List (Nat × Nat × PV)) (Q : Exit → GS → Prop) : Prop := CGk [(iL, iA), (iA, iS)] K ops (fun b => (cond (b iS) c2 (cond (b iL) c1 c0)) :: tl) base (unf K Q fr) i es
section
variable {K : Ctx} {fr : List Fr} {ops : Array Oper} {base pre : List (Nat × PV)} {iL iA iS : Nat} {c0 c1 c2 : List PV} {tl : List (List PV)} {i j t u : Nat} {es es' : List (Nat × Nat × PV)} {Q : Exit → GS → Prop} {p q : PV}
theorem upd_ne {b : Nat → Bool} {i k : Nat} (h : Nat.beq i k = false) : upd b i k = b k := by
 unfold upd
 rw [beq_sw h]; rfl
theorem upd_self {b : Nat → Bool} {i : Nat} : upd b i i = true := by
 unfold upd
 rw [Nat.beq_refl]; rfl
theorem aStep (hs : seeF [(iL, iA), (iA, iS)] ops.toList i es base = some pre) (hj : nth nums (i + 1) = some j) (hes : snocK es (i, t, p) some = some es') (hL : Nat.beq i iL = false) (hS : Nat.beq i iS = false)
 (hc : COa K fr ops base iL iA iS c0 c1 c2 tl j es' Q) (hstep : ∀ (rest : List (Nat × PV)) (X : List PV) (Q' : Exit → GS → Prop), GF K [] (.ops ops []) Q' ⟨(t, p) :: (pre ++ rest), X :: tl⟩ → GF K [] (.ops ops [i]) Q' ⟨pre ++ rest, X :: tl⟩) : COa K fr ops base iL iA iS c0 c1 c2 tl i es Q := by
 have hpre := seeF_of hs
 subst hpre
 have hj := numj hj
 rw [snocK_eq] at hes
 injection hes with hes
 subst hj; subst hes
 have hck : CFk [(iL, iA), (iA, iS)] K ops (fun b => (cond (b iS) c2 (cond (b iL) c1 c0)) :: tl) base (unf K Q fr) i es (fun rest => pick es ((depsOf ops i).filter (klOk [(iL, iA), (iA, iS)] i)) ++ base ++ rest) :=
  ck_st (i + 1) (fun b rest _ _ _ => by rw [upd_ne hL, upd_ne hS]; exact ofO (fr := []) (hstep rest _ (fun e s' => e = .normal ∧ s' = ⟨(t, p) :: (pick es ((depsOf ops i).filter (klOk [(iL, iA), (iA, iS)] i)) ++ base ++ rest), (cond (b iS) c2 (cond (b iL) c1 c0)) :: tl⟩) (toO (fr := []) (gN ⟨rfl, rfl⟩)))) hc rfl rfl
 exact hck ((depsOf ops i).filter (klOk [(iL, iA), (iA, iS)] i)) (fun _ => rfl) klF
theorem aLoad (hs : seeF [(iL, iA), (iA, iS)] ops.toList iL es base = some pre) (hj : nth nums (iL + 1) = some j) (hes : snocK es (iL, t, p) some = some es') (h1 : memN iL (depsOf ops iA) = true) (h2 : memN iA (depsOf ops iS) = true) (hS : Nat.beq iL iS = false)
 (hc : COa K fr ops base iL iA iS c0 c1 c2 tl j es' Q) (hstep : ∀ (rest : List (Nat × PV)) (Q' : Exit → GS → Prop), GF K [] (.ops ops []) Q' ⟨(t, p) :: (pre ++ rest), c1 :: tl⟩ → GF K [] (.ops ops [iL]) Q' ⟨pre ++ rest, c0 :: tl⟩) : COa K fr ops base iL iA iS c0 c1 c2 tl iL es Q := by
 have hpre := seeF_of hs
 subst hpre
 have hj := numj hj
 rw [snocK_eq] at hes
 injection hes with hes
 subst hj; subst hes
 rw [memN_eq] at h1 h2
 have hck : CFk [(iL, iA), (iA, iS)] K ops (fun b => (cond (b iS) c2 (cond (b iL) c1 c0)) :: tl) base (unf K Q fr) iL es (fun rest => pick es ((depsOf ops iL).filter (klOk [(iL, iA), (iA, iS)] iL)) ++ base ++ rest) :=
  ck_st (iL + 1) (fun b rest hb _ hv => by
   have hbS : b iS = false := by
    cases h : b iS with
    | false => rfl
    | true =>
     have := hv iA (hv iS h iA (by simpa using h2)) iL (by simpa using h1)
     rw [hb] at this; cases this
   rw [upd_ne hS, upd_self, hb, hbS]
   exact ofO (fr := []) (hstep rest (fun e s' => e = .normal ∧ s' = ⟨(t, p) :: (pick es ((depsOf ops iL).filter (klOk [(iL, iA), (iA, iS)] iL)) ++ base ++ rest), c1 :: tl⟩) (toO (fr := []) (gN ⟨rfl, rfl⟩)))) hc rfl rfl
 exact hck ((depsOf ops iL).filter (klOk [(iL, iA), (iA, iS)] iL)) (fun _ => rfl) klF
theorem aApp (hs : seeF [(iL, iA), (iA, iS)] ops.toList iA es base = some pre) (hj : nth nums (iA + 1) = some j) (hes : snocK es (iA, t, p) some = some es') (hx : tkB [(iL, iA), (iA, iS)] es u iA = true) (hL : Nat.beq iA iL = false) (hS : Nat.beq iA iS = false)
 (hc : COa K fr ops base iL iA iS c0 c1 c2 tl j es' Q) (hstep : ∀ (rest : List (Nat × PV)) (X : List PV) (Q' : Exit → GS → Prop), GF K [] (.ops ops []) Q' ⟨(t, p) :: (u, q) :: (pre ++ rest), X :: tl⟩ → GF K [] (.ops ops [iA]) Q' ⟨pre ++ rest, X :: tl⟩) : COa K fr ops base iL iA iS c0 c1 c2 tl iA es Q := by
 have hpre := seeF_of hs
 subst hpre
 have hj := numj hj
 rw [snocK_eq] at hes
 injection hes with hes
 subst hj; subst hes
 have hck : CFk [(iL, iA), (iA, iS)] K ops (fun b => (cond (b iS) c2 (cond (b iL) c1 c0)) :: tl) base (unf K Q fr) iA es (fun rest => pick es ((depsOf ops iA).filter (klOk [(iL, iA), (iA, iS)] iA)) ++ base ++ rest) :=
  ck_tk (iA + 1) u (q := q) (fun b rest _ _ _ => by rw [upd_ne hL, upd_ne hS]; exact ofO (fr := []) (hstep rest _ (fun e s' => e = .normal ∧ s' = ⟨(t, p) :: (u, q) :: (pick es ((depsOf ops iA).filter (klOk [(iL, iA), (iA, iS)] iA)) ++ base ++ rest), (cond (b iS) c2 (cond (b iL) c1 c0)) :: tl⟩) (toO (fr := []) (gN ⟨rfl, rfl⟩)))) hc rfl rfl (tkB_x hx)
 exact hck ((depsOf ops iA).filter (klOk [(iL, iA), (iA, iS)] iA)) (fun _ => rfl) klF
theorem aStore (hs : seeF [(iL, iA), (iA, iS)] ops.toList iS es base = some pre) (hj : nth nums (iS + 1) = some j) (hx : tkB [(iL, iA), (iA, iS)] es u iS = true) (h1 : memN iL (depsOf ops iA) = true) (h2 : memN iA (depsOf ops iS) = true) (hL : Nat.beq iS iL = false)
 (hc : COa K fr ops base iL iA iS c0 c1 c2 tl j es Q) (hstep : ∀ (rest : List (Nat × PV)) (Q' : Exit → GS → Prop), GF K [] (.ops ops []) Q' ⟨(u, q) :: (pre ++ rest), c2 :: tl⟩ → GF K [] (.ops ops [iS]) Q' ⟨pre ++ rest, c1 :: tl⟩) : COa K fr ops base iL iA iS c0 c1 c2 tl iS es Q := by
 have hpre := seeF_of hs
 subst hpre
 have hj := numj hj
 subst hj
 rw [memN_eq] at h1 h2
 have hck : CFk [(iL, iA), (iA, iS)] K ops (fun b => (cond (b iS) c2 (cond (b iL) c1 c0)) :: tl) base (unf K Q fr) iS es (fun rest => pick es ((depsOf ops iS).filter (klOk [(iL, iA), (iA, iS)] iS)) ++ base ++ rest) :=
  ck_atk (iS + 1) u (q := q) (fun b rest hb hd hv => by
   have hbL : b iL = true := hv iA (hd iA (by simpa using h2)) iL (by simpa using h1)
   rw [upd_ne hL, upd_self, hb, hbL]
   exact ofO (fr := []) (hstep rest (fun e s' => e = .normal ∧ s' = ⟨(u, q) :: (pick es ((depsOf ops iS).filter (klOk [(iL, iA), (iA, iS)] iS)) ++ base ++ rest), c2 :: tl⟩) (toO (fr := []) (gN ⟨rfl, rfl⟩)))) hc rfl (tkB_x hx)
 exact hck ((depsOf ops iS).filter (klOk [(iL, iA), (iA, iS)] iS)) (fun _ => rfl) klF
theorem oPutH (hs : see ops.toList iS es base = some pre) (hj : nth nums (iS + 1) = some j) (hes : snocK es (iS, t, p) some = some es')
 (hc : COh K fr ops base iS c1 c2 tl j es' Q) (hstep : ∀ (rest : List (Nat × PV)) (Q' : Exit → GS → Prop), GF K [] (.ops ops []) Q' ⟨(t, p) :: (pre ++ rest), c2 :: tl⟩ → GF K [] (.ops ops [iS]) Q' ⟨pre ++ rest, c1 :: tl⟩) : COh K fr ops base iS c1 c2 tl iS es Q := by
 obtain ⟨o, ho, rfl⟩ := see_of hs
 have hj := numj hj
 rw [snocK_eq] at hes
 injection hes with hes
 subst hj; subst hes
 have hck : CFk [] K ops (fun b => (cond (b iS) c2 c1) :: tl) base (unf K Q fr) iS es (fun rest => pick es (depsOf ops iS) ++ base ++ rest) :=
  ck_st (iS + 1) (fun b rest hb hd _ => by
   rw [upd_self, hb]
   exact ofO (fr := []) (hstep rest (fun e s' => e = .normal ∧ s' = ⟨(t, p) :: (pick es (depsOf ops iS) ++ base ++ rest), c2 :: tl⟩) (toO (fr := []) (gN ⟨rfl, rfl⟩)))) hc rfl rfl
 exact hck (depsOf ops iS) (fun _ => rfl) (see_ds (i := iS))
end
def bxs (ops : List Oper) (n i : Nat) (sl : List (Nat × PV)) : Option (Nat × PV) := opK ops i fun o => dstK n o fun t => match o.guard with
 | some _ => none
 | none => match o.op with
  | .box _ x => frc (evl sl x) fun p => some (t, p)
  | _ => none
theorem gBx {K : Ctx} {fr : List Fr} {ops : Array Oper} {Q : Exit → GS → Prop} {i t k : Nat} {l : List Nat} {sl : List (Nat × PV)} {mem mem' : List (List PV)} {p : PV} {cs : List PV} (h : bxs ops.toList K.n i sl = some (t, p)) (hw : p.whole = true) (hcs : PV.copies p.cellsOf = cs) (hm : mem ++ [cs] = mem') (hk : mem.length = k)
 (hg : GF K fr (.ops ops l) Q ⟨(t, .ref k 0) :: sl, mem'⟩) : GF K fr (.ops ops (i :: l)) Q ⟨sl, mem⟩ := by
 subst hm; subst hk
 obtain ⟨o, ho1, h1⟩ := opK_of h
 obtain ⟨t', hdt, ht, h2⟩ := dstK_of h1
 clear h h1
 have hoi : ops[i]? = some o := by rw [nth_eq] at ho1; rw [← ho1]; simp
 split at h2
 · cases h2
 · rename_i hgd
   split at h2
   · rename_i ty x hop
     rw [frc_eq] at h2
     injection h2 with h2; injection h2 with e1 e2
     subst e1; subst e2
     obtain ⟨dd, op, rt, pos, af, gg⟩ := o
     dsimp only at hdt hgd hop
     subst hdt; subst hgd; subst hop
     rw [evl_eq' sl mem] at hw hcs
     exact GOps_val hoi rfl (Y_box rfl hw hcs ht) hg
   · cases h2
theorem gA0 {K : Ctx} {T : List (Nat × TI)} {fr : List Fr} {ops : Array Oper} {Q : Exit → GS → Prop} {i t u k b : Nat} {l : List Nat} {sl : List (Nat × PV)} {mem : List (List PV)} {xs : List D} (hT : tabB K.P T = true)
 (h : aps T ops.toList K.n i sl = some (t, u, k, b, xs, [])) (hu0 : lk sl u = .osl k xs) (htu : t ≠ u) (hg : GF K fr (.ops ops l) Q ⟨(t, .osl k xs) :: (u, .d (.sl xs)) :: sl, mem⟩) : GF K fr (.ops ops (i :: l)) Q ⟨sl, mem⟩ := by
 obtain ⟨o, ho1, h1⟩ := opK_of h
 obtain ⟨t', hdt, ht, h2⟩ := dstK_of h1
 clear h h1
 have h := h2
 clear h2
 have hoi : ops[i]? = some o := by rw [nth_eq] at ho1; rw [← ho1]; simp
 split at h
 · cases h
 · rename_i hgd
   split at h
   · rename_i c hop
     split at h
     · rename_i hcal
       split at h
       · rename_i u' y hargs
         split at h
         · rename_i ty ty' htys
           split at h
           · rename_i hty
             have hty := Nat.eq_of_beq_eq_true hty
             subst hty
             split at h
             · cases h
             · rename_i ti hlk
               split at h
               · rename_i e k1 b1 zs hkd
                 obtain ⟨hu, z, hz, hz1, hzs⟩ := slice_of (tabB_look hT hlk) hkd
                 split at h
                 · rename_i hsz
                   have hsz := sizeIs_of _ _ hsz
                   split at h
                   · rename_i ys' hys
                     obtain ⟨ca, ar, tys⟩ := c
                     dsimp only at hcal hargs htys
                     subst hcal
                     have e1 : ar = #[.tmp u', y] := by apply Array.toList_inj.1; exact hargs
                     have e2 : tys = #[ty, ty] := by apply Array.toList_inj.1; exact htys
                     subst e1; subst e2
                     rw [evl_eq' sl mem] at hys
                     obtain ⟨dd, op, rt, pos, af, gg⟩ := o
                     dsimp only at hdt hop hgd
                     subst hdt; subst hop
                     split at h
                     · rename_i k2 xs2 hlku
                       split at h
                       · rename_i hkk
                         have hkk := Nat.eq_of_beq_eq_true hkk
                         subst hkk
                         injection h with h; injection h with f1 h; injection h with f2 h; injection h with f3 h; injection h with f4 h; injection h with f5 f6
                         subst f1; subst f2; subst f3; subst f4; subst f5; subst f6
                         exact GOps_val hoi hgd (Y_append0 (lk_some hlku (by intro h; cases h)) (lst_eq hys) hu hz htu ht) hg
                       · cases h
                     · rename_i hlku
                       injection h with h; injection h with f1 h; injection h with f2 h; injection h with f3 h
                       rw [f2] at hlku
                       rw [hu0] at hlku; cases hlku
                     · cases h
                   · cases h
                 · cases h
               · cases h
           · cases h
         · cases h
       · cases h
     · cases h
   · cases h
end
end Go.Proofs.Ytklkbfpjimeaoaa.E
