/- THE ENGINE, part 24: the rules of part 23 with what is closed by sight left to be found. Conditions: none; generic in the program. -/
import Derived.Test.YtklkbfpjimeaoaaGreatE23
namespace Go.Proofs.YtklkbfpjimeaoaaGreat.E
open Go
def pick (es : List (Nat × Nat × PV)) (ds : List Nat) : List (Nat × PV) := (es.filter fun x => ds.contains x.1).map (·.2)
theorem pick_mem {es : List (Nat × Nat × PV)} {ds : List Nat} {x : Nat × PV} (h : x ∈ pick es ds) : ∃ d ∈ ds, (d, x) ∈ es := by
  obtain ⟨⟨d, y⟩, hy, rfl⟩ := List.mem_map.1 h
  obtain ⟨h1, h2⟩ := List.mem_filter.1 hy
  exact ⟨d, by simpa using h2, h1⟩
theorem conf_val {K : Ctx} {ops : Array Oper} {M : (Nat → Bool) → List (List PV)} {base : List (Nat × PV)} {i t : Nat} {es es' fs : List (Nat × Nat × PV)} {p : PV} {full : List (Nat × PV) → List (Nat × PV)} (ds : List Nat)
    (h : ∀ (b : Nat → Bool) (rest : List (Nat × PV)), b i = false → (∀ j ∈ depsOf ops i, b j = true) → Valid ops b → GOps K ops (fun e s' => e = .normal ∧ s' = ⟨(t, p) :: full rest, M (upd b i)⟩) [i] ⟨full rest, M b⟩)
    (hc : Conf K ops M base (i + 1) es' fs)
    (hfull : ∀ rest, pick es ds ++ base ++ rest = full rest := by intro rest; simp only [pick, List.filter_cons, List.filter_nil, List.contains_cons, List.contains_nil, Nat.reduceBEq, Bool.or_false, Bool.false_or, Bool.or_true, Bool.true_or, if_true, if_false, Bool.false_eq_true, List.map_cons, List.map_nil, List.cons_append, List.nil_append, List.append_nil] <;> rfl) (hes : es ++ [(i, t, p)] = es' := by simp only [List.cons_append, List.nil_append] <;> rfl)
    (hds : (ds.all fun d => (depsOf ops i).contains d) = true := by kernel_rfl) : Conf K ops M base i es fs := by
  subst hes
  refine .step (sl := pick es ds) (r := [(t, p)]) (fun b rest h1 h2 h3 => ?_) (fun x hx => ?_) hc
  · rw [hfull]; exact h b rest h1 h2 h3
  · obtain ⟨d, h1, h2⟩ := pick_mem hx
    exact ⟨d, by have := List.all_eq_true.1 hds d h1; simpa using this, h2⟩
theorem conf_act {K : Ctx} {ops : Array Oper} {M : (Nat → Bool) → List (List PV)} {base : List (Nat × PV)} {i : Nat} {es fs : List (Nat × Nat × PV)} {full : List (Nat × PV) → List (Nat × PV)} (ds : List Nat)
    (h : ∀ (b : Nat → Bool) (rest : List (Nat × PV)), b i = false → (∀ j ∈ depsOf ops i, b j = true) → Valid ops b → GOps K ops (fun e s' => e = .normal ∧ s' = ⟨full rest, M (upd b i)⟩) [i] ⟨full rest, M b⟩)
    (hc : Conf K ops M base (i + 1) es fs)
    (hfull : ∀ rest, pick es ds ++ base ++ rest = full rest := by intro rest; simp only [pick, List.filter_cons, List.filter_nil, List.contains_cons, List.contains_nil, Nat.reduceBEq, Bool.or_false, Bool.false_or, Bool.or_true, Bool.true_or, if_true, if_false, Bool.false_eq_true, List.map_cons, List.map_nil, List.cons_append, List.nil_append, List.append_nil] <;> rfl)
    (hds : (ds.all fun d => (depsOf ops i).contains d) = true := by kernel_rfl) : Conf K ops M base i es fs := by
  refine .step (sl := pick es ds) (r := []) (fun b rest h1 h2 h3 => ?_) (fun x hx => ?_) (by simpa using hc)
  · rw [hfull]; exact h b rest h1 h2 h3
  · obtain ⟨d, h1, h2⟩ := pick_mem hx
    exact ⟨d, by have := List.all_eq_true.1 hds d h1; simpa using this, h2⟩
def nodupB : List Nat → Bool
  | [] => true
  | x :: r => !r.contains x && nodupB r
theorem nodupB_iff : ∀ {l : List Nat}, nodupB l = true → l.Nodup
  | [], _ => .nil
  | x :: r, h => by
    simp only [nodupB, Bool.and_eq_true, Bool.not_eq_true', List.contains_eq_mem, decide_eq_false_iff_not] at h
    exact List.nodup_cons.2 ⟨h.1, nodupB_iff h.2⟩
theorem filter_lookup (f : Nat → Bool) : ∀ (l : List (Nat × PV)) (t : Nat) (p : PV), (l.filter fun x => f x.1).lookup t = some p → l.lookup t = some p
  | [], _, _, h => by cases h
  | (k, q) :: l, t, p, h => by
    have hft : ∀ (l : List (Nat × PV)), (l.filter fun x => f x.1).lookup t = some p → f t = true := by
      intro l
      induction l with
      | nil => intro h; cases h
      | cons y r ih =>
        intro h
        rw [List.filter_cons] at h
        split at h
        · rename_i hx
          obtain ⟨k2, q2⟩ := y
          rw [List.lookup_cons] at h
          split at h
          · rename_i hb2
            have : t = k2 := by simpa using hb2
            subst this; exact hx
          · exact ih h
        · exact ih h
    have h0 := hft _ h
    rw [List.filter_cons] at h
    rw [List.lookup_cons]
    by_cases hk : f k = true
    · rw [if_pos hk, List.lookup_cons] at h
      split
      · rename_i hb; rw [hb] at h; exact h
      · rename_i hb; rw [hb] at h; exact filter_lookup f l t p h
    · rw [if_neg hk] at h
      split
      · rename_i hb
        have : t = k := by simpa using hb
        subst this; exact absurd h0 hk
      · exact filter_lookup f l t p h
/-- A region whose order is open, by its operations' own steps; M: the memory. -/
theorem g_conf {K : Ctx} {id : Nat} {ops : Array Oper} {Q : Exit → GS → Prop} {s s'' : GS} {base : List (Nat × PV)} {fs : List (Nat × Nat × PV)} {ts bs is : List Nat} (n : Nat) (dsts : List Nat) (M : (Nat → Bool) → List (List PV)) (hM : M noB = s.mem)
    (hc : Conf K ops M base 0 [] fs) (hq : Q .normal s'')
    (hbase : (s.slots.filter fun x => !dsts.contains x.1) = base := by simp only [List.filter_cons, List.filter_nil, List.contains_cons, List.contains_nil, Nat.reduceBEq, Bool.or_false, Bool.false_or, Bool.or_true, Bool.true_or, Bool.not_true, Bool.not_false, if_true, if_false, Bool.false_eq_true] <;> rfl)
    (hn : ops.size = n := by rfl) (hm : K.P.follows .mixedOrders = true := by kernel_rfl) (hdep : ((List.range n).all fun i => (depsOf ops i).all fun d => Nat.blt d i) = true := by kernel_rfl)
    (hts : fs.map (·.2.1) = ts := by simp only [List.map_cons, List.map_nil] <;> rfl) (his : fs.map (·.1) = is := by simp only [List.map_cons, List.map_nil] <;> rfl) (hbs : base.map (·.1) = bs := by simp only [List.map_cons, List.map_nil] <;> rfl)
    (hnd : nodupB ts = true := by kernel_rfl) (hdis : (bs.all fun x => !ts.contains x) = true := by kernel_rfl) (hfi : (is.all fun x => Nat.blt x n) = true := by kernel_rfl)
    (hs'' : GS.mk (fs.map (·.2) ++ base) (M (allB n)) = s'' := by simp only [List.map_cons, List.map_nil, List.cons_append, List.nil_append] <;> rfl) : G K (.region id ops true) Q s := by
  subst hts; subst hbs; subst his
  refine G_conf n hn hm (Le_slots (s' := ⟨base, M noB⟩) hM fun t p hp => .inl ?_) hc (nodupB_iff hnd) (fun x hx => ?_) (fun i hi d hd => ?_) hs'' (fun x hx => ?_) hq
  · subst hbase
    exact filter_lookup (fun k => !dsts.contains k) _ t p hp
  · have := List.all_eq_true.1 hdis x.1 (List.mem_map_of_mem hx)
    simpa using this
  · have h1 := List.all_eq_true.1 hdep i (List.mem_range.2 hi)
    have h2 := List.all_eq_true.1 h1 d hd
    simpa using h2
  · have := List.all_eq_true.1 hfi x.1 (List.mem_map_of_mem hx)
    simpa using this
end Go.Proofs.YtklkbfpjimeaoaaGreat.E
