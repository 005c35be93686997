/- THE ENGINE, part 24: the rules of part 23 with what is closed by sight left to be found. Conditions: none; generic in the program. -/
import Derived.Test.YtklkbfpjimeaoaaGreatE23
namespace Go.Proofs.YtklkbfpjimeaoaaGreat.E
open Go
def pick (es : List (Nat × Nat × PV)) (ds : List Nat) : List (Nat × PV) := (es.filter fun x => ds.contains x.1).map (·.2)
theorem pick_mem {es : List (Nat × Nat × PV)} {ds : List Nat} {x : Nat × PV} (h : x ∈ pick es ds) : ∃ d ∈ ds, (d, x) ∈ es := by
  obtain ⟨⟨d, y⟩, hy, rfl⟩ := List.mem_map.1 h
  obtain ⟨h1, h2⟩ := List.mem_filter.1 hy
  exact ⟨d, by simpa using h2, h1⟩
theorem conf_val {K : Ctx} {ops : Array Oper} {M : (Nat → Bool) → List (List PV)} {base : List (Nat × PV)} {i t : Nat} {es es' fs : List (Nat × Nat × PV)} {p : PV} {full : List (Nat × PV) → List (Nat × PV)} (ds : List Nat)
    (h : ∀ (b : Nat → Bool) (rest : List (Nat × PV)), b i = false → (∀ j ∈ depsOf ops i, b j = true) → Valid ops b → GOps K ops (fun e s' => e = .normal ∧ s' = ⟨(t, p) :: full rest, M (upd b i)⟩) [i] ⟨full rest, M b⟩)
    (hc : Conf K ops M base (i + 1) es' fs)
    (hfull : ∀ rest, pick es ds ++ base ++ rest = full rest := by intro rest; simp only [pick, List.filter_cons, List.filter_nil, List.contains_cons, List.contains_nil, Nat.reduceBEq, Bool.or_false, Bool.false_or, Bool.or_true, Bool.true_or, if_true, if_false, Bool.false_eq_true, List.map_cons, List.map_nil, List.cons_append, List.nil_append, List.append_nil] <;> rfl) (hes : es ++ [(i, t, p)] = es' := by simp only [List.cons_append, List.nil_append] <;> rfl)
    (hds : (ds.all fun d => (depsOf ops i).contains d) = true := by kernel_rfl) : Conf K ops M base i es fs := by
  subst hes
  refine .step (sl := pick es ds) (r := [(t, p)]) (fun b rest h1 h2 h3 => ?_) (fun x hx => ?_) hc
  · rw [hfull]; exact h b rest h1 h2 h3
  · obtain ⟨d, h1, h2⟩ := pick_mem hx
    exact ⟨d, by have := List.all_eq_true.1 hds d h1; simpa using this, h2⟩
theorem conf_act {K : Ctx} {ops : Array Oper} {M : (Nat → Bool) → List (List PV)} {base : List (Nat × PV)} {i : Nat} {es fs : List (Nat × Nat × PV)} {full : List (Nat × PV) → List (Nat × PV)} (ds : List Nat)
    (h : ∀ (b : Nat → Bool) (rest : List (Nat × PV)), b i = false → (∀ j ∈ depsOf ops i, b j = true) → Valid ops b → GOps K ops (fun e s' => e = .normal ∧ s' = ⟨full rest, M (upd b i)⟩) [i] ⟨full rest, M b⟩)
    (hc : Conf K ops M base (i + 1) es fs)
    (hfull : ∀ rest, pick es ds ++ base ++ rest = full rest := by intro rest; simp only [pick, List.filter_cons, List.filter_nil, List.contains_cons, List.contains_nil, Nat.reduceBEq, Bool.or_false, Bool.false_or, Bool.or_true, Bool.true_or, if_true, if_false, Bool.false_eq_true, List.map_cons, List.map_nil, List.cons_append, List.nil_append, List.append_nil] <;> rfl)
    (hds : (ds.all fun d => (depsOf ops i).contains d) = true := by kernel_rfl) : Conf K ops M base i es fs := by
  refine .step (sl := pick es ds) (r := []) (fun b rest h1 h2 h3 => ?_) (fun x hx => ?_) (by simpa using hc)
  · rw [hfull]; exact h b rest h1 h2 h3
  · obtain ⟨d, h1, h2⟩ := pick_mem hx
    exact ⟨d, by have := List.all_eq_true.1 hds d h1; simpa using this, h2⟩
def nodupB : List Nat → Bool
  | [] => true
  | x :: r => !r.contains x && nodupB r
theorem nodupB_iff : ∀ {l : List Nat}, nodupB l = true → l.Nodup
  | [], _ => .nil
  | x :: r, h => by
    simp only [nodupB, Bool.and_eq_true, Bool.not_eq_true', List.contains_eq_mem, decide_eq_false_iff_not] at h
    exact List.nodup_cons.2 ⟨h.1, nodupB_iff h.2⟩
theorem filter_lookup (f : Nat → Bool) : ∀ (l : List (Nat × PV)) (t : Nat) (p : PV), (l.filter fun x => f x.1).lookup t = some p → l.lookup t = some p
  | [], _, _, h => by cases h
  | (k, q) :: l, t, p, h => by
    have hft : ∀ (l : List (Nat × PV)), (l.filter fun x => f x.1).lookup t = some p → f t = true := by
      intro l
      induction l with
      | nil => intro h; cases h
      | cons y r ih =>
        intro h
        rw [List.filter_cons] at h
        split at h
        · rename_i hx
          obtain ⟨k2, q2⟩ := y
          rw [List.lookup_cons] at h
          split at h
          · rename_i hb2
            have : t = k2 := by simpa using hb2
            subst this; exact hx
          · exact ih h
        · exact ih h
    have h0 := hft _ h
    rw [List.filter_cons] at h
    rw [List.lookup_cons]
    by_cases hk : f k = true
    · rw [if_pos hk, List.lookup_cons] at h
      split
      · rename_i hb; rw [hb] at h; exact h
      · rename_i hb; rw [hb] at h; exact filter_lookup f l t p h
    · rw [if_neg hk] at h
      split
      · rename_i hb
        have : t = k := by simpa using hb
        subst this; exact absurd h0 hk
      · exact filter_lookup f l t p h
end Go.Proofs.YtklkbfpjimeaoaaGreat.E
