/- THE ENGINE, part 29: appending to a nil list, where it stays; the check of a reference into an own block. Conditions: none; generic in the program. -/
import Derived.Test.YtklkbfpjimeaoaaGreatE28
namespace Go.Proofs.YtklkbfpjimeaoaaGreat.E
open Go
theorem q_nilCheckR {K : Ctx} {s : GS} {t : Nat} {x : Operand} {ty : TypeId} {pos : String} {af : Array Edge} {g : Option (Nat × Bool)} {b o : Nat} (hx : s.ev x = .ref b o := by simp only [GS.ev, GS.get, List.lookup_cons, Nat.reduceBEq, Option.getD_some, Option.getD_none, List.lookup_nil, ofConst] <;> rfl) :
    Qy K ⟨some t, .nilCheck x, ty, pos, af, g⟩ s t (.ref b o) := by
  refine fun S O m a w hr => ?_
  obtain ⟨l, h⟩ := hr.ev x
  rw [hx] at h
  generalize hv : a.eval x = v at h
  cases h with
  | ref _ _ _ r hm => exact ⟨_, fun w _ => by simp only [execOp, hv]; rfl, .ref _ _ _ r hm⟩
theorem y_nilCheckR {K : Ctx} {s : GS} {t : Nat} {x : Operand} {ty : TypeId} {pos : String} {af : Array Edge} {g : Option (Nat × Bool)} {b o : Nat} (hx : s.ev x = .ref b o := by simp only [GS.ev, GS.get, List.lookup_cons, Nat.reduceBEq, Option.getD_some, Option.getD_none, List.lookup_nil, ofConst] <;> rfl) (ht : t < K.n := by exact of_decide_eq_true rfl) :
    Yld K ⟨some t, .nilCheck x, ty, pos, af, g⟩ s (s.set t (.ref b o)) := Yld_pure rfl ht (q_nilCheckR hx)
theorem y_appendNil {K : Ctx} {s : GS} {t u : Nat} {y : Operand} {ty e rt : TypeId} {pos : String} {af : Array Edge} {g : Option (Nat × Bool)} {k by_ : Nat} {ys : List D} {z : Value} (hun : K.P.underlying ty = some (.slice e)) (hinf : (K.P.info? e).map (fun i => (i.zero, i.size, i.bytes)) = some (some z, k, by_))
    (hu : s.get u = some .nils := by simp only [GS.ev, GS.get, List.lookup_cons, Nat.reduceBEq, Option.getD_some, Option.getD_none, List.lookup_nil, ofConst] <;> rfl) (hy : (s.ev y).list? = some ys := by simp only [GS.ev, GS.get, List.lookup_cons, Nat.reduceBEq, Option.getD_some, Option.getD_none, List.lookup_nil, ofConst, PV.list?] <;> rfl) (hne : ys ≠ [] := by simp) (hk : ∀ y ∈ ys, y.cells.length = k := by simp [D.cells]) (hk0 : 0 < k := by decide) (hzs : z.cells.size = k := by rfl) (hz1 : z.cells.all (·.oneCell') = true := by kernel_rfl)
    (hlen : ys.length ≤ lim := by simp only [lim, List.length_cons, List.length_nil, List.length_append, List.length_map]; omega) (hB : ys.length * by_ ≤ lim := by simp only [lim, List.length_cons, List.length_nil, List.length_append, List.length_map]; omega) (htu : t ≠ u := by decide) (ht : t < K.n := by exact of_decide_eq_true rfl) :
    Yld K ⟨some t, .call ⟨.builtin .append, #[.tmp u, y], #[ty, ty]⟩, rt, pos, af, g⟩ s (s.set t (.osl k ys)) := by
  rintro a w ha
  obtain ⟨v, w', h1, S, O, m, hr⟩ := Y_append (g := g) (rt := rt) (pos := pos) (af := af) (xs := []) hu (.inr ⟨rfl, rfl⟩) hy hne hk hk0 hun hinf hzs hz1 (by simpa using hlen) (by simpa using hB) ht a w ha
  obtain ⟨S0, O0, m0, h0⟩ := ha
  have hv := h0.slots u _ hu
  refine ⟨v, w', h1, S, O, m, hr.env, hr.defers, hr.size, hr.pre, fun i p hp => ?_⟩
  rw [GS.get_set] at hp
  by_cases hit : i = t
  · rw [if_pos hit] at hp
    exact hr.slots i p (by rw [GS.get_set, if_pos hit]; simpa using hp)
  · rw [if_neg hit] at hp
    by_cases hiu : i = u
    · subst hiu
      rw [hu] at hp
      injection hp with hp
      subst hp
      rw [getD_put _ _ _ _ (by rw [h0.size]; exact ht), if_neg hit]
      generalize a.tmps.getD i undef = vu at hv
      cases hv
      exact .nils _
    · exact hr.slots i p (by rw [GS.get_set, if_neg hit, GS.get_set, if_neg hiu]; exact hp)
/-- The same; the right to the new list is given up. -/
theorem y_appendNilD {K : Ctx} {s : GS} {t u : Nat} {y : Operand} {ty e rt : TypeId} {pos : String} {af : Array Edge} {g : Option (Nat × Bool)} {k by_ : Nat} {ys : List D} {z : Value} (hun : K.P.underlying ty = some (.slice e)) (hinf : (K.P.info? e).map (fun i => (i.zero, i.size, i.bytes)) = some (some z, k, by_))
    (hu : s.get u = some .nils := by simp only [GS.ev, GS.get, List.lookup_cons, Nat.reduceBEq, Option.getD_some, Option.getD_none, List.lookup_nil, ofConst] <;> rfl) (hy : (s.ev y).list? = some ys := by simp only [GS.ev, GS.get, List.lookup_cons, Nat.reduceBEq, Option.getD_some, Option.getD_none, List.lookup_nil, ofConst, PV.list?] <;> rfl) (hne : ys ≠ [] := by simp) (hk : ∀ y ∈ ys, y.cells.length = k := by simp [D.cells]) (hk0 : 0 < k := by decide) (hzs : z.cells.size = k := by rfl) (hz1 : z.cells.all (·.oneCell') = true := by kernel_rfl)
    (hlen : ys.length ≤ lim := by simp only [lim, List.length_cons, List.length_nil, List.length_append, List.length_map]; omega) (hB : ys.length * by_ ≤ lim := by simp only [lim, List.length_cons, List.length_nil, List.length_append, List.length_map]; omega) (htu : t ≠ u := by decide) (ht : t < K.n := by exact of_decide_eq_true rfl) :
    Yld K ⟨some t, .call ⟨.builtin .append, #[.tmp u, y], #[ty, ty]⟩, rt, pos, af, g⟩ s (s.set t (.d (.sl ys))) := by
  intro a w ha
  obtain ⟨v, w', h1, S, O, m, hr⟩ := y_appendNil (g := g) (rt := rt) (pos := pos) (af := af) hun hinf hu hy hne hk hk0 hzs hz1 hlen hB htu ht a w ha
  refine ⟨v, w', h1, S, O, m, hr.env, hr.defers, hr.size, hr.pre, fun i p hp => ?_⟩
  rw [GS.get_set] at hp
  by_cases hit : i = t
  · rw [if_pos hit] at hp
    injection hp with hp
    subst hp
    exact .d _ _ _ ((hr.slots i (.osl k ys) (by rw [GS.get_set, if_pos hit])).toD _ rfl)
  · rw [if_neg hit] at hp
    exact hr.slots i p (by rw [GS.get_set, if_neg hit]; exact hp)
end Go.Proofs.YtklkbfpjimeaoaaGreat.E
