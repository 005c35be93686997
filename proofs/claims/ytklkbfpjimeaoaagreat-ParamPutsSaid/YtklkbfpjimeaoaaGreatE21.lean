/- THE ENGINE, part 21: append of any list onto a list of one's own; guards split in two; guarded calls whose guard is known. Conditions: none; generic in the program. -/
import Derived.Test.YtklkbfpjimeaoaaGreatE20
namespace Go.Proofs.YtklkbfpjimeaoaaGreat.E
open Go
theorem Pf.data {P : Program} {f : FuncId} {args xs : List D} {k : Nat} (h : Pf P f args (.osl k xs)) : Pf P f args (.d (.sl xs)) :=
  ⟨h.1, fun w S O m vals h1 h2 h3 => (h.2 w S O m vals h1 h2 h3).mono fun e w' ⟨v, r, mem', S', O', m', he, hr, henv, hp, hrp⟩ => by
    obtain ⟨rfl, rfl⟩ := hr
    exact ⟨v, _, [], S', O', m', he, ⟨rfl, rfl⟩, henv, hp, hrp.wk (.inr (.inr (.inr (.inr ⟨_, _, rfl, rfl⟩))))⟩⟩
theorem g_split {K : Ctx} {ops : Array Oper} {Q : Exit → GS → Prop} {s : GS} {l : List Nat} {q : PV} {b : Bool} (u : Nat) (want : Bool) (h1 : b = true → GOps K ops Q l s) (h2 : b = false → GOps K ops Q l s)
    (hsu : s.get u = some q := by simp only [GS.ev, GS.get, List.lookup_cons, Nat.reduceBEq, Option.getD_some, Option.getD_none, List.lookup_nil, ofConst] <;> rfl) (hgd : q.guard want = some b := by rfl) : GOps K ops Q l s := by
  cases b with
  | true => exact h1 rfl
  | false => exact h2 rfl
theorem g_callo {K : Ctx} {ops : Array Oper} {Q : Exit → GS → Prop} {s s'' : GS} {i : Nat} {rest : List Nat} {t j u : Nat} {want b : Bool} {oj : Oper} {fx : Operand} {xs : List Operand} {tys : Array TypeId} {ty : TypeId} {pos : String} {af : Array Edge} {f : FuncId} {fa fc ds args : List D} {r : PV} {q : PV}
    (ho : ops[i]? = some ⟨some t, .call ⟨.value fx, xs.toArray, tys⟩, ty, pos, af, some (j, want)⟩) (hb : b = true) (hc : Pf K.P f args r) (h : GOps K ops Q rest s'')
    (hj : ops[j]? = some oj := by rfl) (hjd : oj.dst = some u := by rfl) (hsu : s.get u = some q := by simp only [GS.ev, GS.get, List.lookup_cons, Nat.reduceBEq, Option.getD_some, Option.getD_none, List.lookup_nil, ofConst] <;> rfl) (hgd : q.guard want = some b := by rfl) (hu : u < K.n := by exact of_decide_eq_true rfl)
    (hfx : (s.ev fx).callee = some (f, fa, fc) := by simp only [GS.ev, GS.get, List.lookup_cons, Nat.reduceBEq, Option.getD_some, Option.getD_none, List.lookup_nil, ofConst, PV.callee, PV.toDs] <;> rfl) (hxs : PV.toDUs true (xs.map s.ev) = some ds := by simp only [List.map_cons, List.map_nil, GS.ev, GS.get, List.lookup_cons, Nat.reduceBEq, Option.getD_some, Option.getD_none, List.lookup_nil, ofConst, PV.toDUs, PV.toDU, PV.toD, if_true] <;> rfl)
    (ht : t < K.n := by exact of_decide_eq_true rfl) (ha : args = fa ++ ds ++ fc := by rfl) (hs : s.set t r = s'' := by simp only [GS.set] <;> rfl) : GOps K ops Q (i :: rest) s := by
  subst hs; subst ha; subst hb
  rintro a w ⟨S, O, m, hr⟩
  have hyl := wanted_of hr hj hjd hsu hu hgd
  obtain ⟨⟨fn, hf, hbd, hn⟩, hc1⟩ := hc
  have hw : Region.wanted ⟨some t, .call ⟨.value fx, xs.toArray, tys⟩, ty, pos, af, some (j, want)⟩ (yielded ops a.tmps) = true := by simp only [Region.wanted]; rw [hyl]
  simp only [wpOps, ho, hw, if_true]
  obtain ⟨g1, g2⟩ := PV.toDUs_get _ _ _ hxs
  refine .inl (call_wp hr rfl rfl hfx (by simpa using g1) (fun i d v hi hv => ?_) hf hbd hn ht hc1 (fun a' w' hat => h a' w' hat))
  obtain ⟨p, hp, hpd⟩ := g2 i d hi
  rw [List.getElem?_map] at hp hv
  cases hx : xs[i]? with
  | none => simp [hx] at hp
  | some y =>
    simp only [hx, Option.map_some, Option.some.injEq] at hp hv
    subst hp; subst hv
    obtain ⟨l, hry⟩ := hr.ev y
    exact hry.toDU hpd
end Go.Proofs.YtklkbfpjimeaoaaGreat.E
