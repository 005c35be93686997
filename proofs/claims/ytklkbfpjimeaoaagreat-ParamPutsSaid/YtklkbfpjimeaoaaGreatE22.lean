/- THE ENGINE, part 22: arguments that are structs by value, as plain data. Conditions: none; generic in the program. -/
import Derived.Test.YtklkbfpjimeaoaaGreatE21
namespace Go.Proofs.YtklkbfpjimeaoaaGreat.E
open Go Go.RowKit
theorem arg_agg {H : Type} {enc : TypeId × Value → H} {P : Program} {w : World} {sp : Nat → Bool} {held : Bool} {L : List TypeId} (hL : closedT P L = true) {t : TypeId} (ht : t ∈ L)
    {vs : Array Value} {d : DataW H} {ps : List MemPlace} (h : DataW.Trod enc P w 0 sp held t (.agg vs) d ps) (hw : ∀ n ∈ d.weights P t, n ≤ reachBytes) :
    ∃ ds : List D, DT P t ds ∧ Rd w (allOf w) (.agg ds) (.agg vs) := by
  obtain ⟨fuel, hf⟩ := h
  obtain ⟨ds, hdt, hl, hr⟩ := read hL fuel t _ _ ht hf hw
  have hc : (Value.agg vs).cells.toList = vs.toList := rfl
  rw [hc] at hl hr
  refine ⟨ds, hdt, .agg ds vs (by simpa using hl.symm) (fun i v hv => ?_) (fun i x v hx hv => (hr i x v hx (by simpa using hv)).1)⟩
  have hlt : i < ds.length := by rw [hl]; simpa using (Array.getElem?_eq_some_iff.1 hv).1
  exact (hr i _ v (List.getElem?_eq_getElem hlt) (by simpa using hv)).2
/-- Lists, in words of one's own; what is known of each part is known of it alone. -/
theorem list_at {P : Program} {e : TypeId} {α : Type} {f : α → D} {Q : α → Prop} :
    ∀ (dss : List (List D)), (∀ (i : Nat) ds, dss[i]? = some ds → ∃ x, Q x ∧ D.mk P e ds = f x) → ∃ xs : List α, dss.map (D.mk P e) = xs.map f ∧ (∀ x ∈ xs, Q x) ∧ xs.length = dss.length
  | [], _ => ⟨[], rfl, fun x hx => (by cases hx), rfl⟩
  | ds :: r, hd => by
    obtain ⟨x, hq, hx⟩ := hd 0 ds rfl
    obtain ⟨xs, h1, h2, h3⟩ := list_at r (fun i d hi => hd (i + 1) d (by simpa using hi))
    exact ⟨x :: xs, by simp [hx, h1], fun y hy => by rcases List.mem_cons.1 hy with rfl | hy; exact hq; exact h2 y hy, by simp [h3]⟩
end Go.Proofs.YtklkbfpjimeaoaaGreat.E
