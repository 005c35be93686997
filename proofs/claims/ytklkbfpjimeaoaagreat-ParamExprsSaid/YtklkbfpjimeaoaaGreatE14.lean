/- THE ENGINE, part 14: plain lemmas for walks: counters, searches. Conditions: none. -/
import Derived.Test.YtklkbfpjimeaoaaGreatE13
import Derived.IntWalk
namespace Go.Proofs.YtklkbfpjimeaoaaGreat.E
open Go

/-- The first index where p holds; -1 if it holds nowhere. -/
def idxI (p : D → Bool) (xs : List D) : Int := match xs.findIdx? p with | some i => i | none => -1

theorem idx_step {p : D → Bool} {xs : List D} {z : Nat} {x : D} (h : ∀ i, i < z → ∀ y, xs[i]? = some y → p y = false) (hx : xs[z]? = some x) (hb : p x = false) : ∀ i, i < z + 1 → ∀ y, xs[i]? = some y → p y = false := fun i hi y hy => by
  by_cases hiz : i = z
  · subst hiz; rw [hx] at hy; injection hy with hy; subst hy; exact hb
  · exact h i (by omega) y hy
theorem idx_found {p : D → Bool} {xs : List D} {z : Nat} {x : D} (h : ∀ i, i < z → ∀ y, xs[i]? = some y → p y = false) (hx : xs[z]? = some x) (hb : p x = true) : PV.d (.int .i64 (z : Nat)) = PV.d (.int .i64 (idxI p xs)) := by
  have hlt := (List.getElem?_eq_some_iff.1 hx).1
  have hxe : xs[z] = x := by rw [List.getElem?_eq_getElem hlt] at hx; injection hx
  have : xs.findIdx? p = some z := by
    rw [List.findIdx?_eq_some_iff_getElem]
    exact ⟨hlt, by rw [hxe]; exact hb, fun j hj => by simpa using h j hj xs[j] (List.getElem?_eq_getElem (by omega))⟩
  simp [idxI, this]
theorem idx_none {p : D → Bool} {xs : List D} (h : ∀ i, i < xs.length → ∀ y, xs[i]? = some y → p y = false) : PV.d (.int .i64 (-1)) = PV.d (.int .i64 (idxI p xs)) := by
  have : xs.findIdx? p = none := by
    rw [List.findIdx?_eq_none_iff]
    intro x hx
    obtain ⟨i, hi⟩ := List.getElem?_of_mem hx
    exact h i (List.getElem?_eq_some_iff.1 hi).1 x hi
  simp [idxI, this]
theorem idx_any (p : D → Bool) (xs : List D) : decide (idxI p xs ≥ 0) = xs.any p := by
  unfold idxI
  cases h : xs.findIdx? p with
  | none =>
    rw [List.findIdx?_eq_none_iff] at h
    simp; exact h
  | some i =>
    rw [List.findIdx?_eq_some_iff_getElem] at h
    obtain ⟨h1, h2, _⟩ := h
    have : xs.any p = true := by rw [List.any_eq_true]; exact ⟨xs[i], List.getElem_mem h1, h2⟩
    rw [this]; simp

end Go.Proofs.YtklkbfpjimeaoaaGreat.E
