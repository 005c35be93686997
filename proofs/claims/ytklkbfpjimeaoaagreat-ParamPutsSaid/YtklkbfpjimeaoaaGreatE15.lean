/- THE ENGINE, part 15: from a contract over plain data to what a row asks of the world. Conditions: none; generic in the program. -/
import Derived.Test.YtklkbfpjimeaoaaGreatE14
import Derived.Below
namespace Go.Proofs.YtklkbfpjimeaoaaGreat.E
open Go Go.RowKit
/-- Every cell that was there. -/
def allOf (W : World) : Reg := fun b _ => b < W.heap.size
theorem Env.start (W : World) : Env (allOf W) noOwns W (allOf W) noOwns [] [] W where
  ext := Ext.refl _ W
  old := fun _ _ _ => rfl
  part := fun _ _ _ _ _ h => by cases h
  s0 := fun _ _ h => h
  snew := fun _ _ h => .inl h
  sown := fun _ _ _ _ _ h => by cases h
  slt := fun _ _ h => h
  olt := fun _ _ _ h => by cases h
  onew := fun _ _ _ h => by cases h
  mlen := rfl
  mem := fun _ _ _ h => by simp at h
theorem Env.below {W w' : World} {S0 S' : Reg} {O' : Owns} {m' : List Nat} {mem' : List (List PV)} (h : Env S0 noOwns W S' O' m' mem' w') : Below W.heap.size W w' :=
  ⟨h.ext.os, h.ext.tape, h.ext.output, h.ext.size, fun k hk => h.old k hk rfl⟩
/-- A contract that ends in a bool, as a row asks it. -/
theorem Pure.row {P : Program} {f : FuncId} {ds : List D} {b : Bool} (h : Pure P f ds (.d (.bool b))) (W : World) (vals : Array Value) (hsz : vals.size = ds.length)
    (hr : ∀ (i : Nat) d v, ds[i]? = some d → vals[i]? = some v → Rd W (allOf W) d v) :
    Calls P f vals W fun e w' => e = .returned (.bool b) ∧ Below W.heap.size W w' := by
  refine (h W (allOf W) noOwns [] vals (Env.start W) (by simpa using hsz) ?_).mono ?_
  · intro i p v hi hv
    rw [List.getElem?_map] at hi
    cases hd : ds[i]? with
    | none => rw [hd] at hi; cases hi
    | some d =>
      rw [hd] at hi
      cases hi
      exact .d _ d v (hr i d v hd hv)
  · rintro e w' ⟨v, r, mem', S', O', m', rfl, ⟨rfl, rfl⟩, henv, _, hrp⟩
    refine ⟨?_, henv.below⟩
    cases hrp with
    | d _ _ _ hd => rw [rd_bool hd]
end Go.Proofs.YtklkbfpjimeaoaaGreat.E
