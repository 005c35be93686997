/- THE ENGINE, part 20: the rules of part 19 once more, with what is closed by sight left to be found. Conditions: none; generic in the program. -/
import Derived.Test.YtklkbfpjimeaoaaGreatE19
namespace Go.Proofs.YtklkbfpjimeaoaaGreat.E
open Go
/-- The last block, a map, is written no more. -/
theorem g_freezeM {K : Ctx} {ops : Array Oper} {Q : Exit → GS → Prop} {l : List Nat} {s s'' : GS} (n : Nat) (keep : List (List PV)) {kvs : List (D × D)} (hmem : s.mem = keep ++ [[.mapc kvs]]) (hg : GOps K ops Q l s'') (hm : K.m0.length ≤ n := by first | (dsimp only [List.length_cons, List.length_nil]; omega) | simp_all) (hn : keep.length = n := by rfl) (hit : isIter kvs = false := by rfl)
    (hs : GS.mk (s.slots.map fun x => (x.1, PV.frz n noF noH (.d (.map kvs)) x.2)) (keep.map (PV.frzs n noF noH (.d (.map kvs)))) = s'' := by simp only [List.map_cons, List.map_nil, PV.frz, PV.frzs, noF, noH, if_true, if_false, Nat.reduceEqDiff, and_self] <;> rfl) : GOps K ops Q l s := by
  subst hs; exact GOps_le (Le_freezeM n hmem hn hm hit) hg
theorem q_field {K : Ctx} {s : GS} {t : Nat} {x : Operand} {st rt : TypeId} {f : Nat} {pos : String} {af : Array Edge} {g : Option (Nat × Bool)} {fs : Array Field} {fl : Field} {ds : List D} {d : D} {td : TypeDesc} (hu : K.P.underlying st = some (.struct fs)) (hf : fs[f]? = some fl) (htd : K.P.underlying fl.type = some td) (hx : s.ev x = .d (.agg ds) := by simp only [GS.ev, GS.get, List.lookup_cons, Nat.reduceBEq, Option.getD_some, Option.getD_none, List.lookup_nil, ofConst] <;> rfl) (hl : leafT td = true := by rfl) (hd : ds[fl.offset]? = some d := by rfl) (ht : t < K.n := by exact of_decide_eq_true rfl) :
    Qy K ⟨some t, .field st x f, rt, pos, af, g⟩ s t (.d d) := Q_field hx hu hf htd hl hd ht
end Go.Proofs.YtklkbfpjimeaoaaGreat.E
