/- THE ENGINE, part 19: rows of one's own (slices whose elements are written); calls that hand new blocks back; fields of a value. Conditions: none; generic in the program. -/
import Derived.Test.YtklkbfpjimeaoaaGreatE18
namespace Go.Proofs.YtklkbfpjimeaoaaGreat.E
open Go
/-- A field of a value. -/
theorem Q_field {K : Ctx} {s : GS} {t : Nat} {x : Operand} {st rt : TypeId} {f : Nat} {pos : String} {af : Array Edge} {g : Option (Nat × Bool)} {fs : Array Field} {fl : Field} {ds : List D} {d : D} {td : TypeDesc}
    (hx : s.ev x = .d (.agg ds)) (hu : K.P.underlying st = some (.struct fs)) (hf : fs[f]? = some fl) (htd : K.P.underlying fl.type = some td) (hl : leafT td = true) (hd : ds[fl.offset]? = some d) (ht : t < K.n) :
    Qy K ⟨some t, .field st x f, rt, pos, af, g⟩ s t (.d d) := by
  refine fun S O m a w h => ?_
  have hr := h.evd hx
  generalize hv : a.eval x = v at hr
  cases hr with
  | agg _ vs hsz ho hh =>
    have hlt : fl.offset < vs.size := by rw [hsz]; exact (List.getElem?_eq_some_iff.1 hd).1
    refine ⟨vs[fl.offset], fun w' _ => ?_, .d _ _ _ (hh _ _ _ hd (Array.getElem?_eq_getElem hlt))⟩
    simp only [execOp, hv]
    simp [Instr.field, run_underlying hu, hf, asAgg, part, run_isAgg htd, hl, Array.getElem?_eq_getElem hlt]
end Go.Proofs.YtklkbfpjimeaoaaGreat.E
