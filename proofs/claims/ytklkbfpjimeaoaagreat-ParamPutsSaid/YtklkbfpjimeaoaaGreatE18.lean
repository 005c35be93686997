/- THE ENGINE, part 18: the rules of part 17, with what is closed by sight left to be found. Conditions: none; generic in the program. -/
import Derived.Test.YtklkbfpjimeaoaaGreatE17
namespace Go.Proofs.YtklkbfpjimeaoaaGreat.E
open Go
theorem bq (i : Nat) {K : Ctx} {ops : Array Oper} {Q : Exit → GS → Prop} {s s' : GS} {t n : Nat} {listed listed' : Array Bool} {o : Oper} {p : PV} (hB : ∀ i, i < K.m0.length → K.Bs.contains i = true) (ho : ops[i]? = some o) (hq : Qy K o s t p) (h : GB K ops Q n listed' s')
    (hg : o.guard = none := by rfl) (hd : o.dst = some t := by rfl) (ht : t < K.n := by exact of_decide_eq_true rfl) (hs : Region.noSelect ops = true := by kernel_rfl) (hf : Region.free .any ops listed i = true := by kernel_rfl) (hr : (Region.ready .any ops listed).contains i = true := by kernel_rfl)
    (hs' : s.set t p = s' := by simp only [GS.set, PV.copy, PV.copies, mkAgg, PV.toDs, PV.toD, splice, List.set_cons_zero, List.set_cons_succ, List.take_zero, List.take_succ_cons, List.drop_zero, List.drop_succ_cons, List.nil_append, List.cons_append, List.append_nil, List.length_cons, List.length_nil, Nat.reduceAdd, Nat.zero_add, Nat.add_zero, List.take_nil, List.drop_nil, List.map_cons, List.map_nil, PV.cellsOf, Option.map_some, GS.ev, GS.get, List.lookup_cons, Nat.reduceBEq, Option.getD_some, Option.getD_none, List.lookup_nil, ofConst] <;> rfl) (hl : listed.setIfInBounds i true = listed' := by rfl) : GB K ops Q (n + 1) listed s := GB_take hB ho hg hd ht hs hf hr hq hs' hl h
/-- One that is ready. -/
theorem ga1 {K : Ctx} {ops : Array Oper} {Q : Exit → GS → Prop} {n : Nat} {listed : Array Bool} {s : GS} (i : Nat) (h : GOps K ops (fun e s' => e = .normal ∧ GA K ops Q n (listed.setIfInBounds i true) s') [i] s)
    (hr : Region.ready .any ops listed = [i] := by kernel_rfl) : GA K ops Q (n + 1) listed s := GA_all [i] hr (by simp) (fun j hj => by rw [List.mem_singleton.1 hj]; exact h)
/-- Two that are ready. -/
theorem ga2 {K : Ctx} {ops : Array Oper} {Q : Exit → GS → Prop} {n : Nat} {listed : Array Bool} {s : GS} (i k : Nat) (h : GOps K ops (fun e s' => e = .normal ∧ GA K ops Q n (listed.setIfInBounds i true) s') [i] s)
    (h' : GOps K ops (fun e s' => e = .normal ∧ GA K ops Q n (listed.setIfInBounds k true) s') [k] s) (hr : Region.ready .any ops listed = [i, k] := by kernel_rfl) : GA K ops Q (n + 1) listed s :=
  GA_all [i, k] hr (by simp) (fun j hj => by
    rcases List.mem_cons.1 hj with rfl | hj
    · exact h
    · rw [List.mem_singleton.1 hj]; exact h')
end Go.Proofs.YtklkbfpjimeaoaaGreat.E
