/- THE ENGINE, part 28: a block that is written no more, between regions; results beside blocks that were handed over. Conditions: none; generic in the program. -/
import Derived.Test.YtklkbfpjimeaoaaGreatE27
namespace Go.Proofs.YtklkbfpjimeaoaaGreat.E
open Go
/-- The last block is written no more. -/
theorem g_frz {K : Ctx} {c : Code} {Q : Exit → GS → Prop} {s s'' : GS} (n : Nat) (keep : List (List PV)) {cs : List PV} {ds : List D} (d : D) (hmem : s.mem = keep ++ [cs]) (hg : G K c Q s'') (hk : K.m0.length ≤ n := by first | (dsimp only [List.length_cons, List.length_nil]; omega) | simp_all) (hn : keep.length = n := by rfl)
    (hds : PV.toDs cs = some ds := by simp only [PV.toDs, PV.toD] <;> rfl) (hd : d.cells = ds := by first | rfl | assumption) (hrf : keep.all (PV.refsBs n) = true := by rfl)
    (hs : GS.mk (s.slots.map fun x => (x.1, PV.frz n (ptrF d) noH .undef x.2)) keep = s'' := by simp only [List.map_cons, List.map_nil, PV.frz, PV.frzs, ptrF, noH, if_true, if_false, Nat.reduceEqDiff] <;> rfl) : G K c Q s := by
  subst hs; exact G_le (Le_freeze n hmem hn hds hd hk hrf) hg
/-- One result, beside blocks. -/
theorem finkm {P : Program} {t n : Nat} {p q : PV} {s : GS} {R : PV → List (List PV) → Prop} {e : Exit} (mem' : List (List PV)) (he : e = .normal ∨ e = .ret) (hR : R q mem') (hs : s.get t = some p := by simp only [GS.ev, GS.get, List.lookup_cons, Nat.reduceBEq, Option.getD_some, Option.getD_none, List.lookup_nil, ofConst] <;> rfl) (hq : p.copy = q := by simp only [GS.set, PV.copy, PV.copies, mkAgg, PV.toDs, PV.toD, splice, List.set_cons_zero, List.set_cons_succ, List.take_zero, List.take_succ_cons, List.drop_zero, List.drop_succ_cons, List.nil_append, List.cons_append, List.append_nil, List.length_cons, List.length_nil, Nat.reduceAdd, Nat.zero_add, Nat.add_zero, List.take_nil, List.drop_nil, List.map_cons, List.map_nil, PV.cellsOf, Option.map_some, GS.ev, GS.get, List.lookup_cons, Nat.reduceBEq, Option.getD_some, Option.getD_none, List.lookup_nil, ofConst] <;> rfl) (hb : PV.refsB mem'.length q = true := by rfl)
    (hm : MSub mem'.length s.mem mem' := by repeat (first | exact MSub.nil | (refine MSub.cons (by repeat (first | exact CSub.nil | refine CSub.cons (.inl rfl) rfl ?_)) ?_))) (hl : mem'.length = n := by rfl) : Fin P [.tmp t] n R e s :=
  ⟨he, .inl ⟨[p.copy], mem', .cons (.tmp hs) .nil, Nat.le_of_eq hl.symm, hm, by simp only [tupOf]; rw [hq]; exact hb, by simp only [tupOf]; rw [hq]; exact hR⟩⟩
/-- One result, a cell's, beside blocks. -/
theorem fincm {P : Program} {t b n k : Nat} {ty : TypeId} {cs : List PV} {td : TypeDesc} {d : D} {s : GS} {R : PV → List (List PV) → Prop} {e : Exit} (mem' : List (List PV)) (hz : (P.info? ty).map (·.size) = some k) (hu : P.underlying ty = some td) (he : e = .normal ∨ e = .ret) (hR : R (.d d) mem')
    (hs : s.get t = some (.ref b 0) := by simp only [GS.ev, GS.get, List.lookup_cons, Nat.reduceBEq, Option.getD_some, Option.getD_none, List.lookup_nil, ofConst] <;> rfl) (hm : s.mem[b]? = some cs := by rfl) (hq : mkAgg ((cs.drop 0).take k) = .d d := by simp only [GS.set, PV.copy, PV.copies, mkAgg, PV.toDs, PV.toD, splice, List.set_cons_zero, List.set_cons_succ, List.take_zero, List.take_succ_cons, List.drop_zero, List.drop_succ_cons, List.nil_append, List.cons_append, List.append_nil, List.length_cons, List.length_nil, Nat.reduceAdd, Nat.zero_add, Nat.add_zero, List.take_nil, List.drop_nil, List.map_cons, List.map_nil, PV.cellsOf, Option.map_some, GS.ev, GS.get, List.lookup_cons, Nat.reduceBEq, Option.getD_some, Option.getD_none, List.lookup_nil, ofConst] <;> rfl) (hl : leafT td = false := by rfl) (hn : 0 + k ≤ cs.length := by exact of_decide_eq_true rfl) (hne : plainB cs = true := by rfl)
    (hms : MSub mem'.length s.mem mem' := by repeat (first | exact MSub.nil | (refine MSub.cons (by repeat (first | exact CSub.nil | refine CSub.cons (.inl rfl) rfl ?_)) ?_))) (hk : mem'.length = n := by rfl) : Fin P [.cell t ty] n R e s :=
  ⟨he, .inl ⟨[mkAgg ((cs.drop 0).take k)], mem', (.cons (.agg hs hm hz hu hl hn hne) .nil), Nat.le_of_eq hk.symm, hms, by simp only [tupOf]; rw [hq]; rfl, by simp only [tupOf]; rw [hq]; exact hR⟩⟩
/-- Whether a list is nil, where it is not told: both ways. -/
theorem g_sleqU {K : Ctx} {ops : Array Oper} {Q : Exit → GS → Prop} {s : GS} {i : Nat} {rest : List Nat} {t : Nat} {ty yt rt e : TypeId} {x : Operand} {pos : String} {af : Array Edge} {xs : List D} (hu : K.P.underlying ty = some (.slice e))
    (ho : ops[i]? = some ⟨some t, .binOp .eql ty x (.const (.slice none 0 0)) yt, rt, pos, af, none⟩) (h : ∀ b, GOps K ops Q rest (s.set t (.d (.bool b)))) (hx : s.ev x = .d (.sl xs) := by simp only [GS.ev, GS.get, List.lookup_cons, Nat.reduceBEq, Option.getD_some, Option.getD_none, List.lookup_nil, ofConst] <;> rfl) (ht : t < K.n := by exact of_decide_eq_true rfl) : GOps K ops Q (i :: rest) s := by
  intro a w ha
  obtain ⟨S, O, m, hr⟩ := ha
  have hv := hr.evd hx
  have hb : ∃ b, (execOp a.eval ⟨some t, .binOp .eql ty x (.const (.slice none 0 0)) yt, rt, pos, af, none⟩).run K.P w = .ok (.value (.bool b)) w := by
    generalize hw : a.eval x = v at hv
    have hc : a.eval (.const (.slice none 0 0)) = .slice none 0 0 := rfl
    simp only [execOp, hw, hc]
    cases hv with
    | sl xs ad cap k _ _ _ hn _ _ => exact ⟨ad.isNone, by cases ad <;> simp [eqGuard, binOp, run_sl_nil hu]⟩
  obtain ⟨b, hb⟩ := hb
  simp only [wpOps, ho, Region.wanted, if_true]
  refine .inl ?_
  simp only [Oper.wp, hb, Oper.upon_value]
  exact h b _ _ ⟨S, O, m, hr.put ht (.d _ _ _ (.bool _))⟩
end Go.Proofs.YtklkbfpjimeaoaaGreat.E
