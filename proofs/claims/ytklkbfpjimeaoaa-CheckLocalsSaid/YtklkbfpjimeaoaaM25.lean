import Derived.Test.YtklkbfpjimeaoaaM24
import Derived.Test.YtklkbfpjimeaoaaM17
import Derived.Test.YtklkbfpjimeaoaaM23
import Derived.Test.YtklkbfpjimeaoaaM18
import Derived.Test.YtklkbfpjimeaoaaM12
import Derived.Defers
import Derived.Recover
import Derived.Tactics
import Derived.Tactics2
import Derived.Laws.Pointers
/- Contracts of functions. Conditions: none. -/
set_option linter.unusedSimpArgs false
set_option linter.unusedVariables false
set_option maxRecDepth 20000
namespace Go.Proofs.Ytklkbfpjimeaoaa
open Go Go.Proofs.Ytklkbfpjimeaoaa.E
section
theorem ap0 {n : Nat} {S0 : Reg} {O0 : Owns} {w0 : World} {m0 Bs : List Nat} {ds : List Deferred} {fr : List Fr} {Q : Exit → GS → Prop} {ops : Array Oper} {i : Nat} {l : List Nat} {sl : List (Nat × PV)} {mem : List (List PV)} {t u k b : Nat} {xs : List D} (h : aps tab ops.toList n i sl = some (t, u, k, b, xs, [])) (hg : GF ⟨Try.prog, n, S0, O0, w0, m0, Bs, ds⟩ fr (.ops ops l) Q ⟨(t, .osl k xs) :: (u, .d (.sl xs)) :: sl, mem⟩) (hu0 : lk sl u = .osl k xs := by rfl) (htu : t ≠ u := by decide) : GF ⟨Try.prog, n, S0, O0, w0, m0, Bs, ds⟩ fr (.ops ops (i :: l)) Q ⟨sl, mem⟩ := gA0 tabOk h hu0 htu hg
theorem bx {n : Nat} {S0 : Reg} {O0 : Owns} {w0 : World} {m0 Bs : List Nat} {ds : List Deferred} {fr : List Fr} {Q : Exit → GS → Prop} {ops : Array Oper} {i t k : Nat} {l : List Nat} {sl : List (Nat × PV)} {mem mem' : List (List PV)} {d : D} (h : bxs ops.toList n i sl = some (t, .d d)) (hd : PV.cellsOf (.d d) = [.d d]) (hg : GF ⟨Try.prog, n, S0, O0, w0, m0, Bs, ds⟩ fr (.ops ops l) Q ⟨(t, .ref k 0) :: sl, mem'⟩) (hm : mem ++ [[.d d]] = mem' := by rfl) (hk : mem.length = k := by rfl) : GF ⟨Try.prog, n, S0, O0, w0, m0, Bs, ds⟩ fr (.ops ops (i :: l)) Q ⟨sl, mem⟩ := gBx h rfl (by rw [hd]; rfl) hm hk hg
theorem oih {n : Nat} {S0 : Reg} {O0 : Owns} {w0 : World} {m0 Bs : List Nat} {ds : List Deferred} {fr : List Fr} {Q : Exit → GS → Prop} {ops : Array Oper} {base pre : List (Nat × PV)} {iS : Nat} {c1 c2 : List PV} {tl : List (List PV)} {i j t m : Nat} {es es' : List (Nat × Nat × PV)} {ob : List (Bool × Bool)} {xs : List D} {ix : Int} {d : D} (hs : see ops.toList i es base = some pre := by exact rfl) (hj : nth nums (i + 1) = some j := by exact rfl) (h : ∀ rest, ixs tab ops.toList n i (pre ++ rest) = some (t, none, ob, xs, ix, m) := by exact fun _ => rfl) (hd : xs[ix.toNat]? = some d) (hes : snocK es (i, t, .d (.ptr d)) some = some es' := by exact rfl) (hc : COh ⟨Try.prog, n, S0, O0, w0, m0, Bs, ds⟩ fr ops base iS c1 c2 tl j es' Q) (h0 : 0 ≤ ix := by omega) (hn : d.cells.length = m := by first | rfl | simp [D.cells]) (hm : 0 < m := by decide) (h2 : Nat.beq i iS = false := by rfl) (ho : Obl ob := by repeat first | exact Obl.nil | refine Obl.same ?_ | refine Obl.imp (fun h => by simp_all) ?_) : COh ⟨Try.prog, n, S0, O0, w0, m0, Bs, ds⟩ fr ops base iS c1 c2 tl i es Q :=
 oStepH hs hj hes h2 hc fun rest X _ hg => gI d tabOk (h rest) (fun _ => ⟨h0, hd, hn⟩) hm ho hg
theorem ok (kl : List (Nat × Nat)) {n : Nat} {S0 : Reg} {O0 : Owns} {w0 : World} {m0 Bs : List Nat} {ds : List Deferred} {fr : List Fr} {Q : Exit → GS → Prop} {id : Nat} {ops : Array Oper} {sl base : List (Nat × PV)} {mem : List (List PV)} {tt : List Nat} (hb : baseK ops.toList sl = some (tt, base) := by exact rfl) (hdep : ((List.range ops.size).all fun i => (depsOf ops i).all fun d => Nat.blt d i) = true := by kernel_rfl) (hc : COk kl ⟨Try.prog, n, S0, O0, w0, m0, Bs, ds⟩ fr ops base mem 0 [] Q) : GF ⟨Try.prog, n, S0, O0, w0, m0, Bs, ds⟩ fr (.code (.region id ops true)) Q ⟨sl, mem⟩ := gOpenCG kl hb mixed hdep rfl hc
theorem ovk {kl : List (Nat × Nat)} {n : Nat} {S0 : Reg} {O0 : Owns} {w0 : World} {m0 Bs : List Nat} {ds : List Deferred} {fr : List Fr} {Q : Exit → GS → Prop} {ops : Array Oper} {base pre : List (Nat × PV)} {mem : List (List PV)} {i j t : Nat} {es es' : List (Nat × Nat × PV)} {p : PV} {ob : List (Bool × Bool)} (hs : seeF kl ops.toList i es base = some pre := by exact rfl) (hj : nth nums (i + 1) = some j := by exact rfl) (h : ∀ rest, E.step tab ops.toList n i ⟨pre ++ rest, mem⟩ = some (ob, ⟨(t, p) :: (pre ++ rest), mem⟩) := by exact fun _ => rfl) (hes : snocK es (i, t, p) some = some es' := by exact rfl) (hc : COk kl ⟨Try.prog, n, S0, O0, w0, m0, Bs, ds⟩ fr ops base mem j es' Q) (ho : Obl ob := by repeat first | exact Obl.nil | refine Obl.same ?_ | refine Obl.imp (fun h => by simp_all) ?_) : COk kl ⟨Try.prog, n, S0, O0, w0, m0, Bs, ds⟩ fr ops base mem i es Q :=
 kStep hs hj hes hc fun rest _ hg => toO (gv tabOk (h rest) (ofO hg) ho)
theorem ock {kl : List (Nat × Nat)} {n : Nat} {S0 : Reg} {O0 : Owns} {w0 : World} {m0 Bs : List Nat} {ds : List Deferred} {fr : List Fr} {Q : Exit → GS → Prop} {ops : Array Oper} {base pre : List (Nat × PV)} {mem : List (List PV)} {i j t : Nat} {es es' : List (Nat × Nat × PV)} {ob : List (Bool × Bool)} {f : FuncId} {ds' : List D} {r : PV} (hs : seeF kl ops.toList i es base = some pre := by exact rfl) (hj : nth nums (i + 1) = some j := by exact rfl) (h : ∀ rest, cls ops.toList n i (pre ++ rest) = some (t, none, ob, f, ds') := by exact fun _ => rfl) (hcl : Pf Try.prog f ds' r) (hes : snocK es (i, t, r) some = some es' := by exact rfl) (hc : COk kl ⟨Try.prog, n, S0, O0, w0, m0, Bs, ds⟩ fr ops base mem j es' Q) (ho : Obl ob := by repeat first | exact Obl.nil | refine Obl.same ?_ | refine Obl.imp (fun h => by simp_all) ?_) : COk kl ⟨Try.prog, n, S0, O0, w0, m0, Bs, ds⟩ fr ops base mem i es Q :=
 kStep hs hj hes hc fun rest _ hg => gC (h rest) (fun _ => hcl) ho hg
theorem obk {kl : List (Nat × Nat)} {n : Nat} {S0 : Reg} {O0 : Owns} {w0 : World} {m0 Bs : List Nat} {ds : List Deferred} {fr : List Fr} {Q : Exit → GS → Prop} {ops : Array Oper} {base pre : List (Nat × PV)} {mem : List (List PV)} {i j t k : Nat} {es es' : List (Nat × Nat × PV)} {xs : List D} (hs : seeF kl ops.toList i es base = some pre := by exact rfl) (hj : nth nums (i + 1) = some j := by exact rfl) (h : ∀ rest, bss tab ops.toList n i (pre ++ rest) = some (t, k, xs) := by exact fun _ => rfl) (hes : snocK es (i, t, .osl k xs) some = some es' := by exact rfl) (hc : COk kl ⟨Try.prog, n, S0, O0, w0, m0, Bs, ds⟩ fr ops base mem j es' Q) (hk0 : 0 < k := by decide) (hk : ∀ d ∈ xs, d.cells.length = k := by simp [D.cells]) : COk kl ⟨Try.prog, n, S0, O0, w0, m0, Bs, ds⟩ fr ops base mem i es Q :=
 kStep hs hj hes hc fun rest _ hg => gB tabOk (h rest) hk0 hk hg
theorem oak {kl : List (Nat × Nat)} {n : Nat} {S0 : Reg} {O0 : Owns} {w0 : World} {m0 Bs : List Nat} {ds : List Deferred} {fr : List Fr} {Q : Exit → GS → Prop} {ops : Array Oper} {base pre : List (Nat × PV)} {mem : List (List PV)} {i j t u k b : Nat} {es es' : List (Nat × Nat × PV)} {xs ys : List D} (hs : seeF kl ops.toList i es base = some pre := by exact rfl) (hj : nth nums (i + 1) = some j := by exact rfl) (h : ∀ rest, aps tab ops.toList n i (pre ++ rest) = some (t, u, k, b, xs, ys) := by exact fun _ => rfl) (hes : snocK es (i, t, .osl k (xs ++ ys)) some = some es' := by exact rfl) (hc : COk kl ⟨Try.prog, n, S0, O0, w0, m0, Bs, ds⟩ fr ops base mem j es' Q) (hx : tkB kl es u i = true := by rfl) (hk0 : 0 < k := by decide) (hne : ys ≠ [] := by simp) (hk : ∀ y ∈ ys, y.cells.length = k := by simp [D.cells]) (hl : xs.length + ys.length ≤ lim := by simp only [lim, List.length_cons, List.length_nil, List.length_append, List.length_map]; omega) (hB : (xs.length + ys.length) * b ≤ lim := by simp only [lim, List.length_cons, List.length_nil, List.length_append, List.length_map]; omega) : COk kl ⟨Try.prog, n, S0, O0, w0, m0, Bs, ds⟩ fr ops base mem i es Q :=
 kTake hs hj hes hx hc fun rest _ hg => gA tabOk (h rest) hk0 hne hk hl hB hg
theorem oek {kl : List (Nat × Nat)} {n : Nat} {S0 : Reg} {O0 : Owns} {w0 : World} {m0 Bs : List Nat} {ds : List Deferred} {fr : List Fr} {Q : Exit → GS → Prop} {ops : Array Oper} {base sl : List (Nat × PV)} {mem : List (List PV)} {i : Nat} {es : List (Nat × Nat × PV)} (hi : sizeIs ops.toList i = true := by exact rfl) (hp : (es.filter fun x => (kl.lookup x.1).isNone).map (·.2) ++ base = sl := by exact rfl) (hc : GF ⟨Try.prog, n, S0, O0, w0, m0, Bs, ds⟩ fr (.leave .normal) Q ⟨sl, mem⟩) (hn : nodupB (es.map (·.2.1)) = true := by rfl) (hb : base.all (fun x => !(es.map (·.2.1)).contains x.1) = true := by rfl) (hf : es.all (fun x => Nat.blt x.1 ops.size) = true := by rfl) : COk kl ⟨Try.prog, n, S0, O0, w0, m0, Bs, ds⟩ fr ops base mem i es Q := cg_end hi rfl hp hc hn hb hf
theorem oa (iL iA iS : Nat) (c1 c2 : List PV) {n : Nat} {S0 : Reg} {O0 : Owns} {w0 : World} {m0 Bs : List Nat} {ds : List Deferred} {fr : List Fr} {Q : Exit → GS → Prop} {id : Nat} {ops : Array Oper} {sl base : List (Nat × PV)} {c0 : List PV} {tl : List (List PV)} {tt : List Nat} (hb : baseK ops.toList sl = some (tt, base) := by exact rfl) (hdep : ((List.range ops.size).all fun i => (depsOf ops i).all fun d => Nat.blt d i) = true := by kernel_rfl) (hc : COa ⟨Try.prog, n, S0, O0, w0, m0, Bs, ds⟩ fr ops base iL iA iS c0 c1 c2 tl 0 [] Q) : GF ⟨Try.prog, n, S0, O0, w0, m0, Bs, ds⟩ fr (.code (.region id ops true)) Q ⟨sl, c0 :: tl⟩ := gOpenCG [(iL, iA), (iA, iS)] hb mixed hdep rfl hc
section
variable {n : Nat} {S0 : Reg} {O0 : Owns} {w0 : World} {m0 Bs : List Nat} {ds : List Deferred} {fr : List Fr} {Q : Exit → GS → Prop} {iL iA iS : Nat} {c0 c1 c2 : List PV} {tl : List (List PV)} {ops : Array Oper} {base pre sl : List (Nat × PV)} {i j t u : Nat} {es es' : List (Nat × Nat × PV)} {p q : PV}
theorem ova {ob : List (Bool × Bool)} (hs : seeF [(iL, iA), (iA, iS)] ops.toList i es base = some pre := by exact rfl) (hj : nth nums (i + 1) = some j := by exact rfl) (h : ∀ rest X, E.step tab ops.toList n i ⟨pre ++ rest, X :: tl⟩ = some (ob, ⟨(t, p) :: (pre ++ rest), X :: tl⟩) := by exact fun _ _ => rfl) (hes : snocK es (i, t, p) some = some es' := by exact rfl) (hc : COa ⟨Try.prog, n, S0, O0, w0, m0, Bs, ds⟩ fr ops base iL iA iS c0 c1 c2 tl j es' Q) (h2 : Nat.beq i iL = false := by rfl) (h3 : Nat.beq i iS = false := by rfl) (ho : Obl ob := by repeat first | exact Obl.nil | refine Obl.same ?_ | refine Obl.imp (fun h => by simp_all) ?_) : COa ⟨Try.prog, n, S0, O0, w0, m0, Bs, ds⟩ fr ops base iL iA iS c0 c1 c2 tl i es Q :=
 aStep hs hj hes h2 h3 hc fun rest X _ hg => toO (gv tabOk (h rest X) (ofO hg) ho)
theorem oba {k : Nat} {xs : List D} (hs : seeF [(iL, iA), (iA, iS)] ops.toList i es base = some pre := by exact rfl) (hj : nth nums (i + 1) = some j := by exact rfl) (h : ∀ rest, bss tab ops.toList n i (pre ++ rest) = some (t, k, xs) := by exact fun _ => rfl) (hes : snocK es (i, t, .osl k xs) some = some es' := by exact rfl) (hc : COa ⟨Try.prog, n, S0, O0, w0, m0, Bs, ds⟩ fr ops base iL iA iS c0 c1 c2 tl j es' Q) (h2 : Nat.beq i iL = false := by rfl) (h3 : Nat.beq i iS = false := by rfl) (hk0 : 0 < k := by decide) (hk : ∀ d ∈ xs, d.cells.length = k := by simp [D.cells]) : COa ⟨Try.prog, n, S0, O0, w0, m0, Bs, ds⟩ fr ops base iL iA iS c0 c1 c2 tl i es Q :=
 aStep hs hj hes h2 h3 hc fun rest X _ hg => gB tabOk (h rest) hk0 hk hg
theorem ola {ob : List (Bool × Bool)} (hs : seeF [(iL, iA), (iA, iS)] ops.toList iL es base = some pre := by exact rfl) (hj : nth nums (iL + 1) = some j := by exact rfl) (h : ∀ rest, E.step tab ops.toList n iL ⟨pre ++ rest, c0 :: tl⟩ = some (ob, ⟨(t, p) :: (pre ++ rest), c1 :: tl⟩) := by exact fun _ => rfl) (hes : snocK es (iL, t, p) some = some es' := by exact rfl) (hc : COa ⟨Try.prog, n, S0, O0, w0, m0, Bs, ds⟩ fr ops base iL iA iS c0 c1 c2 tl j es' Q) (h1 : memN iL (depsOf ops iA) = true := by kernel_rfl) (h2 : memN iA (depsOf ops iS) = true := by kernel_rfl) (h3 : Nat.beq iL iS = false := by rfl) (ho : Obl ob := by repeat first | exact Obl.nil | refine Obl.same ?_ | refine Obl.imp (fun h => by simp_all) ?_) : COa ⟨Try.prog, n, S0, O0, w0, m0, Bs, ds⟩ fr ops base iL iA iS c0 c1 c2 tl iL es Q :=
 aLoad hs hj hes h1 h2 h3 hc fun rest _ hg => toO (gv tabOk (h rest) (ofO hg) ho)
theorem oaa {k b : Nat} {xs ys : List D} (hs : seeF [(iL, iA), (iA, iS)] ops.toList iA es base = some pre := by exact rfl) (hj : nth nums (iA + 1) = some j := by exact rfl) (h : ∀ rest, aps tab ops.toList n iA (pre ++ rest) = some (t, u, k, b, xs, ys) := by exact fun _ => rfl) (hes : snocK es (iA, t, .osl k (xs ++ ys)) some = some es' := by exact rfl) (hc : COa ⟨Try.prog, n, S0, O0, w0, m0, Bs, ds⟩ fr ops base iL iA iS c0 c1 c2 tl j es' Q) (hx : tkB [(iL, iA), (iA, iS)] es u iA = true := by rfl) (h2 : Nat.beq iA iL = false := by rfl) (h3 : Nat.beq iA iS = false := by rfl) (hk0 : 0 < k := by decide) (hne : ys ≠ [] := by simp) (hk : ∀ y ∈ ys, y.cells.length = k := by simp [D.cells]) (hl : xs.length + ys.length ≤ lim := by simp only [lim, List.length_cons, List.length_nil, List.length_append, List.length_map]; omega) (hB : (xs.length + ys.length) * b ≤ lim := by simp only [lim, List.length_cons, List.length_nil, List.length_append, List.length_map]; omega) : COa ⟨Try.prog, n, S0, O0, w0, m0, Bs, ds⟩ fr ops base iL iA iS c0 c1 c2 tl iA es Q :=
 aApp hs hj hes hx h2 h3 hc fun rest X _ hg => gA tabOk (h rest) hk0 hne hk hl hB hg
theorem osa {ob : List (Bool × Bool)} (hs : seeF [(iL, iA), (iA, iS)] ops.toList iS es base = some pre := by exact rfl) (hj : nth nums (iS + 1) = some j := by exact rfl) (h : ∀ rest, E.step tab ops.toList n iS ⟨pre ++ rest, c1 :: tl⟩ = some (ob, ⟨(u, q) :: (pre ++ rest), c2 :: tl⟩) := by exact fun _ => rfl) (hc : COa ⟨Try.prog, n, S0, O0, w0, m0, Bs, ds⟩ fr ops base iL iA iS c0 c1 c2 tl j es Q) (hx : tkB [(iL, iA), (iA, iS)] es u iS = true := by rfl) (h1 : memN iL (depsOf ops iA) = true := by kernel_rfl) (h2 : memN iA (depsOf ops iS) = true := by kernel_rfl) (h3 : Nat.beq iS iL = false := by rfl) (ho : Obl ob := by repeat first | exact Obl.nil | refine Obl.same ?_ | refine Obl.imp (fun h => by simp_all) ?_) : COa ⟨Try.prog, n, S0, O0, w0, m0, Bs, ds⟩ fr ops base iL iA iS c0 c1 c2 tl iS es Q :=
 aStore hs hj hx h1 h2 h3 hc fun rest _ hg => toO (gv tabOk (h rest) (ofO hg) ho)
theorem oea (hi : sizeIs ops.toList i = true := by exact rfl) (hM : (fun b : Nat → Bool => (cond (b iS) c2 (cond (b iL) c1 c0)) :: tl) (allB ops.size) = c2 :: tl := by exact rfl) (hp : (es.filter fun x => (([(iL, iA), (iA, iS)] : List (Nat × Nat)).lookup x.1).isNone).map (·.2) ++ base = sl := by exact rfl) (hc : GF ⟨Try.prog, n, S0, O0, w0, m0, Bs, ds⟩ fr (.leave .normal) Q ⟨sl, c2 :: tl⟩) (hn : nodupB (es.map (·.2.1)) = true := by rfl) (hb : base.all (fun x => !(es.map (·.2.1)).contains x.1) = true := by rfl) (hf : es.all (fun x => Nat.blt x.1 ops.size) = true := by rfl) : COa ⟨Try.prog, n, S0, O0, w0, m0, Bs, ds⟩ fr ops base iL iA iS c0 c1 c2 tl i es Q := cg_end hi hM hp hc hn hb hf
theorem omh {f : FuncId} {args args0 : List PV} {r : PV} (hs : see ops.toList iS es base = some pre := by exact rfl) (hj : nth nums (iS + 1) = some j := by exact rfl) (h : ∀ rest, cms ops.toList n iS (pre ++ rest) = some (t, f, args) := by exact fun _ => rfl) (hcl : Gm Try.prog f args0 [c1] r [c2]) (hes : snocK es (iS, t, r) some = some es' := by exact rfl) (hc : COh ⟨Try.prog, n, S0, O0, w0, m0, Bs, ds⟩ fr ops base iS c1 c2 tl j es' Q) (hargs : args = PV.rens (fun b => [0].getD b 0) args0 := by rfl) (h1 : PV.rens (fun b => [0].getD b 0) c1 = c1 := by rfl) (h2 : PV.rens (fun b => [0].getD b 0) c2 = c2 := by rfl) (hra : PV.refsBs 1 args0 = true := by rfl) (hrm : PV.refsBs 1 c1 = true := by rfl) (hr : r.ren (fun b => [0].getD b 0) = r := by rfl) : COh ⟨Try.prog, n, S0, O0, w0, m0, Bs, ds⟩ fr ops base iS c1 c2 tl iS es Q :=
 oPutH hs hj hes hc fun rest _ hg => gMs [0] (h rest) hcl hargs (by decide) (by simp) (by simp only [List.map_cons, List.map_nil, h1]; rfl) hra (by simp only [List.all_cons, List.all_nil, Bool.and_true]; exact hrm) rfl hr (by simp only [List.map_cons, List.map_nil, h2]; rfl) hg
end
end
section
def pairB : D → Bool
 | .agg [.str a, .str b] => Nat.ble a.size 140737488355328 && Nat.ble b.size 140737488355328
 | _ => false
theorem laid : laidOutB Try.prog = true := by kernel_rfl
theorem C9 : KC Try.prog 9 strB := strKC u9
theorem C225 : KC Try.prog 115 pairB where
 law := deep_law_laid laid (m := 2) (by decide) (oR (by kernel_rfl)) (by kernel_rfl) (by kernel_rfl)
 ok k hk := by
  unfold pairB at hk
  split at hk
  · rename_i a b
    rw [Bool.and_eq_true] at hk
    have ha := Nat.le_of_ble_eq_true hk.1
    have hb := Nat.le_of_ble_eq_true hk.2
    suffices h : ∃ l, keyOf Try.prog 115 (.agg #[.string a, .string b]) = some l by
     obtain ⟨l, hl⟩ := h
     exact ⟨⟨_, l, rfl, hl⟩, by intro h; cases h⟩
    have h9 : ∀ (d : Nat) (s : ByteArray), s.size ≤ 140737488355328 → Try.prog.keyLits (d + 1) 9 [.string s] = some [.string s.data.toList] := fun d s hs => by
     have h1 : s.size ≤ maxLen := Nat.le_trans hs (by decide)
     simp only [Program.keyLits, u9, if_pos h1]
    have hsz : Try.prog.types.size = (Try.prog.types.size - 1) + 1 := by kernel_rfl
    have hc9 : Try.prog.cellsOf 9 = 1 := by kernel_rfl
    have hc : Try.prog.cellsOf 115 = 2 := by kernel_rfl
    unfold keyOf
    rw [u115]
    dsimp only
    rw [if_pos (by kernel_rfl), hsz]
    unfold Program.keyLits
    rw [u115]
    refine ⟨.string (keyBytes [.string a.data.toList, .string b.data.toList]), ?_⟩
    show Option.map (fun ls => Lit.string (keyBytes ls)) (if [Value.string a, Value.string b].length = Try.prog.cellsOf 115 then Option.map List.flatten (List.mapM (fun i => Try.prog.keyLits (Try.prog.types.size - 1 + 1) 9 (List.take (Try.prog.cellsOf 9) (List.drop (i * Try.prog.cellsOf 9) [Value.string a, Value.string b]))) (List.range 2)) else none) = _
    rw [hc, hc9]
    simp [List.range, List.range.loop, h9 _ _ ha, h9 _ _ hb]
  · cases hk
end
section
abbrev kk (a b : ByteArray) : D := .agg [.str a, .str b]
def rm0 : List (List PV) := [mpc [] [], [.mref 0]]
def rm1 : List (List PV) := [mpc [kk ⟨#[117, 110, 97, 114, 121]⟩ ⟨#[45]⟩] [.mref 3], [.mref 0], [.d (.str ⟨#[117, 110, 97, 114, 121]⟩), .d (.str ⟨#[45]⟩)], mpc [.str ⟨#[105, 110, 116]⟩] [.d (.str ⟨#[105, 110, 116]⟩)]]
def rm2 : List (List PV) := [mpc [kk ⟨#[117, 110, 97, 114, 121]⟩ ⟨#[45]⟩, kk ⟨#[117, 110, 97, 114, 121]⟩ ⟨#[33]⟩] [.mref 3, .mref 5], [.mref 0], [.d (.str ⟨#[117, 110, 97, 114, 121]⟩), .d (.str ⟨#[45]⟩)], mpc [.str ⟨#[105, 110, 116]⟩] [.d (.str ⟨#[105, 110, 116]⟩)], [.d (.str ⟨#[117, 110, 97, 114, 121]⟩), .d (.str ⟨#[33]⟩)], mpc [.str ⟨#[98, 111, 111, 108]⟩] [.d (.str ⟨#[98, 111, 111, 108]⟩)]]
def rm3 : List (List PV) := [mpc [kk ⟨#[117, 110, 97, 114, 121]⟩ ⟨#[45]⟩, kk ⟨#[117, 110, 97, 114, 121]⟩ ⟨#[33]⟩, kk ⟨#[98, 105, 110, 97, 114, 121]⟩ ⟨#[43]⟩, kk ⟨#[98, 105, 110, 97, 114, 121]⟩ ⟨#[45]⟩, kk ⟨#[98, 105, 110, 97, 114, 121]⟩ ⟨#[42]⟩, kk ⟨#[98, 105, 110, 97, 114, 121]⟩ ⟨#[47]⟩, kk ⟨#[98, 105, 110, 97, 114, 121]⟩ ⟨#[37]⟩] [.mref 3, .mref 5, .mref 7, .mref 9, .mref 11, .mref 13, .mref 15], [.mref 0], [.d (.str ⟨#[117, 110, 97, 114, 121]⟩), .d (.str ⟨#[45]⟩)], mpc [.str ⟨#[105, 110, 116]⟩] [.d (.str ⟨#[105, 110, 116]⟩)], [.d (.str ⟨#[117, 110, 97, 114, 121]⟩), .d (.str ⟨#[33]⟩)], mpc [.str ⟨#[98, 111, 111, 108]⟩] [.d (.str ⟨#[98, 111, 111, 108]⟩)], [.d (.str ⟨#[98, 105, 110, 97, 114, 121]⟩), .d (.str ⟨#[43]⟩)], mpc [.str ⟨#[105, 110, 116, 32, 105, 110, 116]⟩] [.d (.str ⟨#[105, 110, 116]⟩)], [.d (.str ⟨#[98, 105, 110, 97, 114, 121]⟩), .d (.str ⟨#[45]⟩)], mpc [.str ⟨#[105, 110, 116, 32, 105, 110, 116]⟩] [.d (.str ⟨#[105, 110, 116]⟩)], [.d (.str ⟨#[98, 105, 110, 97, 114, 121]⟩), .d (.str ⟨#[42]⟩)], mpc [.str ⟨#[105, 110, 116, 32, 105, 110, 116]⟩] [.d (.str ⟨#[105, 110, 116]⟩)], [.d (.str ⟨#[98, 105, 110, 97, 114, 121]⟩), .d (.str ⟨#[47]⟩)], mpc [.str ⟨#[105, 110, 116, 32, 105, 110, 116]⟩] [.d (.str ⟨#[105, 110, 116]⟩)], [.d (.str ⟨#[98, 105, 110, 97, 114, 121]⟩), .d (.str ⟨#[37]⟩)], mpc [.str ⟨#[105, 110, 116, 32, 105, 110, 116]⟩] [.d (.str ⟨#[105, 110, 116]⟩)]]
def rm4 : List (List PV) := [mpc [kk ⟨#[117, 110, 97, 114, 121]⟩ ⟨#[45]⟩, kk ⟨#[117, 110, 97, 114, 121]⟩ ⟨#[33]⟩, kk ⟨#[98, 105, 110, 97, 114, 121]⟩ ⟨#[43]⟩, kk ⟨#[98, 105, 110, 97, 114, 121]⟩ ⟨#[45]⟩, kk ⟨#[98, 105, 110, 97, 114, 121]⟩ ⟨#[42]⟩, kk ⟨#[98, 105, 110, 97, 114, 121]⟩ ⟨#[47]⟩, kk ⟨#[98, 105, 110, 97, 114, 121]⟩ ⟨#[37]⟩, kk ⟨#[98, 105, 110, 97, 114, 121]⟩ ⟨#[61, 61]⟩, kk ⟨#[98, 105, 110, 97, 114, 121]⟩ ⟨#[33, 61]⟩, kk ⟨#[98, 105, 110, 97, 114, 121]⟩ ⟨#[60]⟩, kk ⟨#[98, 105, 110, 97, 114, 121]⟩ ⟨#[60, 61]⟩, kk ⟨#[98, 105, 110, 97, 114, 121]⟩ ⟨#[62]⟩, kk ⟨#[98, 105, 110, 97, 114, 121]⟩ ⟨#[62, 61]⟩] [.mref 3, .mref 5, .mref 7, .mref 9, .mref 11, .mref 13, .mref 15, .mref 17, .mref 19, .mref 21, .mref 23, .mref 25, .mref 27], [.mref 0], [.d (.str ⟨#[117, 110, 97, 114, 121]⟩), .d (.str ⟨#[45]⟩)], mpc [.str ⟨#[105, 110, 116]⟩] [.d (.str ⟨#[105, 110, 116]⟩)], [.d (.str ⟨#[117, 110, 97, 114, 121]⟩), .d (.str ⟨#[33]⟩)], mpc [.str ⟨#[98, 111, 111, 108]⟩] [.d (.str ⟨#[98, 111, 111, 108]⟩)], [.d (.str ⟨#[98, 105, 110, 97, 114, 121]⟩), .d (.str ⟨#[43]⟩)], mpc [.str ⟨#[105, 110, 116, 32, 105, 110, 116]⟩] [.d (.str ⟨#[105, 110, 116]⟩)], [.d (.str ⟨#[98, 105, 110, 97, 114, 121]⟩), .d (.str ⟨#[45]⟩)], mpc [.str ⟨#[105, 110, 116, 32, 105, 110, 116]⟩] [.d (.str ⟨#[105, 110, 116]⟩)], [.d (.str ⟨#[98, 105, 110, 97, 114, 121]⟩), .d (.str ⟨#[42]⟩)], mpc [.str ⟨#[105, 110, 116, 32, 105, 110, 116]⟩] [.d (.str ⟨#[105, 110, 116]⟩)], [.d (.str ⟨#[98, 105, 110, 97, 114, 121]⟩), .d (.str ⟨#[47]⟩)], mpc [.str ⟨#[105, 110, 116, 32, 105, 110, 116]⟩] [.d (.str ⟨#[105, 110, 116]⟩)], [.d (.str ⟨#[98, 105, 110, 97, 114, 121]⟩), .d (.str ⟨#[37]⟩)], mpc [.str ⟨#[105, 110, 116, 32, 105, 110, 116]⟩] [.d (.str ⟨#[105, 110, 116]⟩)], [.d (.str ⟨#[98, 105, 110, 97, 114, 121]⟩), .d (.str ⟨#[61, 61]⟩)], mpc [.str ⟨#[105, 110, 116, 32, 105, 110, 116]⟩] [.d (.str ⟨#[98, 111, 111, 108]⟩)], [.d (.str ⟨#[98, 105, 110, 97, 114, 121]⟩), .d (.str ⟨#[33, 61]⟩)], mpc [.str ⟨#[105, 110, 116, 32, 105, 110, 116]⟩] [.d (.str ⟨#[98, 111, 111, 108]⟩)], [.d (.str ⟨#[98, 105, 110, 97, 114, 121]⟩), .d (.str ⟨#[60]⟩)], mpc [.str ⟨#[105, 110, 116, 32, 105, 110, 116]⟩] [.d (.str ⟨#[98, 111, 111, 108]⟩)], [.d (.str ⟨#[98, 105, 110, 97, 114, 121]⟩), .d (.str ⟨#[60, 61]⟩)], mpc [.str ⟨#[105, 110, 116, 32, 105, 110, 116]⟩] [.d (.str ⟨#[98, 111, 111, 108]⟩)], [.d (.str ⟨#[98, 105, 110, 97, 114, 121]⟩), .d (.str ⟨#[62]⟩)], mpc [.str ⟨#[105, 110, 116, 32, 105, 110, 116]⟩] [.d (.str ⟨#[98, 111, 111, 108]⟩)], [.d (.str ⟨#[98, 105, 110, 97, 114, 121]⟩), .d (.str ⟨#[62, 61]⟩)], mpc [.str ⟨#[105, 110, 116, 32, 105, 110, 116]⟩] [.d (.str ⟨#[98, 111, 111, 108]⟩)]]
def rm5 : List (List PV) := [mpc [kk ⟨#[117, 110, 97, 114, 121]⟩ ⟨#[45]⟩, kk ⟨#[117, 110, 97, 114, 121]⟩ ⟨#[33]⟩, kk ⟨#[98, 105, 110, 97, 114, 121]⟩ ⟨#[43]⟩, kk ⟨#[98, 105, 110, 97, 114, 121]⟩ ⟨#[45]⟩, kk ⟨#[98, 105, 110, 97, 114, 121]⟩ ⟨#[42]⟩, kk ⟨#[98, 105, 110, 97, 114, 121]⟩ ⟨#[47]⟩, kk ⟨#[98, 105, 110, 97, 114, 121]⟩ ⟨#[37]⟩, kk ⟨#[98, 105, 110, 97, 114, 121]⟩ ⟨#[61, 61]⟩, kk ⟨#[98, 105, 110, 97, 114, 121]⟩ ⟨#[33, 61]⟩, kk ⟨#[98, 105, 110, 97, 114, 121]⟩ ⟨#[60]⟩, kk ⟨#[98, 105, 110, 97, 114, 121]⟩ ⟨#[60, 61]⟩, kk ⟨#[98, 105, 110, 97, 114, 121]⟩ ⟨#[62]⟩, kk ⟨#[98, 105, 110, 97, 114, 121]⟩ ⟨#[62, 61]⟩, kk ⟨#[98, 105, 110, 97, 114, 121]⟩ ⟨#[38, 38]⟩, kk ⟨#[98, 105, 110, 97, 114, 121]⟩ ⟨#[124, 124]⟩] [.mref 3, .mref 5, .mref 7, .mref 9, .mref 11, .mref 13, .mref 15, .mref 17, .mref 19, .mref 21, .mref 23, .mref 25, .mref 27, .mref 31, .mref 33], [.mref 0], [.d (.str ⟨#[117, 110, 97, 114, 121]⟩), .d (.str ⟨#[45]⟩)], mpc [.str ⟨#[105, 110, 116]⟩] [.d (.str ⟨#[105, 110, 116]⟩)], [.d (.str ⟨#[117, 110, 97, 114, 121]⟩), .d (.str ⟨#[33]⟩)], mpc [.str ⟨#[98, 111, 111, 108]⟩] [.d (.str ⟨#[98, 111, 111, 108]⟩)], [.d (.str ⟨#[98, 105, 110, 97, 114, 121]⟩), .d (.str ⟨#[43]⟩)], mpc [.str ⟨#[105, 110, 116, 32, 105, 110, 116]⟩] [.d (.str ⟨#[105, 110, 116]⟩)], [.d (.str ⟨#[98, 105, 110, 97, 114, 121]⟩), .d (.str ⟨#[45]⟩)], mpc [.str ⟨#[105, 110, 116, 32, 105, 110, 116]⟩] [.d (.str ⟨#[105, 110, 116]⟩)], [.d (.str ⟨#[98, 105, 110, 97, 114, 121]⟩), .d (.str ⟨#[42]⟩)], mpc [.str ⟨#[105, 110, 116, 32, 105, 110, 116]⟩] [.d (.str ⟨#[105, 110, 116]⟩)], [.d (.str ⟨#[98, 105, 110, 97, 114, 121]⟩), .d (.str ⟨#[47]⟩)], mpc [.str ⟨#[105, 110, 116, 32, 105, 110, 116]⟩] [.d (.str ⟨#[105, 110, 116]⟩)], [.d (.str ⟨#[98, 105, 110, 97, 114, 121]⟩), .d (.str ⟨#[37]⟩)], mpc [.str ⟨#[105, 110, 116, 32, 105, 110, 116]⟩] [.d (.str ⟨#[105, 110, 116]⟩)], [.d (.str ⟨#[98, 105, 110, 97, 114, 121]⟩), .d (.str ⟨#[61, 61]⟩)], mpc [.str ⟨#[105, 110, 116, 32, 105, 110, 116]⟩, .str ⟨#[98, 111, 111, 108, 32, 98, 111, 111, 108]⟩] [.d (.str ⟨#[98, 111, 111, 108]⟩), .d (.str ⟨#[98, 111, 111, 108]⟩)], [.d (.str ⟨#[98, 105, 110, 97, 114, 121]⟩), .d (.str ⟨#[33, 61]⟩)], mpc [.str ⟨#[105, 110, 116, 32, 105, 110, 116]⟩, .str ⟨#[98, 111, 111, 108, 32, 98, 111, 111, 108]⟩] [.d (.str ⟨#[98, 111, 111, 108]⟩), .d (.str ⟨#[98, 111, 111, 108]⟩)], [.d (.str ⟨#[98, 105, 110, 97, 114, 121]⟩), .d (.str ⟨#[60]⟩)], mpc [.str ⟨#[105, 110, 116, 32, 105, 110, 116]⟩] [.d (.str ⟨#[98, 111, 111, 108]⟩)], [.d (.str ⟨#[98, 105, 110, 97, 114, 121]⟩), .d (.str ⟨#[60, 61]⟩)], mpc [.str ⟨#[105, 110, 116, 32, 105, 110, 116]⟩] [.d (.str ⟨#[98, 111, 111, 108]⟩)], [.d (.str ⟨#[98, 105, 110, 97, 114, 121]⟩), .d (.str ⟨#[62]⟩)], mpc [.str ⟨#[105, 110, 116, 32, 105, 110, 116]⟩] [.d (.str ⟨#[98, 111, 111, 108]⟩)], [.d (.str ⟨#[98, 105, 110, 97, 114, 121]⟩), .d (.str ⟨#[62, 61]⟩)], mpc [.str ⟨#[105, 110, 116, 32, 105, 110, 116]⟩] [.d (.str ⟨#[98, 111, 111, 108]⟩)], [.d (.str ⟨#[98, 105, 110, 97, 114, 121]⟩), .d (.str ⟨#[61, 61]⟩)], [.d (.str ⟨#[98, 105, 110, 97, 114, 121]⟩), .d (.str ⟨#[33, 61]⟩)], [.d (.str ⟨#[98, 105, 110, 97, 114, 121]⟩), .d (.str ⟨#[38, 38]⟩)], mpc [.str ⟨#[98, 111, 111, 108, 32, 98, 111, 111, 108]⟩] [.d (.str ⟨#[98, 111, 111, 108]⟩)], [.d (.str ⟨#[98, 105, 110, 97, 114, 121]⟩), .d (.str ⟨#[124, 124]⟩)], mpc [.str ⟨#[98, 111, 111, 108, 32, 98, 111, 111, 108]⟩] [.d (.str ⟨#[98, 111, 111, 108]⟩)]]
set_option maxHeartbeats 4000000 in
theorem c280_0 : Gm Try.prog 95 [.d (.str ⟨#[117, 110, 97, 114, 121]⟩), .d (.str ⟨#[105, 110, 116]⟩), .d (.str ⟨#[105, 110, 116]⟩), .d (.sl [.str ⟨#[45]⟩]), .ref 1 0] rm0 (.tup []) rm1 := by
 refine gmB 2 Try.func95 Try.ntmps95 Try.results95 (fun S0 O0 w0 m0 hm0 => ?_)
 unfold rm0
 repeat' first | refine st (by exact rfl) ?_ | refine me (by exact rfl) ?_ | refine lo C225 (hg := ?_) | refine mu C225 (hg := ?_) | refine mu C9 (hg := ?_) | refine el (by exact rfl) rfl ?_ (by decide) | refine ct (by exact rfl) ?_ | refine cf (by exact rfl) ?_ | refine gRn 8 ?_ | fail
 exact Y8
set_option maxHeartbeats 4000000 in
theorem c280_1 : Gm Try.prog 95 [.d (.str ⟨#[117, 110, 97, 114, 121]⟩), .d (.str ⟨#[98, 111, 111, 108]⟩), .d (.str ⟨#[98, 111, 111, 108]⟩), .d (.sl [.str ⟨#[33]⟩]), .ref 1 0] rm1 (.tup []) rm2 := by
 refine gmB 4 Try.func95 Try.ntmps95 Try.results95 (fun S0 O0 w0 m0 hm0 => ?_)
 unfold rm1
 repeat' first | refine st (by exact rfl) ?_ | refine me (by exact rfl) ?_ | refine lo C225 (hg := ?_) | refine mu C225 (hg := ?_) | refine mu C9 (hg := ?_) | refine el (by exact rfl) rfl ?_ (by decide) | refine ct (by exact rfl) ?_ | refine cf (by exact rfl) ?_ | refine gRn 8 ?_ | fail
 exact Y8
set_option maxHeartbeats 4000000 in
theorem c280_2 : Gm Try.prog 95 [.d (.str ⟨#[98, 105, 110, 97, 114, 121]⟩), .d (.str ⟨#[105, 110, 116]⟩), .d (.str ⟨#[105, 110, 116, 32, 105, 110, 116]⟩), .d (.sl [.str ⟨#[43]⟩, .str ⟨#[45]⟩, .str ⟨#[42]⟩, .str ⟨#[47]⟩, .str ⟨#[37]⟩]), .ref 1 0] rm2 (.tup []) rm3 := by
 refine gmB 6 Try.func95 Try.ntmps95 Try.results95 (fun S0 O0 w0 m0 hm0 => ?_)
 unfold rm2
 repeat' first | refine st (by exact rfl) ?_ | refine me (by exact rfl) ?_ | refine lo C225 (hg := ?_) | refine mu C225 (hg := ?_) | refine mu C9 (hg := ?_) | refine el (by exact rfl) rfl ?_ (by decide) | refine ct (by exact rfl) ?_ | refine cf (by exact rfl) ?_ | refine gRn 8 ?_ | fail
 exact Y8
set_option maxHeartbeats 4000000 in
theorem c280_3 : Gm Try.prog 95 [.d (.str ⟨#[98, 105, 110, 97, 114, 121]⟩), .d (.str ⟨#[98, 111, 111, 108]⟩), .d (.str ⟨#[105, 110, 116, 32, 105, 110, 116]⟩), .d (.sl [.str ⟨#[61, 61]⟩, .str ⟨#[33, 61]⟩, .str ⟨#[60]⟩, .str ⟨#[60, 61]⟩, .str ⟨#[62]⟩, .str ⟨#[62, 61]⟩]), .ref 1 0] rm3 (.tup []) rm4 := by
 refine gmB 16 Try.func95 Try.ntmps95 Try.results95 (fun S0 O0 w0 m0 hm0 => ?_)
 unfold rm3
 repeat' first | refine st (by exact rfl) ?_ | refine me (by exact rfl) ?_ | refine lo C225 (hg := ?_) | refine mu C225 (hg := ?_) | refine mu C9 (hg := ?_) | refine el (by exact rfl) rfl ?_ (by decide) | refine ct (by exact rfl) ?_ | refine cf (by exact rfl) ?_ | refine gRn 8 ?_ | fail
 exact Y8
set_option maxHeartbeats 4000000 in
theorem c280_4 : Gm Try.prog 95 [.d (.str ⟨#[98, 105, 110, 97, 114, 121]⟩), .d (.str ⟨#[98, 111, 111, 108]⟩), .d (.str ⟨#[98, 111, 111, 108, 32, 98, 111, 111, 108]⟩), .d (.sl [.str ⟨#[61, 61]⟩, .str ⟨#[33, 61]⟩, .str ⟨#[38, 38]⟩, .str ⟨#[124, 124]⟩]), .ref 1 0] rm4 (.tup []) rm5 := by
 refine gmB 28 Try.func95 Try.ntmps95 Try.results95 (fun S0 O0 w0 m0 hm0 => ?_)
 unfold rm4
 repeat' first | refine st (by exact rfl) ?_ | refine me (by exact rfl) ?_ | refine lo C225 (hg := ?_) | refine mu C225 (hg := ?_) | refine mu C9 (hg := ?_) | refine el (by exact rfl) rfl ?_ (by decide) | refine ct (by exact rfl) ?_ | refine cf (by exact rfl) ?_ | refine gRn 8 ?_ | fail
 exact Y8
end
section
def rulesM : List (D × D) := [(kk ⟨#[117, 110, 97, 114, 121]⟩ ⟨#[45]⟩, .map [(.str ⟨#[105, 110, 116]⟩, .str ⟨#[105, 110, 116]⟩)]),
 (kk ⟨#[117, 110, 97, 114, 121]⟩ ⟨#[33]⟩, .map [(.str ⟨#[98, 111, 111, 108]⟩, .str ⟨#[98, 111, 111, 108]⟩)]),
 (kk ⟨#[98, 105, 110, 97, 114, 121]⟩ ⟨#[43]⟩, .map [(.str ⟨#[105, 110, 116, 32, 105, 110, 116]⟩, .str ⟨#[105, 110, 116]⟩)]),
 (kk ⟨#[98, 105, 110, 97, 114, 121]⟩ ⟨#[45]⟩, .map [(.str ⟨#[105, 110, 116, 32, 105, 110, 116]⟩, .str ⟨#[105, 110, 116]⟩)]),
 (kk ⟨#[98, 105, 110, 97, 114, 121]⟩ ⟨#[42]⟩, .map [(.str ⟨#[105, 110, 116, 32, 105, 110, 116]⟩, .str ⟨#[105, 110, 116]⟩)]),
 (kk ⟨#[98, 105, 110, 97, 114, 121]⟩ ⟨#[47]⟩, .map [(.str ⟨#[105, 110, 116, 32, 105, 110, 116]⟩, .str ⟨#[105, 110, 116]⟩)]),
 (kk ⟨#[98, 105, 110, 97, 114, 121]⟩ ⟨#[37]⟩, .map [(.str ⟨#[105, 110, 116, 32, 105, 110, 116]⟩, .str ⟨#[105, 110, 116]⟩)]),
 (kk ⟨#[98, 105, 110, 97, 114, 121]⟩ ⟨#[61, 61]⟩, .map [(.str ⟨#[105, 110, 116, 32, 105, 110, 116]⟩, .str ⟨#[98, 111, 111, 108]⟩), (.str ⟨#[98, 111, 111, 108, 32, 98, 111, 111, 108]⟩, .str ⟨#[98, 111, 111, 108]⟩)]),
 (kk ⟨#[98, 105, 110, 97, 114, 121]⟩ ⟨#[33, 61]⟩, .map [(.str ⟨#[105, 110, 116, 32, 105, 110, 116]⟩, .str ⟨#[98, 111, 111, 108]⟩), (.str ⟨#[98, 111, 111, 108, 32, 98, 111, 111, 108]⟩, .str ⟨#[98, 111, 111, 108]⟩)]),
 (kk ⟨#[98, 105, 110, 97, 114, 121]⟩ ⟨#[60]⟩, .map [(.str ⟨#[105, 110, 116, 32, 105, 110, 116]⟩, .str ⟨#[98, 111, 111, 108]⟩)]),
 (kk ⟨#[98, 105, 110, 97, 114, 121]⟩ ⟨#[60, 61]⟩, .map [(.str ⟨#[105, 110, 116, 32, 105, 110, 116]⟩, .str ⟨#[98, 111, 111, 108]⟩)]),
 (kk ⟨#[98, 105, 110, 97, 114, 121]⟩ ⟨#[62]⟩, .map [(.str ⟨#[105, 110, 116, 32, 105, 110, 116]⟩, .str ⟨#[98, 111, 111, 108]⟩)]),
 (kk ⟨#[98, 105, 110, 97, 114, 121]⟩ ⟨#[62, 61]⟩, .map [(.str ⟨#[105, 110, 116, 32, 105, 110, 116]⟩, .str ⟨#[98, 111, 111, 108]⟩)]),
 (kk ⟨#[98, 105, 110, 97, 114, 121]⟩ ⟨#[38, 38]⟩, .map [(.str ⟨#[98, 111, 111, 108, 32, 98, 111, 111, 108]⟩, .str ⟨#[98, 111, 111, 108]⟩)]),
 (kk ⟨#[98, 105, 110, 97, 114, 121]⟩ ⟨#[124, 124]⟩, .map [(.str ⟨#[98, 111, 111, 108, 32, 98, 111, 111, 108]⟩, .str ⟨#[98, 111, 111, 108]⟩)])]
set_option maxHeartbeats 4000000 in
theorem c220 : Pf Try.prog 83 [] (.d (.map rulesM)) := by
 refine pfb Try.func83 Try.ntmps83 Try.results83 (fun S0 O0 w0 m0 hm0 => ?_)
 repeat' first | refine st (by exact rfl) ?_ | refine bs (by exact rfl) ?_ | refine cm (by exact rfl) c280_0 ?_ | refine cm (by exact rfl) c280_1 ?_ | refine cm (by exact rfl) c280_2 ?_ | refine cm (by exact rfl) c280_3 ?_ | fail
 refine cm (by exact rfl) c280_4 ?_
 repeat' first | refine fm 2 strB (fun k h => (C9.ok k h).2) (hlo := by exact rfl) (hg := ?_) | refine fg 2 (by exact rfl) (hlo := by exact rfl) (hg := ?_) | fail
 refine st (by exact rfl) (st (by exact rfl) (st (by exact rfl) (st (by exact rfl) ?_)))
 refine st (by exact rfl) (st (by exact rfl) ?_)
 refine fg 1 (by exact rfl) ?_
 refine fm 0 pairB (fun k h => (C225.ok k h).2) (hg := ?_)
 repeat' first | refine st (by exact rfl) ?_ | fail
 exact Y0
end
section
def fmHide (l : KL) : List Fm → KL
 | [] => l
 | f :: r => fmHide (hideK f.nm l) r
theorem KOk.fm : ∀ (l : List Fm) {c : KL}, KOk c → KOk (fmHide c l)
 | [], _, h => h
 | f :: r, _, h => by rw [fmHide]; exact KOk.fm r (h.hide _)
end
section
def sInt : ByteArray := ⟨#[105, 110, 116]⟩
def sBool : ByteArray := ⟨#[98, 111, 111, 108]⟩
def sRange : ByteArray := ⟨#[114, 97, 110, 103, 101]⟩
def sDom1 : ByteArray := ⟨#[100, 111, 109, 97, 105, 110, 49]⟩
def sDom2 : ByteArray := ⟨#[100, 111, 109, 97, 105, 110, 50]⟩
def sArr1 : ByteArray := ⟨#[97, 114, 114, 97, 121, 49]⟩
def sArr2 : ByteArray := ⟨#[97, 114, 114, 97, 121, 50]⟩
def sSync : ByteArray := ⟨#[115, 121, 110, 99]⟩
def sAtomic : ByteArray := ⟨#[97, 116, 111, 109, 105, 99]⟩
def sVoid : ByteArray := ⟨#[118, 111, 105, 100]⟩
def sSize : ByteArray := ⟨#[115, 105, 122, 101]⟩
def sDomain : ByteArray := ⟨#[100, 111, 109, 97, 105, 110]⟩
def sParam : ByteArray := ⟨#[112, 97, 114, 97, 109]⟩
def sType : ByteArray := ⟨#[116, 121, 112, 101]⟩
def sArray : ByteArray := ⟨#[97, 114, 114, 97, 121]⟩
def isDomB (s : ByteArray) : Bool := decide (s = sDom1) || decide (s = sDom2)
def isArrB (s : ByteArray) : Bool := decide (s = sArr1) || decide (s = sArr2)
def basicB (s : ByteArray) : Bool := decide (s = sInt) || (decide (s = sBool) || (decide (s = sRange) || (decide (s = sDom1) || (decide (s = sDom2) || (decide (s = sArr1) || (decide (s = sArr2) || (decide (s = sSync) || (decide (s = sAtomic) || decide (s = sVoid)))))))))
def whenS (b : Bool) (t : ByteArray) : ByteArray := if b = true then t else ⟨#[]⟩
theorem c141 (s : ByteArray) : Pf Try.prog 52 [.str s] (.d (.bool (isDomB s))) := by
 refine pfb Try.func52 Try.ntmps52 Try.results52 (fun S0 O0 w0 m0 hm0 => ?_)
 repeat' first | refine st (by exact rfl) ?_ | fail
 exact Y0
theorem c143 (s : ByteArray) : Pf Try.prog 54 [.str s] (.d (.bool (isArrB s))) := by
 refine pfb Try.func54 Try.ntmps54 Try.results54 (fun S0 O0 w0 m0 hm0 => ?_)
 repeat' first | refine st (by exact rfl) ?_ | fail
 exact Y0
theorem c142 (s : ByteArray) : Pf Try.prog 53 [.str s] (.d (.bool (basicB s))) := by
 refine pfb Try.func53 Try.ntmps53 Try.results53 (fun S0 O0 w0 m0 hm0 => ?_)
 repeat' first | refine st (by exact rfl) ?_ | refine cd (by exact rfl) (fun hb => ?_) (fun hb => ?_) | fail
 all_goals refine en (by exact rfl) ?_
 all_goals (simp only [decide_eq_true_eq, decide_eq_false_iff_not] at *; simp only [basicB, sInt, sBool, sRange, sDom1, sDom2, sArr1, sArr2, sSync, sAtomic, sVoid]; simp_all)
theorem c219 (b : Bool) (s : ByteArray) : Pf Try.prog 82 [.bool b, .str s] (.d (.str (whenS b s))) := by
 refine pfb Try.func82 Try.ntmps82 Try.results82 (fun S0 O0 w0 m0 hm0 => ?_)
 repeat' first | refine st (by exact rfl) ?_ | refine cd (by exact rfl) ?_ ?_ <;> intro hb | fail
 all_goals refine en (by exact rfl) ?_
 all_goals simp_all [whenS]
theorem c281 (s t : ByteArray) : Pf Try.prog 96 [.str s, .ptr (.str t)] (.d (.bool (!decide (s = t)))) := by
 refine pfb Try.func96 Try.ntmps96 Try.results96 (fun S0 O0 w0 m0 hm0 => ?_)
 repeat' first | refine st (by exact rfl) ?_ | fail
 exact Y0
theorem c124 (q : Pc) (nm : ByteArray) : Pf Try.prog 94 [q.d, .ptr (.str nm)] (.d (.bool (decide (q.nm = nm)))) := by
 unfold Pc.d
 refine pfb Try.func94 Try.ntmps94 Try.results94 (fun S0 O0 w0 m0 hm0 => ?_)
 repeat' first | refine st (by exact rfl) ?_ | fail
 exact Y0
theorem c50 (p : Pg) (nm : ByteArray) (hlim : p.procs.length ≤ 140737488355328) : Pf Try.prog 80 [p.d, .str nm] (.d (.int .i64 (idxL (fun q => decide (q.nm = nm)) p.procs))) := by
 unfold Pg.d
 refine pfb Try.func80 Try.ntmps80 Try.results80 (fun S0 O0 w0 m0 hm0 => ?_)
 repeat' first | refine st (by exact rfl) ?_ | fail
 refine fz false (by exact rfl) ?_
 refine cl (by exact rfl) (c123g p.procs 94 [] [.ptr (.str nm)] (fun q => decide (q.nm = nm)) hlim fun q _ => c124 q nm) ?_
 repeat' first | refine st (by exact rfl) ?_ | fail
 exact Y0
structure Lc where
 nm : ByteArray
 ty : ByteArray
 con : Bool
 block : Int
 level : Int
def locD : List Lc → D
 | [] => .nil
 | x :: r => .ptr (.agg [.str x.nm, .str x.ty, .bool x.con, locD r, .int .i64 x.block, .int .i64 x.level])
def findL (nm : ByteArray) : List Lc → List Lc
 | [] => []
 | x :: r => if x.nm = nm then x :: r else findL nm r
theorem c200L (ls : List Lc) (nm : ByteArray) : Pf Try.prog 60 [locD ls, .str nm] (.d (locD (findL nm ls))) := by
 refine pfb Try.func60 Try.ntmps60 Try.results60 (fun S0 O0 w0 m0 hm0 => ?_)
 repeat' first | refine st (by exact rfl) ?_ | fail
 refine gLo (fun z : List Lc => ⟨[(0, .d (locD z)), (1, .d (.str nm))], []⟩) List.length (fun z => findL nm z = findL nm ls) ls rfl le_of (fun z hz Q' hn he hr hp => ?_)
 cases z with
 | nil =>
  dsimp only [locD]
  repeat' first | refine st (by exact rfl) ?_ | refine sk (by exact rfl) rfl ?_ | fail
  refine cf (by exact rfl) ?_ rfl
  repeat' first | refine st (by exact rfl) ?_ | fail
  refine Z45 ?_
  repeat' first | refine st (by exact rfl) ?_ | fail
  exact en (by exact rfl) (by rw [← hz]; rfl)
 | cons x r =>
  dsimp only [locD]
  repeat' first | refine st (by exact rfl) ?_ | fail
  refine cd (by exact rfl) (fun hb => ?_) (fun hb => ?_)
  · repeat' first | refine st (by exact rfl) ?_ | fail
    rcases r with _ | ⟨y, r⟩
    · dsimp only [locD]
      repeat' first | refine st (by exact rfl) ?_ | fail
      refine toL (hn _ [] ?_ (Nat.lt_succ_self _) le_of)
      rw [← hz]
      exact (if_neg (by simpa using hb)).symm
    · dsimp only [locD]
      repeat' first | refine st (by exact rfl) ?_ | fail
      refine toL (hn _ (y :: r) ?_ (Nat.lt_succ_self _) le_of)
      rw [← hz]
      exact (if_neg (by simpa using hb)).symm
  · repeat' first | refine st (by exact rfl) ?_ | fail
    refine Z45 ?_
    repeat' first | refine st (by exact rfl) ?_ | fail
    refine en (by exact rfl) ?_
    rw [← hz]
    show PV.d (locD (x :: r)) = PV.d (locD (if x.nm = nm then x :: r else findL nm r))
    rw [if_pos (by simpa using hb)]
end
section
theorem catch_idle (p : Addr) (w : World) : CallsD Try.prog 50 #[.pointer (some p)] .returning w fun e u' w' => e = .returned (.tuple #[]) ∧ u' = .returning ∧ w' = w := by
 refine callsD_of_wpS Try.func50 rfl fun c₀ cs hu => ?_
 apply wpS_seq
 apply wpS_region
 simp [wpOpsS, go_sem, recoverD, hu, Try.ntmps50, Exit.thenS]
 apply wpS_seq
 apply wpS_region
 simp [wpOpsS, go_sem, recoverD, hu, Try.ntmps50, Exit.thenS]
 refine wpS_cond (t := false) (by simp [Act.eval, Array.replicate]) ?_
 simp only [Bool.false_eq_true, if_false]
 refine wpS_of_wp (wp_skip ?_)
 cases c₀
 simp_all [bodyPostS, results, Try.results50]
theorem neqW (u : Value) (w : World) : (binOp .neq 20 (.iface 75 u) .nilIface).run Try.prog w = .ok (.bool true) w := by kernel_rfl
def wrongW (e : Int) : Value := .iface 75 (.agg #[.int .i64 e, .slice none 0 0])
set_option maxHeartbeats 1000000 in
theorem catch_rest (e : Int) {S : Reg} {O : Owns} {m : List Nat} {w : World} {B : List PV} (hm : m.length = 2) : ∀ c, (∃ b x, Try.prog.funcs[50]? = some b ∧ b.body = some (.seq x c)) →
 G ⟨Try.prog, 16, S, O, w, m, [], []⟩ c (fun ex s' => ex = .normal ∧ ∃ Y, s'.mem = [B, [.d (.int .i64 e), .d (.sl [])], Y]) ⟨[(0, .ref 1 0), (1, .d (.iface 75 (.agg [.int .i64 e, .sl []])))], [B, [.d (.int .i64 0), .nils]]⟩ := by
 rintro c ⟨b, x, hb, hc⟩
 rw [Try.func50] at hb
 injection hb with hb
 subst hb
 injection hc with hc
 injection hc with _ hc
 subst hc
 refine Z101 ?_
 refine vq rfl ((q_neqI neqW)) ?_
 refine Z12 ?_
 refine zgC ?_ ?_ <;> intro hb0
 ·
  refine Z101 ?_
  refine vq rfl ((q_tassert u75)) ?_
  refine Z1 ?_;refine Z43 ?_;refine Z43 ?_
  refine sv rfl (y_alloc zr75) ?_
  first | refine sa rfl (dS sz75) ?_ | refine sa rfl (d_store_take sz75) ?_
  refine Z96 ?_;refine Z1 ?_;refine Z47 ?_;refine Z12 ?_
  refine zgC ?_ ?_ <;> intro hb1
  · exact absurd hb1 (by decide)
  refine gK (tN (gR ?_))
  first | refine sv rfl (y_load_agg sz75 u75 rfl) ?_ | refine vq rfl (qG (by exact sz75) u75 rfl) ?_
  first | refine sa rfl (dS sz75) ?_ | refine sa rfl (d_store_take sz75) ?_
  refine Z50 ?_
  exact ⟨rfl, _, rfl⟩
 exact absurd hb0 (by decide)
theorem rd_nilS {w : World} {S : Reg} : Rd w S (.sl []) (.slice none 0 0) := .sl [] none 0 1 (Nat.le_refl _) (Nat.zero_le _) (by simp) (fun _ => rfl) (fun ad h => by cases h) (fun ad _ _ _ _ _ h => by cases h)
theorem rd_wrong {w : World} {S : Reg} (e : Int) : Rd w S (.iface 75 (.agg [.int .i64 e, .sl []])) (wrongW e) := .iface _ _ _ (.agg _ _ rfl (fun i v hv => by
 match i with
 | 0 => simp at hv; subst hv; rfl
 | 1 => simp at hv; subst hv; rfl
 | i + 2 => simp at hv) fun i d v hd hv => by
 match i with
 | 0 => simp at hd hv; subst hd; subst hv; exact .int _ _
 | 1 => simp at hd hv; subst hd; subst hv; exact rd_nilS
 | i + 2 => simp at hd)
set_option maxHeartbeats 1000000 in
theorem catch_panic (e : Int) {S : Reg} {O : Owns} {m : List Nat} {w : World} {b : D} (henv : Env S O w S O m [[.d b], [.d (.int .i64 0), .nils]] w) {r : Nat} (hr : m[1]? = some r) :
 CallsD Try.prog 50 #[.pointer (some ⟨r, 0, none⟩)] (.panicking (chain1 (wrongW e))) w fun en u' w' => en = .returned (.tuple #[]) ∧ u' = .panicking [{ v := wrongW e, recovered := true }] ∧
  ∃ S' O', Env S O w S' O' m [[.d b], [.d (.int .i64 e), .d (.sl [])]] w' := by
 refine callsD_of_wpS Try.func50 rfl fun c₀ cs hu => ?_
 apply wpS_seq
 apply wpS_region
 simp [wpOpsS, go_sem, recoverD, hu, Try.ntmps50, Exit.thenS, chain1]
 refine wpS_of_wp ?_
 have hm : m.length = 2 := henv.mlen
 refine wp_mono (catch_rest e (S := S) (O := O) (w := w) (B := [.d b]) hm _ ⟨_, _, Try.func50, rfl⟩ _ w ⟨S, O, m, henv, rfl, by simp, List.prefix_refl _, fun i p hp => ?_⟩) ?_
 · match i with
   | 0 => 
    have h1 : PV.ref 1 0 = p := by simpa [GS.get] using hp
    subst h1
    exact .ref _ 1 0 r hr
   | 1 =>
    have h1 : PV.d (.iface 75 (.agg [.int .i64 e, .sl []])) = p := by simpa [GS.get, List.lookup] using hp
    subst h1
    exact .d _ _ _ (rd_wrong e)
   | i + 2 => simp [GS.get, List.lookup] at hp
 · rintro ex a' w' ⟨s', ⟨rfl, Y, hY⟩, S', O', m', hr'⟩
   have henv' := hr'.env
   rw [hY] at henv'
   have h2 := henv'.less (mem' := [[.d b], [.d (.int .i64 e), .d (.sl [])]]) (.cons (.cons (.inl rfl) rfl .nil) (.cons (.cons (.inl rfl) rfl (.cons (.inl rfl) rfl .nil)) .nil))
   have h3 : m'.take 2 = m := by
    have := List.prefix_iff_eq_take.1 hr'.pre
    rw [show (m : List Nat).length = 2 from hm] at this
    exact this.symm
   refine ⟨hr'.defers, _, rfl, _, by simp [results, Try.results50], rfl, rfl, S', O', ?_⟩
   rw [← h3]; exact h2
end
section
def wrongD (e : Int) : D := .agg [.int .i64 e, .sl []]
set_option maxHeartbeats 2000000 in
theorem c75_rest (g : FuncId) (n e b b' : D) (out : PV ⊕ Value) (herr : out = .inl (.tup []) ∨ ∃ x, out = .inr (wrongW x)) (hg : Xm Try.prog g [.d n, .d e, .ref 0 0] [[.d b]] out [[.d b']]) {S : Reg} {O : Owns} {m : List Nat} {w : World} {ds : List Deferred} (hm : m.length = 2) :
 ∀ c, (∃ f x y, Try.prog.funcs[31]? = some f ∧ f.body = some (.seq x (.seq y c))) →
 G ⟨Try.prog, 7, S, O, w, m, [], ds⟩ c (fun ex s' => (ex = .ret ∧ out = .inl (.tup []) ∧ s' = ⟨[(2, .ref 1 0)], [[.d b'], [.d (.int .i64 0), .d (.sl [])]]⟩) ∨ ∃ x, ex = .panic (chain1 (wrongW x)) ∧ out = .inr (wrongW x) ∧ s'.mem = [[.d b'], [.d (.int .i64 0), .nils]] ∧ s'.get 2 = some (.ref 1 0))
  ⟨[(3, .fn (.func 50) [] [.ref 1 0]), (2, .ref 1 0), (0, .fn (.func g) [] [.d n, .d e, .ref 0 0])], [[.d b], [.d (.int .i64 0), .nils]]⟩ := by
 rintro c ⟨f, x, y, hf, hc⟩
 rw [Try.func31] at hf
 injection hf with hf
 subst hf
 injection hc with hc
 injection hc with _ hc
 injection hc with _ hc
 subst hc
 refine Z101 ?_
 obtain ⟨⟨fn, hfn, hbd, hnm⟩, hgx⟩ := hg
 refine GOps_callx (t := 5) [0] [.d n, .d e, .ref 0 0] [[.d b]] rfl rfl rfl rfl rfl rfl (by decide) (by simp) rfl rfl rfl hfn hbd hnm (oR rfl) hgx (fun r mem' hr => ?_) (fun v mem' hv => ?_)
 · obtain ⟨h1, rfl⟩ := hr
   refine ⟨rfl, ?_⟩
   rcases herr with h2 | ⟨x, h2⟩
   · rw [h2] at h1
     injection h1 with h1
     subst h1
     refine Z7 ?_
     refine vq rfl ((q_buildP pl75 zr75)) ?_
     first | refine sa rfl (dS sz75) ?_ | refine sa rfl (d_store_take sz75) ?_
     refine Z12 ?_
     refine G_le (s' := ⟨[(2, .ref 1 0)], [[.d b'], [.d (.int .i64 0), .d (.sl [])]]⟩) (le_of (hk := by show m.length ≤ 2; omega)) (gT ?_)
     exact .inl ⟨rfl, h2, rfl⟩
   · rw [h2] at h1; cases h1
 · obtain ⟨h1, rfl⟩ := hv
   refine ⟨rfl, ?_⟩
   rcases herr with h2 | ⟨x, h2⟩
   · rw [h2] at h1; cases h1
   · rw [h2] at h1
     injection h1 with h1
     subst h1
     exact .inr ⟨x, rfl, h2, rfl, rfl⟩
theorem Fin.run {P : Program} {n k : Nat} {S S' : Reg} {O O' : Owns} {w w' : World} {m m' : List Nat} {ds : List Deferred} {fn : Func} {rvs : List ResultVar} {R : PV → List (List PV) → Prop} {e : Exit} {s' : GS} {a' : Act} (hk : m.length ≤ k) (hres : fn.results = rvs.toArray) (hf : Fin P rvs k R e s')
 (hr' : Rep ⟨P, n, S, O, w, m, [], ds⟩ S' O' m' s' a' w') : ∃ v r mem' O'', (results fn a'.tmps).run P w' = .ok v w' ∧ R r mem' ∧ Env S O w S' O'' (m'.take mem'.length) mem' w' ∧ m <+: m'.take mem'.length ∧ RP w' S' O'' (m'.take mem'.length) [2] r v := by
 obtain ⟨he, hfin⟩ := hf
 rcases hfin with ⟨ps, mem', hL, hlen, hms, hrf, hR⟩ | ⟨t, k, xs, mem', hrv, hst, hlen, hms, hR⟩
 · obtain ⟨v, hrun, hrp⟩ := hL.run hr' hres O'
   exact ⟨v, _, mem', O', hrun, hR, hr'.env.less hms, List.prefix_take_iff.2 ⟨hr'.pre, Nat.le_trans hk hlen⟩, hrp.take mem'.length hrf⟩
 · have hsl := hr'.slots t _ hst
   have hres' : fn.results = #[.tmp t] := by rw [hres, hrv]
   refine ⟨a'.tmps.getD t undef, _, mem', reo O' (renTR t), by simp [results, hres'], hR, (hr'.env.less hms).relab (renTR t) (fun _ => if_neg (by simp)) (fun i j q => if_neg (end_ne q j i t)),
    List.prefix_take_iff.2 ⟨hr'.pre, Nat.le_trans hk hlen⟩, (hsl.move (l' := [2]) rfl (renTR t) (by simp [renTR])).take _ rfl⟩
theorem gr_use {K : Ctx} {c : Code} {Qr : Exit → Act → World → Prop} {s : GS} (h : E.GR K c Qr s) {a : Act} {w : World} (ha : At K s a w) : c.wp K.P Qr a w := h a w ha
set_option maxHeartbeats 4000000 in
theorem c75 (g : FuncId) (n e b b' : D) (out : PV ⊕ Value) (ex : Int) (herr : (out = .inl (.tup []) ∧ ex = 0) ∨ out = .inr (wrongW ex)) (hg : Xm Try.prog g [.d n, .d e, .ref 0 0] [[.d b]] out [[.d b']]) :
 Gm Try.prog 31 [.fn (.func g) [] [.d n, .d e, .ref 0 0]] [[.d b]] (.d (wrongD ex)) [[.d b']] := by
 refine ⟨⟨_, Try.func31, rfl, rfl⟩, fun w S O m vals henv hvs hargs => ?_⟩
 refine calls_of_wp_defers Try.func31 rfl ?_
 have hat : At ⟨Try.prog, 7, S, O, w, m, [], []⟩ ⟨[(0, .fn (.func g) [] [.d n, .d e, .ref 0 0])], [[.d b]]⟩ { tmps := vals ++ Array.replicate (7 - vals.size) undef, defers := [] } w := by
  refine ⟨S, O, m, henv, rfl, by simp [hvs], List.prefix_refl _, fun i p hp => ?_⟩
  have hlt : 0 < vals.size := by rw [hvs]; exact Nat.one_pos
  match i with
  | 0 =>
   have h1 : PV.fn (.func g) [] [.d n, .d e, .ref 0 0] = p := by simpa [GS.get] using hp
   subst h1
   rw [Array.getD_eq_getD_getElem?, Array.getElem?_append_left hlt, Array.getElem?_eq_getElem hlt]
   exact hargs 0 _ _ rfl (Array.getElem?_eq_getElem hlt)
  | i + 1 => simp [GS.get, List.lookup] at hp
 rw [Try.ntmps31]
 refine gr_use (K := ⟨Try.prog, 7, S, O, w, m, [], []⟩) ?_ hat
 refine GR_seq ?_
 refine Z22 ?_
 refine sv rfl (y_alloc zr75) ?_
 refine gN ⟨rfl, ?_⟩
 refine GR_seqr ?_
 refine GR_region 2 [0, 1] rfl rfl ?_
 refine GROps_val rfl (y_makeFunc (xs := []) (ys := [.tmp 2])) ?_
 refine GROps_defer rfl rfl (fun S1 O1 m1 a1 w1 vc hr hvc hcap hr1 => ?_)
 refine ⟨rfl, ?_⟩
 have hm1 : m1.length = 2 := hr.env.mlen
 have hvc1 : ∃ r, m1[1]? = some r ∧ vc = #[.pointer (some ⟨r, 0, none⟩)] := by
  have h0 : 0 < vc.size := by rw [hvc]; exact Nat.one_pos
  obtain ⟨l, hl⟩ := hcap 0 _ vc[0] rfl (Array.getElem?_eq_getElem h0)
  generalize hv : vc[0] = v at hl
  cases hl with | ref _ _ _ r h1 =>
  refine ⟨r, h1, ?_⟩
  have hvc2 : vc.size = 1 := hvc
  apply Array.ext
  · exact hvc2
  · intro i h2 h3
    have : i = 0 := by omega
    subst this
    simpa using hv
 obtain ⟨r, hr1m, rfl⟩ := hvc1
 have herr' : out = .inl (.tup []) ∨ ∃ x, out = .inr (wrongW x) := herr.imp (fun h => h.1) fun h => ⟨_, h⟩
 refine wp_mono (c75_rest g n e b b' out herr' hg hm1 _ ⟨_, _, _, Try.func31, rfl⟩ _ w1 ⟨S1, O1, m1, hr1⟩) ?_
 rintro ex2 a2 w2 ⟨s2, hq, S2, O2, m2, hr2⟩
 rcases hq with ⟨rfl, ho, rfl⟩ | ⟨x, rfl, ho, hmem2, hget2⟩
 · have hd := hr2.defers
   replace hd : a2.defers = [{ target := .fn (.func 50) #[.pointer (some ⟨r, 0, none⟩)], args := #[] }] := hd
   show Leaves Try.prog Try.f31 a2.tmps _ a2.defers .returning w2
   rw [hd]
   refine leaves_cons (f := 50) (args := #[.pointer (some ⟨r, 0, none⟩)]) (by simp) (by simp [go_sem]) ?_
   refine (catch_idle ⟨r, 0, none⟩ w2).mono ?_
   rintro e' u' w' ⟨rfl, rfl, rfl⟩
   have hr3 : Rep ⟨Try.prog, 7, S, O, w, m, [], [{ target := .fn (.func 50) #[.pointer (some ⟨r, 0, none⟩)], args := #[] }]⟩ S2 O2 m2 _ a2 w' := ⟨hr.env.trans hr2.env, hd, hr2.size, hr.pre.trans hr2.pre, hr2.slots⟩
   have hx0 : ex = 0 := by
    rcases herr with h | h
    · exact h.2
    · rw [ho] at h; cases h
   subst hx0
   obtain ⟨v, r', mem', O'', h1, ⟨h2, h3⟩, h4, h5, h6⟩ := Fin.run (k := 1) (fn := Try.f31) (rvs := [.cell 2 75]) (R := fun q mm => q = .d (wrongD 0) ∧ mm = [[.d b']]) (e := .ret) (by rw [henv.mlen]; exact Nat.le_refl 1) Try.results31 (fincm [[.d b']] sz75 u75 (.inr rfl) ⟨rfl, rfl⟩) hr3
   exact ⟨v, h1, v, r', mem', S2, O'', _, rfl, ⟨h2, h3⟩, h4, h5, h6⟩
 · have hd := hr2.defers
   replace hd : a2.defers = [{ target := .fn (.func 50) #[.pointer (some ⟨r, 0, none⟩)], args := #[] }] := hd
   show Leaves Try.prog Try.f31 a2.tmps _ a2.defers (.panicking (chain1 (wrongW x))) w2
   rw [hd]
   refine leaves_cons (f := 50) (args := #[.pointer (some ⟨r, 0, none⟩)]) (by simp) (by simp [go_sem]) ?_
   have hrm2 : m2[1]? = some r := by
    obtain ⟨t, ht⟩ := hr2.pre
    replace ht : m1 ++ t = m2 := ht
    rw [← ht, List.getElem?_append_left (by omega)]; exact hr1m
   have hex : ex = x := by
    rcases herr with h | h
    · rw [ho] at h; cases h.1
    · rw [ho] at h
      injection h with h
      unfold wrongW at h
      simpa using h.symm
   subst hex
   have henv2 := hr2.env
   rw [hmem2] at henv2
   refine (catch_panic ex (b := b') henv2.rebase hrm2).mono ?_
   rintro e' u' w' ⟨rfl, rfl, S3, O3, henv3⟩
   have hr3 : Rep ⟨Try.prog, 7, S, O, w, m, [], [{ target := .fn (.func 50) #[.pointer (some ⟨r, 0, none⟩)], args := #[] }]⟩ S3 O3 m2 ⟨[(2, .ref 1 0)], [[.d b'], [.d (.int .i64 ex), .d (.sl [])]]⟩ a2 w' := by
    refine ⟨hr.env.trans (henv2.trans henv3), hd, hr2.size, hr.pre.trans hr2.pre, fun i p hp => ?_⟩
    by_cases hi : i = 2
    · subst hi
      have h1 : PV.ref 1 0 = p := by simpa [GS.get, List.lookup] using hp
      subst h1
      have h2 := hr2.slots 2 _ hget2
      generalize a2.tmps.getD 2 undef = v2 at h2
      cases h2 with | ref _ _ _ r2 h3 => exact .ref _ 1 0 r2 h3
    · exfalso
      have hb : (i == 2) = false := by simpa using hi
      simp [GS.get, List.lookup, hb] at hp
   obtain ⟨v, r', mem', O'', h1, ⟨h2, h3⟩, h4, h5, h6⟩ := Fin.run (k := 1) (fn := Try.f31) (rvs := [.cell 2 75]) (R := fun q mm => q = .d (wrongD ex) ∧ mm = [[.d b']]) (e := .ret) (by rw [henv.mlen]; exact Nat.le_refl 1) Try.results31 (fincm [[.d b']] sz75 u75 (.inr rfl) ⟨rfl, rfl⟩) hr3
   exact ⟨v, h1, v, r', mem', S3, O'', _, rfl, ⟨h2, h3⟩, h4, h5, h6⟩
end
section
theorem rp_wrong {w : World} {S : Reg} {O : Owns} {m l : List Nat} {e : Int} {v : Value} (h : RP w S O m l (.agg [.d (.int .i64 e), .nils]) v) : v = .agg #[.int .i64 e, .slice none 0 0] := by
 cases h with | agg _ _ vs hl ho h =>
 have h0 : 0 < vs.size := by rw [hl]; simp
 have h1 : 1 < vs.size := by rw [hl]; simp
 have g0 := h 0 _ vs[0] rfl (Array.getElem?_eq_getElem h0)
 have g1 := h 1 _ vs[1] rfl (Array.getElem?_eq_getElem h1)
 congr 1
 apply Array.ext
 · simpa using hl
 · intro i hi _
   have hi2 : i < 2 := by rw [hl] at hi; exact hi
   match i, hi2 with
   | 0, _ =>
    generalize vs[0] = u at g0
    cases g0 with | d _ _ _ g => cases g; rfl
   | 1, _ =>
    generalize vs[1] = u at g1
    cases g1; rfl
theorem GOps_wrong {K : Ctx} {ops : Array Oper} {Q : Exit → GS → Prop} {s : GS} {j k : Nat} {t u : Nat} {e : Int} {rt ty : TypeId} {p1 p2 : String} {a1 a2 : Array Edge} (hP : K.P = Try.prog)
 (h1 : ops[j]? = some ⟨some u, .makeInterface 75 (.tmp t), rt, p1, a1, none⟩) (h2 : ops[k]? = some ⟨none, .panic (.tmp u), ty, p2, a2, none⟩) (hg : s.get t = some (.agg [.d (.int .i64 e), .nils])) (hu : u < K.n) (h : Q (.panic (chain1 (wrongW e))) (s.set u .undef)) : GOps K ops Q [j, k] s := by
 rintro a w ⟨S, O, m, hr⟩
 have hv : a.eval (.tmp t) = .agg #[.int .i64 e, .slice none 0 0] := by
  have h3 := rp_wrong (hr.slots t _ hg)
  rw [← h3]
  simp [Act.eval, Array.getD_eq_getD_getElem?]
 have hrun : (execOp a.eval ⟨some u, .makeInterface 75 (.tmp t), rt, p1, a1, none⟩).run K.P w = .ok (.value (wrongW e)) w := by
  rw [hP]
  simp only [execOp, hv]
  simp [Instr.makeInterface, run_underlying u75, wrongW]
 simp only [wpOps, h1, h2, Region.wanted, if_true]
 refine .inl ?_
 simp only [Oper.wp, hrun, Oper.upon_value]
 refine .inl ?_
 have hsz : u < a.tmps.size := by rw [hr.size]; exact hu
 have hev : (a.put (some u) (wrongW e)).eval (.tmp u) = wrongW e := by simp [Act.eval, Act.put, hsz]
 simp only [execOp, hev]
 refine (show (∃ s', Q (.panic (chain1 (wrongW e))) s' ∧ At K s' (a.put (some u) (wrongW e)) w) from ⟨_, h, S, O, m, hr.put hu (.undef _ _)⟩)
theorem c119f (e : Int) : Px Try.prog 51 [.bool false, .int .i64 e] (.inr (wrongW e)) := by
 refine px_body (rvs := []) [(0, .d (.bool false)), (1, .d (.int .i64 e))] Try.func51 Try.ntmps51 Try.results51 (fun S0 O0 w0 m0 hm0 => ?_)
 refine Z101 ?_;refine Z47 ?_;refine Z12 ?_
 refine zgC ?_ ?_ <;> intro hb0
 · refine gR ?_
   refine Z1 ?_
   refine vq rfl ((q_buildP pl75 zr75)) ?_
   refine GOps_wrong rfl rfl rfl rfl (oR rfl) ?_
   exact fx_panic ⟨rfl, rfl⟩
 · exact absurd hb0 (by decide)
theorem c119t (e : Int) : Px Try.prog 51 [.bool true, .int .i64 e] (.inl (.tup [])) := by
 refine px_body (rvs := []) [(0, .d (.bool true)), (1, .d (.int .i64 e))] Try.func51 Try.ntmps51 Try.results51 (fun S0 O0 w0 m0 hm0 => ?_)
 refine Z101 ?_;refine Z47 ?_;refine Z12 ?_
 refine zgC ?_ ?_ <;> intro hb0
 · exact absurd hb0 (by decide)
 · refine gK ?_
   exact fx_normal (finm (n := 0) (mem' := []) (.inl rfl) ⟨rfl, rfl⟩)
end
end Go.Proofs.Ytklkbfpjimeaoaa
