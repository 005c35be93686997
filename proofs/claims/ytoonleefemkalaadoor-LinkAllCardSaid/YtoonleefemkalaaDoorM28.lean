import Derived.Test.YtoonleefemkalaaDoorM27
import Derived.Test.YtoonleefemkalaaDoorM17
import Derived.Test.YtoonleefemkalaaDoorM24
import Derived.Test.YtoonleefemkalaaDoorM18
import Derived.Test.YtoonleefemkalaaDoorM26
/- Contracts of functions. Conditions: none. -/
set_option linter.unusedSimpArgs false
set_option linter.unusedVariables false
set_option maxRecDepth 20000
namespace Go.Proofs.YtoonleefemkalaaDoor
open Go Go.Proofs.YtoonleefemkalaaDoor.E
section
theorem zo (kl : List (Nat × Nat)) (ws : List Nat) (ms : List (List (List PV))) {n : Nat} {S0 : Reg} {O0 : Owns} {w0 : World} {m0 Bs : List Nat} {ds : List Deferred} {fr : List Fr} {Q : Exit → GS → Prop} {id : Nat} {ops : Array Oper} {sl base : List (Nat × PV)} {mem : List (List PV)} {tt : List Nat} (hb : baseK ops.toList sl = some (tt, base) := by exact rfl) (hm0 : ms.head? = some mem := by rfl) (hdep : ((List.range ops.size).all fun i => (depsOf ops i).all fun d => Nat.blt d i) = true := by kernel_rfl) (hc : COz kl ⟨Tryd.prog, n, S0, O0, w0, m0, Bs, ds⟩ fr ops base ws ms 0 [] Q) : GF ⟨Tryd.prog, n, S0, O0, w0, m0, Bs, ds⟩ fr (.code (.region id ops true)) Q ⟨sl, mem⟩ := gOpenZ kl ws ms hb mixed hm0 hdep hc
variable {n i j t : Nat} {S0 : Reg} {O0 : Owns} {w0 : World} {m0 Bs ws : List Nat} {ds : List Deferred} {fr : List Fr} {Q : Exit → GS → Prop} {kl : List (Nat × Nat)} {ops : Array Oper} {base pre : List (Nat × PV)} {ms : List (List (List PV))} {es es' : List (Nat × Nat × PV)} {ob : List (Bool × Bool)} {p : PV}
theorem zv (hs : seeF kl ops.toList i es base = some pre := by exact rfl) (hj : nth nums (i + 1) = some j := by exact rfl) (h : ∀ rest X, E.step tab ops.toList n i ⟨pre ++ rest, X⟩ = some (ob, ⟨(t, p) :: (pre ++ rest), X⟩) := by exact fun _ _ => rfl) (hes : snocK es (i, t, p) some = some es' := by exact rfl) (hc : COz kl ⟨Tryd.prog, n, S0, O0, w0, m0, Bs, ds⟩ fr ops base ws ms j es' Q) (hi : memN i ws = false := by rfl) (ho : Obl ob := by repeat first | exact Obl.nil | refine Obl.same ?_ | refine Obl.imp (fun h => by simp_all) ?_) : COz kl ⟨Tryd.prog, n, S0, O0, w0, m0, Bs, ds⟩ fr ops base ws ms i es Q := zAny hs hj hes hi hc fun rest X _ hg => toO (gv tabOk (h rest X) (ofO hg) ho)
theorem za (k : Nat) {n : Nat} {S0 : Reg} {O0 : Owns} {w0 : World} {m0 Bs : List Nat} {ds : List Deferred} {fr : List Fr} {Q : Exit → GS → Prop} {kl : List (Nat × Nat)} {ops : Array Oper} {base pre : List (Nat × PV)} {ws : List Nat} {ms : List (List (List PV))} {i j t : Nat} {es es' : List (Nat × Nat × PV)} {mem : List (List PV)} {ob : List (Bool × Bool)} {p : PV} (hmm : ms[k]? = some mem := by rfl) (hs : seeF kl ops.toList i es base = some pre := by exact rfl) (hj : nth nums (i + 1) = some j := by exact rfl) (h : ∀ rest, E.step tab ops.toList n i ⟨pre ++ rest, mem⟩ = some (ob, ⟨(t, p) :: (pre ++ rest), mem⟩) := by exact fun _ => rfl) (hes : snocK es (i, t, p) some = some es' := by exact rfl) (hc : COz kl ⟨Tryd.prog, n, S0, O0, w0, m0, Bs, ds⟩ fr ops base ws ms j es' Q) (hi : memN i ws = false := by rfl) (hch : chained ops ws = true := by rfl) (hk : k ≤ ws.length := by decide) (hb : behindB ops ws k i = true := by rfl) (ha : aheadB ops ws k i = true := by rfl) (ho : Obl ob := by repeat first | exact Obl.nil | refine Obl.same ?_ | refine Obl.imp (fun h => by simp_all) ?_) : COz kl ⟨Tryd.prog, n, S0, O0, w0, m0, Bs, ds⟩ fr ops base ws ms i es Q := zAt k hs hj hes hi hch hk hmm hb ha hc fun rest _ hg => toO (gv tabOk (h rest) (ofO hg) ho)
theorem zq {C : Prop} (hs : seeF kl ops.toList i es base = some pre := by exact rfl) (hj : nth nums (i + 1) = some j := by exact rfl) (h : ∀ rest, qcs tab ops.toList n i (pre ++ rest) = some (t, none, ob, C, p) := by exact fun _ => rfl) (hcc : C) (hes : snocK es (i, t, p) some = some es' := by exact rfl) (hc : COz kl ⟨Tryd.prog, n, S0, O0, w0, m0, Bs, ds⟩ fr ops base ws ms j es' Q) (hi : memN i ws = false := by rfl) (ho : Obl ob := by repeat first | exact Obl.nil | refine Obl.same ?_ | refine Obl.imp (fun h => by simp_all) ?_) : COz kl ⟨Tryd.prog, n, S0, O0, w0, m0, Bs, ds⟩ fr ops base ws ms i es Q := zAny hs hj hes hi hc fun rest X _ hg => gQ tabOk (h rest) (fun _ => hcc) ho hg
theorem zk (k : Nat) {n : Nat} {S0 : Reg} {O0 : Owns} {w0 : World} {m0 Bs : List Nat} {ds : List Deferred} {fr : List Fr} {Q : Exit → GS → Prop} {kl : List (Nat × Nat)} {ops : Array Oper} {base pre : List (Nat × PV)} {ws : List Nat} {ms : List (List (List PV))} {i j t : Nat} {es es' : List (Nat × Nat × PV)} {mem : List (List PV)} {g : Option Bool} {ob : List (Bool × Bool)} {o : Oper} {p : PV} {slx : List (Nat × PV) → List (Nat × PV)} (hmm : ms[k]? = some mem := by rfl) (hs : seeF kl ops.toList i es base = some pre := by exact rfl) (hj : nth nums (i + 1) = some j := by exact rfl) (h : ∀ rest, gview ops.toList n i (pre ++ rest) = some (t, g, ob, o, slx rest) := by exact fun _ => rfl) (hq : ∀ rest, isT g → t < n → Qy ⟨Tryd.prog, n, S0, O0, w0, m0, Bs, ds⟩ o ⟨slx rest, mem⟩ t p) (hes : snocK es (i, t, whn g p) some = some es' := by exact rfl) (hc : COz kl ⟨Tryd.prog, n, S0, O0, w0, m0, Bs, ds⟩ fr ops base ws ms j es' Q) (hi : memN i ws = false := by rfl) (hch : chained ops ws = true := by rfl) (hk : k ≤ ws.length := by decide) (hb : behindB ops ws k i = true := by rfl) (ha : aheadB ops ws k i = true := by rfl) (ho : Obl ob := by repeat first | exact Obl.nil | refine Obl.same ?_ | refine Obl.imp (fun h => by simp_all) ?_) : COz kl ⟨Tryd.prog, n, S0, O0, w0, m0, Bs, ds⟩ fr ops base ws ms i es Q := zAt k hs hj hes hi hch hk hmm hb ha hc fun rest _ hg => gqy (h rest) (hq rest) hg ho
theorem zi {m : Nat} {xs : List D} {ix : Int} {d : D} (hs : seeF kl ops.toList i es base = some pre := by exact rfl) (hj : nth nums (i + 1) = some j := by exact rfl) (h : ∀ rest, ixs tab ops.toList n i (pre ++ rest) = some (t, none, ob, xs, ix, m) := by exact fun _ => rfl) (hd : xs[ix.toNat]? = some d) (hes : snocK es (i, t, .d (.ptr d)) some = some es' := by exact rfl) (hc : COz kl ⟨Tryd.prog, n, S0, O0, w0, m0, Bs, ds⟩ fr ops base ws ms j es' Q) (h0 : 0 ≤ ix := by omega) (hn : d.cells.length = m := by first | rfl | simp [D.cells]) (hm : 0 < m := by decide) (hi : memN i ws = false := by rfl) (ho : Obl ob := by repeat first | exact Obl.nil | refine Obl.same ?_ | refine Obl.imp (fun h => by simp_all) ?_) : COz kl ⟨Tryd.prog, n, S0, O0, w0, m0, Bs, ds⟩ fr ops base ws ms i es Q := zAny hs hj hes hi hc fun rest X _ hg => gI d tabOk (h rest) (fun _ => ⟨h0, hd, hn⟩) hm ho hg
theorem zp {u k b : Nat} {xs ys : List D} (hs : seeF kl ops.toList i es base = some pre := by exact rfl) (hj : nth nums (i + 1) = some j := by exact rfl) (h : ∀ rest, aps tab ops.toList n i (pre ++ rest) = some (t, u, k, b, xs, ys) := by exact fun _ => rfl) (hes : snocK es (i, t, .osl k (xs ++ ys)) some = some es' := by exact rfl) (hc : COz kl ⟨Tryd.prog, n, S0, O0, w0, m0, Bs, ds⟩ fr ops base ws ms j es' Q) (hx : tkB kl es u i = true := by rfl) (hk0 : 0 < k := by decide) (hne : ys ≠ [] := by simp) (hk : ∀ y ∈ ys, y.cells.length = k := by simp [D.cells]) (hl : xs.length + ys.length ≤ lim := by simp only [lim, List.length_cons, List.length_nil, List.length_append, List.length_map]; omega) (hB : (xs.length + ys.length) * b ≤ lim := by simp only [lim, List.length_cons, List.length_nil, List.length_append, List.length_map]; omega) (hi : memN i ws = false := by rfl) : COz kl ⟨Tryd.prog, n, S0, O0, w0, m0, Bs, ds⟩ fr ops base ws ms i es Q := zTake hs hj hes hi hx hc fun rest X _ hg => gA tabOk (h rest) hk0 hne hk hl hB hg
theorem zc {f : FuncId} {ds' : List D} (hs : seeF kl ops.toList i es base = some pre := by exact rfl) (hj : nth nums (i + 1) = some j := by exact rfl) (h : ∀ rest, cls ops.toList n i (pre ++ rest) = some (t, none, ob, f, ds') := by exact fun _ => rfl) (hcl : Pf Tryd.prog f ds' p) (hes : snocK es (i, t, p) some = some es' := by exact rfl) (hc : COz kl ⟨Tryd.prog, n, S0, O0, w0, m0, Bs, ds⟩ fr ops base ws ms j es' Q) (hi : memN i ws = false := by rfl) (ho : Obl ob := by repeat first | exact Obl.nil | refine Obl.same ?_ | refine Obl.imp (fun h => by simp_all) ?_) : COz kl ⟨Tryd.prog, n, S0, O0, w0, m0, Bs, ds⟩ fr ops base ws ms i es Q := zAny hs hj hes hi hc fun rest X _ hg => gC (h rest) (fun _ => hcl) ho hg
theorem zs (k : Nat) {n : Nat} {S0 : Reg} {O0 : Owns} {w0 : World} {m0 Bs : List Nat} {ds : List Deferred} {fr : List Fr} {Q : Exit → GS → Prop} {kl : List (Nat × Nat)} {ops : Array Oper} {base pre : List (Nat × PV)} {ws : List Nat} {ms : List (List (List PV))} {i j : Nat} {es : List (Nat × Nat × PV)} {mem mem' : List (List PV)} {ob : List (Bool × Bool)} (hm1 : ms[k]? = some mem := by rfl) (hm2 : ms[k + 1]? = some mem' := by rfl) (hs : seeF kl ops.toList i es base = some pre := by exact rfl) (hj : nth nums (i + 1) = some j := by exact rfl) (h : ∀ rest, E.step tab ops.toList n i ⟨pre ++ rest, mem⟩ = some (ob, ⟨pre ++ rest, mem'⟩) := by exact fun _ => rfl) (hc : COz kl ⟨Tryd.prog, n, S0, O0, w0, m0, Bs, ds⟩ fr ops base ws ms j es Q) (hw : ws[k]? = some i := by rfl) (hch : chained ops ws = true := by rfl) (hnd : nodupB ws = true := by rfl) (ho : Obl ob := by repeat first | exact Obl.nil | refine Obl.same ?_ | refine Obl.imp (fun h => by simp_all) ?_) : COz kl ⟨Tryd.prog, n, S0, O0, w0, m0, Bs, ds⟩ fr ops base ws ms i es Q := zAct k hs hj hw hch hnd hm1 hm2 hc fun rest _ hg => toO (gv tabOk (h rest) (ofO hg) ho)
theorem ze {sl : List (Nat × PV)} {mem : List (List PV)} (hi : sizeIs ops.toList i = true := by exact rfl) (hp : (es.filter fun x => (kl.lookup x.1).isNone).map (·.2) ++ base = sl := by exact rfl) (hm : ms[ws.length]? = some mem := by rfl) (hc : GF ⟨Tryd.prog, n, S0, O0, w0, m0, Bs, ds⟩ fr (.leave .normal) Q ⟨sl, mem⟩) (hS : ws.all (fun w => Nat.blt w ops.size) = true := by rfl) (hn : nodupB (es.map (·.2.1)) = true := by rfl) (hb : base.all (fun x => !(es.map (·.2.1)).contains x.1) = true := by rfl) (hf : es.all (fun x => Nat.blt x.1 ops.size) = true := by rfl) : COz kl ⟨Tryd.prog, n, S0, O0, w0, m0, Bs, ds⟩ fr ops base ws ms i es Q := zEnd hi hp hS hm hc hn hb hf
theorem ti {K : Ctx} {fs : List (Nat × Nat × PV)} {X S m' : Nat} {m0 m1 m2 : List (List PV)} {xs : List D} {jx : Int} {d : D} (hs : pick fs (dsK kl ops i) ++ base = pre) (he : entsOf i fs = [(t, .d (.ptr d))]) (hX : Nat.beq i X = false) (hS : Nat.beq i S = false)
 (ha : memN i (ancs ops 7 [X]) = true) (h0 : ∀ rest, ixs tab ops.toList K.n i (pre ++ rest) = some (t, none, ob, xs, jx, m')) (hd : 0 ≤ jx ∧ xs[jx.toNat]? = some d ∧ d.cells.length = m') (hm : 0 < m') (hT : tabB K.P tab = true := by exact tabOk) (ho0 : Obl ob := by exact Obl.nil) : TabOp K ops kl base fs X S m0 m1 m2 i :=
 tA hs he hX hS ha (fun rest _ hg => gI d hT (h0 rest) (fun _ => hd) hm ho0 hg)
theorem nextC_eq (c : Ch) (m : ByteArray) : nextC c m = { ({ c with una := c.una ++ [m] } : Ch) with tos := sentL c.tos ⟨1, c.nxt, m⟩, nxt := IntKind.i64.wrap (c.nxt + 1) } := by
 unfold nextC sendT sentL
 by_cases h2 : c.tos.length < 200
 · rw [if_pos h2, if_neg (by omega)]
 · rw [if_neg h2, if_pos (by omega)]
theorem Le_0 {K : Ctx} {s s' : GS} (hk : K.m0.length = 0) (hm : MSub s'.mem.length s.mem s'.mem) (hs : Sub s s'.mem.length s'.slots) : Le K s s' := Le_of (by rw [hk]; exact Nat.zero_le _) hm hs
theorem CSa {a b : List PV} (h : CSub n a b := by repeat' first | exact CSub_flat _ _ | exact CSub_unk _ _ | exact .nil | refine .cons (.inl rfl) rfl ?_ | refine .cons (.inr (.inl rfl)) rfl ?_ | refine .cons (.inr (.inr (.inr (.inr ⟨_, _, rfl, rfl⟩)))) rfl ?_ | refine .cons (.inr (.inr (.inl ⟨rfl, _, rfl⟩))) rfl ?_ | fail) : CSub n a b := h
theorem SSa {s : GS} {l : List (Nat × PV)} (h : Sub s n l := by repeat' first | exact .nil | refine .cons rfl (.inl rfl) rfl ?_ | refine .cons rfl (.inr (.inr (.inl ⟨rfl, _, rfl⟩))) rfl ?_ | fail) : Sub s n l := h
end
section
def insF (q : Pk) : List Pk → List Pk
 | [] => [q]
 | e :: r => if e.nu = q.nu then e :: r else if e.nu > q.nu then q :: e :: r else e :: insF q r
def rcvG (c : Ch) (q : Pk) : Ch := if (q.nu == c.exp && decide (q.nu < c.nxt)) = true then dueN c.ear.length (delC c q) else if ((decide (q.nu > c.exp) && decide (q.nu < IntKind.i64.wrap (c.exp + c.win))) && decide (q.nu < c.nxt)) = true then { c with ear := insF q c.ear } else c
def rcvF (c : Ch) (s : ByteArray) : Ch := if (deE s != 0 || (deP s).kd != 1) = true then c else ansC (rcvG c (deP s))
theorem drop_get {α : Type} {l : List α} {k : Nat} {e : α} (h : l[k]? = some e) : l.drop k = e :: l.drop (k + 1) := by
 obtain ⟨hlt, he⟩ := List.getElem?_eq_some_iff.1 h
 rw [List.drop_eq_getElem_cons hlt, he]
end
section
theorem yo (L kk : Nat) (kl : List (Nat × Nat)) (ws : List Nat) (ms : List (List (List PV))) (ts : List Nat) (es0 : List (Nat × Nat × PV)) {n : Nat} {S0 : Reg} {O0 : Owns} {w0 : World} {m0 Bs : List Nat} {ds : List Deferred} {fr : List Fr} {Q : Exit → GS → Prop} {id : Nat} {ops : Array Oper} {sl base : List (Nat × PV)} {mem : List (List PV)} (hn : sizeIs ops.toList (L + 1) = true := by exact rfl) (hb : (sl.filter fun x => !ts.contains x.1) = base := by exact rfl) (he : es0.all (fun e => Nat.ble (L + 1) e.1 && (match sl.lookup e.2.1 with | some _ => true | none => false)) = true := by rfl) (he2 : ∀ e ∈ es0, sl.lookup e.2.1 = some e.2.2) (hm0 : ms.head? = some mem := by rfl) (hdep : ((List.range ops.size).all fun i => (depsOf ops i).all fun d => Nat.blt d i) = true := by kernel_rfl) (hanc : ((List.range L).all fun i => memN i (ancs ops kk (depsOf ops L))) = true := by kernel_rfl) (hc : COy L (L + 1) kl ⟨Tryd.prog, n, S0, O0, w0, m0, Bs, ds⟩ fr ops base ws ms 0 es0 Q) : GF ⟨Tryd.prog, n, S0, O0, w0, m0, Bs, ds⟩ fr (.code (.region id ops true)) Q ⟨sl, mem⟩ := gOpenY L kk kl ws ms ts hn (beq_yes _) hb he he2 mixed hm0 hdep hanc hc
variable {n L nn i j t : Nat} {S0 : Reg} {O0 : Owns} {w0 : World} {m0 Bs ws : List Nat} {ds : List Deferred} {fr : List Fr} {Q : Exit → GS → Prop} {kl : List (Nat × Nat)} {ops : Array Oper} {base pre : List (Nat × PV)} {ms : List (List (List PV))} {es es' : List (Nat × Nat × PV)} {ob : List (Bool × Bool)}
theorem yv {p : PV} (hs : seeY nn kl ops.toList i es base = some pre := by exact rfl) (hj : nth nums (i + 1) = some j := by exact rfl) (h : ∀ rest X, E.step tab ops.toList n i ⟨pre ++ rest, X⟩ = some (ob, ⟨(t, p) :: (pre ++ rest), X⟩) := by exact fun _ _ => rfl) (hes : snocK es (i, t, p) some = some es' := by exact rfl) (hc : COy L nn kl ⟨Tryd.prog, n, S0, O0, w0, m0, Bs, ds⟩ fr ops base ws ms j es' Q) (hi : memN i ws = false := by rfl) (ho : Obl ob := by repeat first | exact Obl.nil | refine Obl.same ?_ | refine Obl.imp (fun h => by simp_all) ?_) : COy L nn kl ⟨Tryd.prog, n, S0, O0, w0, m0, Bs, ds⟩ fr ops base ws ms i es Q := yAny hs hj hes hi hc fun rest X _ hg => toO (gv tabOk (h rest X) (ofO hg) ho)
theorem yi {m : Nat} {xs : List D} {ix : Int} {d : D} (hs : seeY nn kl ops.toList i es base = some pre := by exact rfl) (hj : nth nums (i + 1) = some j := by exact rfl) (h : ∀ rest, ixs tab ops.toList n i (pre ++ rest) = some (t, none, ob, xs, ix, m) := by exact fun _ => rfl) (hd : xs[ix.toNat]? = some d) (hes : snocK es (i, t, .d (.ptr d)) some = some es' := by exact rfl) (hc : COy L nn kl ⟨Tryd.prog, n, S0, O0, w0, m0, Bs, ds⟩ fr ops base ws ms j es' Q) (h0 : 0 ≤ ix := by omega) (hn : d.cells.length = m := by first | rfl | simp [D.cells]) (hm : 0 < m := by decide) (hi : memN i ws = false := by rfl) (ho : Obl ob := by repeat first | exact Obl.nil | refine Obl.same ?_ | refine Obl.imp (fun h => by simp_all) ?_) : COy L nn kl ⟨Tryd.prog, n, S0, O0, w0, m0, Bs, ds⟩ fr ops base ws ms i es Q := yAny hs hj hes hi hc fun rest X _ hg => gI d tabOk (h rest) (fun _ => ⟨h0, hd, hn⟩) hm ho hg
theorem yb {k : Nat} {xs : List D} (hs : seeY nn kl ops.toList i es base = some pre := by exact rfl) (hj : nth nums (i + 1) = some j := by exact rfl) (h : ∀ rest, bss tab ops.toList n i (pre ++ rest) = some (t, k, xs) := by exact fun _ => rfl) (hes : snocK es (i, t, .osl k xs) some = some es' := by exact rfl) (hc : COy L nn kl ⟨Tryd.prog, n, S0, O0, w0, m0, Bs, ds⟩ fr ops base ws ms j es' Q) (hk0 : 0 < k := by decide) (hk : ∀ d ∈ xs, d.cells.length = k := by simp [D.cells]) (hi : memN i ws = false := by rfl) : COy L nn kl ⟨Tryd.prog, n, S0, O0, w0, m0, Bs, ds⟩ fr ops base ws ms i es Q := yAny hs hj hes hi hc fun rest X _ hg => gB tabOk (h rest) hk0 hk hg
theorem yp {u k b : Nat} {xs ys : List D} (hs : seeY nn kl ops.toList i es base = some pre := by exact rfl) (hj : nth nums (i + 1) = some j := by exact rfl) (h : ∀ rest, aps tab ops.toList n i (pre ++ rest) = some (t, u, k, b, xs, ys) := by exact fun _ => rfl) (hes : snocK es (i, t, .osl k (xs ++ ys)) some = some es' := by exact rfl) (hc : COy L nn kl ⟨Tryd.prog, n, S0, O0, w0, m0, Bs, ds⟩ fr ops base ws ms j es' Q) (hx : tkB kl es u i = true := by rfl) (hk0 : 0 < k := by decide) (hne : ys ≠ [] := by simp) (hk : ∀ y ∈ ys, y.cells.length = k := by simp [D.cells]) (hl : xs.length + ys.length ≤ lim := by simp only [lim, List.length_cons, List.length_nil, List.length_append, List.length_map]; omega) (hB : (xs.length + ys.length) * b ≤ lim := by simp only [lim, List.length_cons, List.length_nil, List.length_append, List.length_map]; omega) (hi : memN i ws = false := by rfl) : COy L nn kl ⟨Tryd.prog, n, S0, O0, w0, m0, Bs, ds⟩ fr ops base ws ms i es Q := yTake hs hj hes hi hx hc fun rest X _ hg => gA tabOk (h rest) hk0 hne hk hl hB hg
theorem yvt {u : Nat} {p q : PV} (hs : seeY nn kl ops.toList i es base = some pre := by exact rfl) (hj : nth nums (i + 1) = some j := by exact rfl) (h : ∀ rest X, E.step tab ops.toList n i ⟨pre ++ rest, X⟩ = some (ob, ⟨(t, p) :: (u, q) :: (pre ++ rest), X⟩) := by exact fun _ _ => rfl) (hes : snocK es (i, t, p) some = some es' := by exact rfl) (hc : COy L nn kl ⟨Tryd.prog, n, S0, O0, w0, m0, Bs, ds⟩ fr ops base ws ms j es' Q) (hx : tkB kl es u i = true := by rfl) (hi : memN i ws = false := by rfl) (ho : Obl ob := by repeat first | exact Obl.nil | refine Obl.same ?_ | refine Obl.imp (fun h => by simp_all) ?_) : COy L nn kl ⟨Tryd.prog, n, S0, O0, w0, m0, Bs, ds⟩ fr ops base ws ms i es Q := yTake hs hj hes hi hx hc fun rest X _ hg => toO (gv tabOk (h rest X) (ofO hg) ho)
theorem yl {sl : List (Nat × PV)} {mem : List (List PV)} {s2 : GS} (hi : Nat.beq i L = true := by exact rfl) (hp : (es.filter fun x => (kl.lookup x.1).isNone).map (·.2) ++ base = sl := by exact rfl) (hm : ms[ws.length]? = some mem := by rfl) (h : E.step tab ops.toList n L ⟨sl, mem⟩ = some (ob, s2) := by exact rfl) (hc : GF ⟨Tryd.prog, n, S0, O0, w0, m0, Bs, ds⟩ fr (.leave .normal) Q s2) (hS : ws.all (fun w => Nat.blt w L) = true := by rfl) (hn : nodupB (es.map (·.2.1)) = true := by rfl) (hb : base.all (fun x => !(es.map (·.2.1)).contains x.1) = true := by rfl) (ho : Obl ob := by repeat first | exact Obl.nil | refine Obl.same ?_ | refine Obl.imp (fun h => by simp_all) ?_) : COy L nn kl ⟨Tryd.prog, n, S0, O0, w0, m0, Bs, ds⟩ fr ops base ws ms i es Q :=
 yEnd hi hp hS hm (fun _ hg => toO (gv tabOk h (ofO hg) ho)) hc hn hb
structure Ac where
 k : Int
 b : Bool
 ix : Int
 at_ : Int
def Ac.d (a : Ac) : D := acD a.k a.b a.ix a.at_
def aD (l : List Ac) : List D := l.map Ac.d
theorem aD_len (l : List Ac) : (aD l).length = l.length := List.length_map ..
theorem aD_get {l : List Ac} {q : Ac} (h : l[i]? = some q) : (aD l)[i]? = some (.agg [.int .i64 q.k, .bool q.b, .int .i64 q.ix, .int .i64 q.at_]) := by unfold aD; rw [List.getElem?_map, h]; rfl
theorem aD_k (l : List Ac) : ∀ x ∈ aD l, x.cells.length = 4 := fun x hx => by
 obtain ⟨y, _, rfl⟩ := List.mem_map.1 hx; rfl
set_option maxRecDepth 100000 in
theorem c22 (l : List Ac) (hl : l.length ≤ 1000000) : Pf Tryd.prog 22 [.sl (aD l)] (.d (.sl (aD l))) := by
 refine pfb Tryd.func22 Tryd.ntmps22 Tryd.results22 (fun S0 O0 w0 m0 hm0 => ?_)
 repeat' first | refine s_ ?_ | fail
 refine gLo (fun x : Nat => ⟨[(0, .d (.sl (aD l))), (3, .osl 4 (aD (l.take x))), (4, .d (.int .i64 (x : Int)))], []⟩) (fun x => l.length - x) (fun x => x ≤ l.length) 0 (Nat.zero_le _) ?_ (fun x hx Q' hn he hr hp => ?_)
 · exact Le_of (by rw [hm0]; exact Nat.zero_le _) .nil SSa
 repeat' first | refine s_ ?_ | fail
 refine d_ (fun hb => ?_) (fun hb => ?_)
 · have hlt : x < l.length := by have := oR hb; rw [aD_len] at this; omega
   obtain ⟨e, hge⟩ : ∃ e, l[x]? = some e := ⟨_, gE hlt⟩
   have hpe := aD_get hge
   have htk : aD (l.take x) ++ [.agg [.int .i64 e.k, .bool e.b, .int .i64 e.ix, .int .i64 e.at_]] = aD (l.take (x + 1)) := by
    rw [List.take_add_one, hge]; unfold aD; rw [List.map_append]; rfl
   have htl : (aD (l.take x)).length ≤ 1000000 := by rw [aD_len, List.length_take]; omega
   repeat' first | refine s_ ?_ | fail
   refine kp [(0, .d (.sl (aD l))), (3, .osl 4 (aD (l.take x))), (4, .d (.int .i64 (x : Int)))] ⟨rfl, rfl, rfl, trivial⟩ ?_
   refine yo 24 1 [(25, 0), (0, 23)] [] [[]] (3 :: [11, 12, 13, 14, 15, 16, 17, 18, 19, 20, 21, 22, 23, 24, 25, 26, 27, 28, 29, 30, 31, 32, 33, 34]) [(25, 3, .osl 4 (aD (l.take x)))] (he2 := fun e he => by rw [List.mem_singleton] at he; subst he; rfl) (hc := ?_)
   refine yvt (hc := ?_)
   iterate 2 refine yv (hc := ?_)
   refine yi (hd := hpe) (hc := ?_)
   iterate 4 refine yv (hc := ?_)
   refine yi (hd := hpe) (hc := ?_)
   iterate 4 refine yv (hc := ?_)
   refine yi (hd := hpe) (hc := ?_)
   iterate 4 refine yv (hc := ?_)
   refine yi (hd := hpe) (hc := ?_)
   iterate 3 refine yv (hc := ?_)
   refine yb (hc := ?_)
   refine yp (hl := by unfold lim; simp only [List.length_cons, List.length_nil]; omega) (hB := by unfold lim; simp only [List.length_cons, List.length_nil]; omega) (hc := ?_)
   refine yl (hc := ?_)
   rw [htk]
   repeat' first | refine s_ ?_ | fail
   rw [show IntKind.i64.wrap ((x : Int) + 1) = ((x + 1 : Nat) : Int) by rw [wrap_i64 (by omega) (by omega)]; rfl]
   exact toL (hn _ (x + 1) hlt (by omega) (Le_0 hm0 .nil SSa))
 · have hle : l.length ≤ x := by have := of_decide_eq_false hb; rw [aD_len] at this; omega
   rw [List.take_of_length_le hle]
   repeat' first | refine s_ ?_ | fail
   refine Z15 ?_
   repeat' first | refine s_ ?_ | fail
   exact e_
end
section
theorem insF_eq (q : Pk) : ∀ l : List Pk, insF q l = if ∃ x, l[ixE q.nu l]? = some x ∧ x.nu = q.nu then l else insK l (ixE q.nu l) q
 | [] => by
  rw [if_neg (by rintro ⟨x, h, _⟩; simp at h)]; rfl
 | e :: r => by
  rw [insF]
  by_cases h1 : e.nu = q.nu
  · rw [if_pos h1]
    have hx : ixE q.nu (e :: r) = 0 := by unfold ixE; rw [if_neg (by omega)]
    rw [if_pos ⟨e, by rw [hx]; rfl, h1⟩]
  · rw [if_neg h1]
    by_cases h2 : e.nu > q.nu
    · rw [if_pos h2]
      have hx : ixE q.nu (e :: r) = 0 := by unfold ixE; rw [if_neg (by omega)]
      rw [hx, if_neg (by rintro ⟨x, hx1, hx2⟩; injection hx1 with hx1; subst hx1; exact h1 hx2)]
      rfl
    · rw [if_neg h2, insF_eq q r]
      have hx : ixE q.nu (e :: r) = ixE q.nu r + 1 := by rw [ixE, if_pos (by omega)]
      rw [hx]
      by_cases h3 : ∃ x, r[ixE q.nu r]? = some x ∧ x.nu = q.nu
      · rw [if_pos h3, if_pos (by simpa using h3)]
      · rw [if_neg h3, if_neg (by simpa using h3)]
        rfl
theorem rcvF_eq {c : Ch} (h : c.Rcv) (s : ByteArray) : rcvF c s = rcvC c s := by
 unfold rcvF rcvC
 by_cases h1 : (deE s == 0 && (deP s).kd == 1) = true
 · rw [if_pos h1, if_neg]
   · unfold rcvG rcvD
     have hw : IntKind.i64.wrap (c.exp + c.win) = c.exp + c.win := by
      have := h.exp0; have := h.exp1; have := h.win0; have := h.win1
      exact Y2
     rw [hw]
     generalize deP s = q
     by_cases hA : c.nxt ≤ q.nu ∨ q.nu < c.exp
     · rw [if_pos hA, if_neg (by rw [Bool.and_eq_true]; rintro ⟨g1, g2⟩; have g1' : q.nu = c.exp := by simpa using g1
                                 have := of_decide_eq_true g2; omega), if_neg (by rw [Bool.and_eq_true, Bool.and_eq_true]; rintro ⟨⟨g1, g2⟩, g3⟩; have := of_decide_eq_true g1; have := of_decide_eq_true g3; omega)]
     · rw [if_neg hA]
       by_cases hB : q.nu = c.exp
       · rw [if_pos hB, if_pos (by rw [Bool.and_eq_true]; exact ⟨by simpa using hB, decide_eq_true (by omega)⟩)]
       · rw [if_neg hB, if_neg (by rw [Bool.and_eq_true]; rintro ⟨g1, _⟩; exact hB (by simpa using g1))]
         by_cases hC : q.nu < c.exp + c.win
         · rw [if_pos hC, if_pos (by rw [Bool.and_eq_true, Bool.and_eq_true]; exact ⟨⟨decide_eq_true (by omega), decide_eq_true hC⟩, decide_eq_true (by omega)⟩), insF_eq]
           by_cases hD : ∃ x, c.ear[ixE q.nu c.ear]? = some x ∧ x.nu = q.nu
           · rw [if_pos hD, if_pos hD]
           · rw [if_neg hD, if_neg hD]; rfl
         · rw [if_neg hC, if_neg (by rw [Bool.and_eq_true, Bool.and_eq_true]; rintro ⟨⟨_, g2⟩, _⟩; exact hC (of_decide_eq_true g2))]
   · rw [Bool.and_eq_true] at h1
     obtain ⟨g1, g2⟩ := h1
     have e1 : deE s = 0 := by simpa using g1
     have e2 : (deP s).kd = 1 := by simpa using g2
     simp [e1, e2]
 · rw [if_neg h1, if_pos]
   have h2 : (deE s == 0 && (deP s).kd == 1) = false := eq_false_of_ne_true h1
   rw [Bool.and_eq_false_iff] at h2
   rw [Bool.or_eq_true]
   rcases h2 with g | g
   · left; simp at g; simpa using g
   · right; simp at g; simpa using g
end
section
theorem pushT_eq (l : List ByteArray) (q : Pk) : sentL l q = pushT l q := by
 unfold sentL pushT
 by_cases h : l.length < 200
 · rw [if_pos h, if_neg (by omega)]
 · rw [if_neg h, if_pos (by omega)]
end
section
open Go.RowKit in
theorem PL.row {f : FuncId} {ds : List D} {b : Bool} (h : PL f ds (.d (.bool b))) (W : World) (hW : Lad (E.allOf W) W) (vals : Array Value) (hsz : vals.size = ds.length)
 (hr : ∀ (i : Nat) d v, ds[i]? = some d → vals[i]? = some v → Rd W (E.allOf W) d v) :
 Calls Tryd.prog f vals W fun e w' => e = .returned (.bool b) ∧ Below W.heap.size W w' := by
 refine (h.2 (E.allOf W) W hW W (E.allOf W) noOwns [] vals (Ext.refl _ _) (fun _ _ h => h) (Env.start W) (by simpa using hsz) ?_).mono ?_
 · intro i p v hi hv
   rw [List.getElem?_map] at hi
   cases hd : ds[i]? with
   | none => rw [hd] at hi; cases hi
   | some d =>
    rw [hd] at hi
    cases hi
    exact .d _ d v (hr i d v hd hv)
 · rintro e w' ⟨v, r, mem', S', O', m', rfl, ⟨rfl, rfl⟩, henv, _, _, hrp⟩
   refine ⟨?_, henv.below⟩
   cases hrp with
   | d _ _ _ hd => rw [rd_bool hd]
theorem zcl {n : Nat} {S0 : Reg} {O0 : Owns} {w0 : World} {m0 Bs : List Nat} {ds : List Deferred} {fr : List Fr} {Q : Exit → GS → Prop} {kl : List (Nat × Nat)} {ops : Array Oper} {base pre : List (Nat × PV)} {ws : List Nat} {ms : List (List (List PV))} {i j t : Nat} {es es' : List (Nat × Nat × PV)} {f : FuncId} {args : List D} {dl : List D} (hL : Lad S0 w0) (hs : seeF kl ops.toList i es base = some pre) (hj : nth nums (i + 1) = some j) (h : ∀ rest, cms ops.toList n i (pre ++ rest) = some (t, f, args.map .d)) (hcl : PL f args (.tup (dl.map .d))) (hes : snocK es (i, t, .tup (dl.map .d)) some = some es') (hc : COz kl ⟨Tryd.prog, n, S0, O0, w0, m0, Bs, ds⟩ fr ops base ws ms j es' Q) (hargs : args.map PV.d = PV.rens (fun b => ([] : List Nat).getD b 0) (args.map PV.d) := by rfl) (hra : PV.refsBs 0 (args.map PV.d) = true := by rfl) (hr : ∀ g : Nat → Nat, (PV.tup (dl.map .d)).ren g = .tup (dl.map .d) := by intro g; rfl) (hi : memN i ws = false := by rfl) : COz kl ⟨Tryd.prog, n, S0, O0, w0, m0, Bs, ds⟩ fr ops base ws ms i es Q := zAny hs hj hes hi hc fun rest X _ hg => clL hL (h rest) hcl hg hargs hra (hr _)
theorem fillN_few : ∀ (n : Nat) (c : Ch), c.Few → c.una.length + c.wai.length ≤ 900000 → (fillN n c).Few
 | 0, _, h, _ => h
 | n + 1, c, h, hl => by
  unfold fillN
  cases hw : c.wai with
  | nil => exact h
  | cons m r =>
   show (if _ then _ else _ : Ch).Few
   split
   · have hwl : c.wai.length = r.length + 1 := by rw [hw]; rfl
     have h1 := nextC_few h m (by omega)
     have hu : (nextC c m).una.length = c.una.length + 1 := by
      rw [nextC_eq]; show (c.una ++ [m]).length = _; rw [List.length_append]; rfl
     exact fillN_few n _ { h1 with wai := by show r.length ≤ _; omega } (by show (nextC c m).una.length + r.length ≤ _; omega)
   · exact h
theorem dueN_few : ∀ (n : Nat) (c : Ch), c.Few → c.del.length + c.ear.length ≤ 900000 → (dueN n c).Few
 | 0, _, h, _ => h
 | n + 1, c, h, hl => by
  unfold dueN
  cases hw : c.ear with
  | nil => exact h
  | cons q r =>
   show (if _ then _ else _ : Ch).Few
   split
   · have hwl : c.ear.length = r.length + 1 := by rw [hw]; rfl
     exact dueN_few n _ (delC_few (c := { c with ear := r }) { h with ear := by show r.length ≤ _; have := h.ear; omega } q (by show c.del.length < _; omega)) (by show (c.del ++ [q.bo]).length + r.length ≤ _; rw [List.length_append]; simp; omega)
   · exact h
variable {c : Ch}
theorem sendB_few (h : c.Few) (q : Pk) : (sendB c q).Few := by
 unfold sendB
 split
 · rename_i hl
   exact { h with bak := by show (c.bak ++ [enC q]).length ≤ _; rw [List.length_append]; simp; omega }
 · exact h
theorem ackC_few (h : c.Few) (hl : c.una.length + c.wai.length ≤ 900000) (s : ByteArray) : (ackC c s).Few := by
 unfold ackC
 split
 · exact h
 · exact fillN_few _ _ { h with una := by show (c.una.drop _).length ≤ _; rw [List.length_drop]; have := h.una; omega } (by show (c.una.drop _).length + c.wai.length ≤ _; rw [List.length_drop]; omega)
theorem insK_len2 (l : List Pk) (i : Nat) (q : Pk) : (insK l i q).length ≤ l.length + 1 := by
 unfold insK
 simp only [List.length_append, List.length_cons, List.length_take, List.length_drop]; omega
theorem rcvC_few (h : c.Few) (hl : c.del.length + c.ear.length ≤ 800000) (s : ByteArray) : (rcvC c s).Few := by
 unfold rcvC
 split
 · refine sendB_few ?_ _
   unfold rcvD
   split
   · exact h
   · split
     · exact dueN_few _ _ (delC_few h _ (by omega)) (by show (c.del ++ [_]).length + c.ear.length ≤ _; rw [List.length_append]; simp; omega)
     · split
       · split
         · exact h
         · exact { h with ear := by show (insK c.ear _ _).length ≤ _; have := insK_len2 c.ear (ixE (deP s).nu c.ear) (deP s); omega }
       · exact h
 · exact h
theorem pushT_len (l : List ByteArray) (q : Pk) {n : Nat} (h1 : 200 ≤ n) (h : l.length ≤ n) : (pushT l q).length ≤ n := by
 unfold pushT
 split
 · rw [List.length_append]; simp; omega
 · exact h
theorem tickL_len (base : Int) {n : Nat} (h1 : 200 ≤ n) : ∀ (l : List ByteArray) (z : Nat) (T : List ByteArray), T.length ≤ n → (tickL base z l T).length ≤ n
 | [], _, _, h => h
 | m :: r, z, T, h => tickL_len base h1 r (z + 1) _ (pushT_len T _ h1 h)
theorem actS_few (hs : c.Sm) (k : Int) (b : Bool) (ix at_ : Int) : (actS c k b ix at_).1.Few := by
 have hz : zeroC.Few := ⟨Nat.zero_le _, Nat.zero_le _, Nat.zero_le _, Nat.zero_le _, Nat.zero_le _, Nat.zero_le _⟩
 have hc := hs.few
 have g1 := hs.una; have g2 := hs.wai; have g3 := hs.ear; have g4 := hs.del; have g5 := hs.tos; have g6 := hs.bak
 have hel : ∀ (l : List ByteArray) (i : Nat), l.length ≤ 20000 → (l.eraseIdx i).length ≤ 1000000 := fun l i h => by rw [List.length_eraseIdx]; split <;> omega
 unfold actS
 split
 · exact hz
 split
 · exact hz
 split
 · exact { hc with tos := tickL_len c.base (by omega) _ _ _ hc.tos }
 split
 · exact hz
 unfold actK
 split
 · split
   · exact ackC_few (c := { c with bak := c.bak.eraseIdx _ }) { hc with bak := hel _ _ g6 } (by show c.una.length + c.wai.length ≤ _; omega) _
   · exact rcvC_few (c := { c with tos := c.tos.eraseIdx _ }) { hc with tos := hel _ _ g5 } (by show c.del.length + c.ear.length ≤ _; omega) _
 split
 · split
   · exact { hc with bak := hel _ _ g6 }
   · exact { hc with tos := hel _ _ g5 }
 split
 · split
   · exact hz
   · split
     · exact { hc with bak := by show (c.bak ++ [_]).length ≤ _; rw [List.length_append]; simp; omega }
     · exact { hc with tos := by show (c.tos ++ [_]).length ≤ _; rw [List.length_append]; simp; omega }
 · split
   · exact hz
   · split
     · exact { hc with bak := by show (c.bak.set _ _).length ≤ _; rw [List.length_set]; omega }
     · exact { hc with tos := by show (c.tos.set _ _).length ≤ _; rw [List.length_set]; omega }
end
section
theorem earB_len {nxt : Int} : ∀ {l : List Pk} {last : Int}, earB nxt last l = true → l = [] ∨ last + (l.length : Int) < nxt
 | [], _, _ => .inl rfl
 | p :: r, last, h => by
  right
  have h0 := earB_get h 0 p rfl
  unfold earB at h
  rw [Bool.and_eq_true] at h
  rcases earB_len h.2 with g | g
  · subst g; simp; omega
  · simp only [List.length_cons]; omega
variable {c : Ch}
theorem sm_of (hc : c.Few) (hk : chkC c = false) : c.Sm := by
 unfold chkC at hk
 simp only [Bool.or_eq_false_iff] at hk
 obtain ⟨⟨⟨⟨⟨h1, h2⟩, h3⟩, h4⟩, h5⟩, h6⟩ := hk
 unfold chk1 at h1
 unfold chk2 at h2
 unfold chk3 at h3
 unfold chk5 at h6
 simp only [Bool.or_eq_false_iff, decide_eq_false_iff_not, bne_eq_false_iff_eq] at h1 h2 h3 h6
 obtain ⟨⟨⟨⟨⟨a1, a2⟩, a3⟩, a4⟩, a5⟩, a6⟩ := h1
 obtain ⟨⟨b1, b2⟩, b3⟩ := h2
 obtain ⟨⟨d1, d2⟩, d3⟩ := h3
 obtain ⟨⟨⟨f1, f2⟩, f3⟩, f4⟩ := h6
 have w2 : IntKind.i64.wrap (c.nxt + (c.wai.length : Int)) = c.nxt + (c.wai.length : Int) := by
  have := hc.wai
  exact Y2
 rw [w2] at b3
 have h4' : earB c.nxt c.exp c.ear = true := by simpa using h4
 refine ⟨by omega, by omega, ?_, by omega, by omega, by omega⟩
 rcases earB_len h4' with g | g
 · rw [g]; exact Nat.zero_le _
 · omega
structure Ch.G0 (c : Ch) : Prop where
 win0 : 1 ≤ c.win
 win1 : c.win ≤ 16
 base0 : 0 ≤ c.base
 una : c.nxt - c.base = (c.una.length : Int)
 unaw : (c.una.length : Int) ≤ c.win
 nxt : c.nxt + (c.wai.length : Int) ≤ 10000
 exp0 : c.base ≤ c.exp
 exp1 : c.exp ≤ c.nxt
 expd : c.exp = (c.del.length : Int)
 earb : earB c.nxt c.exp c.ear = true
 ut : ∀ x ∈ c.una, x.size ≤ 200
 wt : ∀ x ∈ c.wai, x.size ≤ 200
 dt : ∀ x ∈ c.del, x.size ≤ 200
 tl : c.tos.length ≤ 200
 bl : c.bak.length ≤ 200
 tt : ∀ x ∈ c.tos, x.size ≤ 212
 bt : ∀ x ∈ c.bak, x.size ≤ 212
structure Ch.Gd (c : Ch) : Prop extends c.G0 where
 wai : (c.una.length : Int) < c.win → c.wai = []
variable {l : List ByteArray}
theorem any_lng {m : Nat} : l.any (lngP (m : Int)) = false ↔ ∀ x ∈ l, x.size ≤ m := by
 rw [List.any_eq_false]
 constructor
 · intro h x hx
   have := h x hx
   unfold lngP at this
   simp at this; omega
 · intro h x hx
   have := h x hx
   unfold lngP
   simp; omega
theorem gd_of (hc : c.Few) (hk : chkC c = false) : c.Gd := by
 have hr := rt_of (sm_of hc hk) hk
 unfold chkC at hk
 simp only [Bool.or_eq_false_iff] at hk
 obtain ⟨⟨⟨⟨⟨h1, h2⟩, h3⟩, h4⟩, h5⟩, h6⟩ := hk
 unfold chk4 at h5
 unfold chk5 at h6
 simp only [Bool.or_eq_false_iff, decide_eq_false_iff_not] at h5 h6
 obtain ⟨⟨e1, e2⟩, e3⟩ := h5
 obtain ⟨⟨⟨f1, f2⟩, f3⟩, f4⟩ := h6
 exact { win0 := hr.win0, win1 := hr.win1, base0 := hr.base0, una := hr.una, unaw := hr.unaw, nxt := hr.nxt, exp0 := hr.exp0, exp1 := hr.exp1, expd := hr.expd, earb := hr.earb, ut := (any_lng (m := 200)).1 e1, wt := (any_lng (m := 200)).1 e2, dt := (any_lng (m := 200)).1 e3, tl := by omega, bl := by omega, tt := (any_lng (m := 212)).1 f3, bt := (any_lng (m := 212)).1 f4, wai := hr.wai }
theorem Ch.G0.few (h : c.G0) : c.Few := by
 have h1 := h.unaw; have h2 := h.win1; have h3 := h.nxt; have h4 := h.base0; have h5 := h.una; have h6 := h.expd; have h7 := h.exp1; have h8 := h.tl; have h9 := h.bl; have h10 := h.exp0
 refine ⟨by omega, by omega, ?_, by omega, by omega, by omega⟩
 rcases earB_len h.earb with g | g
 · rw [g]; exact Nat.zero_le _
 · omega
theorem chk_of (h : c.Gd) : chkC c = false := by
 have h1 := h.unaw; have h2 := h.win1; have h3 := h.nxt; have h4 := h.base0; have h5 := h.una; have h6 := h.expd; have h7 := h.exp1; have h8 := h.tl; have h9 := h.bl; have h10 := h.exp0; have h11 := h.win0
 have w1 : IntKind.i64.wrap (c.nxt - c.base) = c.nxt - c.base := by simp [IntKind.wrap, IntKind.signed, IntKind.bits]; omega
 have w2 : IntKind.i64.wrap (c.nxt + (c.wai.length : Int)) = c.nxt + (c.wai.length : Int) := by simp [IntKind.wrap, IntKind.signed, IntKind.bits]; omega
 unfold chkC chk1 chk2 chk3 chk4 chk5
 rw [w1, w2]
 simp only [Bool.or_eq_false_iff, decide_eq_false_iff_not, bne_eq_false_iff_eq, Bool.not_eq_false']
 refine ⟨⟨⟨⟨⟨⟨⟨⟨⟨⟨by omega, by omega⟩, by omega⟩, by omega⟩, h5⟩, by omega⟩, ⟨⟨?_, by omega⟩, by omega⟩⟩, ⟨⟨by omega, by omega⟩, h6⟩⟩, h.earb⟩, ⟨⟨(any_lng (m := 200)).2 h.ut, (any_lng (m := 200)).2 h.wt⟩, (any_lng (m := 200)).2 h.dt⟩⟩, ⟨⟨⟨by omega, by omega⟩, (any_lng (m := 212)).2 h.tt⟩, (any_lng (m := 212)).2 h.bt⟩⟩
 rw [Bool.and_eq_false_iff]
 by_cases hl : (c.una.length : Int) < c.win
 · right
   rw [h.wai hl]; rfl
 · left
   exact decide_eq_false hl
theorem enC_size (q : Pk) : (enC q).size ≤ 212 := by
 unfold enC
 split
 · rename_i h
   rw [enB_size]
   have := right_size h
   omega
 · exact Nat.zero_le _
theorem earB_mono {a b : Int} (hab : a ≤ b) : ∀ {l : List Pk} {last : Int}, earB a last l = true → earB b last l = true
 | [], _, _ => rfl
 | p :: r, last, h => by
  unfold earB at h ⊢
  rw [Bool.and_eq_true] at h ⊢
  refine ⟨?_, earB_mono hab h.2⟩
  have h1 := h.1
  simp only [Bool.not_eq_true', Bool.or_eq_false_iff, decide_eq_false_iff_not] at h1 ⊢
  obtain ⟨⟨⟨k1, k2⟩, k3⟩, k4⟩ := h1
  exact ⟨⟨⟨k1, k2⟩, by omega⟩, k4⟩
theorem pushT_all (q : Pk) (h : ∀ x ∈ l, x.size ≤ 212) : ∀ x ∈ pushT l q, x.size ≤ 212 := by
 unfold pushT
 split
 · intro x hx
   rcases List.mem_append.1 hx with hx | hx
   · exact h x hx
   · rw [List.mem_singleton] at hx; subst hx; exact enC_size q
 · exact h
theorem pushT_200 (q : Pk) (h : l.length ≤ 200) : (pushT l q).length ≤ 200 := pushT_len l q (Nat.le_refl _) h
theorem nextC_eq2 (c : Ch) (m : ByteArray) : nextC c m = { ({ c with una := c.una ++ [m] } : Ch) with tos := pushT c.tos ⟨1, c.nxt, m⟩, nxt := IntKind.i64.wrap (c.nxt + 1) } := by rw [nextC_eq, pushT_eq]
theorem wrap1 {n : Int} (h0 : 0 ≤ n) (h1 : n ≤ 100000) : IntKind.i64.wrap (n + 1) = n + 1 := by simp [IntKind.wrap, IntKind.signed, IntKind.bits]; omega
theorem mem_snoc {m : ByteArray} {n : Nat} (h : ∀ x ∈ l, x.size ≤ n) (hm : m.size ≤ n) : ∀ x ∈ l ++ [m], x.size ≤ n := fun x hx => by
 rcases List.mem_append.1 hx with hx | hx
 · exact h x hx
 · rw [List.mem_singleton] at hx; subst hx; exact hm
theorem g0_next (h : c.G0) (m : ByteArray) (r : List ByteArray) (hw : c.wai = m :: r ∨ (c.nxt + (c.wai.length : Int) < 10000 ∧ c.wai = [] ∧ r = [])) (hm : m.size ≤ 200) (hl : (c.una.length : Int) < c.win) : Ch.G0 { nextC c m with wai := r } := by
 have h3 := h.nxt; have h4 := h.base0; have h5 := h.una; have h7 := h.exp1; have h10 := h.exp0; have h2 := h.win1
 have hlr : c.nxt + 1 + (r.length : Int) ≤ 10000 := by
  rcases hw with hw | ⟨hw1, hw2, rfl⟩
  · rw [hw] at h3; simp at h3; omega
  · rw [hw2] at hw1; simp at hw1 ⊢; omega
 have hwt : ∀ x ∈ r, x.size ≤ 200 := fun x hx => by
  rcases hw with hw | ⟨_, _, rfl⟩
  · exact h.wt x (by rw [hw]; exact List.mem_cons_of_mem _ hx)
  · cases hx
 rw [nextC_eq2, wrap1 (by omega) (by omega)]
 exact { win0 := h.win0, win1 := h.win1, base0 := h.base0, una := by show c.nxt + 1 - c.base = ((c.una ++ [m]).length : Int); rw [List.length_append]; simp; omega, unaw := by show ((c.una ++ [m]).length : Int) ≤ c.win; rw [List.length_append]; simp; omega, nxt := hlr, exp0 := h.exp0, exp1 := by show c.exp ≤ c.nxt + 1; omega, expd := h.expd, earb := earB_mono (show c.nxt ≤ c.nxt + 1 by omega) h.earb, ut := mem_snoc h.ut hm, wt := hwt, dt := h.dt, tl := pushT_200 _ h.tl, bl := h.bl, tt := pushT_all _ h.tt, bt := h.bt }
theorem g0_fill : ∀ (n : Nat) {c : Ch}, c.wai.length ≤ n → c.G0 → (fillN n c).Gd
 | 0, c, hn, h => { toG0 := h, wai := fun _ => List.eq_nil_of_length_eq_zero (show c.wai.length = 0 by omega) }
 | n + 1, c, hn, h => by
  unfold fillN
  cases hw : c.wai with
  | nil => exact { toG0 := h, wai := fun _ => hw }
  | cons m r =>
   show (if _ then _ else _ : Ch).Gd
   have hwl : c.wai.length = r.length + 1 := by rw [hw]; rfl
   by_cases hl : (c.una.length : Int) < c.win
   · rw [if_pos hl]
     exact g0_fill n (by show r.length ≤ n; omega) (g0_next h m r (.inl hw) (h.wt m (by rw [hw]; exact List.mem_cons_self)) hl)
   · rw [if_neg hl]
     exact { toG0 := h, wai := fun h' => absurd h' hl }
theorem gd_ack (h : c.Gd) (s : ByteArray) : (ackC c s).Gd := by
 unfold ackC
 split
 · exact h
 · rename_i hn
   have hn' := eq_false_of_ne_true hn
   simp only [Bool.or_eq_false_iff, decide_eq_false_iff_not] at hn'
   obtain ⟨⟨_, n1⟩, n2⟩ := hn'
   have h1 := h.unaw; have h2 := h.win1; have h3 := h.nxt; have h4 := h.base0; have h5 := h.una; have h7 := h.exp1; have h10 := h.exp0
   refine g0_fill _ (Nat.le_refl _) { win0 := h.win0, win1 := h.win1, base0 := by show 0 ≤ (deP s).nu; omega, una := ?_, unaw := ?_, nxt := h.nxt, exp0 := by show (deP s).nu ≤ c.exp; omega, exp1 := h.exp1, expd := h.expd, earb := h.earb, ut := fun x hx => h.ut x (List.mem_of_mem_drop hx), wt := h.wt, dt := h.dt, tl := h.tl, bl := h.bl, tt := h.tt, bt := h.bt }
   · show c.nxt - (deP s).nu = ((c.una.drop ((deP s).nu - c.base).toNat).length : Int)
     rw [List.length_drop]; omega
   · show ((c.una.drop ((deP s).nu - c.base).toNat).length : Int) ≤ c.win
     rw [List.length_drop]; omega
structure Ch.Gq (c : Ch) : Prop where
 base0 : 0 ≤ c.base
 nxt : c.nxt + (c.wai.length : Int) ≤ 10000
 exp0 : c.base ≤ c.exp
 exp1 : c.exp ≤ c.nxt
 expd : c.exp = (c.del.length : Int)
 earb : earB c.nxt (c.exp - 1) c.ear = true
 dt : ∀ x ∈ c.del, x.size ≤ 200
structure Ch.SameS (a b : Ch) : Prop where
 win : a.win = b.win
 base : a.base = b.base
 nxt : a.nxt = b.nxt
 una : a.una = b.una
 wai : a.wai = b.wai
 tos : a.tos = b.tos
 bak : a.bak = b.bak
theorem gq_del (h : c.Gq) (q : Pk) (r : List Pk) (hq : q.nu = c.exp) (hlt : q.nu < c.nxt) (hb : q.bo.size ≤ 200) (he : earB c.nxt c.exp r = true) : Ch.Gq (delC { c with ear := r } q) := by
 have h3 := h.nxt; have h4 := h.base0; have h10 := h.exp0; have h7 := h.exp1; have h6 := h.expd
 have hw : IntKind.i64.wrap (c.exp + 1) = c.exp + 1 := wrap1 (by omega) (by omega)
 unfold delC
 dsimp only
 rw [hw]
 exact { base0 := h.base0, nxt := h.nxt, exp0 := by show c.base ≤ c.exp + 1; omega, exp1 := by show c.exp + 1 ≤ c.nxt; omega, expd := by show c.exp + 1 = ((c.del ++ [q.bo]).length : Int); rw [List.length_append]; simp; omega, earb := by show earB c.nxt (c.exp + 1 - 1) r = true; rw [show c.exp + 1 - 1 = c.exp by omega]; exact he, dt := mem_snoc h.dt hb }
theorem gq_due : ∀ (n : Nat) {c : Ch}, c.ear.length ≤ n → c.Gq → (dueN n c).Gq ∧ earB (dueN n c).nxt (dueN n c).exp (dueN n c).ear = true ∧ Ch.SameS (dueN n c) c
 | 0, c, hn, h => by
  have he : c.ear = [] := List.eq_nil_of_length_eq_zero (by omega)
  refine ⟨h, ?_, ⟨rfl, rfl, rfl, rfl, rfl, rfl, rfl⟩⟩
  show earB c.nxt c.exp c.ear = true
  rw [he]; rfl
 | n + 1, c, hn, h => by
  unfold dueN
  cases hw : c.ear with
  | nil => exact ⟨h, by show earB c.nxt c.exp c.ear = true; rw [hw]; rfl, ⟨rfl, rfl, rfl, rfl, rfl, rfl, rfl⟩⟩
  | cons q r =>
   have he := h.earb
   rw [hw] at he
   have hq0 := earB_get he 0 q rfl
   have hwl : c.ear.length = r.length + 1 := by rw [hw]; rfl
   have he2 := he
   unfold earB at he2
   rw [Bool.and_eq_true] at he2
   show Ch.Gq (if _ then _ else _) ∧ earB (Ch.nxt (if _ then _ else _)) (Ch.exp (if _ then _ else _)) (Ch.ear (if _ then _ else _)) = true ∧ Ch.SameS (if _ then _ else _) c
   by_cases hq : (q.nu == c.exp) = true
   · have hq' : q.nu = c.exp := by simpa using hq
     have hg := gq_del h q r hq' hq0.2.1 hq0.2.2.2 (by rw [← hq']; exact he2.2)
     have := gq_due n (c := delC { c with ear := r } q) (by show r.length ≤ n; omega) hg
     simp only [hq, if_true]
     obtain ⟨g1, g2, g3⟩ := this
     exact ⟨g1, g2, ⟨g3.win, g3.base, g3.nxt, g3.una, g3.wai, g3.tos, g3.bak⟩⟩
   · have hq' : ¬ q.nu = c.exp := by simpa using hq
     simp only [hq, if_false]
     refine ⟨h, ?_, ⟨rfl, rfl, rfl, rfl, rfl, rfl, rfl⟩⟩
     show earB c.nxt c.exp c.ear = true
     rw [hw]
     unfold earB
     rw [Bool.and_eq_true]
     refine ⟨?_, he2.2⟩
     have h1 := he2.1
     simp only [Bool.not_eq_true', Bool.or_eq_false_iff, decide_eq_false_iff_not] at h1 ⊢
     obtain ⟨⟨⟨k1, k2⟩, k3⟩, k4⟩ := h1
     exact ⟨⟨⟨k1, by omega⟩, k3⟩, k4⟩
theorem earB_ins {nxt : Int} (q : Pk) (hk : q.kd = 1) (hn : q.nu < nxt) (hb : q.bo.size ≤ 200) : ∀ {l : List Pk} {last : Int}, earB nxt last l = true → last < q.nu → earB nxt last (insF q l) = true
 | [], last, _, hl => by
  unfold insF earB
  simp [hk]
  exact ⟨⟨⟨by omega, by omega⟩, by omega⟩, rfl⟩
 | e :: r, last, h, hl => by
  have h0 := earB_get h 0 e rfl
  have h2 := h
  unfold earB at h2
  rw [Bool.and_eq_true] at h2
  unfold insF
  by_cases h1 : e.nu = q.nu
  · rw [if_pos h1]; exact h
  · rw [if_neg h1]
    by_cases h3 : e.nu > q.nu
    · rw [if_pos h3]
      unfold earB
      rw [Bool.and_eq_true]
      refine ⟨?_, ?_⟩
      · simp [hk]; omega
      · unfold earB
        rw [Bool.and_eq_true]
        refine ⟨?_, h2.2⟩
        have h4 := h2.1
        simp only [Bool.not_eq_true', Bool.or_eq_false_iff, decide_eq_false_iff_not] at h4 ⊢
        obtain ⟨⟨⟨k1, k2⟩, k3⟩, k4⟩ := h4
        exact ⟨⟨⟨k1, by omega⟩, k3⟩, k4⟩
    · rw [if_neg h3]
      unfold earB
      rw [Bool.and_eq_true]
      exact ⟨h2.1, earB_ins q hk hn hb h2.2 (by omega)⟩
theorem right_of {s : ByteArray} (h : deE s = 0) : (deP s).right = true := by
 unfold deE at h
 unfold deP
 split at h
 · cases h
 · rename_i h1
   rw [if_neg h1]
   split at h
   · cases h
   · rename_i h2
     rw [if_neg h2]
     have h3 := eq_false_of_ne_true h2
     unfold deW at h3
     simp only [Bool.or_eq_false_iff] at h3
     simpa using h3.2
theorem gd_ans (h : c.Gd) : (ansC c).Gd := by
 unfold ansC sendB
 split
 · rename_i hl
   exact { h with bl := by show (c.bak ++ [_]).length ≤ 200; rw [List.length_append]; simp; omega, bt := mem_snoc h.bt (enC_size _) }
 · exact h
theorem gd_rcvG (h : c.Gd) (q : Pk) (hk : q.kd = 1) (hb : q.bo.size ≤ 200) : (rcvG c q).Gd := by
 have h3 := h.nxt; have h4 := h.base0; have h10 := h.exp0; have h7 := h.exp1
 unfold rcvG
 split
 · rename_i hc
   rw [Bool.and_eq_true] at hc
   have c1 : q.nu = c.exp := by simpa using hc.1
   have c2 := oR hc.2
   have hg : Ch.Gq (delC c q) := by
    have hw : IntKind.i64.wrap (c.exp + 1) = c.exp + 1 := wrap1 (by omega) (by omega)
    unfold delC
    rw [hw]
    exact { base0 := h.base0, nxt := h.nxt, exp0 := by show c.base ≤ c.exp + 1; omega, exp1 := by show c.exp + 1 ≤ c.nxt; omega, expd := by show c.exp + 1 = ((c.del ++ [q.bo]).length : Int); rw [List.length_append]; simp; have := h.expd; omega, earb := by show earB c.nxt (c.exp + 1 - 1) c.ear = true; rw [show c.exp + 1 - 1 = c.exp by omega]; exact h.earb, dt := mem_snoc h.dt hb }
   obtain ⟨g1, g2, g3⟩ := gq_due c.ear.length (c := delC c q) (Nat.le_refl _) hg
   have e1 : (delC c q).win = c.win := rfl
   exact { win0 := by rw [g3.win]; exact h.win0, win1 := by rw [g3.win]; exact h.win1, base0 := g1.base0, una := by rw [g3.nxt, g3.base, g3.una]; exact h.una, unaw := by rw [g3.win, g3.una]; exact h.unaw, nxt := g1.nxt, exp0 := g1.exp0, exp1 := g1.exp1, expd := g1.expd, earb := g2, ut := by rw [g3.una]; exact h.ut, wt := by rw [g3.wai]; exact h.wt, dt := g1.dt, tl := by rw [g3.tos]; exact h.tl, bl := by rw [g3.bak]; exact h.bl, tt := by rw [g3.tos]; exact h.tt, bt := by rw [g3.bak]; exact h.bt, wai := by rw [g3.una, g3.win, g3.wai]; exact h.wai }
 · split
   · rename_i hc
     rw [Bool.and_eq_true, Bool.and_eq_true] at hc
     have c1 := oR hc.1.1
     have c3 := oR hc.2
     exact { h with earb := earB_ins q hk c3 hb h.earb c1 }
   · exact h
theorem rcv_ofG (h : c.Gd) : c.Rcv := by
 have hk := chk_of h
 have hs := sm_of h.few hk
 exact rcv_of hs (rt_of hs hk)
theorem gd_rcv (h : c.Gd) (s : ByteArray) : (rcvC c s).Gd := by
 rw [← rcvF_eq (rcv_ofG h)]
 unfold rcvF
 split
 · exact h
 · rename_i hn
   have hn' := eq_false_of_ne_true hn
   rw [Bool.or_eq_false_iff] at hn'
   have e0 : deE s = 0 := by simpa using hn'.1
   have k0 : (deP s).kd = 1 := by simpa using hn'.2
   exact gd_ans (gd_rcvG h _ k0 (right_size (right_of e0)))
theorem gd_tick (h : c.Gd) : (tickC c).Gd := by
 have key : ∀ (l : List ByteArray) (z : Nat) (T : List ByteArray), T.length ≤ 200 → (∀ x ∈ T, x.size ≤ 212) → (tickL c.base z l T).length ≤ 200 ∧ ∀ x ∈ tickL c.base z l T, x.size ≤ 212 := by
  intro l
  induction l with
  | nil => exact fun z T h1 h2 => ⟨h1, h2⟩
  | cons m r ih => exact fun z T h1 h2 => ih (z + 1) _ (pushT_200 _ h1) (pushT_all _ h2)
 obtain ⟨k1, k2⟩ := key c.una 0 c.tos h.tl h.tt
 exact { h with tl := k1, tt := k2 }
theorem gd_tos (h : c.Gd) (l : List ByteArray) (h1 : l.length ≤ 200) (h2 : ∀ x ∈ l, x.size ≤ 212) : Ch.Gd { c with tos := l } := { h with tl := h1, tt := h2 }
theorem gd_bak (h : c.Gd) (l : List ByteArray) (h1 : l.length ≤ 200) (h2 : ∀ x ∈ l, x.size ≤ 212) : Ch.Gd { c with bak := l } := { h with bl := h1, bt := h2 }
theorem erase_ok (i : Nat) (h1 : l.length ≤ 200) (h2 : ∀ x ∈ l, x.size ≤ 212) : (l.eraseIdx i).length ≤ 200 ∧ ∀ x ∈ l.eraseIdx i, x.size ≤ 212 :=
 ⟨by rw [List.length_eraseIdx]; split <;> omega, fun x hx => h2 x (List.mem_of_mem_eraseIdx hx)⟩
theorem gd_act (h : c.Gd) (k : Int) (b : Bool) (ix at_ : Int) : (actS c k b ix at_ = (zeroC, (actS c k b ix at_).2) ∧ (actS c k b ix at_).2 ≠ 0) ∨ ((actS c k b ix at_).1.Gd ∧ (actS c k b ix at_).2 = 0) := by
 unfold actS
 rw [chk_of h, if_neg (by decide)]
 by_cases h15 : k < 1 ∨ 5 < k
 · rw [if_pos h15]; exact .inl ⟨rfl, by decide⟩
 rw [if_neg h15]
 by_cases h5 : k = 5
 · rw [if_pos h5]; exact .inr ⟨gd_tick h, rfl⟩
 rw [if_neg h5]
 by_cases hix : ix < 0 ∨ ((flt c b).length : Int) ≤ ix
 · rw [if_pos hix]; exact .inl ⟨rfl, by decide⟩
 rw [if_neg hix]
 obtain ⟨i, rfl⟩ : ∃ i : Nat, ix = (i : Int) := ⟨ix.toNat, by omega⟩
 rw [Int.toNat_natCast]
 have hif : i < (flt c b).length := by omega
 obtain ⟨x, hx⟩ : ∃ x, (flt c b)[i]? = some x := ⟨_, gE hif⟩
 rw [List.getD_eq_getElem?_getD, hx, Option.getD_some]
 have hxm := mG hx
 obtain ⟨t1, t2⟩ := erase_ok i h.tl h.tt
 obtain ⟨b1, b2⟩ := erase_ok i h.bl h.bt
 have hx2 : x.size ≤ 212 := by
  cases b with
  | true => exact h.bt x hxm
  | false => exact h.tt x hxm
 unfold actK
 by_cases k1 : k = 1
 · rw [if_pos k1]
   right
   cases b with
   | true => exact ⟨gd_ack (gd_bak h _ b1 b2) x, rfl⟩
   | false => exact ⟨gd_rcv (gd_tos h _ t1 t2) x, rfl⟩
 rw [if_neg k1]
 by_cases k2 : k = 2
 · rw [if_pos k2]
   right
   cases b with
   | true => exact ⟨gd_bak h _ b1 b2, rfl⟩
   | false => exact ⟨gd_tos h _ t1 t2, rfl⟩
 rw [if_neg k2]
 by_cases k3 : k = 3
 · rw [if_pos k3]
   by_cases hl : (flt c b).length = 200
   · rw [if_pos hl]; exact .inl ⟨rfl, by decide⟩
   · rw [if_neg hl]
     right
     cases b with
     | true =>
      have hl' : ¬ c.bak.length = 200 := hl
      exact ⟨gd_bak h _ (by rw [List.length_append]; have := h.bl; simp; omega) (mem_snoc h.bt hx2), rfl⟩
     | false =>
      have hl' : ¬ c.tos.length = 200 := hl
      exact ⟨gd_tos h _ (by rw [List.length_append]; have := h.tl; simp; omega) (mem_snoc h.tt hx2), rfl⟩
 rw [if_neg k3]
 by_cases ha : at_ < 0 ∨ at_ ≥ (x.size : Int)
 · rw [if_pos ha]; exact .inl ⟨rfl, by decide⟩
 · rw [if_neg ha]
   right
   have hsz : (x.extract 0 at_.toNat).size ≤ 212 := by simp; omega
   have hset : ∀ (l : List ByteArray), l.length ≤ 200 → (∀ y ∈ l, y.size ≤ 212) → (l.set i (x.extract 0 at_.toNat)).length ≤ 200 ∧ ∀ y ∈ l.set i (x.extract 0 at_.toNat), y.size ≤ 212 := fun l h1 h2 => ⟨by rw [List.length_set]; exact h1, fun y hy => by
    rcases List.mem_or_eq_of_mem_set hy with hy | hy
    · exact h2 y hy
    · subst hy; exact hsz⟩
   cases b with
   | true => exact ⟨gd_bak h _ (hset _ h.bl h.bt).1 (hset _ h.bl h.bt).2, rfl⟩
   | false => exact ⟨gd_tos h _ (hset _ h.tl h.tt).1 (hset _ h.tl h.tt).2, rfl⟩
end
end Go.Proofs.YtoonleefemkalaaDoor
