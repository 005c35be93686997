import Derived.Test.YtklkbfpjimeaoaaM6
/- Contracts of functions. Conditions: none. -/
set_option linter.unusedSimpArgs false
set_option linter.unusedVariables false
namespace Go.Proofs.Ytklkbfpjimeaoaa.E
open Go
variable {K : Ctx} {ops : Array Oper} {Q : Exit → GS → Prop} {s s' s'' : GS} {i : Nat} {rest : List Nat} {o : Oper}
theorem J1 {A : Prop} (h : A := by simp only [GS.set, PV.copy, PV.copies, mkAgg, PV.toDs, PV.toD, splice, List.set_cons_zero, List.set_cons_succ, List.take_zero, List.take_succ_cons, List.drop_zero, List.drop_succ_cons, List.nil_append, List.cons_append, List.append_nil, List.length_cons, List.length_nil, Nat.reduceAdd, Nat.zero_add, Nat.add_zero, List.take_nil, List.drop_nil, List.map_cons, List.map_nil, PV.cellsOf, Option.map_some, GS.ev, GS.get, List.lookup_cons, Nat.reduceBEq, Option.getD_some, Option.getD_none, List.lookup_nil, ofConst] <;> rfl) : A := h
theorem sv (ho : ops[i]? = some o) (hy : Yld K o s s') (h : GOps K ops Q rest s'') (hg : o.guard = none := by rfl)
 (hs : s' = s'' := by exact J1) : GOps K ops Q (i :: rest) s := S_val ho hg hy hs h
theorem sa (ho : ops[i]? = some o) (hy : Does K o s s') (h : GOps K ops Q rest s'') (hg : o.guard = none := by rfl)
 (hs : s' = s'' := by exact J1) : GOps K ops Q (i :: rest) s := S_act ho hg hy hs h
variable {j t u : Nat} {want : Bool} {oj : Oper} {p q : PV}
theorem J0 {A : Prop} (h : A := by simp only [GS.ev, GS.get, List.lookup_cons, Nat.reduceBEq, Option.getD_some, Option.getD_none, List.lookup_nil, ofConst] <;> rfl) : A := h
theorem sg {b : Bool}
 (ho : ops[i]? = some o) (hy : b = true → Qy K o s t p) (h : GOps K ops Q rest s'') (hg : o.guard = some (j, want) := by rfl) (hj : ops[j]? = some oj := by rfl) (hjd : oj.dst = some u := by rfl)
 (hsu : s.get u = some q := by exact J0) (hgd : q.guard want = some b := by rfl) (hu : u < K.n := by exact oR rfl) (hd : o.dst = some t := by rfl) (ht : t < K.n := by exact oR rfl)
 (hs : s.set t (.when b p) = s'' := by exact J1) : GOps K ops Q (i :: rest) s := by
 subst hs; exact GOps_guard ho hg hj hjd hsu hgd hu hd ht (fun hb => Yld_pure hd ht (hy hb)) h
variable {n : Nat}
theorem gR {id : Nat} {l : List Nat} (h : GOps K ops Q l s) (hn : ops.size = n := by rfl) (hl : List.range n = l := by rfl) : G K (.region id ops false) Q s := G_region n l hn hl h
def GS.keep (l : List Nat) (s : GS) : GS := ⟨s.slots.filter fun x => l.contains x.1, s.mem⟩
theorem GS.keep_get (l : List Nat) : ∀ (sl : List (Nat × PV)) (i : Nat) (p : PV), (sl.filter fun x => l.contains x.1).lookup i = some p → sl.lookup i = some p
 | [], _, _, h => by cases h
 | (j, q) :: r, i, p, h => by
  rw [List.filter_cons] at h
  by_cases hj : l.contains j = true
  · rw [if_pos hj] at h
    rw [List.lookup_cons] at h ⊢
    cases hb : (i == j) with
    | true => rw [hb] at h; exact h
    | false => rw [hb] at h; exact GS.keep_get l r i p h
  · rw [if_neg hj] at h
    have hr := GS.keep_get l r i p h
    rw [List.lookup_cons]
    cases hb : (i == j) with
    | true =>
     exfalso
     have hij : i = j := by simpa using hb
     subst hij
     apply hj
     have hex : ∀ (sl : List (Nat × PV)), (sl.filter fun x => l.contains x.1).lookup i = some p → l.contains i = true := by
      intro sl
      induction sl with
      | nil => intro h; cases h
      | cons x r ih =>
       intro h
       rw [List.filter_cons] at h
       split at h
       · rename_i hx
         obtain ⟨y, z⟩ := x
         rw [List.lookup_cons] at h
         cases hb : (i == y) with
         | true => have : i = y := by simpa using hb
                   subst this; exact hx
         | false => rw [hb] at h; exact ih h
       · exact ih h
     exact hex r h
    | false => exact hr
theorem J4 {A : Prop} (h : A := by simp only [GS.keep, List.filter_cons, List.filter_nil, List.contains_cons, List.contains_nil, Nat.reduceBEq, Bool.or_false, Bool.false_or, Bool.or_true, Bool.true_or, if_true, if_false, Bool.false_eq_true] <;> rfl) : A := h
theorem gP {c : Code} (l : List Nat) (h : G K c Q s')
 (hs : GS.keep l s = s' := by exact J4) : G K c Q s := by
 subst hs
 refine G_le (s' := GS.keep l s) (fun a w ⟨S, O, m, hr⟩ => ⟨S, O, m, hr.env, hr.defers, hr.size, hr.pre, fun i p hp => hr.slots i p (GS.keep_get l s.slots i p hp)⟩) h
variable {c : Operand}
theorem zgC {x y : Code} {b : Bool} (hx : b = true → G K x Q s) (hy : b = false → G K y Q s) (hc : s.ev c = .d (.bool b) := by exact J0) : G K (.cond c x y) Q s := G_cond hc hx hy
def Fok (P : Program) (f : FuncId) : Prop := ∃ fn, P.funcs[f]? = some fn ∧ fn.body.isSome = true ∧ (fn.name == "runtime.NumGoroutine") = false
def Pf (P : Program) (f : FuncId) (args : List D) (r : PV) : Prop := Fok P f ∧ Pure P f args r
variable {P : Program} {f : FuncId} {r : PV}
theorem pf_body {fn : Func} {c : Code} {args : List D} {rvs : List ResultVar} (slots : List (Nat × PV)) (hf : P.funcs[f]? = some fn) (hn : fn.ntmps = n) (hres : fn.results = rvs.toArray)
 (h : ∀ S0 O0 w0 m0, m0.length = 0 → G ⟨P, n, S0, O0, w0, m0, [], []⟩ c (Fin P rvs 0 (fun q m => q = r ∧ m = [])) ⟨slots, []⟩)
 (hb : fn.body = some c := by rfl) (hnm : (fn.name == "runtime.NumGoroutine") = false := by rfl) (hal : args.length ≤ n := by exact oR rfl) (hsl : (List.range (args.map PV.d).length).zip (args.map PV.d) = slots := by rfl) : Pf P f args r :=
 ⟨⟨fn, hf, by rw [hb]; rfl, hnm⟩, gcall_body n rvs slots 0 hf hb hn (by simpa using hal) hres hsl rfl h⟩
variable {fx : Operand} {xs : List Operand} {tys : Array TypeId} {ty : TypeId} {pos : String} {af : Array Edge}
theorem J3 {A : Prop} (h : A := by simp only [GS.ev, GS.get, List.lookup_cons, Nat.reduceBEq, Option.getD_some, Option.getD_none, List.lookup_nil, ofConst, PV.callee, PV.toDs] <;> rfl) : A := h
theorem J7 {A : Prop} (h : A := by simp only [List.map_cons, List.map_nil, GS.ev, GS.get, List.lookup_cons, Nat.reduceBEq, Option.getD_some, Option.getD_none, List.lookup_nil, ofConst, PV.toDs, PV.toD] <;> rfl) : A := h
theorem gL {fa fc ds args : List D}
 (ho : ops[i]? = some ⟨some t, .call ⟨.value fx, xs.toArray, tys⟩, ty, pos, af, none⟩) (hc : Pf K.P f args r) (h : GOps K ops Q rest s'')
 (hfx : (s.ev fx).callee = some (f, fa, fc) := by exact J3) (hxs : PV.toDs (xs.map s.ev) = some ds := by exact J7)
 (ht : t < K.n := by exact oR rfl) (ha : args = fa ++ ds ++ fc := by rfl)
 (hs : s.set t r = s'' := by exact J1) : GOps K ops Q (i :: rest) s := by
 subst ha; subst hs
 obtain ⟨⟨fn, hf, hb, hn⟩, hc⟩ := hc
 exact GOps_call ho rfl rfl rfl hfx hxs hf hb hn ht hc (fun r' m' hr => by obtain ⟨rfl, rfl⟩ := hr; exact ⟨rfl, h⟩)
theorem J6 {A : Prop} (h : A := by simp only [List.map_cons, List.map_nil, GS.ev, GS.get, List.lookup_cons, Nat.reduceBEq, Option.getD_some, Option.getD_none, List.lookup_nil, ofConst, PV.toDUs, PV.toDU, PV.toD, if_true] <;> rfl) : A := h
theorem g_callg {b : Bool} {fa fc ds args : List D} {x : D}
 (ho : ops[i]? = some ⟨some t, .call ⟨.value fx, xs.toArray, tys⟩, ty, pos, af, some (j, want)⟩) (hc : b = true → Pf K.P f args (.d x)) (h : GOps K ops Q rest s'')
 (hj : ops[j]? = some oj := by rfl) (hjd : oj.dst = some u := by rfl) (hsu : s.get u = some q := by exact J0) (hgd : q.guard want = some b := by rfl) (hu : u < K.n := by exact oR rfl)
 (hfx : (s.ev fx).callee = some (f, fa, fc) := by exact J3) (hxs : PV.toDUs b (xs.map s.ev) = some ds := by exact J6)
 (ht : t < K.n := by exact oR rfl) (ha : args = fa ++ ds ++ fc := by rfl)
 (hs : s.set t (.when b (.d x)) = s'' := by exact J1) : GOps K ops Q (i :: rest) s := by
 subst hs; subst ha
 rintro a w ⟨S, O, m, hr⟩
 have hyl := wanted_of hr hj hjd hsu hu hgd
 by_cases hb : b = true
 · obtain ⟨⟨fn, hf, hbd, hn⟩, hc1⟩ := hc hb
   subst hb
   have hw : Region.wanted ⟨some t, .call ⟨.value fx, xs.toArray, tys⟩, ty, pos, af, some (j, want)⟩ (yielded ops a.tmps) = true := by simp only [Region.wanted]; rw [hyl]
   simp only [wpOps, ho, hw, if_true]
   obtain ⟨g1, g2⟩ := PV.toDUs_get _ _ _ hxs
   refine .inl (call_wp hr rfl rfl hfx (by simpa using g1) (fun i d v hi hv => ?_) hf hbd hn ht hc1 (fun a' w' ⟨S', O', m', hr'⟩ => h a' w' ⟨S', O', m', hr'.env, hr'.defers, hr'.size, hr'.pre, fun i q hq => ?_⟩))
   · obtain ⟨p, hp, hpd⟩ := g2 i d hi
     rw [List.getElem?_map] at hp hv
     cases hx : xs[i]? with
     | none => simp [hx] at hp
     | some y =>
      simp only [hx, Option.map_some, Option.some.injEq] at hp hv
      subst hp; subst hv
      obtain ⟨l, hry⟩ := hr.ev y
      exact hry.toDU hpd
   · rw [GS.get_set] at hq
     by_cases hi : i = t
     · rw [if_pos hi] at hq; injection hq with hq; subst hq; subst hi
       exact .whenT _ _ _ _ rfl (hr'.slots i (.d x) (by rw [GS.get_set, if_pos rfl]))
     · rw [if_neg hi] at hq; exact hr'.slots i q (by rw [GS.get_set, if_neg hi]; exact hq)
 · have hw : Region.wanted ⟨some t, .call ⟨.value fx, xs.toArray, tys⟩, ty, pos, af, some (j, want)⟩ (yielded ops a.tmps) = false := by simp only [Region.wanted]; rw [hyl]; simpa using hb
   simp only [wpOps, ho, hw, if_false, Bool.false_eq_true]
   refine h _ _ ⟨S, O, m, hr.put ht ?_⟩
   exact .whenF _ _ _ (by simpa using hb)
theorem sgo {b : Bool}
 (ho : ops[i]? = some o) (hb : b = true) (hy : Yld K o s s') (h : GOps K ops Q rest s'') (hg : o.guard = some (j, want) := by rfl) (hj : ops[j]? = some oj := by rfl) (hjd : oj.dst = some u := by rfl)
 (hsu : s.get u = some q := by exact J0) (hgd : q.guard want = some b := by rfl) (hu : u < K.n := by exact oR rfl)
 (hs : s' = s'' := by exact J1) : GOps K ops Q (i :: rest) s := by
 subst hs; subst hb
 rintro a w ⟨S, O, m, hr⟩
 have hyl := wanted_of hr hj hjd hsu hu hgd
 obtain ⟨v, w', hrun, hr'⟩ := hy a w ⟨S, O, m, hr⟩
 have hw : Region.wanted o (yielded ops a.tmps) = true := by simp only [Region.wanted, hg]; exact hyl
 simp only [wpOps, ho, hw, if_true]
 exact .inl (by simp only [Oper.wp, hrun, Oper.upon_value]; exact h _ _ hr')
def Gm (P : Program) (f : FuncId) (args : List PV) (mem : List (List PV)) (r : PV) (mem' : List (List PV)) : Prop := Fok P f ∧ GCall P f args mem (fun q m => q = r ∧ m = mem')
theorem gm_body {fn : Func} {c : Code} {args : List PV} {mem mem' : List (List PV)} {rvs : List ResultVar} (k : Nat) (slots : List (Nat × PV)) (hf : P.funcs[f]? = some fn) (hn : fn.ntmps = n) (hres : fn.results = rvs.toArray)
 (h : ∀ S0 O0 w0 m0, m0.length = k → G ⟨P, n, S0, O0, w0, m0, [], []⟩ c (Fin P rvs k (fun q m => q = r ∧ m = mem')) ⟨slots, mem⟩)
 (hb : fn.body = some c := by rfl) (hnm : (fn.name == "runtime.NumGoroutine") = false := by rfl) (hal : args.length ≤ n := by exact oR rfl) (hsl : (List.range args.length).zip args = slots := by rfl) (hk : mem.length = k := by rfl) : Gm P f args mem r mem' :=
 ⟨⟨fn, hf, by rw [hb]; rfl, hnm⟩, gcall_body n rvs slots k hf hb hn hal hres hsl hk h⟩
theorem g_callm {fa fc args0 : List PV} {mem0 mem1 : List (List PV)} (sel : List Nat)
 (ho : ops[i]? = some ⟨some t, .call ⟨.value fx, xs.toArray, tys⟩, ty, pos, af, none⟩) (hc : Gm K.P f args0 mem0 r mem1) (h : GOps K ops Q rest s'')
 (hfx : (s.ev fx).callee' = some (f, fa, fc) := by simp only [GS.ev, GS.get, List.lookup_cons, Nat.reduceBEq, Option.getD_some, Option.getD_none, List.lookup_nil, ofConst, PV.callee'] <;> rfl) (hargs : PV.copies (fa ++ xs.map s.ev ++ fc) = PV.rens (fun b => sel.getD b 0) args0 := by rfl)
 (hnd : sel.Nodup := by decide) (hsel : ∀ b ∈ sel, b < s.mem.length := by simp) (hmem : sel.map (fun b => s.mem.getD b []) = mem0.map (PV.rens (fun b => sel.getD b 0)) := by rfl)
 (hra : PV.refsBs sel.length args0 = true := by rfl) (hrm : mem0.all (PV.refsBs sel.length) = true := by rfl) (hl : mem1.length = sel.length := by rfl)
 (ht : t < K.n := by exact oR rfl) (hs : GS.set ⟨s.slots, setAll s.mem sel (mem1.map (PV.rens (fun b => sel.getD b 0)))⟩ t (r.ren (fun b => sel.getD b 0)) = s'' := by simp only [setAll, PV.rens, PV.ren, GS.set, PV.copy, PV.copies, mkAgg, PV.toDs, PV.toD, splice, List.set_cons_zero, List.set_cons_succ, List.take_zero, List.take_succ_cons, List.drop_zero, List.drop_succ_cons, List.nil_append, List.cons_append, List.append_nil, List.length_cons, List.length_nil, Nat.reduceAdd, Nat.zero_add, Nat.add_zero, List.take_nil, List.drop_nil, List.map_cons, List.map_nil, PV.cellsOf, Option.map_some, GS.ev, GS.get, List.lookup_cons, Nat.reduceBEq, Option.getD_some, Option.getD_none, List.lookup_nil, ofConst] <;> rfl) : GOps K ops Q (i :: rest) s := by
 subst hs
 obtain ⟨⟨fn, hf, hb, hn⟩, hc⟩ := hc
 exact GOps_callm sel args0 mem0 ho rfl rfl rfl hfx hargs hnd hsel hmem hra hrm hf hb hn ht hc (fun r' m' hr => by obtain ⟨rfl, rfl⟩ := hr; exact ⟨hl, h⟩)
theorem le_of (hk : K.m0.length ≤ s'.mem.length := by first | (dsimp only [List.length_cons, List.length_nil, List.length_append]; omega) | simp_all)
 (hm : MSub s'.mem.length s.mem s'.mem := by repeat (first | exact MSub.nil | (refine MSub.cons (by repeat (first | exact CSub.nil | refine CSub.cons (by first | exact .inl rfl | exact .inr (.inr (.inl ⟨rfl, _, rfl⟩)) | exact .inr (.inr (.inr (.inl ⟨rfl, rfl⟩))) | exact .inr (.inl rfl) | exact .inr (.inr (.inr (.inr ⟨_, _, rfl, rfl⟩)))) rfl ?_ | exact CSub_flat _ _)) ?_)))
 (hs : Sub s s'.mem.length s'.slots := by repeat (first | exact Sub.nil | refine Sub.cons (by exact J0) (by first | exact .inl rfl | exact .inr (.inr (.inl ⟨rfl, _, rfl⟩)) | exact .inr (.inr (.inr (.inl ⟨rfl, rfl⟩))) | exact .inr (.inl rfl) | exact .inr (.inr (.inr (.inr ⟨_, _, rfl, rfl⟩)))) rfl ?_)) : Le K s s' := Le_of hk hm hs
theorem gF {l : List Nat} (n : Nat) (keep : List (List PV)) {cs : List PV} {ds : List D} (d : D) (hmem : s.mem = keep ++ [cs]) (hg : GOps K ops Q l s'') (hk : K.m0.length ≤ n := by first | (dsimp only [List.length_cons, List.length_nil]; omega) | simp_all) (hn : keep.length = n := by rfl)
 (hds : PV.toDs cs = some ds := by simp only [PV.toDs, PV.toD] <;> rfl) (hd : d.cells = ds := by first | rfl | assumption) (hrf : keep.all (PV.refsBs n) = true := by rfl)
 (hs : GS.mk (s.slots.map fun x => (x.1, PV.frz n (ptrF d) noH .undef x.2)) keep = s'' := by simp only [List.map_cons, List.map_nil, PV.frz, PV.frzs, ptrF, noH, if_true, if_false, Nat.reduceEqDiff] <;> rfl) : GOps K ops Q l s := by
 subst hs; exact GOps_le (Le_freeze n hmem hn hds hd hk hrf) hg
theorem g_loop {c : Code} {α : Type} (St : α → GS) (mu : α → Nat) (I : α → Prop) (x0 : α) (h0 : I x0)
 (hr : ∀ x, I x → ∀ Q' : Exit → GS → Prop, (∀ s' x', I x' → mu x' < mu x → Le K s' (St x') → Q' .normal s') → (∀ id s', Q (.exit id) s' → Q' (.exit id) s') → (∀ s', Q .ret s' → Q' .ret s') → G K c Q' (St x)) 
 (hs : Le K s (St x0)) : G K (.loop c) Q s := G_loop' St mu I x0 h0 hs hr
theorem fin1 {R : PV → List (List PV) → Prop} {e : Exit} (he : e = .normal ∨ e = .ret) (hR : R q []) (hs : s.get t = some p := by exact J0) (hq : p.copy = q := by exact J1) (hb : PV.refsB 0 q = true := by rfl) :
 Fin P [.tmp t] 0 R e s := ⟨he, .inl ⟨[p.copy], [], .cons (.tmp hs) .nil, Nat.le_refl _, .nil, by simp only [tupOf]; rw [hq]; exact hb, by simp only [tupOf]; rw [hq]; exact hR⟩⟩
theorem J11 {A : Prop} (h : A := by simp only [PV.toD, PV.toDs, Option.map_some] <;> rfl) : A := h
theorem find1 {d : D} {R : PV → List (List PV) → Prop} {e : Exit} (he : e = .normal ∨ e = .ret) (hR : R (.d d) []) (hs : s.get t = some p := by exact J0) (hq : p.toD = some d := by exact J11) :
 Fin P [.tmp t] 0 R e s := ⟨he, .inl ⟨[.d d], [], .cons (.dat hs hq) .nil, Nat.le_refl _, .nil, rfl, hR⟩⟩
theorem find2 {d x : D} {R : PV → List (List PV) → Prop} {e : Exit} (he : e = .normal ∨ e = .ret) (hR : R (.tup [.d d, .d x]) []) (hs : s.get t = some p := by exact J0) (hq : p.toD = some d := by exact J11)
 (hs' : s.get u = some q := by exact J0) (hq' : q.toD = some x := by exact J11) :
 Fin P [.tmp t, .tmp u] 0 R e s := ⟨he, .inl ⟨[.d d, .d x], [], .cons (.dat hs hq) (.cons (.dat hs' hq') .nil), Nat.le_refl _, .nil, rfl, hR⟩⟩
theorem finm {mem' : List (List PV)} {R : PV → List (List PV) → Prop} {e : Exit} (he : e = .normal ∨ e = .ret) (hR : R (.tup []) mem')
 (hm : MSub n s.mem mem' := by repeat (first | exact MSub.nil | (refine MSub.cons (by repeat (first | exact CSub.nil | refine CSub.cons (.inl rfl) rfl ?_)) ?_))) (hl : mem'.length = n := by rfl) : Fin P [] n R e s :=
 ⟨he, .inl ⟨[], mem', .nil, Nat.le_of_eq hl.symm, by rw [hl]; exact hm, by simp only [tupOf]; rfl, hR⟩⟩
variable {x : Operand} {g : Option (Nat × Bool)}
theorem qM (hp : s.ev x = p := by exact J0) (ht : t < K.n := by exact oR rfl) :
 Qy K ⟨some t, .move x, ty, pos, af, g⟩ s t p.copy := Q_move hp ht
theorem y_move (hp : s.ev x = p := by exact J0) (ht : t < K.n := by exact oR rfl) :
 Yld K ⟨some t, .move x, ty, pos, af, g⟩ s (s.set t p.copy) := Y_move hp ht
theorem qA (hp : s.ev x = p := by exact J0) (ht : t < K.n := by exact oR rfl) :
 Qy K ⟨some t, .assign x, ty, pos, af, g⟩ s t p.copy := Q_assign hp ht
variable {yt rt : TypeId} {y : Operand} {k : IntKind} {a b : Int}
theorem q_eql (hx : s.ev x = .d (.int k a) := by exact J0) (hy : s.ev y = .d (.int k b) := by exact J0) (ht : t < K.n := by exact oR rfl) :
 Qy K ⟨some t, .binOp .eql ty x y yt, rt, pos, af, g⟩ s t (.d (.bool (a == b))) := Q_eql hx hy ht
theorem y_eql (hx : s.ev x = .d (.int k a) := by exact J0) (hy : s.ev y = .d (.int k b) := by exact J0) (ht : t < K.n := by exact oR rfl) :
 Yld K ⟨some t, .binOp .eql ty x y yt, rt, pos, af, g⟩ s (s.set t (.d (.bool (a == b)))) := Y_eql hx hy ht
theorem q_neq (hx : s.ev x = .d (.int k a) := by exact J0) (hy : s.ev y = .d (.int k b) := by exact J0) (ht : t < K.n := by exact oR rfl) :
 Qy K ⟨some t, .binOp .neq ty x y yt, rt, pos, af, g⟩ s t (.d (.bool (a != b))) := Q_neq hx hy ht
theorem y_neq (hx : s.ev x = .d (.int k a) := by exact J0) (hy : s.ev y = .d (.int k b) := by exact J0) (ht : t < K.n := by exact oR rfl) :
 Yld K ⟨some t, .binOp .neq ty x y yt, rt, pos, af, g⟩ s (s.set t (.d (.bool (a != b)))) := Y_neq hx hy ht
theorem q_lss (hx : s.ev x = .d (.int k a) := by exact J0) (hy : s.ev y = .d (.int k b) := by exact J0) (ht : t < K.n := by exact oR rfl) :
 Qy K ⟨some t, .binOp .lss ty x y yt, rt, pos, af, g⟩ s t (.d (.bool (decide (a < b)))) := Q_lss hx hy ht
theorem q_leq (hx : s.ev x = .d (.int k a) := by exact J0) (hy : s.ev y = .d (.int k b) := by exact J0) (ht : t < K.n := by exact oR rfl) :
 Qy K ⟨some t, .binOp .leq ty x y yt, rt, pos, af, g⟩ s t (.d (.bool (decide (a ≤ b)))) := Q_leq hx hy ht
theorem q_gtr (hx : s.ev x = .d (.int k a) := by exact J0) (hy : s.ev y = .d (.int k b) := by exact J0) (ht : t < K.n := by exact oR rfl) :
 Qy K ⟨some t, .binOp .gtr ty x y yt, rt, pos, af, g⟩ s t (.d (.bool (decide (a > b)))) := Q_gtr hx hy ht
theorem q_geq (hx : s.ev x = .d (.int k a) := by exact J0) (hy : s.ev y = .d (.int k b) := by exact J0) (ht : t < K.n := by exact oR rfl) :
 Qy K ⟨some t, .binOp .geq ty x y yt, rt, pos, af, g⟩ s t (.d (.bool (decide (a ≥ b)))) := Q_geq hx hy ht
theorem q_add {r : Int} (hx : s.ev x = .d (.int k a) := by exact J0) (hy : s.ev y = .d (.int k b) := by exact J0) (hw : k.wrap (a + b) = r := by first | exact wrap_succ (by omega) | exact wrap_add (by omega) (by omega) | rfl) (ht : t < K.n := by exact oR rfl) :
 Qy K ⟨some t, .binOp .add ty x y yt, rt, pos, af, g⟩ s t (.d (.int k r)) := Q_add hx hy hw ht
theorem q_sub {r : Int} (hx : s.ev x = .d (.int k a) := by exact J0) (hy : s.ev y = .d (.int k b) := by exact J0) (hw : k.wrap (a - b) = r := by first | exact wrap_sub (by omega) (by omega) | rfl) (ht : t < K.n := by exact oR rfl) :
 Qy K ⟨some t, .binOp .sub ty x y yt, rt, pos, af, g⟩ s t (.d (.int k r)) := Q_sub hx hy hw ht
theorem q_streq {a b : ByteArray} (hx : s.ev x = .d (.str a) := by exact J0) (hy : s.ev y = .d (.str b) := by exact J0) (ht : t < K.n := by exact oR rfl) :
 Qy K ⟨some t, .binOp .eql ty x y yt, rt, pos, af, g⟩ s t (.d (.bool (decide (a = b)))) := Q_streq hx hy ht
theorem y_streq {a b : ByteArray} (hx : s.ev x = .d (.str a) := by exact J0) (hy : s.ev y = .d (.str b) := by exact J0) (ht : t < K.n := by exact oR rfl) :
 Yld K ⟨some t, .binOp .eql ty x y yt, rt, pos, af, g⟩ s (s.set t (.d (.bool (decide (a = b))))) := Y_streq hx hy ht
theorem q_strne {a b : ByteArray} (hx : s.ev x = .d (.str a) := by exact J0) (hy : s.ev y = .d (.str b) := by exact J0) (ht : t < K.n := by exact oR rfl) :
 Qy K ⟨some t, .binOp .neq ty x y yt, rt, pos, af, g⟩ s t (.d (.bool (!decide (a = b)))) := Q_strne hx hy ht
theorem q_stradd {a b : ByteArray} (hx : s.ev x = .d (.str a) := by exact J0) (hy : s.ev y = .d (.str b) := by exact J0) (hl : a.size + b.size ≤ lim := by simp only [lim]; omega) (ht : t < K.n := by exact oR rfl) :
 Qy K ⟨some t, .binOp .add ty x y yt, rt, pos, af, g⟩ s t (.d (.str (a ++ b))) := Q_stradd hx hy hl ht
theorem q_booleq {a b : Bool} (hu : K.P.underlying ty = some .bool) (hx : s.ev x = .d (.bool a) := by exact J0) (hy : s.ev y = .d (.bool b) := by exact J0) (ht : t < K.n := by exact oR rfl) :
 Qy K ⟨some t, .binOp .eql ty x y yt, rt, pos, af, g⟩ s t (.d (.bool (a == b))) := Q_booleq hx hy hu ht
theorem q_not {a : Bool} (hx : s.ev x = .d (.bool a) := by exact J0) (ht : t < K.n := by exact oR rfl) :
 Qy K ⟨some t, .unOp .not ty x, rt, pos, af, g⟩ s t (.d (.bool (!a))) := Q_not hx ht
theorem y_not {a : Bool} (hx : s.ev x = .d (.bool a) := by exact J0) (ht : t < K.n := by exact oR rfl) :
 Yld K ⟨some t, .unOp .not ty x, rt, pos, af, g⟩ s (s.set t (.d (.bool (!a)))) := Y_not hx ht
theorem q_and {b u : Bool} (hc : s.ev c = .d (.bool b) := by exact J0) (hx : Under (b = true) (s.ev x) (.bool u) := by simp only [GS.ev, GS.get, List.lookup_cons, Nat.reduceBEq, Option.getD_some, Option.getD_none, List.lookup_nil, ofConst] <;> first | exact under_d _ _ | exact under_when _ _ (fun h => by first | (rw [h]; rfl) | (rw [h, hg]; rfl) | (rw [hg, h]; rfl) | simp [h])) (ht : t < K.n := by exact oR rfl) :
 Qy K ⟨some t, .pick c x (.const (.bool false)), ty, pos, af, g⟩ s t (.d (.bool (b && u))) := Q_and hc hx ht
theorem y_and {b u : Bool} (hc : s.ev c = .d (.bool b) := by exact J0) (hx : Under (b = true) (s.ev x) (.bool u) := by simp only [GS.ev, GS.get, List.lookup_cons, Nat.reduceBEq, Option.getD_some, Option.getD_none, List.lookup_nil, ofConst] <;> first | exact under_d _ _ | exact under_when _ _ (fun h => by first | (rw [h]; rfl) | (rw [h, hg]; rfl) | (rw [hg, h]; rfl) | simp [h])) (ht : t < K.n := by exact oR rfl) :
 Yld K ⟨some t, .pick c x (.const (.bool false)), ty, pos, af, g⟩ s (s.set t (.d (.bool (b && u)))) := Y_and hc hx ht
theorem q_or {b u : Bool} (hc : s.ev c = .d (.bool b) := by exact J0) (hy : Under (b = false) (s.ev y) (.bool u) := by simp only [GS.ev, GS.get, List.lookup_cons, Nat.reduceBEq, Option.getD_some, Option.getD_none, List.lookup_nil, ofConst] <;> first | exact under_d _ _ | exact under_when _ _ (fun h => by first | (rw [h]; rfl) | (rw [h, hg]; rfl) | (rw [hg, h]; rfl) | simp [h])) (ht : t < K.n := by exact oR rfl) :
 Qy K ⟨some t, .pick c (.const (.bool true)) y, ty, pos, af, g⟩ s t (.d (.bool (b || u))) := Q_or hc hy ht
theorem y_or {b u : Bool} (hc : s.ev c = .d (.bool b) := by exact J0) (hy : Under (b = false) (s.ev y) (.bool u) := by simp only [GS.ev, GS.get, List.lookup_cons, Nat.reduceBEq, Option.getD_some, Option.getD_none, List.lookup_nil, ofConst] <;> first | exact under_d _ _ | exact under_when _ _ (fun h => by first | (rw [h]; rfl) | (rw [h, hg]; rfl) | (rw [hg, h]; rfl) | simp [h])) (ht : t < K.n := by exact oR rfl) :
 Yld K ⟨some t, .pick c (.const (.bool true)) y, ty, pos, af, g⟩ s (s.set t (.d (.bool (b || u)))) := Y_or hc hy ht
variable {off : Nat} {cs : List PV} {d : TypeDesc}
theorem qO {b : Nat} (hu : K.P.underlying ty = some d) (hx : s.ev x = .ref b off := by exact J0) (hm : s.mem[b]? = some cs := by rfl) (hc : cs[off]? = some p := by rfl) (hl : leafT d = true := by rfl) (hB : K.Bs.contains b = false := by rfl) (hpl : plainB cs = true := by rfl) (ht : t < K.n := by exact oR rfl) :
 Qy K ⟨some t, .load ty x, rt, pos, af, g⟩ s t p.copy := Q_load_leaf hx hm hc hu hl hB hpl ht
theorem y_load_leaf {b : Nat} (hu : K.P.underlying ty = some d) (hx : s.ev x = .ref b off := by exact J0) (hm : s.mem[b]? = some cs := by rfl) (hc : cs[off]? = some p := by rfl) (hl : leafT d = true := by rfl) (hpl : plainB cs = true := by rfl) (ht : t < K.n := by exact oR rfl) :
 Yld K ⟨some t, .load ty x, rt, pos, af, g⟩ s (s.set t p.copy) := Y_load_leaf hx hm hc hu hl hpl ht
theorem q_load_agg {b : Nat} (hz : (K.P.info? ty).map (·.size) = some n) (hu : K.P.underlying ty = some d) (hx : s.ev x = .ref b off := by exact J0) (hm : s.mem[b]? = some cs := by rfl) (hl : leafT d = false := by rfl) (hn : off + n ≤ cs.length := by exact oR rfl) (hB : K.Bs.contains b = false := by rfl) (hpl : plainB cs = true := by rfl) (ht : t < K.n := by exact oR rfl) :
 Qy K ⟨some t, .load ty x, rt, pos, af, g⟩ s t (mkAgg ((cs.drop off).take n)) := Q_load_agg hx hm hz hu hl hn hB hpl ht
theorem y_load_agg {b : Nat} (hz : (K.P.info? ty).map (·.size) = some n) (hu : K.P.underlying ty = some d) (hx : s.ev x = .ref b off := by exact J0) (hm : s.mem[b]? = some cs := by rfl) (hl : leafT d = false := by rfl) (hn : off + n ≤ cs.length := by exact oR rfl) (hpl : plainB cs = true := by rfl) (ht : t < K.n := by exact oR rfl) :
 Yld K ⟨some t, .load ty x, rt, pos, af, g⟩ s (s.set t (mkAgg ((cs.drop off).take n))) := Y_load_agg hx hm hz hu hl hn hpl ht
variable {td : TypeDesc}
theorem qL {d : D} (hu : K.P.underlying ty = some td) (hx : s.ev x = .d (.ptr d) := by exact J0) (hd : d.cells = [d] := by first | rfl | assumption) (hl : leafT td = true := by rfl) (ht : t < K.n := by exact oR rfl) :
 Qy K ⟨some t, .load ty x, rt, pos, af, g⟩ s t (.d d) := Q_loadp_leaf hx hd hu hl ht
theorem y_loadp_leaf {d : D} (hu : K.P.underlying ty = some td) (hx : s.ev x = .d (.ptr d) := by exact J0) (hd : d.cells = [d] := by first | rfl | assumption) (hl : leafT td = true := by rfl) (ht : t < K.n := by exact oR rfl) :
 Yld K ⟨some t, .load ty x, rt, pos, af, g⟩ s (s.set t (.d d)) := Y_loadp_leaf hx hd hu hl ht
theorem qG {ds : List D} (hz : (K.P.info? ty).map (·.size) = some ds.length) (hu : K.P.underlying ty = some td) (hx : s.ev x = .d (.ptr (.agg ds)) := by exact J0) (hl : leafT td = false := by rfl) (ht : t < K.n := by exact oR rfl) :
 Qy K ⟨some t, .load ty x, rt, pos, af, g⟩ s t (.d (.agg ds)) := Q_loadp_agg hx hz hu hl ht
variable {st : TypeId} {fs : Array Field} {fl : Field}
theorem q_fieldAddr {f : Nat} {b : Nat} (hu : K.P.underlying st = some (.struct fs)) (hf : fs[f]? = some fl) (hz : (K.P.info? fl.type).map (·.size) = some (n + 1)) (hx : s.ev x = .ref b off := by exact J0) (ht : t < K.n := by exact oR rfl) :
 Qy K ⟨some t, .fieldAddr st x f, rt, pos, af, g⟩ s t (.ref b (off + fl.offset)) := Q_fieldAddr hx hu hf hz ht
theorem y_fieldAddr {f : Nat} {b : Nat} (hu : K.P.underlying st = some (.struct fs)) (hf : fs[f]? = some fl) (hz : (K.P.info? fl.type).map (·.size) = some (n + 1)) (hx : s.ev x = .ref b off := by exact J0) (ht : t < K.n := by exact oR rfl) :
 Yld K ⟨some t, .fieldAddr st x f, rt, pos, af, g⟩ s (s.set t (.ref b (off + fl.offset))) := Y_fieldAddr hx hu hf hz ht
theorem qF {f : Nat} {ds : List D} {d : D} (hu : K.P.underlying st = some (.struct fs)) (hf : fs[f]? = some fl) (hz : (K.P.info? fl.type).map (·.size) = some (n + 1)) (hx : s.ev x = .d (.ptr (.agg ds)) := by exact J0) (hd : ds[fl.offset]? = some d := by rfl) (hc : d.cells = [d] := by first | rfl | assumption) (ht : t < K.n := by exact oR rfl) :
 Qy K ⟨some t, .fieldAddr st x f, rt, pos, af, g⟩ s t (.d (.ptr d)) := Q_fieldp_leaf hx hu hf hz hd hc ht
theorem y_fieldp_leaf {f : Nat} {ds : List D} {d : D} (hu : K.P.underlying st = some (.struct fs)) (hf : fs[f]? = some fl) (hz : (K.P.info? fl.type).map (·.size) = some (n + 1)) (hx : s.ev x = .d (.ptr (.agg ds)) := by exact J0) (hd : ds[fl.offset]? = some d := by rfl) (hc : d.cells = [d] := by first | rfl | assumption) (ht : t < K.n := by exact oR rfl) :
 Yld K ⟨some t, .fieldAddr st x f, rt, pos, af, g⟩ s (s.set t (.d (.ptr d))) := Y_fieldp_leaf hx hu hf hz hd hc ht
theorem q_fieldp_agg {f : Nat} {ds : List D} (hu : K.P.underlying st = some (.struct fs)) (hf : fs[f]? = some fl) (hz : (K.P.info? fl.type).map (·.size) = some (n + 1)) (hx : s.ev x = .d (.ptr (.agg ds)) := by exact J0) (ht : t < K.n := by exact oR rfl) :
 Qy K ⟨some t, .fieldAddr st x f, rt, pos, af, g⟩ s t (.d (.ptr (.agg ((ds.drop fl.offset).take (n + 1))))) := Q_fieldp_agg hx hu hf hz ht
variable {ix : Operand} {e : TypeId}
theorem J5 {A : Prop} (h : A := by simp only [GS.ev, GS.get, List.lookup_cons, Nat.reduceBEq, Option.getD_some, Option.getD_none, List.lookup_nil, ofConst, PV.list?] <;> rfl) : A := h
theorem qI {xs : List D} {i : Int} {d : D} (hu : K.P.underlying ty = some (.slice e)) (hz : (K.P.info? e).map (·.size) = some n) (hx : (s.ev x).list? = some xs := by exact J5) (hi : s.ev ix = .d (.int k i) := by exact J0) (h0 : 0 ≤ i := by omega) (hd : xs[i.toNat]? = some d := by first | assumption | (simp only [Int.toNat_natCast]; assumption) | rfl) (hn : d.cells.length = n := by first | rfl | assumption) (hn0 : 0 < n := by decide) (ht : t < K.n := by exact oR rfl) :
 Qy K ⟨some t, .indexAddr ty x ix, rt, pos, af, g⟩ s t (.d (.ptr d)) := Q_indexAddr hx hi h0 hd hu hz hn hn0 ht
theorem y_indexAddr {xs : List D} {i : Int} {d : D} (hu : K.P.underlying ty = some (.slice e)) (hz : (K.P.info? e).map (·.size) = some n) (hx : (s.ev x).list? = some xs := by exact J5) (hi : s.ev ix = .d (.int k i) := by exact J0) (h0 : 0 ≤ i := by omega) (hd : xs[i.toNat]? = some d := by first | assumption | (simp only [Int.toNat_natCast]; assumption) | rfl) (hn : d.cells.length = n := by first | rfl | assumption) (hn0 : 0 < n := by decide) (ht : t < K.n := by exact oR rfl) :
 Yld K ⟨some t, .indexAddr ty x ix, rt, pos, af, g⟩ s (s.set t (.d (.ptr d))) := Y_indexAddr hx hi h0 hd hu hz hn hn0 ht
theorem q_len {xs : List D} (hu : K.P.underlying ty = some (.slice e)) (hx : (s.ev x).list? = some xs := by exact J5) (ht : t < K.n := by exact oR rfl) :
 Qy K ⟨some t, .call ⟨.builtin .len, #[x], #[ty]⟩, rt, pos, af, g⟩ s t (.d (.int .i64 (xs.length : Int))) := Q_len hx hu ht
theorem q_lenstr {b : ByteArray} (hu : K.P.underlying ty = some .string) (hx : s.ev x = .d (.str b) := by exact J0) (ht : t < K.n := by exact oR rfl) :
 Qy K ⟨some t, .call ⟨.builtin .len, #[x], #[ty]⟩, rt, pos, af, g⟩ s t (.d (.int .i64 (b.size : Int))) := Q_lenstr hx hu ht
theorem y_lenstr {b : ByteArray} (hu : K.P.underlying ty = some .string) (hx : s.ev x = .d (.str b) := by exact J0) (ht : t < K.n := by exact oR rfl) :
 Yld K ⟨some t, .call ⟨.builtin .len, #[x], #[ty]⟩, rt, pos, af, g⟩ s (s.set t (.d (.int .i64 (b.size : Int)))) := Y_lenstr hx hu ht
variable {z : Value} {zs : List PV}
theorem J9 {A : Prop} (h : A := by simp only [zeros, Value.cells, List.map_cons, List.map_nil, ofConst] <;> rfl) : A := h
theorem y_alloc (hz : (K.P.info? ty).map (·.zero) = some (some z)) (h1 : z.cells.all (·.oneCell') = true := by kernel_rfl) (hzs : zeros z = zs := by exact J9) (ht : t < K.n := by exact oR rfl) :
 Yld K ⟨some t, .alloc ty, rt, pos, af, g⟩ s ⟨(t, .ref s.mem.length 0) :: s.slots, s.mem ++ [zs]⟩ := Y_alloc hz h1 hzs ht
theorem y_box (hx : s.ev x = p := by exact J0) (hw : p.whole = true := by rfl) (hcs : PV.copies p.cellsOf = cs := by first | (simp only [PV.cellsOf, PV.copies, PV.copy, List.map_cons, List.map_nil] <;> rfl) | (simp only [PV.cellsOf, *, PV.copies, PV.copy, List.map_cons, List.map_nil] <;> rfl)) (ht : t < K.n := by exact oR rfl) :
 Yld K ⟨some t, .box ty x, rt, pos, af, g⟩ s ⟨(t, .ref s.mem.length 0) :: s.slots, s.mem ++ [cs]⟩ := Y_box hx hw hcs ht
variable {ps : List PV}
theorem dS {b : Nat} (hz : (K.P.info? ty).map (·.size) = some n) (hx : s.ev x = .ref b off := by exact J0) (hm : s.mem[b]? = some cs := by rfl) (hy : s.ev y = p := by exact J0) (hno : p.noown = true := by rfl) (hw : p.whole = true := by rfl) (hps : p.cellsOf = ps := by first | (simp only [PV.cellsOf, List.map_cons, List.map_nil] <;> rfl) | (simp only [PV.cellsOf, *, List.map_cons, List.map_nil] <;> rfl)) (hn : ps.length = n := by rfl) (hfit : off + n ≤ cs.length := by exact oR rfl) (hpl : plainB cs = true := by rfl) :
 Does K ⟨none, .store ty x y, rt, pos, af, g⟩ s ⟨s.slots, s.mem.set b (splice cs off ps)⟩ := D_store hx hm hy hno hw hps hz hn hfit hpl
theorem d_store_take {b : Nat} (hz : (K.P.info? ty).map (·.size) = some n) (hx : s.ev x = .ref b off := by exact J0) (hm : s.mem[b]? = some cs := by rfl) (hy : s.get u = some p := by exact J0) (hfl : p.flat = true := by rfl) (hps : p.cellsOf = ps := by first | (simp only [PV.cellsOf, List.map_cons, List.map_nil] <;> rfl) | (simp only [PV.cellsOf, *, List.map_cons, List.map_nil] <;> rfl)) (hn : ps.length = n := by rfl) (hfit : off + n ≤ cs.length := by exact oR rfl) (hpl : plainB cs = true := by rfl) :
 Does K ⟨none, .store ty x (.tmp u), rt, pos, af, g⟩ s ⟨(u, p.copy) :: s.slots, s.mem.set b (splice cs off ps)⟩ := D_store_take hx hm hy hfl hps hz hn hfit hpl
theorem y_assign_take {k : Nat} {xs : List D} (hu : s.get u = some (.osl k xs) := by exact J0) (htu : t ≠ u := by decide) (ht : t < K.n := by exact oR rfl) :
 Yld K ⟨some t, .assign (.tmp u), ty, pos, af, g⟩ s ((s.set u (.d (.sl xs))).set t (.osl k xs)) := Y_assign_take hu htu ht
theorem qE {ix : Nat} (hx : s.get u = some (.tup ps) := by exact J0) (hp : ps[ix]? = some p := by rfl) (ht : t < K.n := by exact oR rfl) :
 Qy K ⟨some t, .extract (.tmp u) ix, ty, pos, af, g⟩ s t p.copy := Q_extract hx hp ht
theorem q_makeFunc {f : Fn} {ys : List Operand} (ht : t < K.n := by exact oR rfl) :
 Qy K ⟨some t, .makeFunc f xs.toArray ys.toArray, ty, pos, af, g⟩ s t (.fn f (PV.copies (xs.map s.ev)) (PV.copies (ys.map s.ev))) := Q_makeFunc ht
theorem y_makeFunc {f : Fn} {ys : List Operand} (ht : t < K.n := by exact oR rfl) :
 Yld K ⟨some t, .makeFunc f xs.toArray ys.toArray, ty, pos, af, g⟩ s (s.set t (.fn f (PV.copies (xs.map s.ev)) (PV.copies (ys.map s.ev)))) := Y_makeFunc ht
variable {parts : Array (Nat × Operand)}
theorem y_buildSlice {k by_ : Nat} {ds : List D} (hu : K.P.underlying ty = some (.slice e)) (hinf : (K.P.info? e).map (fun i => (i.zero, i.size, i.bytes)) = some (some z, k, by_)) (hp : parts.toList = (List.range xs.length).zip xs := by rfl) (hn : xs.length = n := by rfl) (hzc : z.cells.size = k := by rfl) (hds : PV.toDs (xs.map s.ev) = some ds := by exact J7) (hk : ∀ d ∈ ds, d.cells.length = k := by simp [D.cells]) (hsz : n * k ≤ 16777216 := by decide) (hk0 : 0 < k := by decide) (ht : t < K.n := by exact oR rfl) :
 Yld K ⟨some t, .buildSlice ty n parts, rt, pos, af, g⟩ s (s.set t (.osl k ds)) := Y_buildSlice hu hinf hp hn hzc hds hk hsz hk0 ht
theorem q_bits {op : BinOp} {r : Int} (hr : Op.intBits op k a b = pure (.int k r)) (hx : s.ev x = .d (.int k a) := by exact J0) (hy : s.ev y = .d (.int k b) := by exact J0) (ho : op = .and ∨ op = .or ∨ op = .xor ∨ op = .andNot := by simp) (ht : t < K.n := by exact oR rfl) :
 Qy K ⟨some t, .binOp op ty x y yt, rt, pos, af, g⟩ s t (.d (.int k r)) := Q_bits hx hy hr ho ht
theorem J8 {A : Prop} (h : A := by simp only [List.map_cons, List.map_nil, GS.ev, GS.get, List.lookup_cons, Nat.reduceBEq, Option.getD_some, Option.getD_none, List.lookup_nil, ofConst] <;> rfl) : A := h
theorem q_buildS {cs' : List PV} {pl : List (Nat × Nat)} {ps : List (Nat × PV)} (hst : structPl K.P ty = some pl) (hz : (K.P.info? ty).map (·.zero) = some (some z)) (h1 : z.cells.all (·.oneCell') = true := by kernel_rfl) (hzs : zeros z = zs := by exact J9) (hps : (parts.toList.map fun x => (x.1, s.ev x.2)) = ps := by exact J8) (hb : bfill (pl[·]?) zs ps = some cs' := by rfl) (hr : mkAgg cs' = r := by exact J1) (ht : t < K.n := by exact oR rfl) :
 Qy K ⟨some t, .build ty parts, rt, pos, af, g⟩ s t r := Q_buildS hst hz h1 hzs hps hb hr ht
theorem q_buildP {cs' : List PV} {pl : List (Nat × Nat)} {ps : List (Nat × PV)} (hst : structPl K.P ty = some pl) (hz : (K.P.info? ty).map (·.zero) = some (some z)) (h1 : z.cells.all (·.oneCell') = true := by kernel_rfl) (hzs : zeros z = zs := by exact J9) (hps : (parts.toList.map fun x => (x.1, s.ev x.2)) = ps := by exact J8) (hb : bfill (pl[·]?) zs ps = some cs' := by rfl) (hr : PV.agg (PV.copies cs') = r := by exact J1) (ht : t < K.n := by exact oR rfl) :
 Qy K ⟨some t, .build ty parts, rt, pos, af, g⟩ s t r := Q_buildP hst hz h1 hzs hps hb hr ht
theorem q_slicel {lo : Operand} {xs ys : List D} {i : Int} (hu : K.P.underlying ty = some (.slice e)) (hz : (K.P.info? e).map (·.size) = some n) (hk : ∀ x ∈ xs, x.cells.length = n) (hx : s.ev x = .d (.sl xs) := by exact J0) (hl : s.ev lo = .d (.int k i) := by exact J0) (h0 : 0 ≤ i := by omega) (h1 : i ≤ (xs.length : Nat) := by first | omega | (simp only [List.length_map]; omega)) (hy : xs.drop i.toNat = ys := by rfl) :
 Qy K ⟨some t, .slice ty x (some lo) none none, rt, pos, af, g⟩ s t (.d (.sl ys)) := Q_slicel hx hl hu hz h0 h1 hk hy
theorem q_sliceh {hi : Operand} {xs ys : List D} {j : Int} (hu : K.P.underlying ty = some (.slice e)) (hz : (K.P.info? e).map (·.size) = some n) (hk : ∀ x ∈ xs, x.cells.length = n) (hx : s.ev x = .d (.sl xs) := by exact J0) (hh : s.ev hi = .d (.int k j) := by exact J0) (h0 : 0 ≤ j := by omega) (h1 : j ≤ (xs.length : Nat) := by first | omega | (simp only [List.length_map]; omega)) (hy : xs.take j.toNat = ys := by rfl) :
 Qy K ⟨some t, .slice ty x none (some hi) none, rt, pos, af, g⟩ s t (.d (.sl ys)) := Q_sliceh hx hh hu hz h0 h1 hk hy
theorem q_strindex {b : ByteArray} {i : Int} (hu : K.P.underlying ty = some .string) (hx : s.ev x = .d (.str b) := by exact J0) (hi : s.ev ix = .d (.int k i) := by exact J0) (h0 : 0 ≤ i := by omega) (h1 : i < (b.size : Nat) := by omega) :
 Qy K ⟨some t, .index ty x ix, rt, pos, af, g⟩ s t (.d (.int .u8 (b[i.toNat]!).toNat)) := Q_strindex hx hi hu h0 h1
theorem vq (ho : ops[i]? = some o) (hq : Qy K o s t p) (h : GOps K ops Q rest s'') (hg : o.guard = none := by rfl) (hd : o.dst = some t := by rfl) (ht : t < K.n := by exact oR rfl)
 (hs : s.set t p = s'' := by exact J1) : GOps K ops Q (i :: rest) s := sv ho (Yld_pure hd ht hq) h hg hs
end Go.Proofs.Ytklkbfpjimeaoaa.E
