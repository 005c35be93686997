import Derived.Test.YtklkbfpjimeaoaaM9
import Derived.WalkMore
import Derived.Recover
import Derived.Laws.AppendOwn
/- Contracts of functions. Conditions: none. -/
set_option linter.unusedSimpArgs false
set_option linter.unusedVariables false
namespace Go.Proofs.Ytklkbfpjimeaoaa.E
open Go
section
variable {K : Ctx} {ops : Array Oper} {Q : Exit → GS → Prop} {s : GS} {i t : Nat}
theorem sgx {s'' : GS} {rest : List Nat} {o : Oper} {j u : Nat} {want b : Bool} {oj : Oper} {q : PV}
 (ho : ops[i]? = some o) (hf : b = false) (h : GOps K ops Q rest s'') (hg : o.guard = some (j, want) := by rfl) (hj : ops[j]? = some oj := by rfl) (hjd : oj.dst = some u := by rfl)
 (hsu : s.get u = some q := by exact J0) (hgd : q.guard want = some b := by rfl) (hu : u < K.n := by exact oR rfl) (hd : o.dst = some t := by rfl) (ht : t < K.n := by exact oR rfl)
 (hs : s.set t (.when b (.d (.bool false))) = s'' := by exact J1) : GOps K ops Q (i :: rest) s :=
 sg ho (fun hb => by rw [hf] at hb; cases hb) h hg hj hjd hsu hgd hu hd ht hs
theorem y_fieldAt (o : Nat) {K : Ctx} {s : GS} {t : Nat} {x : Operand} {st rt : TypeId} {f n : Nat} {pos : String} {af : Array Edge} {g : Option (Nat × Bool)} {b off : Nat} {fs : Array Field} {fl : Field} (hu : K.P.underlying st = some (.struct fs)) (hf : fs[f]? = some fl) (hz : (K.P.info? fl.type).map (·.size) = some (n + 1))
 (hx : s.ev x = .ref b off := by exact J0) (ho : off + fl.offset = o := by rfl) (ht : t < K.n := by exact oR rfl) : Yld K ⟨some t, .fieldAddr st x f, rt, pos, af, g⟩ s (s.set t (.ref b o)) := by
 subst ho; exact Y_fieldAddr hx hu hf hz ht
theorem g_keepo {l : List Nat} {s' : GS} (ks : List Nat) (h : GOps K ops Q l s')
 (hs : GS.keep ks s = s' := by exact J4) : GOps K ops Q l s := by
 subst hs
 exact GOps_le (s' := GS.keep ks s) (fun a w ⟨S, O, m, hr⟩ => ⟨S, O, m, hr.env, hr.defers, hr.size, hr.pre, fun i p hp => hr.slots i p (GS.keep_get ks s.slots i p hp)⟩) h
def CG (K : Ctx) (ops : Array Oper) (M : (Nat → Bool) → List (List PV)) (base : List (Nat × PV)) (Q : Exit → GS → Prop) (i : Nat) (es : List (Nat × Nat × PV)) : Prop :=
 ∃ fs, Conf K ops M base i es fs ∧ (fs.map (·.2.1)).Nodup ∧ (∀ x ∈ base, x.1 ∉ fs.map (·.2.1)) ∧ (∀ x ∈ fs, x.1 < ops.size) ∧ Q .normal ⟨fs.map (·.2) ++ base, M (allB ops.size)⟩
def CF (K : Ctx) (ops : Array Oper) (M : (Nat → Bool) → List (List PV)) (base : List (Nat × PV)) (Q : Exit → GS → Prop) (i : Nat) (es : List (Nat × Nat × PV)) (full : List (Nat × PV) → List (Nat × PV)) : Prop :=
 ∀ ds : List Nat, (∀ rest, pick es ds ++ base ++ rest = full rest) → (ds.all fun d => (depsOf ops i).contains d) = true → CG K ops M base Q i es
variable {base : List (Nat × PV)}
theorem cP {M : (Nat → Bool) → List (List PV)} {es : List (Nat × Nat × PV)} {full : List (Nat × PV) → List (Nat × PV)} (ds : List Nat) (h : CF K ops M base Q i es full)
 (hfull : ∀ rest, pick es ds ++ base ++ rest = full rest := by intro rest; simp only [pick, List.filter_cons, List.filter_nil, List.contains_cons, List.contains_nil, Nat.reduceBEq, Bool.or_false, Bool.false_or, Bool.or_true, Bool.true_or, if_true, if_false, Bool.false_eq_true, List.map_cons, List.map_nil, List.cons_append, List.nil_append, List.append_nil] <;> rfl) (hds : (ds.all fun d => (depsOf ops i).contains d) = true := by kernel_rfl) : CG K ops M base Q i es := h ds hfull hds
theorem cS (j : Nat) {K : Ctx} {ops : Array Oper} {M : (Nat → Bool) → List (List PV)} {base : List (Nat × PV)} {Q : Exit → GS → Prop} {i t : Nat} {es es' : List (Nat × Nat × PV)} {p : PV} {full : List (Nat × PV) → List (Nat × PV)}
 (h : ∀ (b : Nat → Bool) (rest : List (Nat × PV)), b i = false → (∀ j ∈ depsOf ops i, b j = true) → Valid ops b → GOps K ops (fun e s' => e = .normal ∧ s' = ⟨(t, p) :: full rest, M (upd b i)⟩) [i] ⟨full rest, M b⟩)
 (hc : CG K ops M base Q j es') (hj : i + 1 = j := by rfl) (hes : es ++ [(i, t, p)] = es' := by exact J10) : CF K ops M base Q i es full := by
 subst hj
 intro ds hfull hds
 obtain ⟨fs, h1, h2⟩ := hc
 exact ⟨fs, conf_val ds h h1 hfull hes hds, h2⟩
theorem cg_act (j : Nat) {K : Ctx} {ops : Array Oper} {M : (Nat → Bool) → List (List PV)} {base : List (Nat × PV)} {Q : Exit → GS → Prop} {i : Nat} {es : List (Nat × Nat × PV)} {full : List (Nat × PV) → List (Nat × PV)}
 (h : ∀ (b : Nat → Bool) (rest : List (Nat × PV)), b i = false → (∀ j ∈ depsOf ops i, b j = true) → Valid ops b → GOps K ops (fun e s' => e = .normal ∧ s' = ⟨full rest, M (upd b i)⟩) [i] ⟨full rest, M b⟩)
 (hc : CG K ops M base Q j es) (hj : i + 1 = j := by rfl) : CF K ops M base Q i es full := by
 subst hj
 intro ds hfull hds
 obtain ⟨fs, h1, h2⟩ := hc
 exact ⟨fs, conf_act ds h h1 hfull hds, h2⟩
theorem cg_done {M : (Nat → Bool) → List (List PV)} {es : List (Nat × Nat × PV)} {s'' : GS} {mem'' : List (List PV)} {ts bs is : List Nat} (hq : Q .normal s'')
 (hi : i = ops.size := by rfl) (hmm : M (allB ops.size) = mem'' := by rfl) (hts : es.map (·.2.1) = ts := by simp only [List.map_cons, List.map_nil] <;> rfl) (his : es.map (·.1) = is := by simp only [List.map_cons, List.map_nil] <;> rfl) (hbs : base.map (·.1) = bs := by simp only [List.map_cons, List.map_nil] <;> rfl)
 (hnd : nodupB ts = true := by kernel_rfl) (hdis : (bs.all fun x => !ts.contains x) = true := by kernel_rfl) (hfi : (is.all fun x => Nat.blt x ops.size) = true := by kernel_rfl)
 (hs'' : GS.mk (es.map (·.2) ++ base) mem'' = s'' := by simp only [List.map_cons, List.map_nil, List.cons_append, List.nil_append] <;> rfl) : CG K ops M base Q i es := by
 subst hmm; subst hts; subst hbs; subst his
 refine ⟨es, .done hi, nodupB_iff hnd, fun x hx => ?_, fun x hx => ?_, hs'' ▸ hq⟩
 · have := List.all_eq_true.1 hdis x.1 (List.mem_map_of_mem hx)
   simpa using this
 · have := List.all_eq_true.1 hfi x.1 (List.mem_map_of_mem hx)
   simpa using this
theorem dep_in {d : Nat} (h : (depsOf ops i).contains d = true := by kernel_rfl) : d ∈ depsOf ops i := by simpa using h
theorem Valid.no {b : Nat → Bool} (hv : Valid ops b) (i d : Nat) (hd : b d = false) (h : (depsOf ops i).contains d = true := by kernel_rfl) : b i = false := by
 cases hb : b i with
 | false => rfl
 | true => have := hv i hb d (by simpa using h); rw [hd] at this; cases this
theorem J2 {A : Prop} (h : A := by simp only [List.filter_cons, List.filter_nil, List.contains_cons, List.contains_nil, Nat.reduceBEq, Bool.or_false, Bool.false_or, Bool.or_true, Bool.true_or, Bool.not_true, Bool.not_false, if_true, if_false, Bool.false_eq_true] <;> rfl) : A := h
theorem g_cg {id : Nat} {slots : List (Nat × PV)} {mem : List (List PV)} (dsts : List Nat) (M : (Nat → Bool) → List (List PV)) (hM : M noB = mem) (hc : CG K ops M base Q 0 [])
 (hbase : (slots.filter fun x => !dsts.contains x.1) = base := by exact J2)
 (hm : K.P.follows .mixedOrders = true := by kernel_rfl) (hdep : ((List.range ops.size).all fun i => (depsOf ops i).all fun d => Nat.blt d i) = true := by kernel_rfl) : G K (.region id ops true) Q ⟨slots, mem⟩ := by
 obtain ⟨fs, hc, hnd, hdis, hfi, hq⟩ := hc
 refine G_conf ops.size rfl hm (Le_slots (s' := ⟨base, M noB⟩) hM fun t p hp => .inl ?_) hc hnd hdis (fun i hi d hd => ?_) rfl hfi hq
 · subst hbase
   exact filter_lookup (fun k => !dsts.contains k) _ t p hp
 · have h1 := List.all_eq_true.1 hdep i (List.mem_range.2 hi)
   have h2 := List.all_eq_true.1 h1 d hd
   simpa using h2
theorem g_cg0 {id : Nat} {slots : List (Nat × PV)} {mem : List (List PV)} (dsts : List Nat) (hc : CG K ops (fun _ => mem) base Q 0 [])
 (hbase : (slots.filter fun x => !dsts.contains x.1) = base := by exact J2)
 (hm : K.P.follows .mixedOrders = true := by kernel_rfl) (hdep : ((List.range ops.size).all fun i => (depsOf ops i).all fun d => Nat.blt d i) = true := by kernel_rfl) : G K (.region id ops true) Q ⟨slots, mem⟩ := g_cg dsts (fun _ => mem) rfl hc hbase hm hdep
variable {ty rt : TypeId} {pos : String} {af : Array Edge} {g : Option (Nat × Bool)}
theorem y_makeMap (ht : t < K.n := by exact oR rfl) :
 Yld K ⟨some t, .makeMap ty none, rt, pos, af, g⟩ s ⟨(t, .mref s.mem.length) :: s.slots, s.mem ++ [[.mapc []]]⟩ := Y_makeMap ht
theorem d_insert {mx kx vx : Operand} {kt et : TypeId} {b : Nat} {kvs : List (D × D)} {k v : D} {p : PV} {kd : TypeDesc} (hu : K.P.underlying ty = some (.map kt et)) (hkd : K.P.underlying kt = some kd) (hmx : s.ev mx = .mref b := by exact J0) (hm : s.mem[b]? = some [.mapc kvs] := by rfl) (hkx : s.ev kx = .d k := by exact J0) (hvx : s.ev vx = p := by exact J0) (hv : p.toDn = some v := by rfl) (hks : (kvs.all fun x => x.1.keyOf kd) = true := by first | rfl | kernel_rfl) (hk : k.keyOf kd = true := by rfl) (hnew : mhas kvs k = false := by first | rfl | kernel_rfl) :
 Does K ⟨none, .insert ty mx kx vx, rt, pos, af, g⟩ s ⟨s.slots, s.mem.set b [.mapc (kvs ++ [(k, v)])]⟩ := D_insert hu hkd hmx hm hkx hvx hv hks hk hnew
theorem q_lookup2 {mx kx : Operand} {kt et : TypeId} {kvs : List (D × D)} {k zd : D} {z : Value} {kd : TypeDesc} (hu : K.P.underlying ty = some (.map kt et)) (hkd : K.P.underlying kt = some kd) (hz : (K.P.info? et).map (·.zero) = some (some z)) (hzd : zeroD z = some zd := by rfl) (h1 : z.cells.all (·.oneCell') = true := by kernel_rfl) (hmx : s.ev mx = .d (.map kvs) := by exact J0) (hkx : s.ev kx = .d k := by exact J0) (hks : (kvs.all fun x => x.1.keyOf kd) = true := by first | rfl | kernel_rfl) (hk : k.keyOf kd = true := by rfl) (ht : t < K.n := by exact oR rfl) :
 Qy K ⟨some t, .lookup ty mx kx true, rt, pos, af, g⟩ s t (.tup [.d (mget kvs k zd), .d (.bool (mhas kvs k))]) := Q_lookup2 hu hkd hz hzd h1 hmx hkx hks hk ht
variable {e : TypeId} {x : Operand}
theorem q_sleql {yt : TypeId} {d : D} {b : Bool} (hu : K.P.underlying ty = some (.slice e)) (hx : s.ev x = .d d := by exact J0) (hd : d.nilB = some b := by rfl) :
 Qy K ⟨some t, .binOp .eql ty x (.const (.slice none 0 0)) yt, rt, pos, af, g⟩ s t (.d (.bool b)) := Q_sleql hx hd hu
theorem q_slneq {yt : TypeId} {d : D} {b : Bool} (hu : K.P.underlying ty = some (.slice e)) (hx : s.ev x = .d d := by exact J0) (hd : d.nilB = some b := by rfl) :
 Qy K ⟨some t, .binOp .neq ty x (.const (.slice none 0 0)) yt, rt, pos, af, g⟩ s t (.d (.bool (!b))) := Q_slneq hx hd hu
variable {k : IntKind}
theorem q_max {ty' : TypeId} {y : Operand} {a b : Int} (hx : s.ev x = .d (.int k a) := by exact J0) (hy : s.ev y = .d (.int k b) := by exact J0) :
 Qy K ⟨some t, .call ⟨.builtin .max, #[x, y], #[ty, ty']⟩, rt, pos, af, g⟩ s t (.d (.int k (if b > a then b else a))) := Q_max hx hy
variable {b : ByteArray}
theorem q_strh {hi : Operand} {r : ByteArray} {j : Int} (hu : K.P.underlying ty = some .string) (hx : s.ev x = .d (.str b) := by exact J0) (hh : s.ev hi = .d (.int k j) := by exact J0) (h0 : 0 ≤ j := by omega) (h1 : j ≤ (b.size : Nat) := by omega) (hr : b.extract 0 j.toNat = r := by rfl) :
 Qy K ⟨some t, .slice ty x none (some hi) none, rt, pos, af, g⟩ s t (.d (.str r)) := Q_strh hx hh hu h0 h1 hr
theorem q_strl {lo : Operand} {r : ByteArray} {i : Int} (hu : K.P.underlying ty = some .string) (hx : s.ev x = .d (.str b) := by exact J0) (hl : s.ev lo = .d (.int k i) := by exact J0) (h0 : 0 ≤ i := by omega) (h1 : i ≤ (b.size : Nat) := by omega) (hr : b.extract i.toNat b.size = r := by rfl) :
 Qy K ⟨some t, .slice ty x (some lo) none none, rt, pos, af, g⟩ s t (.d (.str r)) := Q_strl hx hl hu h0 h1 hr
theorem y_strbytes {src dst : TypeId} {u : TypeDesc} (hs : K.P.underlying src = some u) (hd : K.P.underlying dst = some (.slice e)) (he : K.P.underlying e = some (.int .u8)) (hx : s.ev x = .d (.str b) := by exact J0) (hlim : b.size ≤ lim := by simp only [lim]; omega) (ht : t < K.n := by exact oR rfl) :
 Yld K ⟨some t, .convert src dst x, rt, pos, af, g⟩ s (s.set t (.d (.sl (bytesD b)))) := Y_strbytes hx hs hd he hlim ht
theorem y_rangeStr (hu : K.P.underlying ty = some .string) (hx : s.ev x = .d (.str b) := by exact J0) (ht : t < K.n := by exact oR rfl) :
 Yld K ⟨some t, .range ty x, rt, pos, af, g⟩ s ⟨(t, .ref s.mem.length 0) :: s.slots, s.mem ++ [[.mapc (iterK b 0)]]⟩ := Y_rangeStr hx hu ht
theorem y_nextEnd {pos : Nat} {ps : String} (hlt : ¬ pos < b.size) (hx : s.ev x = .ref i 0 := by exact J0) (hm : s.mem[i]? = some [.mapc (iterK b pos)] := by rfl) (ht : t < K.n := by exact oR rfl) :
 Yld K ⟨some t, .next x true, rt, ps, af, g⟩ s (s.set t (.tup [.d (.bool false)])) := Y_nextEnd hx hm hlt ht
theorem y_next {pos : Nat} {ps : String} (hlt : pos < b.size) (hx : s.ev x = .ref i 0 := by exact J0) (hm : s.mem[i]? = some [.mapc (iterK b pos)] := by rfl) (ht : t < K.n := by exact oR rfl) :
 Yld K ⟨some t, .next x true, rt, ps, af, g⟩ s ⟨(t, .tup [.d (.bool true), .d (.int .i64 pos), .d (.int .i32 (Utf8.decode b pos).1)]) :: s.slots, s.mem.set i [.mapc (iterK b (pos + (Utf8.decode b pos).2))]⟩ := Y_next hx hm hlt ht
end
section
theorem fincm {P : Program} {t b n k : Nat} {ty : TypeId} {cs : List PV} {td : TypeDesc} {d : D} {s : GS} {R : PV → List (List PV) → Prop} {e : Exit} (mem' : List (List PV)) (hz : (P.info? ty).map (·.size) = some k) (hu : P.underlying ty = some td) (he : e = .normal ∨ e = .ret) (hR : R (.d d) mem')
 (hs : s.get t = some (.ref b 0) := by exact J0) (hm : s.mem[b]? = some cs := by rfl) (hq : mkAgg ((cs.drop 0).take k) = .d d := by exact J1) (hl : leafT td = false := by rfl) (hn : 0 + k ≤ cs.length := by exact oR rfl) (hne : plainB cs = true := by rfl)
 (hms : MSub mem'.length s.mem mem' := by repeat (first | exact MSub.nil | (refine MSub.cons (by repeat (first | exact CSub.nil | refine CSub.cons (.inl rfl) rfl ?_)) ?_))) (hk : mem'.length = n := by rfl) : Fin P [.cell t ty] n R e s :=
 ⟨he, .inl ⟨[mkAgg ((cs.drop 0).take k)], mem', (.cons (.agg hs hm hz hu hl hn hne) .nil), Nat.le_of_eq hk.symm, hms, by simp only [tupOf]; rw [hq]; rfl, by simp only [tupOf]; rw [hq]; exact hR⟩⟩
end
section
theorem q_nilCheckR {K : Ctx} {s : GS} {t : Nat} {x : Operand} {ty : TypeId} {pos : String} {af : Array Edge} {g : Option (Nat × Bool)} {b o : Nat} (hx : s.ev x = .ref b o := by exact J0) :
 Qy K ⟨some t, .nilCheck x, ty, pos, af, g⟩ s t (.ref b o) := by
 refine fun S O m a w hr => ?_
 obtain ⟨l, h⟩ := hr.ev x
 rw [hx] at h
 generalize hv : a.eval x = v at h
 cases h with
 | ref _ _ _ r hm => exact ⟨_, fun w _ => by simp only [execOp, hv]; rfl, .ref _ _ _ r hm⟩
end
section
def alive (kl : List (Nat × Nat)) (b : Nat → Bool) (i : Nat) : Bool := b i && !(match kl.lookup i with | some j => b j | none => false)
def mkK (kl : List (Nat × Nat)) (b : Nat → Bool) (es : List (Nat × Nat × PV)) : List (Nat × PV) := es.map fun x => (x.2.1, cond (alive kl b x.1) x.2.2 .undef)
variable {kl : List (Nat × Nat)}
theorem mkK_lookup {b : Nat → Bool} : ∀ {fs : List (Nat × Nat × PV)}, (fs.map (·.2.1)).Nodup → ∀ {i t : Nat} {p : PV}, (i, t, p) ∈ fs → (mkK kl b fs).lookup t = some (cond (alive kl b i) p .undef)
 | [], _, _, _, _, h => by cases h
 | x :: fs, hn, i, t, p, h => by
  rw [List.map_cons, List.nodup_cons] at hn
  simp only [mkK, List.map_cons, List.lookup_cons]
  rcases List.mem_cons.1 h with rfl | h
  · simp
  · have hne : (t == x.2.1) = false := by
     have : t ≠ x.2.1 := by rintro rfl; exact hn.1 (List.mem_map.2 ⟨_, h, rfl⟩)
     simpa using this
    rw [hne]
    exact mkK_lookup hn.2 h
theorem mkK_none {b : Nat → Bool} : ∀ {fs : List (Nat × Nat × PV)} {t : Nat}, t ∉ fs.map (·.2.1) → (mkK kl b fs).lookup t = none
 | [], _, _ => rfl
 | x :: fs, t, h => by
  simp only [List.map_cons, List.mem_cons, not_or] at h
  have hne : (t == x.2.1) = false := by simpa using h.1
  simp only [mkK, List.map_cons, List.lookup_cons, hne]
  exact mkK_none h.2
theorem alive_of {b : Nat → Bool} {d i : Nat} (h : b d = true) (hi : b i = false) (hk : kl.lookup d = none ∨ kl.lookup d = some i) : alive kl b d = true := by
 unfold alive
 rw [h]
 rcases hk with hk | hk <;> rw [hk]
 · rfl
 · show (true && !(b i)) = true
   rw [hi]; rfl
variable {fs : List (Nat × Nat × PV)} {base : List (Nat × PV)}
theorem alive_end {n : Nat} (hnd : (fs.map (·.2.1)).Nodup) (hfi : ∀ x ∈ fs, x.1 < n) (t : Nat) (p : PV) (h : ((fs.filter fun x => (kl.lookup x.1).isNone).map (·.2) ++ base).lookup t = some p) (hdis : ∀ x ∈ base, x.1 ∉ fs.map (·.2.1)) : (mkK kl (allB n) fs ++ base).lookup t = some p := by
 rw [lookup_append] at h ⊢
 cases hl : ((fs.filter fun x => (kl.lookup x.1).isNone).map (·.2)).lookup t with
 | some q =>
  rw [hl] at h
  have hqp : q = p := by simpa using h
  subst hqp
  obtain ⟨⟨i, y⟩, h1, h2⟩ := List.mem_map.1 (lookup_mem' _ _ _ hl)
  obtain ⟨h3, h4⟩ := List.mem_filter.1 h1
  replace h2 : y = (t, q) := h2
  subst h2
  have hlt : allB n i = true := show Nat.blt i n = true by rw [Nat.blt_eq]; exact hfi _ h3
  have hal : alive kl (allB n) i = true := by
   unfold alive
   replace h4 : (kl.lookup i).isNone = true := h4
   rw [Option.isNone_iff_eq_none] at h4
   rw [hlt, h4]; rfl
  rw [mkK_lookup hnd h3, hal]; rfl
 | none =>
  rw [hl] at h
  have hb : base.lookup t = some p := by simpa using h
  rw [mkK_none (hdis _ (lookup_mem' _ _ _ hb)), hb]; rfl
def StpK (K : Ctx) (ops : Array Oper) (M : (Nat → Bool) → List (List PV)) (base : List (Nat × PV)) (i : Nat) (sl r x : List (Nat × PV)) : Prop :=
 ∀ (b : Nat → Bool) (rest : List (Nat × PV)), b i = false → (∀ j ∈ depsOf ops i, b j = true) → Valid ops b →
  GOps K ops (fun e s' => e = .normal ∧ s' = ⟨r ++ (x ++ (sl ++ base ++ rest)), M (upd b i)⟩) [i] ⟨sl ++ base ++ rest, M b⟩
inductive ConfK (kl : List (Nat × Nat)) (K : Ctx) (ops : Array Oper) (M : (Nat → Bool) → List (List PV)) (base : List (Nat × PV)) : Nat → List (Nat × Nat × PV) → List (Nat × Nat × PV) → Prop
 | done {i : Nat} {es : List (Nat × Nat × PV)} : i = ops.size → ConfK kl K ops M base i es es
 | step {i : Nat} {es fs : List (Nat × Nat × PV)} {sl r xt : List (Nat × PV)} (hs : StpK K ops M base i sl r xt) (hsl : ∀ x ∈ sl, ∃ d ∈ depsOf ops i, (d, x) ∈ es ∧ (kl.lookup d = none ∨ kl.lookup d = some i)) (hx : ∀ x ∈ xt, ∃ d q, (d, x.1, q) ∈ es ∧ kl.lookup d = some i) (hc : ConfK kl K ops M base (i + 1) (es ++ r.map fun x => (i, x)) fs) : ConfK kl K ops M base i es fs
variable {K : Ctx} {ops : Array Oper}
theorem ConfK.le {M : (Nat → Bool) → List (List PV)} {i : Nat} {es : List (Nat × Nat × PV)} (h : ConfK kl K ops M base i es fs) : ∃ later, fs = es ++ later := by
 induction h with
 | done _ => exact ⟨[], by simp⟩
 | step _ _ _ _ ih => obtain ⟨l, h⟩ := ih; exact ⟨_, by rw [h, List.append_assoc]⟩
theorem ConfK.idx {M : (Nat → Bool) → List (List PV)} {i0 : Nat} {es : List (Nat × Nat × PV)} (h : ConfK kl K ops M base i0 es fs) : ∀ x ∈ fs, x ∈ es ∨ i0 ≤ x.1 := by
 induction h with
 | done _ => exact fun x hx => .inl hx
 | @step j es fs sl r xt hs hsl hx hc ih =>
  intro x hx
  rcases ih x hx with h | h
  · rcases List.mem_append.1 h with h | h
    · exact .inl h
    · obtain ⟨y, _, rfl⟩ := List.mem_map.1 h; exact .inr (Nat.le_refl _)
  · exact .inr (by omega)
theorem ConfK.at {M : (Nat → Bool) → List (List PV)} {i0 : Nat} {es : List (Nat × Nat × PV)} (h : ConfK kl K ops M base i0 es fs) (hes : ∀ x ∈ es, x.1 < i0) :
 ∀ i, i0 ≤ i → i < ops.size → ∃ sl r xt, StpK K ops M base i sl r xt ∧ (∀ x ∈ r, (i, x) ∈ fs) ∧ (∀ x, (i, x) ∈ fs → x ∈ r) ∧ (∀ x ∈ sl, ∃ d ∈ depsOf ops i, (d, x) ∈ fs ∧ (kl.lookup d = none ∨ kl.lookup d = some i)) ∧ ∀ x ∈ xt, ∃ d q, (d, x.1, q) ∈ fs ∧ kl.lookup d = some i := by
 induction h with
 | done h => intro i h1 h2; omega
 | @step j es fs sl r xt hs hsl hx hc ih =>
  intro i h1 h2
  have hes' : ∀ x ∈ es ++ r.map (fun x => (j, x)), x.1 < j + 1 := fun x hx => by
   rcases List.mem_append.1 hx with hx | hx
   · have := hes x hx; omega
   · obtain ⟨y, _, rfl⟩ := List.mem_map.1 hx; exact Nat.lt_succ_self _
  by_cases hij : i = j
  · subst hij
    obtain ⟨l, hl⟩ := hc.le
    refine ⟨sl, r, xt, hs, fun x hx => ?_, fun x hx => ?_, fun x hx => ?_, fun x hx' => ?_⟩
    · rw [hl]; simp only [List.mem_append, List.mem_map]; exact .inl (.inr ⟨x, hx, rfl⟩)
    · rcases hc.idx _ hx with h | h
      · rcases List.mem_append.1 h with h | h
        · have := hes _ h; simp at this
        · obtain ⟨y, hy, he⟩ := List.mem_map.1 h
          injection he with _ he
          exact he ▸ hy
      · simp at h; omega
    · obtain ⟨d, hd, hm, hk⟩ := hsl x hx
      exact ⟨d, hd, by rw [hl]; simp only [List.mem_append]; exact .inl (.inl hm), hk⟩
    · obtain ⟨d, q, hm, hk⟩ := hx x hx'
      exact ⟨d, q, by rw [hl]; simp only [List.mem_append]; exact .inl (.inl hm), hk⟩
  · exact ih hes' i (by omega) h2
theorem G_confK {id : Nat} {Q : Exit → GS → Prop} {s s'' : GS} {M : (Nat → Bool) → List (List PV)} (n : Nat) (hn : ops.size = n) (hm : K.P.follows .mixedOrders = true)
 (hs : Le K s ⟨base, M noB⟩) (hc : ConfK kl K ops M base 0 [] fs) (hnd : (fs.map (·.2.1)).Nodup) (hdis : ∀ x ∈ base, x.1 ∉ fs.map (·.2.1)) (hdep : ∀ i, i < n → ∀ d ∈ depsOf ops i, d < i)
 (hs'' : Le K ⟨mkK kl (allB n) fs ++ base, M (allB n)⟩ s'') (hfi : ∀ x ∈ fs, x.1 < n) (hq : Q .normal s'') : G K (.region id ops true) Q s := by
 subst hn
 rintro a w ha
 obtain ⟨S, O, m, hr⟩ := hs a w ha
 have hd := hr.drew
 refine wp_mono (Q := endN K Q) (wp_region_any hm ?_) (fun e a' w' ⟨he, s', hq, hat⟩ => ⟨s', he ▸ hq, hat⟩)
 have hbl : ∀ {t p}, (base.lookup t) = some p → t ∉ fs.map (·.2.1) := fun h => hdis _ (lookup_mem' _ _ _ h)
 have key : ∀ fuel (listed : Array Bool) a w, listed.size = ops.size → open_ listed = fuel → Valid ops (bOf listed) → At K ⟨mkK kl (bOf listed) fs ++ base, M (bOf listed)⟩ a w → wpAny K.P .any ops (endN K Q) fuel listed a w := by
  intro fuel
  induction fuel with
  | zero =>
   intro listed a w hsz ho _ hat
   have hall : ∀ i, i < ops.size → listed.getD i true = true := fun i hi => open_zero ho i (by omega)
   have hb : bOf listed = allB ops.size := by
    funext j
    unfold bOf allB
    by_cases hj : j < ops.size
    · have := hall j hj
      rw [Array.getD_eq_getD_getElem?, Array.getElem?_eq_getElem (by omega)] at this
      rw [Array.getD_eq_getD_getElem?, Array.getElem?_eq_getElem (by omega)]
      simp at this ⊢
      rw [this]; exact (show Nat.blt j ops.size = true by rw [Nat.blt_eq]; exact hj).symm
    · rw [Array.getD_eq_getD_getElem?, Array.getElem?_eq_none (by omega)]
      have : Nat.blt j ops.size = false := by
       cases hb : Nat.blt j ops.size with
       | false => rfl
       | true => rw [Nat.blt_eq] at hb; omega
      rw [this]; rfl
   refine ⟨?_, rfl, s'', hq, ?_⟩
   · rw [List.eq_nil_iff_forall_not_mem]
     intro i hi
     obtain ⟨h1, o, ho, _⟩ := mem_ready.1 hi
     rw [hall i (Array.getElem?_eq_some_iff.1 ho).1] at h1; cases h1
   · rw [hb] at hat; exact hs'' a w hat
  | succ fuel ih =>
   intro listed a w hsz ho hv hat
   refine ⟨fun hr0 => ?_, fun i hi => ?_⟩
   · exfalso
     -- the least one that is open is ready
     have hex : ∃ i, i < ops.size ∧ listed.getD i true = false := by
      refine Classical.byContradiction fun hne => ?_
      have : open_ listed = 0 := by
       unfold open_
       rw [List.length_eq_zero_iff, List.filter_eq_nil_iff]
       intro x hx
       obtain ⟨i, hi, rfl⟩ := List.mem_iff_getElem.1 hx
       have hi' : i < listed.size := by simpa using hi
       have h1 : ¬ (listed.getD i true = false) := fun h => hne ⟨i, by omega, h⟩
       rw [Array.getD_eq_getD_getElem?, Array.getElem?_eq_getElem hi'] at h1
       simpa using h1
      omega
     have hmin : ∀ k i, i ≤ k → i < ops.size → listed.getD i true = false → ∃ j, j < ops.size ∧ listed.getD j true = false ∧ ∀ d, d < j → listed.getD d true = true := by
      intro k
      induction k with
      | zero => intro i h1 h2 h3; exact ⟨i, h2, h3, fun d hd => by omega⟩
      | succ k ihk =>
       intro i h1 h2 h3
       by_cases hd : ∃ d, d < i ∧ listed.getD d true = false
       · obtain ⟨d, h4, h5⟩ := hd; exact ihk d (by omega) (by omega) h5
       · exact ⟨i, h2, h3, fun d hd' => by
          cases h : listed.getD d true with
          | true => rfl
          | false => exact absurd ⟨d, hd', h⟩ hd⟩
     obtain ⟨i, h2, h3⟩ := hex
     obtain ⟨j, hj1, hj2, hj3⟩ := hmin i i (Nat.le_refl _) h2 h3
     have : j ∈ Region.ready .any ops listed := mem_ready.2 ⟨hj2, ops[j], Array.getElem?_eq_getElem hj1, fun e he hb => by
      have hlt := hdep j hj1 _ (depsOf_mem (Array.getElem?_eq_getElem hj1) he hb)
      have := hj3 _ hlt
      rw [Array.getD_eq_getD_getElem?, Array.getElem?_eq_getElem (by omega)] at this ⊢
      simpa using this⟩
     rw [hr0] at this; cases this
   · obtain ⟨hi1, o, hoi, hi2⟩ := mem_ready.1 hi
     have hilt : i < ops.size := (Array.getElem?_eq_some_iff.1 hoi).1
     have hbi : bOf listed i = false := by
      unfold bOf
      rw [Array.getD_eq_getD_getElem?, Array.getElem?_eq_getElem (by omega)] at hi1 ⊢
      simpa using hi1
     have hbd : ∀ j ∈ depsOf ops i, bOf listed j = true := fun j hj => by
      unfold depsOf at hj
      rw [hoi] at hj
      obtain ⟨e, he, rfl⟩ := List.mem_map.1 hj
      obtain ⟨he1, he2⟩ := List.mem_filter.1 he
      exact hi2 e (by simpa using he1) he2
     obtain ⟨sl, r, xt, hst, hr1, hr2, hsl, hxt⟩ := hc.at (fun x hx => by cases hx) i (Nat.zero_le _) hilt
     have hle : Le K ⟨mkK kl (bOf listed) fs ++ base, M (bOf listed)⟩ ⟨sl ++ base ++ (mkK kl (bOf listed) fs), M (bOf listed)⟩ := Le_slots rfl fun t p hp => by
      simp only [GS.get, lookup_append] at hp ⊢
      cases h1 : sl.lookup t with
      | some q =>
       rw [h1] at hp
       have hqp : q = p := by simpa using hp
       subst hqp
       obtain ⟨d, hd, hmem, hk⟩ := hsl _ (lookup_mem' _ _ _ h1)
       left
       rw [mkK_lookup hnd hmem, alive_of (hbd d hd) hbi hk]; rfl
      | none =>
       rw [h1] at hp
       cases h2 : base.lookup t with
       | some q =>
        rw [h2] at hp
        left
        rw [mkK_none (hbl h2)]; simpa using hp
       | none =>
        rw [h2] at hp
        left
        have h3 : (mkK kl (bOf listed) fs).lookup t = some p := by simpa using hp
        rw [h3]; rfl
     have h1 := hst (bOf listed) (mkK kl (bOf listed) fs) hbi hbd hv a w (hle a w hat)
     rw [wpOps_cons] at h1
     refine wpOp_to ?_ ?_ h1
     · rintro e a' w' hne' ⟨s', ⟨he, _⟩, _⟩
       exact absurd he hne'
     · intro a' w' h2
       obtain ⟨s', ⟨_, rfl⟩, hat'⟩ := (h2 : ∃ s', _ ∧ _)
       have hset := bOf_set (listed := listed) (i := i) (by omega)
       refine ih (listed.setIfInBounds i true) a' w' (by simpa using hsz) (by have := open_set (listed := listed) (i := i) (by omega) hi1; omega) ?_ ?_
       · rw [hset]
         intro j hj d hdj
         unfold upd at hj ⊢
         cases hdi : Nat.beq d i with
         | true => rfl
         | false =>
          simp only [cond_false]
          cases hji : Nat.beq j i with
          | true =>
           have : j = i := Nat.eq_of_beq_eq_true hji
           subst this; exact hbd d hdj
          | false => rw [hji] at hj; exact hv j (by simpa using hj) d hdj
       · rw [hset]
         refine Le_slots (s := ⟨r ++ (xt ++ (sl ++ base ++ mkK kl (bOf listed) fs)), M (upd (bOf listed) i)⟩) (s' := ⟨mkK kl (upd (bOf listed) i) fs ++ base, M (upd (bOf listed) i)⟩) rfl (fun t p hp => ?_) a' w' hat'
         simp only [GS.get, lookup_append] at hp ⊢
         have hui : upd (bOf listed) i i = true := by
          unfold upd
          rw [beq_yes]; rfl
         have hun : ∀ j, ¬ j = i → upd (bOf listed) i j = bOf listed j := fun j hj => by
          unfold upd
          rw [beq_no hj]; rfl
         by_cases ht : t ∈ fs.map (·.2.1)
         · obtain ⟨⟨j, t', p'⟩, hx, rfl⟩ := List.mem_map.1 ht
           rw [mkK_lookup hnd hx] at hp
           have hp' : cond (alive kl (upd (bOf listed) i) j) p' PV.undef = p := by simpa using hp
           cases hal : alive kl (upd (bOf listed) i) j with
           | false =>
            rw [hal] at hp'
            exact .inr hp'.symm
           | true =>
            rw [hal] at hp'
            have hpp : p' = p := hp'
            subst hpp
            left
            unfold alive at hal
            rw [Bool.and_eq_true] at hal
            obtain ⟨hal1, hal2⟩ := hal
            have hnk : ¬ kl.lookup j = some i := fun h => by rw [h] at hal2; simp only [hui] at hal2; cases hal2
            have hxn : xt.lookup t' = none := by
             cases hxl : xt.lookup t' with
             | none => rfl
             | some q =>
              exfalso
              obtain ⟨d, q', hm, hk⟩ := hxt _ (lookup_mem' _ _ _ hxl)
              have := key_uniq hnd hm hx rfl
              injection this with h1 _
              subst h1
              exact hnk hk
            by_cases hji : j = i
            · subst hji
              obtain ⟨q, hq⟩ := lookup_isSome (hr2 _ hx)
              have := key_uniq hnd (hr1 _ (lookup_mem' _ _ _ hq)) hx rfl
              injection this with _ this
              injection this with _ this
              subst this
              show (r.lookup t').or _ = _
              rw [show r.lookup t' = some q from hq]; rfl
            · have hbj : bOf listed j = true := by rw [← hun j hji]; exact hal1
              have halj : alive kl (bOf listed) j = true := by
               unfold alive
               rw [hbj]
               cases hk : kl.lookup j with
               | none => rfl
               | some m =>
                rw [hk] at hal2
                have hmi : ¬ m = i := fun h => hnk (h ▸ hk)
                simp only [hun m hmi] at hal2
                simpa using hal2
              have hrn : r.lookup t' = none := by
               cases hrl : r.lookup t' with
               | none => rfl
               | some q =>
                exfalso
                have := key_uniq hnd (hr1 _ (lookup_mem' _ _ _ hrl)) hx rfl
                injection this with this _
                exact hji this.symm
              have hbn : base.lookup t' = none := by
               cases hb : base.lookup t' with
               | none => rfl
               | some q => exact absurd ht (hbl hb)
              show (r.lookup t').or _ = _
              rw [hrn, hxn, hbn, mkK_lookup hnd hx, halj]
              cases hsll : sl.lookup t' with
              | some q =>
               obtain ⟨d, hd, hmem, _⟩ := hsl _ (lookup_mem' _ _ _ hsll)
               have := key_uniq hnd hmem hx rfl
               injection this with h1 h2
               injection h2 with _ h2
               subst h1; subst h2
               rfl
              | none => rfl
         · rw [mkK_none ht] at hp
           have hp' : base.lookup t = some p := by simpa using hp
           have hrn : r.lookup t = none := by
            cases hrl : r.lookup t with
            | none => rfl
            | some q => exact absurd (List.mem_map.2 ⟨_, hr1 _ (lookup_mem' _ _ _ hrl), rfl⟩) ht
           have hxn : xt.lookup t = none := by
            cases hrl : xt.lookup t with
            | none => rfl
            | some q =>
             obtain ⟨d, q', hmem, _⟩ := hxt _ (lookup_mem' _ _ _ hrl)
             exact absurd (List.mem_map.2 ⟨_, hmem, rfl⟩) ht
           have hsn : sl.lookup t = none := by
            cases hrl : sl.lookup t with
            | none => rfl
            | some q =>
             obtain ⟨d, _, hmem, _⟩ := hsl _ (lookup_mem' _ _ _ hrl)
             exact absurd (List.mem_map.2 ⟨_, hmem, rfl⟩) ht
           left
           rw [hrn, hxn, hsn, hp']; rfl
 have hb0 : bOf (Array.replicate ops.size false) = noB := by
  funext j
  unfold bOf noB
  rw [Array.getD_eq_getD_getElem?, Array.getElem?_replicate]
  split <;> rfl
 refine key ops.size (Array.replicate ops.size false) a w.drew (by simp) (by simp [open_]) ?_ ?_
 · rw [hb0]; intro j hj; cases hj
 · rw [hb0]
   refine Le_slots (s := ⟨base, M noB⟩) (s' := ⟨mkK kl noB fs ++ base, M noB⟩) rfl (fun t p hp => ?_) a w.drew ⟨S, O, m, hd⟩
   simp only [GS.get, lookup_append] at hp ⊢
   by_cases ht : t ∈ fs.map (·.2.1)
   · obtain ⟨⟨j, t', p'⟩, hx, rfl⟩ := List.mem_map.1 ht
     rw [mkK_lookup hnd hx] at hp
     right
     have : PV.undef = p := by simpa [alive, noB] using hp
     exact this.symm
   · rw [mkK_none ht] at hp
     left; simpa using hp
def CGk (kl : List (Nat × Nat)) (K : Ctx) (ops : Array Oper) (M : (Nat → Bool) → List (List PV)) (base : List (Nat × PV)) (Q : Exit → GS → Prop) (i : Nat) (es : List (Nat × Nat × PV)) : Prop :=
 ∃ fs, ConfK kl K ops M base i es fs ∧ (fs.map (·.2.1)).Nodup ∧ (∀ x ∈ base, x.1 ∉ fs.map (·.2.1)) ∧ (∀ x ∈ fs, x.1 < ops.size) ∧ Q .normal ⟨(fs.filter fun x => (kl.lookup x.1).isNone).map (·.2) ++ base, M (allB ops.size)⟩
def CFk (kl : List (Nat × Nat)) (K : Ctx) (ops : Array Oper) (M : (Nat → Bool) → List (List PV)) (base : List (Nat × PV)) (Q : Exit → GS → Prop) (i : Nat) (es : List (Nat × Nat × PV)) (full : List (Nat × PV) → List (Nat × PV)) : Prop :=
 ∀ ds : List Nat, (∀ rest, pick es ds ++ base ++ rest = full rest) → (ds.all fun d => (depsOf ops i).contains d && (match kl.lookup d with | none => true | some m => Nat.beq m i)) = true → CGk kl K ops M base Q i es
theorem ck_step (j : Nat) {kl : List (Nat × Nat)} {K : Ctx} {ops : Array Oper} {M : (Nat → Bool) → List (List PV)} {base : List (Nat × PV)} {Q : Exit → GS → Prop} {i : Nat} {es es' : List (Nat × Nat × PV)} {r xt : List (Nat × PV)} {full : List (Nat × PV) → List (Nat × PV)}
 (h : ∀ (b : Nat → Bool) (rest : List (Nat × PV)), b i = false → (∀ j ∈ depsOf ops i, b j = true) → Valid ops b → GOps K ops (fun e s' => e = .normal ∧ s' = ⟨r ++ (xt ++ full rest), M (upd b i)⟩) [i] ⟨full rest, M b⟩)
 (hc : CGk kl K ops M base Q j es') (hj : i + 1 = j) (hes : es ++ r.map (fun x => (i, x)) = es')
 (hx : (xt.all fun y => es.any fun e => Nat.beq e.2.1 y.1 && (match kl.lookup e.1 with | some m => Nat.beq m i | none => false)) = true) : CFk kl K ops M base Q i es full := by
 subst hj
 subst hes
 intro ds hfull hds
 obtain ⟨fs, h1, h2⟩ := hc
 refine ⟨fs, .step (sl := pick es ds) (r := r) (xt := xt) (fun b rest g1 g2 g3 => ?_) (fun x hx => ?_) (fun x hx' => ?_) h1, h2⟩
 · rw [hfull]; exact h b rest g1 g2 g3
 · obtain ⟨d, g1, g2⟩ := pick_mem hx
   have := List.all_eq_true.1 hds d g1
   rw [Bool.and_eq_true] at this
   refine ⟨d, by simpa using this.1, g2, ?_⟩
   cases hk : kl.lookup d with
   | none => exact .inl rfl
   | some m =>
    have h3 := this.2
    rw [hk] at h3
    exact .inr (by rw [Nat.eq_of_beq_eq_true h3])
 · have g1 := List.all_eq_true.1 hx x hx'
   obtain ⟨⟨d, t, q⟩, g2, g3⟩ := List.any_eq_true.1 g1
   rw [Bool.and_eq_true] at g3
   obtain ⟨g3, g4⟩ := g3
   have hte : t = x.1 := Nat.eq_of_beq_eq_true g3
   subst hte
   refine ⟨d, q, g2, ?_⟩
   cases hk : kl.lookup d with
   | none => simp only [hk] at g4; cases g4
   | some m =>
    simp only [hk] at g4
    rw [Nat.eq_of_beq_eq_true g4]
theorem ck_st (j : Nat) {kl : List (Nat × Nat)} {K : Ctx} {ops : Array Oper} {M : (Nat → Bool) → List (List PV)} {base : List (Nat × PV)} {Q : Exit → GS → Prop} {i t : Nat} {es es' : List (Nat × Nat × PV)} {p : PV} {full : List (Nat × PV) → List (Nat × PV)}
 (h : ∀ (b : Nat → Bool) (rest : List (Nat × PV)), b i = false → (∀ j ∈ depsOf ops i, b j = true) → Valid ops b → GOps K ops (fun e s' => e = .normal ∧ s' = ⟨(t, p) :: full rest, M (upd b i)⟩) [i] ⟨full rest, M b⟩)
 (hc : CGk kl K ops M base Q j es') (hj : i + 1 = j := by rfl) (hes : es ++ [(i, t, p)] = es' := by exact J10) : CFk kl K ops M base Q i es full := ck_step j (r := [(t, p)]) (xt := []) h hc hj hes rfl
theorem ck_tk (j u : Nat) {kl : List (Nat × Nat)} {K : Ctx} {ops : Array Oper} {M : (Nat → Bool) → List (List PV)} {base : List (Nat × PV)} {Q : Exit → GS → Prop} {i t : Nat} {es es' : List (Nat × Nat × PV)} {p q : PV} {full : List (Nat × PV) → List (Nat × PV)}
 (h : ∀ (b : Nat → Bool) (rest : List (Nat × PV)), b i = false → (∀ j ∈ depsOf ops i, b j = true) → Valid ops b → GOps K ops (fun e s' => e = .normal ∧ s' = ⟨(t, p) :: (u, q) :: full rest, M (upd b i)⟩) [i] ⟨full rest, M b⟩)
 (hc : CGk kl K ops M base Q j es') (hj : i + 1 = j := by rfl) (hes : es ++ [(i, t, p)] = es' := by exact J10)
 (hx : (([(u, q)] : List (Nat × PV)).all fun y => es.any fun e => Nat.beq e.2.1 y.1 && (match kl.lookup e.1 with | some m => Nat.beq m i | none => false)) = true := by rfl) : CFk kl K ops M base Q i es full := ck_step j (r := [(t, p)]) (xt := [(u, q)]) h hc hj hes hx
theorem ck_atk (j u : Nat) {kl : List (Nat × Nat)} {K : Ctx} {ops : Array Oper} {M : (Nat → Bool) → List (List PV)} {base : List (Nat × PV)} {Q : Exit → GS → Prop} {i : Nat} {es : List (Nat × Nat × PV)} {q : PV} {full : List (Nat × PV) → List (Nat × PV)}
 (h : ∀ (b : Nat → Bool) (rest : List (Nat × PV)), b i = false → (∀ j ∈ depsOf ops i, b j = true) → Valid ops b → GOps K ops (fun e s' => e = .normal ∧ s' = ⟨(u, q) :: full rest, M (upd b i)⟩) [i] ⟨full rest, M b⟩)
 (hc : CGk kl K ops M base Q j es) (hj : i + 1 = j := by rfl)
 (hx : (([(u, q)] : List (Nat × PV)).all fun y => es.any fun e => Nat.beq e.2.1 y.1 && (match kl.lookup e.1 with | some m => Nat.beq m i | none => false)) = true := by rfl) : CFk kl K ops M base Q i es full := ck_step j (r := []) (xt := [(u, q)]) h (by simpa using hc) hj rfl hx
theorem g_ck (kl : List (Nat × Nat)) {K : Ctx} {id : Nat} {ops : Array Oper} {Q : Exit → GS → Prop} {slots base : List (Nat × PV)} {mem : List (List PV)} (dsts : List Nat) (M : (Nat → Bool) → List (List PV)) (hM : M noB = mem) (hc : CGk kl K ops M base Q 0 [])
 (hbase : (slots.filter fun x => !dsts.contains x.1) = base := by exact J2)
 (hm : K.P.follows .mixedOrders = true := by kernel_rfl) (hdep : ((List.range ops.size).all fun i => (depsOf ops i).all fun d => Nat.blt d i) = true := by kernel_rfl) : G K (.region id ops true) Q ⟨slots, mem⟩ := by
 obtain ⟨fs, hc, hnd, hdis, hfi, hq⟩ := hc
 refine G_confK ops.size rfl hm (Le_slots (s' := ⟨base, M noB⟩) hM fun t p hp => .inl ?_) hc hnd hdis (fun i hi d hd => ?_) (Le_slots (s' := ⟨(fs.filter fun x => (kl.lookup x.1).isNone).map (·.2) ++ base, M (allB ops.size)⟩) rfl fun t p hp => .inl (alive_end hnd hfi t p hp hdis)) hfi hq
 · subst hbase
   exact filter_lookup (fun k => !dsts.contains k) _ t p hp
 · have h1 := List.all_eq_true.1 hdep i (List.mem_range.2 hi)
   have h2 := List.all_eq_true.1 h1 d hd
   simpa using h2
end
section
def inScp (Q : Exit → GS → Prop) : Exit → GS → Prop
 | .goto _, _ => False
 | e, s => Q e s
theorem G_scope {K : Ctx} {c : Code} {Q : Exit → GS → Prop} {s : GS} (h : G K c (inScp Q) s) : G K (.scope c) Q s := by
 intro a w ha
 refine wp_scope_straight (wp_mono (h a w ha) ?_)
 rintro e a' w' ⟨s', q, r⟩
 cases e with
 | normal => exact ⟨s', q, r⟩
 | exit id' => exact ⟨s', q, r⟩
 | goto l => exact q.elim
 | ret => exact ⟨s', q, r⟩
 | panic ch => exact ⟨s', q, r⟩
 | outgrown => exact ⟨s', q, r⟩
theorem G_label {K : Ctx} {l : Nat} {Q : Exit → GS → Prop} {s : GS} (h : Q .normal s) : G K (.label l) Q s := fun a w ha => wp_label ⟨s, h, ha⟩
section
variable {Q : Exit → GS → Prop} {s : GS} {id : Nat}
end
end
section
def chain1 (v : Value) : List PanicEntry := [{ v := v, recovered := false }]
def GX (P : Program) (f : FuncId) (args : List PV) (mem : List (List PV)) (R : PV → List (List PV) → Prop) (RX : Value → List (List PV) → Prop) : Prop :=
 ∀ (w : World) (S : Reg) (O : Owns) (m : List Nat) (vals : Array Value), Env S O w S O m mem w → vals.size = args.length →
  (∀ (i : Nat) p v, args[i]? = some p → vals[i]? = some v → RP w S O m [i, 0] p v) →
  Calls P f vals w (fun e w' => (∃ v r mem' S' O' m', e = .returned v ∧ R r mem' ∧ Env S O w S' O' m' mem' w' ∧ m <+: m' ∧ RP w' S' O' m' [2] r v) ∨
   ∃ v mem' S' O' m', e = .panicked (chain1 v) ∧ RX v mem' ∧ Env S O w S' O' m' mem' w' ∧ m <+: m')
def FinX (P : Program) (rvs : List ResultVar) (k : Nat) (R : PV → List (List PV) → Prop) (RX : Value → List (List PV) → Prop) : Exit → GS → Prop
 | .panic ch, s => ∃ v mem', ch = chain1 v ∧ k ≤ mem'.length ∧ MSub mem'.length s.mem mem' ∧ RX v mem'
 | e, s => Fin P rvs k R e s
theorem gx_body {P : Program} {f : FuncId} {fn : Func} {c : Code} {args : List PV} {mem : List (List PV)} {R : PV → List (List PV) → Prop} {RX : Value → List (List PV) → Prop} (n : Nat) (rvs : List ResultVar) (slots : List (Nat × PV)) (k : Nat)
 (hf : P.funcs[f]? = some fn) (hb : fn.body = some c) (hn : fn.ntmps = n) (hal : args.length ≤ n) (hres : fn.results = rvs.toArray) (hsl : (List.range args.length).zip args = slots) (hk : mem.length = k)
 (h : ∀ S0 O0 w0 m0, m0.length = k → G ⟨P, n, S0, O0, w0, m0, [], []⟩ c (FinX P rvs k R RX) ⟨slots, mem⟩) : GX P f args mem R RX := by
 subst hsl
 subst hk
 intro w S O m vals henv hvs hargs
 refine calls_of_wp hf hb ?_
 have hrep : At ⟨P, n, S, O, w, m, [], []⟩ ⟨(List.range args.length).zip args, mem⟩ { tmps := vals ++ Array.replicate (fn.ntmps - vals.size) undef, defers := [] } w := by
  refine ⟨S, O, m, henv, rfl, by simp [hn]; omega, List.prefix_rfl, fun i p hp => ?_⟩
  have hp' : args[i]? = some p := by rw [← lookup_zip]; exact hp
  have hlt : i < args.length := (lG hp')
  have hlt2 : i < vals.size := by omega
  rw [Array.getD_eq_getD_getElem?, Array.getElem?_append_left hlt2, Array.getElem?_eq_getElem hlt2]
  exact hargs i p _ hp' (Array.getElem?_eq_getElem hlt2)
 refine wp_mono (h S O w m henv.mlen _ _ hrep) ?_
 have key : ∀ e a' w' s', (e = .normal ∨ e = .ret) → Fin P rvs mem.length R e s' → At ⟨P, n, S, O, w, m, [], []⟩ s' a' w' → a'.defers = [] ∧ ∃ v, (results fn a'.tmps).run P w' = .ok v w' ∧ ∃ v' r mem' S' O' m', (Ending.returned v : Ending) = .returned v' ∧ R r mem' ∧ Env S O w S' O' m' mem' w' ∧ m <+: m' ∧ RP w' S' O' m' [2] r v' := by
  rintro e a' w' s' he ⟨-, hfin⟩ ⟨S', O', m', hr'⟩
  have hex : ∃ v r mem' O'', (results fn a'.tmps).run P w' = .ok v w' ∧ R r mem' ∧ Env S O w S' O'' (m'.take mem'.length) mem' w' ∧ m <+: m'.take mem'.length ∧ RP w' S' O'' (m'.take mem'.length) [2] r v := by
   rcases hfin with ⟨ps, mem', hL, hlen, hms, hrf, hR⟩ | ⟨t, k, xs, mem', hrv, hst, hlen, hms, hR⟩
   · obtain ⟨v, hrun, hrp⟩ := hL.run hr' hres O'
     exact ⟨v, _, mem', O', hrun, hR, hr'.env.less hms, List.prefix_take_iff.2 ⟨hr'.pre, by rw [henv.mlen]; exact hlen⟩, hrp.take mem'.length hrf⟩
   · have hsl := hr'.slots t _ hst
     have hres' : fn.results = #[.tmp t] := by rw [hres, hrv]
     refine ⟨a'.tmps.getD t undef, _, mem', reo O' (renTR t), by simp [results, hres'], hR, (hr'.env.less hms).relab (renTR t) (fun _ => if_neg (by simp)) (fun i j q => if_neg (end_ne q j i t)),
      List.prefix_take_iff.2 ⟨hr'.pre, by rw [henv.mlen]; exact hlen⟩, (hsl.move (l' := [2]) rfl (renTR t) (by simp [renTR])).take _ rfl⟩
  obtain ⟨v, r, mem', O'', hrun, hR, henv', hpre, hrp'⟩ := hex
  exact ⟨hr'.defers, v, hrun, v, r, mem', S', O'', _, rfl, hR, henv', hpre, hrp'⟩
 rintro e a' w' ⟨s', hq, hat⟩
 cases e with
 | normal => obtain ⟨h1, v, h2, h3⟩ := key _ a' w' s' (.inl rfl) hq hat; exact ⟨h1, v, h2, .inl h3⟩
 | ret => obtain ⟨h1, v, h2, h3⟩ := key _ a' w' s' (.inr rfl) hq hat; exact ⟨h1, v, h2, .inl h3⟩
 | panic ch =>
  obtain ⟨v, mem', rfl, hlen, hms, hR⟩ := hq
  obtain ⟨S', O', m', hr'⟩ := hat
  exact ⟨hr'.defers, .inr ⟨v, mem', S', O', _, rfl, hR, hr'.env.less hms, List.prefix_take_iff.2 ⟨hr'.pre, by rw [henv.mlen]; exact hlen⟩⟩⟩
 | exit id => obtain ⟨he, _⟩ := hq; simp at he
 | goto l => obtain ⟨he, _⟩ := hq; simp at he
 | outgrown => obtain ⟨he, _⟩ := hq; simp at he
def Px (P : Program) (f : FuncId) (args : List D) (out : PV ⊕ Value) : Prop := Fok P f ∧ GX P f (args.map .d) [] (fun q m => out = .inl q ∧ m = []) (fun v m => out = .inr v ∧ m = [])
theorem Px.inl {P : Program} {f : FuncId} {args : List D} {r : PV} (h : Px P f args (.inl r)) : Pf P f args r :=
 ⟨h.1, fun w S O m vals h1 h2 h3 => (h.2 w S O m vals h1 h2 h3).mono fun _ _ hx => by
  rcases hx with ⟨v, q, mem', S', O', m', e, ⟨g, hm⟩, rest⟩ | ⟨v, mem', S', O', m', e, ⟨g, _⟩, _⟩
  · injection g with g
    exact ⟨v, q, mem', S', O', m', e, ⟨g.symm, hm⟩, rest⟩
  · cases g⟩
theorem px_body {P : Program} {f : FuncId} {fn : Func} {c : Code} {args : List D} {out : PV ⊕ Value} {n : Nat} {rvs : List ResultVar} (slots : List (Nat × PV)) (hf : P.funcs[f]? = some fn) (hn : fn.ntmps = n) (hres : fn.results = rvs.toArray)
 (h : ∀ S0 O0 w0 m0, m0.length = 0 → G ⟨P, n, S0, O0, w0, m0, [], []⟩ c (FinX P rvs 0 (fun q m => out = .inl q ∧ m = []) (fun v m => out = .inr v ∧ m = [])) ⟨slots, []⟩)
 (hb : fn.body = some c := by rfl) (hnm : (fn.name == "runtime.NumGoroutine") = false := by rfl) (hal : args.length ≤ n := by exact oR rfl) (hsl : (List.range (args.map PV.d).length).zip (args.map PV.d) = slots := by rfl) : Px P f args out :=
 ⟨⟨fn, hf, by rw [hb]; rfl, hnm⟩, gx_body n rvs slots 0 hf hb hn (by simpa using hal) hres hsl rfl h⟩
section
variable {K : Ctx} {y : Code} {Q : Exit → GS → Prop} {s : GS} {id : Nat} {ch : List PanicEntry} {P : Program} {rvs : List ResultVar} {k : Nat} {R : PV → List (List PV) → Prop} {RX : Value → List (List PV) → Prop}
theorem fx_normal (h : Fin P rvs k R .normal s) : FinX P rvs k R RX .normal s := h
theorem fx_panic {v : Value} (h : RX v []) : FinX P rvs 0 R RX (.panic (chain1 v)) s := ⟨v, [], rfl, Nat.le_refl _, .nil, h⟩
end
theorem g_loopp {K : Ctx} {c : Code} {Q : Exit → GS → Prop} {s : GS} {α : Type} (St : α → GS) (mu : α → Nat) (I : α → Prop) (x0 : α) (h0 : I x0)
 (hr : ∀ x, I x → ∀ Q' : Exit → GS → Prop, (∀ s' x', I x' → mu x' < mu x → Le K s' (St x') → Q' .normal s') → (∀ id s', Q (.exit id) s' → Q' (.exit id) s') → (∀ s', Q .ret s' → Q' .ret s') → (∀ ch s', Q (.panic ch) s' → Q' (.panic ch) s') → G K c Q' (St x))
 (hs : Le K s (St x0)) : G K (.loop c) Q s :=
 G_loop St mu I x0 h0 hs (fun x hx => hr x hx _ (fun s' x' h1 h2 h3 => ⟨x', h1, h2, h3⟩) (fun _ _ h => h) (fun _ h => h) (fun _ _ h => h))
theorem Rep.afterP {K : Ctx} {S : Reg} {O : Owns} {m : List Nat} {s : GS} {a : Act} {w w' : World} (h : Rep K S O m s a w) {S' : Reg} {O' : Owns} {m' : List Nat} (he : Env S noOwns w S' O' m' [] w') : At K s a w' := by
 let O'' : Owns := fun b => if b < w.heap.size then O b else O' b
 have hO1 : ∀ b, b < w.heap.size → O'' b = O b := fun b hb => if_pos hb
 have hO2 : ∀ b, ¬ b < w.heap.size → O'' b = O' b := fun b hb => if_neg hb
 have hE := he.ext
 have hold : ∀ b, b < w.heap.size → w'.heap[b]? = w.heap[b]? := fun b hb => he.old b hb rfl
 have hk : ∀ (b : Nat) l t', O b = some (l, t') → O'' b = some (l, t') := fun b l t' hb => by rw [hO1 b (h.env.olt b l t' hb)]; exact hb
 refine ⟨S', O'', m, ⟨⟨h.env.ext.trans hE h.env.s0, fun b hb hO => ?_, fun b l t' o hb hO hot => ?_, fun b o hb => he.s0 b o (h.env.s0 b o hb), fun b o hb => ?_, fun b o l t' hS hO => ?_, he.slt, fun b l t' hO => ?_, fun b l t' hO => ?_, h.env.mlen, fun i cs r' hi hr' hne' => ?_⟩, h.defers, h.size, h.pre, fun i p hp => ?_⟩⟩
 · rw [hold b (Nat.lt_of_lt_of_le hb h.env.ext.size)]; exact h.env.old b hb hO
 · have : w'.cell? ⟨b, o, none⟩ = w.cell? ⟨b, o, none⟩ := by simp only [World.cell?, hold b (Nat.lt_of_lt_of_le hb h.env.ext.size)]
   rw [this]; exact h.env.part b l t' o hb hO hot
 · rcases he.snew b o hb with h1 | h1 | ⟨_, _, h1, _⟩
   · exact h.env.snew b o h1
   · exact .inr (.inl (Nat.le_trans h.env.ext.size h1))
   · cases h1
 · by_cases hb : b < w.heap.size
   · rw [hO1 b hb] at hO
     rcases he.snew b o hS with h1 | h1 | ⟨_, _, h1, _⟩
     · exact h.env.sown b o l t' h1 hO
     · omega
     · cases h1
   · rw [hO2 b hb] at hO
     exact he.sown b o l t' hS hO
 · by_cases hb : b < w.heap.size
   · exact Nat.lt_of_lt_of_le hb hE.size
   · rw [hO2 b hb] at hO; exact he.olt b l t' hO
 · by_cases hb : b < w.heap.size
   · rw [hO1 b hb] at hO; exact h.env.onew b l t' hO
   · exact .inl (Nat.le_trans h.env.ext.size (Nat.le_of_not_lt hb))
 · obtain ⟨g1, g2⟩ := h.env.mem i cs r' hi hr' hne'
   exact ⟨hk _ _ _ g1, g2.frame (hold _ (h.env.olt _ _ _ g1)) hE he.s0 (fun j b t' q hb => hk b _ t' hb) (fun _ _ h => h)⟩
 · exact (h.slots i p hp).ext hE he.s0 (fun b t' q hb => hk b _ t' hb) (fun _ _ h => h)
theorem GOps_callp {K : Ctx} {ops : Array Oper} {Q : Exit → GS → Prop} {s : GS} {i : Nat} {rest : List Nat} {o : Oper} {fx : Operand} {xs : List Operand} {tys : Array TypeId} {f : FuncId} {fn : Func} {fa fc ds : List D} {u : Value}
 (ho : ops[i]? = some o) (hop : o.op = .call ⟨.value fx, xs.toArray, tys⟩) (hg : o.guard = none)
 (hfx : (s.ev fx).callee = some (f, fa, fc)) (hxs : PV.toDs (xs.map s.ev) = some ds)
 (hf : K.P.funcs[f]? = some fn) (hb : fn.body.isSome = true) (hn : (fn.name == "runtime.NumGoroutine") = false)
 (hc : Px K.P f (fa ++ ds ++ fc) (.inr u)) (h : Q (.panic (chain1 u)) s) : GOps K ops Q (i :: rest) s := by
 rintro a w ⟨S, O, m, hr⟩
 obtain ⟨l, hrf⟩ := hr.ev fx
 obtain ⟨vf, vc, hvf, hs1, hs2, g1, g2⟩ := hrf.callee hfx
 obtain ⟨hlen, hrd⟩ := evs_rd hr xs hxs
 have hrun : (execOp a.eval o).run K.P w = .ok (.enter f (vf ++ (xs.map a.eval).toArray ++ vc)) w := by
  simp only [execOp, hop]
  simp [resolve, Deferred.ofValue, hvf, invoke, run_callFunc hf hb hn]
 simp only [wpOps, ho, Region.wanted, hg, if_true]
 refine .inl ?_
 simp only [Oper.wp, hrun, Oper.upon_enter]
 have hcall := hc.2 w S noOwns [] (vf ++ (xs.map a.eval).toArray ++ vc) hr.env.entry (by simp [hs1, hs2, hlen]) (fun j p v hp hv => by
  rw [List.getElem?_map] at hp
  cases hj : (fa ++ ds ++ fc)[j]? with
  | none => rw [hj] at hp; cases hp
  | some d =>
   simp only [hj, Option.map_some, Option.some.injEq] at hp; subst hp
   refine .d _ _ _ ?_
   by_cases h1 : j < fa.length
   · rw [List.append_assoc, List.getElem?_append_left h1] at hj
     rw [Array.append_assoc, Array.getElem?_append_left (by omega)] at hv
     exact g1 j d v hj hv
   · by_cases h2 : j < fa.length + ds.length
     · rw [List.getElem?_append_left (by simp; omega), List.getElem?_append_right (by omega)] at hj
       rw [Array.getElem?_append_left (by simp; omega), Array.getElem?_append_right (by omega), hs1] at hv
       exact hrd _ d v hj (by simpa using hv)
     · rw [List.getElem?_append_right (by simp; omega)] at hj
       rw [Array.getElem?_append_right (by simp; omega)] at hv
       refine g2 _ d v hj ?_
       rw [← hv]; congr 1; simp; omega)
 refine Calls.mono hcall ?_
 rintro e w' (⟨v, r, mem', S', O', m', rfl, ⟨hR, _⟩, _⟩ | ⟨v, mem', S', O', m', rfl, ⟨hR, rfl⟩, henv, _⟩)
 · cases hR
 · injection hR with hR
   subst hR
   exact ⟨s, h, hr.afterP henv⟩
end
end Go.Proofs.Ytklkbfpjimeaoaa.E
