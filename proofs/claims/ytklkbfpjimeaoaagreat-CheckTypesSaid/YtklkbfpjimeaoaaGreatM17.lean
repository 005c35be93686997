import Derived.Test.YtklkbfpjimeaoaaGreatM16
/- Contracts of functions. Conditions: none. -/
set_option linter.unusedSimpArgs false
set_option linter.unusedVariables false
namespace Go.Proofs.YtklkbfpjimeaoaaGreat.E
open Go
section
def COp (K : Ctx) (fr : List Fr) (ops : Array Oper) (base : List (Nat × PV)) (mem : List (List PV)) (p0 i : Nat) (es : List (Nat × Nat × PV)) (Q : Exit → GS → Prop) : Prop :=
 ∃ fs, ConfP p0 [] K ops (fun _ => mem) base i es fs ∧ (fs.map (·.2.1)).Nodup ∧ (∀ x ∈ base, x.1 ∉ fs.map (·.2.1)) ∧ (∀ x ∈ fs, x.1 < ops.size) ∧
  ∃ slp : List (Nat × PV), (∀ x ∈ slp, ∃ d ∈ depsOf ops p0, (d, x) ∈ fs ∧ (([] : List (Nat × Nat)).lookup d = none ∨ ([] : List (Nat × Nat)).lookup d = some p0)) ∧ ∀ (b : Nat → Bool) (rest : List (Nat × PV)), (∀ j ∈ depsOf ops p0, b j = true) → GOps K ops (fun e s' => e ≠ .normal ∧ unf K Q fr e s') [p0] ⟨slp ++ base ++ rest, mem⟩
theorem oStepP {K : Ctx} {fr : List Fr} {ops : Array Oper} {base pre : List (Nat × PV)} {mem : List (List PV)} {p0 i j t : Nat} {es es' : List (Nat × Nat × PV)} {Q : Exit → GS → Prop} {p : PV} (hs : see ops.toList i es base = some pre) (hj : nth nums (i + 1) = some j) (hes : snocK es (i, t, p) some = some es')
 (hc : COp K fr ops base mem p0 j es' Q) (hstep : ∀ (rest : List (Nat × PV)) (Q' : Exit → GS → Prop), GF K [] (.ops ops []) Q' ⟨(t, p) :: (pre ++ rest), mem⟩ → GF K [] (.ops ops [i]) Q' ⟨pre ++ rest, mem⟩) : COp K fr ops base mem p0 i es Q := by
 obtain ⟨o, ho, rfl⟩ := see_of hs
 have hj := numj hj
 rw [snocK_eq] at hes
 injection hes with hes
 subst hj; subst hes
 obtain ⟨fs, h1, h2⟩ := hc
 refine ⟨fs, .step (sl := pick es (depsOf ops i)) (r := [(t, p)]) (xt := []) (fun b rest _ _ _ => ofO (fr := []) (hstep rest (fun e s' => e = .normal ∧ s' = ⟨(t, p) :: (pick es (depsOf ops i) ++ base ++ rest), mem⟩) (toO (fr := []) (gN ⟨rfl, rfl⟩)))) (fun x hx => ?_) (fun x hx => by cases hx) h1, h2⟩
 obtain ⟨d, g1, g2⟩ := pick_mem hx
 exact ⟨d, g1, g2, .inl rfl⟩
theorem oPanic {K : Ctx} {fr : List Fr} {ops : Array Oper} {base pre : List (Nat × PV)} {mem : List (List PV)} {i t : Nat} {es : List (Nat × Nat × PV)} {Q : Exit → GS → Prop} {ob : List (Bool × Bool)} {f : FuncId} {ds : List D} {u : Value} (hs : see ops.toList i es base = some pre)
 (h : ∀ rest, cls ops.toList K.n i (pre ++ rest) = some (t, none, ob, f, ds)) (hc : Px K.P f ds (.inr u)) (hg : ∀ s', GF K fr (.leave (.panic (chain1 u))) Q s')
 (hn : nodupB (es.map (·.2.1)) = true) (hb : base.all (fun x => !(es.map (·.2.1)).contains x.1) = true) (hf : es.all (fun x => Nat.blt x.1 ops.size) = true) : COp K fr ops base mem i i es Q := by
 obtain ⟨o, ho, rfl⟩ := see_of hs
 refine ⟨es, .done rfl, nodupB_iff hn, fun x hx hm => ?_, fun x hx => blt_of (List.all_eq_true.1 hf x hx), pick es (depsOf ops i), fun x hx => ?_, fun b rest _ => ?_⟩
 · have := List.all_eq_true.1 hb x hx
   simp only [Bool.not_eq_true', List.contains_eq_mem, decide_eq_false_iff_not] at this
   exact this hm
 · obtain ⟨d, g1, g2⟩ := pick_mem hx
   exact ⟨d, g1, g2, .inl rfl⟩
 · exact ofO (fr := []) (gCP (fr := []) (Q := fun e s' => e ≠ .normal ∧ unf K Q fr e s') (h rest) hc ⟨(by intro h; cases h), hg _⟩)
theorem gOpenP (p0 : Nat) {K : Ctx} {fr : List Fr} {id : Nat} {ops : Array Oper} {sl base : List (Nat × PV)} {mem : List (List PV)} {ds : List Nat} {Q : Exit → GS → Prop} (hb : baseK ops.toList sl = some (ds, base)) (hm : K.P.follows .mixedOrders = true)
 (hdep : ((List.range ops.size).all fun i => (depsOf ops i).all fun d => Nat.blt d i) = true) (hp0 : Nat.blt p0 ops.size = true) (hlater : ((List.range ops.size).all fun j => !(Nat.blt p0 j) || (depsOf ops j).contains p0) = true) (h : COp K fr ops base mem p0 0 [] Q) : GF K fr (.code (.region id ops true)) Q ⟨sl, mem⟩ := by
 obtain ⟨ds', h1⟩ := dstsK_any hb
 have h2 := fltK_of ds' h1
 injection h2 with h2; injection h2 with h3 h4
 subst h3
 obtain ⟨fs, hc, hnd, hdis, hfi, slp, hslp, hpan⟩ := h
 refine G_confP (slp := slp) (kl := []) (M := fun _ => mem) (fs := fs) p0 ops.size rfl hm (Le_slots (s' := ⟨base, mem⟩) rfl fun t p hp => .inl ?_) hc (blt_of hp0) (fun j hj hjn => ?_) hpan hslp hnd hdis (fun i hi d hd => ?_) hfi
 · subst h4
   exact filter_lookup (fun k => !ds'.contains k) _ t p hp
 · have := List.all_eq_true.1 hlater j (List.mem_range.2 hjn)
   rw [show Nat.blt p0 j = true from by rw [Nat.blt_eq]; exact hj] at this
   simpa using this
 · exact blt_of (List.all_eq_true.1 (List.all_eq_true.1 hdep i (List.mem_range.2 hi)) d hd)
end
section
variable {ops : Array Oper} {i t : Nat} {f : FuncId} {args : List PV}
theorem cms_of {n : Nat} {sl : List (Nat × PV)} (h : cms ops.toList n i sl = some (t, f, args)) :
 ∃ (o : Oper) (ar : Array Operand) (tys : Array TypeId) (fx : Operand) (a b : List PV), ops[i]? = some o ∧ o.dst = some t ∧ t < n ∧ o.guard = none ∧ o.op = .call ⟨.value fx, ar, tys⟩ ∧ ∀ mem : List (List PV), (GS.ev ⟨sl, mem⟩ fx).callee' = some (f, a, b) ∧ PV.copies (a ++ ar.toList.map (GS.ev ⟨sl, mem⟩) ++ b) = args := by
 obtain ⟨o, ho1, h1⟩ := opK_of h
 obtain ⟨t', hdt, ht, h2⟩ := dstK_of h1
 clear h h1
 have hoi : ops[i]? = some o := by rw [nth_eq] at ho1; rw [← ho1]; simp
 split at h2
 · cases h2
 · rename_i hgd
   split at h2
   · rename_i c hop
     split at h2
     · rename_i fx hcal
       rw [evsK_eq] at h2
       obtain ⟨ca, ar, tys⟩ := c
       dsimp only at hcal h2
       subst hcal
       have hm : ∀ mem : List (List PV), ar.toList.map (evl sl) = ar.toList.map (GS.ev ⟨sl, mem⟩) := fun mem => List.map_congr_left fun x _ => evl_eq' sl mem x
       split at h2
       · rename_i f' a b hfx
         rw [appK_eq, appK_eq, copiesK_eq] at h2
         injection h2 with h2; injection h2 with e1 h2; injection h2 with e2 e3
         subst e2; subst e1
         refine ⟨o, ar, tys, fx, a, b, hoi, hdt, ht, hgd, hop, fun mem => ?_⟩
         rw [evl_eq' sl mem] at hfx
         exact ⟨by rw [hfx]; rfl, by rw [← hm]; exact e3⟩
       · rename_i f' a b hfx
         rw [appK_eq, appK_eq, copiesK_eq] at h2
         injection h2 with h2; injection h2 with e1 h2; injection h2 with e2 e3
         subst e2; subst e1
         refine ⟨o, ar, tys, fx, a.map .d, b.map .d, hoi, hdt, ht, hgd, hop, fun mem => ?_⟩
         rw [evl_eq' sl mem] at hfx
         exact ⟨by rw [hfx]; rfl, by rw [← hm]; exact e3⟩
       · cases h2
     · cases h2
   · cases h2
theorem gMs {K : Ctx} {fr : List Fr} {Q : Exit → GS → Prop} {l : List Nat} {sl : List (Nat × PV)} {mem mem0 mem1 mem' : List (List PV)} {args0 : List PV} {r r' : PV} (sel : List Nat)
 (h : cms ops.toList K.n i sl = some (t, f, args)) (hc : Gm K.P f args0 mem0 r mem1) (hargs : args = PV.rens (fun b => sel.getD b 0) args0) (hnd : sel.Nodup) (hsel : ∀ b ∈ sel, b < mem.length)
 (hmem : sel.map (fun b => mem.getD b []) = mem0.map (PV.rens (fun b => sel.getD b 0))) (hra : PV.refsBs sel.length args0 = true) (hrm : mem0.all (PV.refsBs sel.length) = true) (hl : mem1.length = sel.length)
 (hr : r.ren (fun b => sel.getD b 0) = r') (hm : setAll mem sel (mem1.map (PV.rens (fun b => sel.getD b 0))) = mem') (hg : GF K fr (.ops ops l) Q ⟨(t, r') :: sl, mem'⟩) : GF K fr (.ops ops (i :: l)) Q ⟨sl, mem⟩ := by
 subst hr; subst hm
 refine toO ?_
 have hg := ofO hg
 obtain ⟨o, ar, tys, fx, a, b, hoi, hdt, ht, hgd, hop, hcal⟩ := cms_of h
 obtain ⟨h1, h2⟩ := hcal mem
 obtain ⟨⟨fn, hf, hb, hn⟩, hp⟩ := hc
 exact GOps_callm (xs := ar.toList) sel args0 mem0 hoi (by simpa using hop) hdt hgd h1 (h2.trans hargs) hnd hsel hmem hra hrm hf hb hn ht hp (fun r' m' hr => by obtain ⟨rfl, rfl⟩ := hr; exact ⟨hl, hg⟩)
theorem gXs {K : Ctx} {fr : List Fr} {Q : Exit → GS → Prop} {l : List Nat} {sl : List (Nat × PV)} {mem mem0 mem1 mem' : List (List PV)} {args0 : List PV} {r r' : PV} (sel : List Nat)
 (h : cms ops.toList K.n i sl = some (t, f, args)) (hc : Xm K.P f args0 mem0 (.inl r) mem1) (hargs : args = PV.rens (fun b => sel.getD b 0) args0) (hnd : sel.Nodup) (hsel : ∀ b ∈ sel, b < mem.length)
 (hmem : sel.map (fun b => mem.getD b []) = mem0.map (PV.rens (fun b => sel.getD b 0))) (hra : PV.refsBs sel.length args0 = true) (hrm : mem0.all (PV.refsBs sel.length) = true) (hl : mem1.length = sel.length)
 (hr : r.ren (fun b => sel.getD b 0) = r') (hm : setAll mem sel (mem1.map (PV.rens (fun b => sel.getD b 0))) = mem') (hg : GF K fr (.ops ops l) Q ⟨(t, r') :: sl, mem'⟩) : GF K fr (.ops ops (i :: l)) Q ⟨sl, mem⟩ := by
 subst hr; subst hm
 refine toO ?_
 have hg := ofO hg
 obtain ⟨o, ar, tys, fx, a, b, hoi, hdt, ht, hgd, hop, hcal⟩ := cms_of h
 obtain ⟨h1, h2⟩ := hcal mem
 obtain ⟨⟨fn, hf, hb, hn⟩, hp⟩ := hc
 refine GOps_callx (xs := ar.toList) sel args0 mem0 hoi (by simpa using hop) hdt hgd h1 (h2.trans hargs) hnd hsel hmem hra hrm hf hb hn ht hp (fun r' m' hr => ?_) (fun v m' hv => ?_)
 · obtain ⟨hr, rfl⟩ := hr
   injection hr with hr; subst hr
   exact ⟨hl, hg⟩
 · obtain ⟨hv, _⟩ := hv; cases hv
end
section
theorem gCutF {K : Ctx} {fr : List Fr} {x y : Code} {Q : Exit → GS → Prop} {s : GS} {α : Type} (St : α → GS) (I : α → Prop)
 (hx : ∀ Q' : Exit → GS → Prop, (∀ s' z, I z → Le K s' (St z) → Q' .normal s') → (∀ id s', GF K fr (.leave (.exit id)) Q s' → Q' (.exit id) s') → (∀ s', GF K fr (.leave .ret) Q s' → Q' .ret s') → (∀ ch s', GF K fr (.leave (.panic ch)) Q s' → Q' (.panic ch) s') → GF K [] (.code x) Q' s)
 (hy : ∀ z, I z → GF K fr (.code y) Q (St z)) : GF K (.thn y :: fr) (.code x) Q s :=
 hx (thn K y (unf K Q fr)) (fun _ z hz hl => G_le hl (hy z hz)) (fun _ _ h => h) (fun _ h => h) (fun _ _ h => h)
end
section
theorem leFz {K : Ctx} {s s' : GS} {n : Nat} {d : D} (isAgg : Bool) (h : frs isAgg s = some (n, d, s')) (hk : K.m0.length ≤ n) (hrf : s'.mem.all (PV.refsBs n) = true) : Le K s s' := by
 obtain ⟨sl, mem⟩ := s
 unfold frs at h
 dsimp only at h
 obtain ⟨keep, cs, hm, h⟩ := popK_of h
 rw [lenK_eq] at h
 split at h
 · rename_i ds hds
   split at h
   · rw [frzK_eq] at h
     injection h with h; injection h with f1 h; injection h with f2 f3
     subst f1; subst f2; subst f3
     exact Le_freeze keep.length hm rfl hds rfl hk hrf
   · split at h
     · split at h
       · rename_i hl
         rw [frzK_eq] at h
         injection h with h; injection h with f1 h; injection h with f2 f3
         subst f1; subst f2; subst f3
         exact Le_freeze keep.length hm rfl hds (isLeaf_of hl) hk hrf
       · cases h
     · cases h
 · cases h
theorem leFm {K : Ctx} {s s' : GS} {keep : List (List PV)} {ks : List D} {vs : List PV} {ds : List D} {kvs : List (D × D)} (n : Nat) (hmem : s.mem = keep ++ [mpc ks vs]) (hn : keep.length = n) (hds : PV.toDs vs = some ds) (hl : vs.length = ks.length) (hit : ∀ k ∈ ks, k ≠ .nilF) (hz : ks.zip ds = kvs) (hm : K.m0.length ≤ n)
 (hs : GS.mk (s.slots.map fun x => (x.1, PV.frz n noF noH (.d (.map kvs)) x.2)) (keep.map (PV.frzs n noF noH (.d (.map kvs)))) = s') : Le K s s' := by
 subst hs; subst hz
 exact Le_freezeP n hmem hn hds hl hit hm
def COh (K : Ctx) (fr : List Fr) (ops : Array Oper) (base : List (Nat × PV)) (iS : Nat) (c1 c2 : List PV) (tl : List (List PV)) (i : Nat) (es : List (Nat × Nat × PV)) (Q : Exit → GS → Prop) : Prop := CGk [] K ops (fun b => (cond (b iS) c2 c1) :: tl) base (unf K Q fr) i es
section
variable {K : Ctx} {fr : List Fr} {ops : Array Oper} {base pre : List (Nat × PV)} {iS : Nat} {c1 c2 : List PV} {tl : List (List PV)} {i j t : Nat} {es es' : List (Nat × Nat × PV)} {Q : Exit → GS → Prop} {p : PV}
theorem oStepH (hs : see ops.toList i es base = some pre) (hj : nth nums (i + 1) = some j) (hes : snocK es (i, t, p) some = some es') (hiS : Nat.beq i iS = false)
 (hc : COh K fr ops base iS c1 c2 tl j es' Q) (hstep : ∀ (rest : List (Nat × PV)) (X : List PV) (Q' : Exit → GS → Prop), GF K [] (.ops ops []) Q' ⟨(t, p) :: (pre ++ rest), X :: tl⟩ → GF K [] (.ops ops [i]) Q' ⟨pre ++ rest, X :: tl⟩) : COh K fr ops base iS c1 c2 tl i es Q := by
 obtain ⟨o, ho, rfl⟩ := see_of hs
 have hj := numj hj
 rw [snocK_eq] at hes
 injection hes with hes
 subst hj; subst hes
 have hM : ∀ b : Nat → Bool, upd b i iS = b iS := fun b => by
  unfold upd
  rw [beq_sw hiS]; rfl
 have hck : CFk [] K ops (fun b => (cond (b iS) c2 c1) :: tl) base (unf K Q fr) i es (fun rest => pick es (depsOf ops i) ++ base ++ rest) :=
  ck_st (i + 1) (fun b rest _ _ _ => by rw [hM]; exact ofO (fr := []) (hstep rest _ (fun e s' => e = .normal ∧ s' = ⟨(t, p) :: (pick es (depsOf ops i) ++ base ++ rest), (cond (b iS) c2 c1) :: tl⟩) (toO (fr := []) (gN ⟨rfl, rfl⟩)))) hc rfl rfl
 exact hck (depsOf ops i) (fun _ => rfl) (see_ds (i := i))
theorem oFillH (hs : see ops.toList iS es base = some pre) (hj : nth nums (iS + 1) = some j)
 (hc : COh K fr ops base iS c1 c2 tl j es Q) (hstep : ∀ (rest : List (Nat × PV)) (Q' : Exit → GS → Prop), GF K [] (.ops ops []) Q' ⟨pre ++ rest, c2 :: tl⟩ → GF K [] (.ops ops [iS]) Q' ⟨pre ++ rest, c1 :: tl⟩) : COh K fr ops base iS c1 c2 tl iS es Q := by
 obtain ⟨o, ho, rfl⟩ := see_of hs
 have hj := numj hj
 subst hj
 have hck : CFk [] K ops (fun b => (cond (b iS) c2 c1) :: tl) base (unf K Q fr) iS es (fun rest => pick es (depsOf ops iS) ++ base ++ rest) :=
  ck_act (iS + 1) (fun b rest hb hd _ => by
   have h2 : upd b iS iS = true := by unfold upd; rw [Nat.beq_refl]; rfl
   rw [h2, hb]
   exact ofO (fr := []) (hstep rest (fun e s' => e = .normal ∧ s' = ⟨pick es (depsOf ops iS) ++ base ++ rest, c2 :: tl⟩) (toO (fr := []) (gN ⟨rfl, rfl⟩)))) hc rfl
 exact hck (depsOf ops iS) (fun _ => rfl) (see_ds (i := iS))
theorem oEndH {sl : List (Nat × PV)} (hi : sizeIs ops.toList i = true) (hp : putK es base some = some sl) (hS : Nat.blt iS ops.size = true) (h : GF K fr (.leave .normal) Q ⟨sl, c2 :: tl⟩)
 (hn : nodupB (es.map (·.2.1)) = true) (hb : base.all (fun x => !(es.map (·.2.1)).contains x.1) = true) (hf : es.all (fun x => Nat.blt x.1 ops.size) = true) : COh K fr ops base iS c1 c2 tl i es Q := by
 have hi := sizeIs_of _ _ hi
 have hp := putK_of hp
 injection hp with hp
 subst hp
 refine ⟨es, .done hi.symm, nodupB_iff hn, fun x hx hm => ?_, fun x hx => blt_of (List.all_eq_true.1 hf x hx), ?_⟩
 · have := List.all_eq_true.1 hb x hx
   simp only [Bool.not_eq_true', List.contains_eq_mem, decide_eq_false_iff_not] at this
   exact this hm
 · have h1 : (es.filter fun x => (List.lookup x.1 ([] : List (Nat × Nat))).isNone) = es := List.filter_eq_self.2 (fun x _ => rfl)
   have h2 : allB ops.size iS = true := by unfold allB; rw [hS]
   dsimp only
   rw [h1, h2]
   exact h
end
theorem gOpenH (iS : Nat) {K : Ctx} {fr : List Fr} {id : Nat} {ops : Array Oper} {sl base : List (Nat × PV)} {c1 c2 : List PV} {tl : List (List PV)} {ds : List Nat} {Q : Exit → GS → Prop} (hb : baseK ops.toList sl = some (ds, base)) (hm : K.P.follows .mixedOrders = true)
 (hdep : ((List.range ops.size).all fun i => (depsOf ops i).all fun d => Nat.blt d i) = true) (h : COh K fr ops base iS c1 c2 tl 0 [] Q) : GF K fr (.code (.region id ops true)) Q ⟨sl, c1 :: tl⟩ := by
 obtain ⟨ds', h1⟩ := dstsK_any hb
 have h2 := fltK_of ds' h1
 injection h2 with h2; injection h2 with h3 h4
 subst h3
 exact g_ck [] ds' (fun b => (cond (b iS) c2 c1) :: tl) rfl h h4 hm hdep
end
end Go.Proofs.YtklkbfpjimeaoaaGreat.E
