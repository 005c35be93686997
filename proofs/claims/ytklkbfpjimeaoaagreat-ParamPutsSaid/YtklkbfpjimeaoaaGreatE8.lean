/- THE ENGINE, part 8: knowing less, the ways out of code, and more operations. Conditions: none; generic in the program. -/
import Derived.Test.YtklkbfpjimeaoaaGreatE7
namespace Go.Proofs.YtklkbfpjimeaoaaGreat.E
open Go
section
variable {K : Ctx} {y : Code} {Q : Exit → GS → Prop} {s : GS} {id id' : Nat}
theorem thn_normal (h : G K y Q s) : thn K y Q .normal s := h
theorem thn_exit (h : Q (.exit id) s) : thn K y Q (.exit id) s := h
theorem thn_ret (h : Q .ret s) : thn K y Q .ret s := h
theorem blk_normal (h : Q .normal s) : inBlk id Q .normal s := h
theorem blk_ret (h : Q .ret s) : inBlk id Q .ret s := h
theorem blk_exit (h : Q .normal s) : inBlk id Q (.exit id) s := by simp only [inBlk, if_true]; exact h
theorem blk_other (hne : id' ≠ id) (h : Q (.exit id') s) : inBlk id Q (.exit id') s := by simp only [inBlk, if_neg hne]; exact h
end
/-- What follows an operation, the state in the spelling that is given. -/
theorem S_val {K : Ctx} {ops : Array Oper} {Q : Exit → GS → Prop} {s s' s'' : GS} {i : Nat} {rest : List Nat} {o : Oper} (ho : ops[i]? = some o) (hg : o.guard = none)
    (hy : Yld K o s s') (hs : s' = s'') (h : GOps K ops Q rest s'') : GOps K ops Q (i :: rest) s := by subst hs; exact GOps_val ho hg hy h
theorem S_act {K : Ctx} {ops : Array Oper} {Q : Exit → GS → Prop} {s s' s'' : GS} {i : Nat} {rest : List Nat} {o : Oper} (ho : ops[i]? = some o) (hg : o.guard = none)
    (hy : Does K o s s') (hs : s' = s'') (h : GOps K ops Q rest s'') : GOps K ops Q (i :: rest) s := by subst hs; exact GOps_act ho hg hy h
def PV.wk (q p : PV) : Prop := q = p ∨ p = .undef ∨ (q = .nils ∧ ∃ k, p = .osl k []) ∨ (q = .nils ∧ p = .d (.sl [])) ∨ (∃ k xs, q = .osl k xs ∧ p = .d (.sl xs))
theorem RP.wk {w : World} {S : Reg} {O : Owns} {m l : List Nat} {q p : PV} {v : Value} (h : RP w S O m l q v) (hw : PV.wk q p) : RP w S O m l p v := by
  rcases hw with rfl | rfl | ⟨rfl, k, rfl⟩ | ⟨rfl, rfl⟩ | ⟨k, xs, rfl, rfl⟩
  · exact h
  · exact .undef _ _
  · cases h with
    | nils => exact .osl l k [] none 0 (rd_nilslice w S) (by simp) (fun _ => rfl) (by simp)
  · exact .d _ _ _ (h.toD _ rfl)
  · exact .d _ _ _ (h.toD _ rfl)
mutual
def PV.refsB (n : Nat) : PV → Bool
  | .ref b _ => decide (b < n)
  | .rsl b _ _ _ => decide (b < n)
  | .mref b => decide (b < n)
  | .fn _ a c => PV.refsBs n a && PV.refsBs n c
  | .agg cs => PV.refsBs n cs
  | .tup cs => PV.refsBs n cs
  | .when _ p => PV.refsB n p
  | _ => true
def PV.refsBs (n : Nat) : List PV → Bool
  | [] => true
  | p :: ps => PV.refsB n p && PV.refsBs n ps
end
theorem PV.refsBs_get {n : Nat} {ps : List PV} (h : PV.refsBs n ps = true) {j : Nat} {p : PV} (hp : ps[j]? = some p) : PV.refsB n p = true := by
  induction ps generalizing j with
  | nil => simp at hp
  | cons q qs ih =>
    simp only [PV.refsBs, Bool.and_eq_true] at h
    cases j with
    | zero => simp at hp; exact hp ▸ h.1
    | succ j => exact ih h.2 (by simpa using hp)
theorem RP.take {w : World} {S : Reg} {O : Owns} {m l : List Nat} {p : PV} {v : Value} (h : RP w S O m l p v) (n : Nat) : PV.refsB n p = true → RP w S O (m.take n) l p v := by
  induction h with
  | d l x v h => exact fun _ => .d l x v h
  | nils l => exact fun _ => .nils l
  | osl l k xs a cap hr hk hn ht => exact fun _ => .osl l k xs a cap hr hk hn ht
  | ref l b off r h => intro hb; simp only [PV.refsB, decide_eq_true_eq] at hb; exact .ref l b off r (by rw [List.getElem?_take, if_pos hb]; exact h)
  | rsl l b off n' k a cap hc hl h0 h => intro hb; simp only [PV.refsB, decide_eq_true_eq] at hb; exact .rsl l b off n' k a cap hc hl h0 (fun hn => by obtain ⟨r, h1, h2⟩ := h hn; exact ⟨r, by rw [List.getElem?_take, if_pos hb]; exact h1, h2⟩)
  | mref l b r h => intro hb; simp only [PV.refsB, decide_eq_true_eq] at hb; exact .mref l b r (by rw [List.getElem?_take, if_pos hb]; exact h)
  | fn l f first caps vf vc h1 h2 _ _ g1 g2 =>
    intro hb
    simp only [PV.refsB, Bool.and_eq_true] at hb
    exact .fn l f first caps vf vc h1 h2 (fun i p v hi hv => g1 i p v hi hv (PV.refsBs_get hb.1 hi)) (fun i p v hi hv => g2 i p v hi hv (PV.refsBs_get hb.2 hi))
  | agg l cs vs hl ho _ ih => intro hb; simp only [PV.refsB] at hb; exact .agg l cs vs hl ho (fun i p v hi hv => ih i p v hi hv (PV.refsBs_get hb hi))
  | tup l cs vs hl _ ih => intro hb; simp only [PV.refsB] at hb; exact .tup l cs vs hl (fun i p v hi hv => ih i p v hi hv (PV.refsBs_get hb hi))
  | whenT l b p v hbt _ ih => intro hb; simp only [PV.refsB] at hb; exact .whenT l b p v hbt (ih hb)
  | whenF l b p hbf => exact fun _ => .whenF l b p hbf
  | undef l v => exact fun _ => .undef l v
inductive Sub (s : GS) (n : Nat) : List (Nat × PV) → Prop
  | nil : Sub s n []
  | cons {i : Nat} {q p : PV} {rest : List (Nat × PV)} : s.get i = some q → PV.wk q p → PV.refsB n p = true → Sub s n rest → Sub s n ((i, p) :: rest)
theorem Sub.get {s : GS} {n : Nat} {l : List (Nat × PV)} (h : Sub s n l) : ∀ i p, l.lookup i = some p → ∃ q, s.get i = some q ∧ PV.wk q p ∧ PV.refsB n p = true := by
  induction h with
  | nil => intro i p hp; simp at hp
  | cons h1 h2 h3 _ ih =>
    intro i p hp
    rw [List.lookup_cons] at hp
    split at hp
    · rename_i hb; injection hp with hp; subst hp; have := eq_of_beq hb; subst this; exact ⟨_, h1, h2, h3⟩
    · exact ih i p hp
inductive CSub (n : Nat) : List PV → List PV → Prop
  | nil : CSub n [] []
  | cons {q p : PV} {qs ps : List PV} : PV.wk q p → PV.refsB n p = true → CSub n qs ps → CSub n (q :: qs) (p :: ps)
theorem CSub.get {n : Nat} {qs ps : List PV} (h : CSub n qs ps) : qs.length = ps.length ∧ ∀ (j : Nat) p, ps[j]? = some p → ∃ q, qs[j]? = some q ∧ PV.wk q p ∧ PV.refsB n p = true := by
  induction h with
  | nil => exact ⟨rfl, fun j p h => by simp at h⟩
  | cons h1 h2 _ ih =>
    refine ⟨by simp [ih.1], fun j p hp => ?_⟩
    cases j with
    | zero => simp at hp; subst hp; exact ⟨_, rfl, h1, h2⟩
    | succ j => exact ih.2 j p (by simpa using hp)
inductive MSub (n : Nat) : List (List PV) → List (List PV) → Prop
  | nil {ms : List (List PV)} : MSub n ms []
  | cons {cs cs' : List PV} {ms ms' : List (List PV)} : CSub n cs cs' → MSub n ms ms' → MSub n (cs :: ms) (cs' :: ms')
theorem MSub.get {n : Nat} {ms ms' : List (List PV)} (h : MSub n ms ms') : ms'.length ≤ ms.length ∧ ∀ (i : Nat) cs', ms'[i]? = some cs' → ∃ cs, ms[i]? = some cs ∧ CSub n cs cs' := by
  induction h with
  | nil => exact ⟨by simp, fun i cs h => by simp at h⟩
  | cons h1 _ ih =>
    refine ⟨by simp [ih.1], fun i cs' hc => ?_⟩
    cases i with
    | zero => simp at hc; subst hc; exact ⟨_, rfl, h1⟩
    | succ i => exact ih.2 i cs' (by simpa using hc)
theorem Env.less {S0 : Reg} {O0 : Owns} {w0 : World} {S : Reg} {O : Owns} {m : List Nat} {mem mem' : List (List PV)} {w : World} (h : Env S0 O0 w0 S O m mem w) (hm : MSub mem'.length mem mem') :
    Env S0 O0 w0 S O (m.take mem'.length) mem' w := by
  obtain ⟨h1, h2⟩ := hm.get
  refine ⟨h.ext, h.old, h.part, h.s0, h.snew, h.sown, h.slt, h.olt, h.onew, by simp [h.mlen]; omega, fun i cs' r hi hr hne' => ?_⟩
  obtain ⟨cs, hcs, hsub⟩ := h2 i cs' hi
  obtain ⟨hl, hg⟩ := hsub.get
  have hr' : m[i]? = some r := by
    rw [List.getElem?_take] at hr
    split at hr
    · exact hr
    · cases hr
  obtain ⟨g1, g2⟩ := h.mem i cs r hcs hr' (by rintro rfl; exact hne' (List.eq_nil_of_length_eq_zero (by simpa using hl.symm)))
  refine ⟨g1, g2.to rfl (Ext.refl S w) (fun _ _ h => h) (by omega) (fun j p hp => ?_) (fun kvs hc => ?_) (fun hc => ?_)⟩
  · obtain ⟨q, hq, hw, hb⟩ := hg j p hp
    exact ⟨q, hq, fun v hr => (hr.wk hw).take _ hb⟩
  · subst hc
    obtain ⟨p, rfl⟩ : ∃ p, cs' = [p] := by
      match cs', hl with
      | [p], _ => exact ⟨p, rfl⟩
    obtain ⟨q, hq, hw, _⟩ := hg 0 p rfl
    simp at hq
    subst hq
    rcases hw with rfl | rfl | ⟨h, _⟩ | ⟨h, _⟩ | ⟨_, _, h, _⟩
    · exact .inl rfl
    · exact .inr rfl
    · cases h
    · cases h
    · cases h
  · subst hc
    obtain ⟨p, rfl⟩ : ∃ p, cs' = [p] := by
      match cs', hl with
      | [p], _ => exact ⟨p, rfl⟩
    obtain ⟨q, hq, hw, _⟩ := hg 0 p rfl
    simp at hq
    subst hq
    rcases hw with rfl | rfl | ⟨h, _⟩ | ⟨h, _⟩ | ⟨_, _, h, _⟩
    · rfl
    · rfl
    · cases h
    · cases h
    · cases h
theorem Le_of {K : Ctx} {s s' : GS} (hk : K.m0.length ≤ s'.mem.length) (hm : MSub s'.mem.length s.mem s'.mem) (hs : Sub s s'.mem.length s'.slots) : Le K s s' := by
  rintro a w ⟨S, O, m, h⟩
  refine ⟨S, O, m.take s'.mem.length, h.env.less hm, h.defers, h.size, List.prefix_take_iff.2 ⟨h.pre, hk⟩, fun i p hp => ?_⟩
  obtain ⟨q, hq, hw, hb⟩ := hs.get i p hp
  exact ((h.slots i q hq).wk hw).take _ hb
/-- A loop, its rounds' ends by 'Le'. -/
theorem G_loop' {K : Ctx} {c : Code} {Q : Exit → GS → Prop} {s : GS} {α : Type} (St : α → GS) (mu : α → Nat) (I : α → Prop) (x0 : α) (h0 : I x0) (hs : Le K s (St x0))
    (hr : ∀ x, I x → ∀ Q' : Exit → GS → Prop, (∀ s' x', I x' → mu x' < mu x → Le K s' (St x') → Q' .normal s') → (∀ id s', Q (.exit id) s' → Q' (.exit id) s') → (∀ s', Q .ret s' → Q' .ret s') → G K c Q' (St x)) :
    G K (.loop c) Q s := by
  refine G_loop St mu I x0 h0 hs (fun x hx => ?_)
  refine hr x hx _ (fun s' x' h1 h2 h3 => ⟨x', h1, h2, h3⟩) (fun _ _ h => h) (fun _ h => h)
/-- A cut: what stands behind x is walked once, from any of the states St. -/
theorem G_seq_cut {K : Ctx} {x y : Code} {Q : Exit → GS → Prop} {s : GS} {α : Type} (St : α → GS) (I : α → Prop)
    (hx : ∀ Q' : Exit → GS → Prop, (∀ s' z, I z → Le K s' (St z) → Q' .normal s') → (∀ id s', Q (.exit id) s' → Q' (.exit id) s') → (∀ s', Q .ret s' → Q' .ret s') → G K x Q' s)
    (hy : ∀ z, I z → G K y Q (St z)) : G K (.seq x y) Q s :=
  G_seq (hx _ (fun s' z h1 h2 => G_le h2 (hy z h1)) (fun _ _ h => h) (fun _ h => h))
theorem Q_extract {K : Ctx} {s : GS} {t u ix : Nat} {ty : TypeId} {pos : String} {af : Array Edge} {g : Option (Nat × Bool)} {ps : List PV} {p : PV}
    (hx : s.get u = some (.tup ps)) (hp : ps[ix]? = some p) (ht : t < K.n) : Qy K ⟨some t, .extract (.tmp u) ix, ty, pos, af, g⟩ s t p.copy := by
  refine fun S O m a w h => ?_
  have hr := h.slots u _ hx
  have hv : a.eval (.tmp u) = a.tmps.getD u undef := rfl
  generalize hvv : a.tmps.getD u undef = v at hr hv
  cases hr with
  | tup _ _ vs hl hh =>
    have hlt : ix < vs.size := by rw [hl]; exact (List.getElem?_eq_some_iff.1 hp).1
    refine ⟨vs[ix], fun w _ => ?_, (hh ix p _ hp (Array.getElem?_eq_getElem hlt)).copy _ _⟩
    simp only [execOp, hv]
    simp [Instr.extract, Array.getElem?_eq_getElem hlt]
theorem Y_extract {K : Ctx} {s : GS} {t u ix : Nat} {ty : TypeId} {pos : String} {af : Array Edge} {g : Option (Nat × Bool)} {ps : List PV} {p : PV}
    (hx : s.get u = some (.tup ps)) (hp : ps[ix]? = some p) (ht : t < K.n) : Yld K ⟨some t, .extract (.tmp u) ix, ty, pos, af, g⟩ s (s.set t p.copy) := Yld_pure rfl ht (Q_extract hx hp ht)
theorem Q_makeFunc {K : Ctx} {s : GS} {t : Nat} {f : Fn} {xs ys : List Operand} {ty : TypeId} {pos : String} {af : Array Edge} {g : Option (Nat × Bool)} (ht : t < K.n) :
    Qy K ⟨some t, .makeFunc f xs.toArray ys.toArray, ty, pos, af, g⟩ s t (.fn f (PV.copies (xs.map s.ev)) (PV.copies (ys.map s.ev))) := by
  refine fun S O m a w h => ?_
  refine ⟨.func f (xs.map a.eval).toArray (ys.map a.eval).toArray, fun w _ => ?_, .fn _ _ _ _ _ _ (by simp [PV.copies_map]) (by simp [PV.copies_map]) (fun i p v hp hv => ?_) (fun i p v hp hv => ?_)⟩
  · simp [execOp, Instr.makeFunc]
  · obtain ⟨q, hq, rfl⟩ := PV.copies_getElem? _ _ _ hp
    rw [List.getElem?_map] at hq
    cases hx : xs[i]? with
    | none => simp [hx] at hq
    | some x =>
      simp [hx] at hq hv; subst hq; subst hv
      obtain ⟨l, hr⟩ := h.ev x
      exact hr.copy _ _
  · obtain ⟨q, hq, rfl⟩ := PV.copies_getElem? _ _ _ hp
    rw [List.getElem?_map] at hq
    cases hx : ys[i]? with
    | none => simp [hx] at hq
    | some x =>
      simp [hx] at hq hv; subst hq; subst hv
      obtain ⟨l, hr⟩ := h.ev x
      exact hr.copy _ _
theorem Y_makeFunc {K : Ctx} {s : GS} {t : Nat} {f : Fn} {xs ys : List Operand} {ty : TypeId} {pos : String} {af : Array Edge} {g : Option (Nat × Bool)} (ht : t < K.n) :
    Yld K ⟨some t, .makeFunc f xs.toArray ys.toArray, ty, pos, af, g⟩ s (s.set t (.fn f (PV.copies (xs.map s.ev)) (PV.copies (ys.map s.ev)))) := Yld_pure rfl ht (Q_makeFunc ht)
theorem Y_append0 {K : Ctx} {s : GS} {t u : Nat} {y : Operand} {ty e rt : TypeId} {pos : String} {af : Array Edge} {g : Option (Nat × Bool)} {k : Nat} {xs : List D} {z : Value} {by_ : Nat}
    (hu : s.get u = some (.osl k xs)) (hy : (s.ev y).list? = some []) (hun : K.P.underlying ty = some (.slice e))
    (hinf : (K.P.info? e).map (fun i => (i.zero, i.size, i.bytes)) = some (some z, k, by_)) (htu : t ≠ u) (ht : t < K.n) :
    Yld K ⟨some t, .call ⟨.builtin .append, #[.tmp u, y], #[ty, ty]⟩, rt, pos, af, g⟩ s ((s.set u (.d (.sl xs))).set t (.osl k xs)) := by
  rintro a w ⟨S, O, m, h⟩
  have hru := h.slots u _ hu
  have hry := h.evl hy
  obtain ⟨inf, hin⟩ : ∃ inf, K.P.info? e = some inf := by
    cases hq : K.P.info? e with
    | none => simp [hq] at hinf
    | some i => exact ⟨i, rfl⟩
  obtain ⟨ay, capy, hvy⟩ : ∃ ay capy, a.eval y = .slice ay 0 capy := by
    generalize a.eval y = vy at hry
    cases hry with | sl _ ay capy _ _ _ _ _ _ _ => exact ⟨ay, capy, rfl⟩
  obtain ⟨ab, cap, hvu, hcap⟩ : ∃ ab cap, a.tmps.getD u undef = .slice ab xs.length cap ∧ xs.length ≤ cap := by
    generalize a.tmps.getD u undef = vu at hru
    cases hru with
    | osl _ _ _ ab cap hr hk hn ht => exact ⟨ab, cap, rfl, by cases hr with | sl _ _ _ _ h _ _ _ _ _ => exact h⟩
  have hcells : (Builtin.firstCells inf.size 0 (.slice ay 0 capy)).run K.P w = .ok #[] w := by
    cases ay with
    | none => simp [Builtin.firstCells]
    | some b => simp [Builtin.firstCells, loadCells, loadCellsFrom]
  have hrun : (Builtin.append_ #[ty, ty] rt #[.slice ab xs.length cap, .slice ay 0 capy]).run K.P w = .ok (.slice ab xs.length cap) w := by
    cases ab <;> simp [Builtin.append_, run_underlying hun, sizeOf, typeInfo, hin, Builtin.lenOf, hcap, hcells, storeCells]
  refine ⟨.slice ab xs.length cap, w, ?_, S, reo O (renTT u t), m, h.env.relab (renTT u t) (fun _ => if_neg (by simp)) (fun i j q => renTT_cell u t i j q), h.defers, by simp [Act.put, h.size], h.pre, fun i p hp => ?_⟩
  · have he : a.eval (.tmp u) = .slice ab xs.length cap := hvu
    simp [execOp, resolve, invoke, builtin, he, hvy, hrun]
  rw [getD_put _ _ _ _ (by rw [h.size]; exact ht)]
  rw [hvu] at hru
  rw [GS.get_set] at hp
  by_cases hi : i = t
  · rw [if_pos hi] at hp ⊢; injection hp with hp; subst hp; subst hi
    exact hru.move rfl _ (by simp [renTT])
  · rw [if_neg hi] at hp ⊢
    rw [GS.get_set] at hp
    by_cases hiu : i = u
    · rw [if_pos hiu] at hp; injection hp with hp; subst hp; subst hiu
      rw [hvu]
      exact (hru.copy _ _ : RP w S _ m _ (PV.osl k xs).copy _)
    · rw [if_neg hiu] at hp
      exact (h.slots i p hp).mv _ _ (fun q => if_neg (end_ne' q i u hiu))
end Go.Proofs.YtklkbfpjimeaoaaGreat.E
