/- THE ENGINE, part 2: the rules of regions and tests, and of the operations that read temporaries alone. Conditions: none; generic in the program. -/
import Derived.Test.YtklkbfpjimeaoaaGreatE1
import Derived.Laws.Entries
import Derived.Laws.CopyRow
import Derived.Laws.Rows
import Derived.Laws.Tables
import Derived.Laws.Append
import Derived.Laws.IdiomCopy
import Derived.Laws.Strings
namespace Go.Proofs.YtklkbfpjimeaoaaGreat.E
open Go
def GOps (K : Ctx) (ops : Array Oper) (Q : Exit → GS → Prop) (l : List Nat) (s : GS) : Prop :=
  ∀ a w, At K s a w → wpOps K.P ops (fun e a' w' => ∃ s', Q e s' ∧ At K s' a' w') l a w
theorem GOps_nil {K : Ctx} {ops : Array Oper} {Q : Exit → GS → Prop} {s : GS} (h : Q .normal s) : GOps K ops Q [] s := fun _ _ ha => ⟨s, h, ha⟩
theorem G_region {K : Ctx} {id : Nat} {ops : Array Oper} {Q : Exit → GS → Prop} {s : GS} (n : Nat) (l : List Nat) (hn : ops.size = n) (hl : List.range n = l) (h : GOps K ops Q l s) :
    G K (.region id ops false) Q s := fun a w ha => wp_region (by rw [hn, hl]; exact h a w ha)
/-- The operation yields a value, and then the state is s'. -/
def Yld (K : Ctx) (o : Oper) (s s' : GS) : Prop :=
  ∀ a w, At K s a w → ∃ v w', (execOp a.eval o).run K.P w = .ok (.value v) w' ∧ At K s' (a.put o.dst v) w'
/-- The operation acts, and then the state is s'. -/
def Does (K : Ctx) (o : Oper) (s s' : GS) : Prop :=
  ∀ a w, At K s a w → ∃ w', (execOp a.eval o).run K.P w = .ok .skip w' ∧ At K s' (a.put o.dst undef) w'
theorem GOps_val {K : Ctx} {ops : Array Oper} {Q : Exit → GS → Prop} {s s' : GS} {i : Nat} {rest : List Nat} {o : Oper} (ho : ops[i]? = some o) (hg : o.guard = none)
    (hy : Yld K o s s') (h : GOps K ops Q rest s') : GOps K ops Q (i :: rest) s := by
  intro a w ha
  obtain ⟨v, w', hr, ha'⟩ := hy a w ha
  simp only [wpOps, ho, Region.wanted, hg, if_true]
  exact .inl (by simp only [Oper.wp, hr, Oper.upon_value]; exact h _ _ ha')
theorem GOps_act {K : Ctx} {ops : Array Oper} {Q : Exit → GS → Prop} {s s' : GS} {i : Nat} {rest : List Nat} {o : Oper} (ho : ops[i]? = some o) (hg : o.guard = none)
    (hy : Does K o s s') (h : GOps K ops Q rest s') : GOps K ops Q (i :: rest) s := by
  intro a w ha
  obtain ⟨w', hr, ha'⟩ := hy a w ha
  simp only [wpOps, ho, Region.wanted, hg, if_true]
  exact .inl (by simp only [Oper.wp, hr, Oper.upon_skip]; exact h _ _ ha')
def ofConst : Value → PV
  | .int k n => .d (.int k n)
  | .bool b => .d (.bool b)
  | .string s => .d (.str s)
  | .pointer none => .d .nil
  | .slice none 0 0 => .nils
  | .nilFunc => .d .nilF
  | .nilIface => .d .nilI
  | .iface t (.int k n) => .d (.iface t (.int k n))
  | .iface t (.string s) => .d (.iface t (.str s))
  | _ => .undef
theorem ofConst_rp (w : World) (S : Reg) (O : Owns) (m : List Nat) (l : List Nat) (v : Value) : RP w S O m l (ofConst v) v := by
  unfold ofConst
  split
  · exact .d _ _ _ (.int _ _)
  · exact .d _ _ _ (.bool _)
  · exact .d _ _ _ (.str _)
  · exact .d _ _ _ .nil
  · exact .nils _
  · exact .d _ _ _ .nilF
  · exact .d _ _ _ .nilI
  · exact .d _ _ _ (.iface _ _ _ (.int _ _))
  · exact .d _ _ _ (.iface _ _ _ (.str _))
  · exact .undef _ _
/-- What an operand is in the walk's state. -/
def GS.ev (s : GS) : Operand → PV
  | .tmp t => (s.get t).getD .undef
  | .const v => ofConst v
  | .global _ => .undef
  | .func f => .fn (.func f) [] []
theorem Rep.ev {K : Ctx} {S : Reg} {O : Owns} {m : List Nat} {s : GS} {a : Act} {w : World} (h : Rep K S O m s a w) (x : Operand) :
    ∃ l, RP w S O m l (s.ev x) (a.eval x) := by
  cases x with
  | tmp t =>
    cases hg : s.get t with
    | none => exact ⟨[], by simp only [GS.ev, hg, Option.getD_none]; exact .undef _ _⟩
    | some p => exact ⟨[t, 0], by simp only [GS.ev, hg, Option.getD_some]; exact h.slots t p hg⟩
  | const v => exact ⟨[], ofConst_rp _ _ _ _ _ v⟩
  | global g => exact ⟨[], .undef _ _⟩
  | func f => exact ⟨[], .fn _ _ _ _ _ _ rfl rfl (fun i p v h => by simp at h) (fun i p v h => by simp at h)⟩
/-- An operand that is plain data. -/
theorem Rep.evd {K : Ctx} {S : Reg} {O : Owns} {m : List Nat} {s : GS} {a : Act} {w : World} (h : Rep K S O m s a w) {x : Operand} {d : D} (hx : s.ev x = .d d) :
    Rd w S d (a.eval x) := by
  obtain ⟨l, hr⟩ := h.ev x
  rw [hx] at hr
  cases hr with | d _ _ _ h => exact h
theorem rd_int {w : World} {S : Reg} {k : IntKind} {n : Int} {v : Value} (h : Rd w S (.int k n) v) : v = .int k n := by cases h; rfl
theorem rd_bool {w : World} {S : Reg} {b : Bool} {v : Value} (h : Rd w S (.bool b) v) : v = .bool b := by cases h; rfl
theorem rd_str {w : World} {S : Reg} {b : ByteArray} {v : Value} (h : Rd w S (.str b) v) : v = .string b := by cases h; rfl
theorem getD_put (a : Act) (t i : Nat) (v : Value) (ht : t < a.tmps.size) : (a.put (some t) v).tmps.getD i undef = if i = t then v else a.tmps.getD i undef := by
  simp only [Act.put, Array.getD_eq_getD_getElem?, Array.getElem?_setIfInBounds]
  by_cases h : t = i
  · subst h; simp [ht]
  · simp [h, Ne.symm h]
theorem GS.get_set (s : GS) (t i : Nat) (p : PV) : (s.set t p).get i = if i = t then some p else s.get i := by
  simp only [GS.get, GS.set, List.lookup_cons]
  by_cases h : i = t
  · subst h; simp
  · have : (i == t) = false := by simpa using h
    simp [this, h]
theorem Rep.put {K : Ctx} {S : Reg} {O : Owns} {m : List Nat} {s : GS} {a : Act} {w : World} (h : Rep K S O m s a w) {t : Nat} (ht : t < K.n) {p : PV} {v : Value}
    (hp : RP w S O m [t, 0] p v) : Rep K S O m (s.set t p) (a.put (some t) v) w where
  env := h.env
  defers := h.defers
  size := by simp [Act.put, h.size]
  pre := h.pre
  slots := fun i q hq => by
    rw [getD_put _ _ _ _ (by rw [h.size]; exact ht)]
    rw [GS.get_set] at hq
    by_cases hi : i = t
    · rw [if_pos hi] at hq ⊢; injection hq with hq; subst hq; subst hi; exact hp
    · rw [if_neg hi] at hq ⊢; exact h.slots i q hq
/-- The cells that no operation of the region at hand writes (Bs: the own blocks that it may write). -/
def Sreg (K : Ctx) (S : Reg) (m : List Nat) : Reg := fun b o => S b o ∨ ∃ i : Nat, m[i]? = some b ∧ K.Bs.contains i = false
/-- The operation yields p, and leaves the world as it was; in every world that has these cells it yields the same. -/
def Qy (K : Ctx) (o : Oper) (s : GS) (_t : Nat) (p : PV) : Prop :=
  ∀ S O m a w, Rep K S O m s a w → ∃ v, (∀ w', Ext (Sreg K S m) w w' → (execOp a.eval o).run K.P w' = .ok (.value v) w') ∧ RP w S O m [_t, 0] p v
/-- An operation that only computes. -/
theorem Yld_pure {K : Ctx} {o : Oper} {s : GS} {t : Nat} {p : PV} (hd : o.dst = some t) (ht : t < K.n) (h : Qy K o s t p) : Yld K o s (s.set t p) := by
  rintro a w ⟨S, O, m, hr⟩
  obtain ⟨v, h1, h2⟩ := h S O m a w hr
  exact ⟨v, w, h1 w (Ext.refl _ w), S, O, m, by rw [hd]; exact hr.put ht h2⟩
theorem Q_move {K : Ctx} {s : GS} {t : Nat} {x : Operand} {ty : TypeId} {pos : String} {af : Array Edge} {g : Option (Nat × Bool)} {p : PV} (hp : s.ev x = p) (ht : t < K.n) :
    Qy K ⟨some t, .move x, ty, pos, af, g⟩ s t p.copy := by
  subst hp
  refine fun S O m a w hr => ⟨a.eval x, fun _ _ => rfl, ?_⟩
  obtain ⟨l, h⟩ := hr.ev x
  exact h.copy _ _
theorem Y_move {K : Ctx} {s : GS} {t : Nat} {x : Operand} {ty : TypeId} {pos : String} {af : Array Edge} {g : Option (Nat × Bool)} {p : PV} (hp : s.ev x = p) (ht : t < K.n) :
    Yld K ⟨some t, .move x, ty, pos, af, g⟩ s (s.set t p.copy) := Yld_pure rfl ht (Q_move hp ht)
theorem Q_assign {K : Ctx} {s : GS} {t : Nat} {x : Operand} {ty : TypeId} {pos : String} {af : Array Edge} {g : Option (Nat × Bool)} {p : PV} (hp : s.ev x = p) (ht : t < K.n) :
    Qy K ⟨some t, .assign x, ty, pos, af, g⟩ s t p.copy := by
  subst hp
  refine fun S O m a w hr => ⟨a.eval x, fun _ _ => rfl, ?_⟩
  obtain ⟨l, h⟩ := hr.ev x
  exact h.copy _ _
theorem Y_assign {K : Ctx} {s : GS} {t : Nat} {x : Operand} {ty : TypeId} {pos : String} {af : Array Edge} {g : Option (Nat × Bool)} {p : PV} (hp : s.ev x = p) (ht : t < K.n) :
    Yld K ⟨some t, .assign x, ty, pos, af, g⟩ s (s.set t p.copy) := Yld_pure rfl ht (Q_assign hp ht)
theorem Q_cmp {K : Ctx} {s : GS} {t : Nat} {op : BinOp} {ty yt rt : TypeId} {x y : Operand} {pos : String} {af : Array Edge} {g : Option (Nat × Bool)} {k : IntKind} {a b : Int} {r : Bool}
    (hx : s.ev x = .d (.int k a)) (hy : s.ev y = .d (.int k b)) (hr : Op.intCmp op a b = pure (.bool r))
    (ho : op = .eql ∨ op = .neq ∨ op = .lss ∨ op = .leq ∨ op = .gtr ∨ op = .geq) (ht : t < K.n) :
    Qy K ⟨some t, .binOp op ty x y yt, rt, pos, af, g⟩ s t (.d (.bool r)) := by
  refine fun S O m ac w h => ⟨.bool r, fun w _ => ?_, .d _ _ _ (.bool r)⟩
  have h1 := rd_int (h.evd hx)
  have h2 := rd_int (h.evd hy)
  have hb : binOp op ty (.int k a) (.int k b) = Op.intCmp op a b := by
    rcases ho with rfl | rfl | rfl | rfl | rfl | rfl <;> simp [binOp]
  have hg : eqGuard op ty x y (.int k a) (.int k b) = pure () := by
    rcases ho with rfl | rfl | rfl | rfl | rfl | rfl <;> simp [eqGuard]
  simp only [execOp, h1, h2, hg, hb, hr]
  rfl
theorem Q_eql {K : Ctx} {s : GS} {t : Nat} {ty yt rt : TypeId} {x y : Operand} {pos : String} {af : Array Edge} {g : Option (Nat × Bool)} {k : IntKind} {a b : Int}
    (hx : s.ev x = .d (.int k a)) (hy : s.ev y = .d (.int k b)) (ht : t < K.n) : Qy K ⟨some t, .binOp .eql ty x y yt, rt, pos, af, g⟩ s t (.d (.bool (a == b))) :=
  Q_cmp hx hy rfl (by simp) ht
theorem Y_eql {K : Ctx} {s : GS} {t : Nat} {ty yt rt : TypeId} {x y : Operand} {pos : String} {af : Array Edge} {g : Option (Nat × Bool)} {k : IntKind} {a b : Int}
    (hx : s.ev x = .d (.int k a)) (hy : s.ev y = .d (.int k b)) (ht : t < K.n) : Yld K ⟨some t, .binOp .eql ty x y yt, rt, pos, af, g⟩ s (s.set t (.d (.bool (a == b)))) := Yld_pure rfl ht (Q_eql hx hy ht)
theorem Q_neq {K : Ctx} {s : GS} {t : Nat} {ty yt rt : TypeId} {x y : Operand} {pos : String} {af : Array Edge} {g : Option (Nat × Bool)} {k : IntKind} {a b : Int}
    (hx : s.ev x = .d (.int k a)) (hy : s.ev y = .d (.int k b)) (ht : t < K.n) : Qy K ⟨some t, .binOp .neq ty x y yt, rt, pos, af, g⟩ s t (.d (.bool (a != b))) :=
  Q_cmp hx hy rfl (by simp) ht
theorem Y_neq {K : Ctx} {s : GS} {t : Nat} {ty yt rt : TypeId} {x y : Operand} {pos : String} {af : Array Edge} {g : Option (Nat × Bool)} {k : IntKind} {a b : Int}
    (hx : s.ev x = .d (.int k a)) (hy : s.ev y = .d (.int k b)) (ht : t < K.n) : Yld K ⟨some t, .binOp .neq ty x y yt, rt, pos, af, g⟩ s (s.set t (.d (.bool (a != b)))) := Yld_pure rfl ht (Q_neq hx hy ht)
theorem Q_lss {K : Ctx} {s : GS} {t : Nat} {ty yt rt : TypeId} {x y : Operand} {pos : String} {af : Array Edge} {g : Option (Nat × Bool)} {k : IntKind} {a b : Int}
    (hx : s.ev x = .d (.int k a)) (hy : s.ev y = .d (.int k b)) (ht : t < K.n) : Qy K ⟨some t, .binOp .lss ty x y yt, rt, pos, af, g⟩ s t (.d (.bool (decide (a < b)))) :=
  Q_cmp hx hy rfl (by simp) ht
theorem Y_lss {K : Ctx} {s : GS} {t : Nat} {ty yt rt : TypeId} {x y : Operand} {pos : String} {af : Array Edge} {g : Option (Nat × Bool)} {k : IntKind} {a b : Int}
    (hx : s.ev x = .d (.int k a)) (hy : s.ev y = .d (.int k b)) (ht : t < K.n) : Yld K ⟨some t, .binOp .lss ty x y yt, rt, pos, af, g⟩ s (s.set t (.d (.bool (decide (a < b))))) := Yld_pure rfl ht (Q_lss hx hy ht)
theorem Q_leq {K : Ctx} {s : GS} {t : Nat} {ty yt rt : TypeId} {x y : Operand} {pos : String} {af : Array Edge} {g : Option (Nat × Bool)} {k : IntKind} {a b : Int}
    (hx : s.ev x = .d (.int k a)) (hy : s.ev y = .d (.int k b)) (ht : t < K.n) : Qy K ⟨some t, .binOp .leq ty x y yt, rt, pos, af, g⟩ s t (.d (.bool (decide (a ≤ b)))) :=
  Q_cmp hx hy rfl (by simp) ht
theorem Y_leq {K : Ctx} {s : GS} {t : Nat} {ty yt rt : TypeId} {x y : Operand} {pos : String} {af : Array Edge} {g : Option (Nat × Bool)} {k : IntKind} {a b : Int}
    (hx : s.ev x = .d (.int k a)) (hy : s.ev y = .d (.int k b)) (ht : t < K.n) : Yld K ⟨some t, .binOp .leq ty x y yt, rt, pos, af, g⟩ s (s.set t (.d (.bool (decide (a ≤ b))))) := Yld_pure rfl ht (Q_leq hx hy ht)
theorem Q_gtr {K : Ctx} {s : GS} {t : Nat} {ty yt rt : TypeId} {x y : Operand} {pos : String} {af : Array Edge} {g : Option (Nat × Bool)} {k : IntKind} {a b : Int}
    (hx : s.ev x = .d (.int k a)) (hy : s.ev y = .d (.int k b)) (ht : t < K.n) : Qy K ⟨some t, .binOp .gtr ty x y yt, rt, pos, af, g⟩ s t (.d (.bool (decide (a > b)))) :=
  Q_cmp hx hy rfl (by simp) ht
theorem Y_gtr {K : Ctx} {s : GS} {t : Nat} {ty yt rt : TypeId} {x y : Operand} {pos : String} {af : Array Edge} {g : Option (Nat × Bool)} {k : IntKind} {a b : Int}
    (hx : s.ev x = .d (.int k a)) (hy : s.ev y = .d (.int k b)) (ht : t < K.n) : Yld K ⟨some t, .binOp .gtr ty x y yt, rt, pos, af, g⟩ s (s.set t (.d (.bool (decide (a > b))))) := Yld_pure rfl ht (Q_gtr hx hy ht)
theorem Q_geq {K : Ctx} {s : GS} {t : Nat} {ty yt rt : TypeId} {x y : Operand} {pos : String} {af : Array Edge} {g : Option (Nat × Bool)} {k : IntKind} {a b : Int}
    (hx : s.ev x = .d (.int k a)) (hy : s.ev y = .d (.int k b)) (ht : t < K.n) : Qy K ⟨some t, .binOp .geq ty x y yt, rt, pos, af, g⟩ s t (.d (.bool (decide (a ≥ b)))) :=
  Q_cmp hx hy rfl (by simp) ht
theorem Y_geq {K : Ctx} {s : GS} {t : Nat} {ty yt rt : TypeId} {x y : Operand} {pos : String} {af : Array Edge} {g : Option (Nat × Bool)} {k : IntKind} {a b : Int}
    (hx : s.ev x = .d (.int k a)) (hy : s.ev y = .d (.int k b)) (ht : t < K.n) : Yld K ⟨some t, .binOp .geq ty x y yt, rt, pos, af, g⟩ s (s.set t (.d (.bool (decide (a ≥ b))))) := Yld_pure rfl ht (Q_geq hx hy ht)
theorem Q_ar {K : Ctx} {s : GS} {t : Nat} {op : BinOp} {ty yt rt : TypeId} {x y : Operand} {pos : String} {af : Array Edge} {g : Option (Nat × Bool)} {k : IntKind} {a b : Int} {c : Int}
    (hx : s.ev x = .d (.int k a)) (hy : s.ev y = .d (.int k b)) (hr : Op.intArith op k a b = pure (.int k (k.wrap c)))
    (ho : op = .add ∨ op = .sub ∨ op = .mul) {r : Int} (hw : k.wrap c = r) (ht : t < K.n) :
    Qy K ⟨some t, .binOp op ty x y yt, rt, pos, af, g⟩ s t (.d (.int k r)) := by
  subst hw
  refine fun S O m ac w h => ⟨.int k (k.wrap c), fun w _ => ?_, .d _ _ _ (.int _ _)⟩
  have h1 := rd_int (h.evd hx)
  have h2 := rd_int (h.evd hy)
  have hb : binOp op ty (.int k a) (.int k b) = Op.intArith op k a b := by
    rcases ho with rfl | rfl | rfl <;> simp [binOp]
  have hg : eqGuard op ty x y (.int k a) (.int k b) = pure () := by
    rcases ho with rfl | rfl | rfl <;> simp [eqGuard]
  simp only [execOp, h1, h2, hg, hb, hr]
  rfl
theorem Q_add {K : Ctx} {s : GS} {t : Nat} {ty yt rt : TypeId} {x y : Operand} {pos : String} {af : Array Edge} {g : Option (Nat × Bool)} {k : IntKind} {a b : Int} {r : Int}
    (hx : s.ev x = .d (.int k a)) (hy : s.ev y = .d (.int k b)) (hw : k.wrap (a + b) = r) (ht : t < K.n) :
    Qy K ⟨some t, .binOp .add ty x y yt, rt, pos, af, g⟩ s t (.d (.int k r)) := Q_ar hx hy rfl (by simp) hw ht
theorem Y_add {K : Ctx} {s : GS} {t : Nat} {ty yt rt : TypeId} {x y : Operand} {pos : String} {af : Array Edge} {g : Option (Nat × Bool)} {k : IntKind} {a b : Int} {r : Int}
    (hx : s.ev x = .d (.int k a)) (hy : s.ev y = .d (.int k b)) (hw : k.wrap (a + b) = r) (ht : t < K.n) :
    Yld K ⟨some t, .binOp .add ty x y yt, rt, pos, af, g⟩ s (s.set t (.d (.int k r))) := Yld_pure rfl ht (Q_add hx hy hw ht)
theorem Q_sub {K : Ctx} {s : GS} {t : Nat} {ty yt rt : TypeId} {x y : Operand} {pos : String} {af : Array Edge} {g : Option (Nat × Bool)} {k : IntKind} {a b : Int} {r : Int}
    (hx : s.ev x = .d (.int k a)) (hy : s.ev y = .d (.int k b)) (hw : k.wrap (a - b) = r) (ht : t < K.n) :
    Qy K ⟨some t, .binOp .sub ty x y yt, rt, pos, af, g⟩ s t (.d (.int k r)) := Q_ar hx hy rfl (by simp) hw ht
theorem Y_sub {K : Ctx} {s : GS} {t : Nat} {ty yt rt : TypeId} {x y : Operand} {pos : String} {af : Array Edge} {g : Option (Nat × Bool)} {k : IntKind} {a b : Int} {r : Int}
    (hx : s.ev x = .d (.int k a)) (hy : s.ev y = .d (.int k b)) (hw : k.wrap (a - b) = r) (ht : t < K.n) :
    Yld K ⟨some t, .binOp .sub ty x y yt, rt, pos, af, g⟩ s (s.set t (.d (.int k r))) := Yld_pure rfl ht (Q_sub hx hy hw ht)
theorem Q_mul {K : Ctx} {s : GS} {t : Nat} {ty yt rt : TypeId} {x y : Operand} {pos : String} {af : Array Edge} {g : Option (Nat × Bool)} {k : IntKind} {a b : Int} {r : Int}
    (hx : s.ev x = .d (.int k a)) (hy : s.ev y = .d (.int k b)) (hw : k.wrap (a * b) = r) (ht : t < K.n) :
    Qy K ⟨some t, .binOp .mul ty x y yt, rt, pos, af, g⟩ s t (.d (.int k r)) := Q_ar hx hy rfl (by simp) hw ht
theorem Y_mul {K : Ctx} {s : GS} {t : Nat} {ty yt rt : TypeId} {x y : Operand} {pos : String} {af : Array Edge} {g : Option (Nat × Bool)} {k : IntKind} {a b : Int} {r : Int}
    (hx : s.ev x = .d (.int k a)) (hy : s.ev y = .d (.int k b)) (hw : k.wrap (a * b) = r) (ht : t < K.n) :
    Yld K ⟨some t, .binOp .mul ty x y yt, rt, pos, af, g⟩ s (s.set t (.d (.int k r))) := Yld_pure rfl ht (Q_mul hx hy hw ht)
theorem byteList_beq (x y : ByteArray) : (x.toList == y.toList) = decide (x = y) := by
  rw [ByteArray.toList_eq, ByteArray.toList_eq, Bool.eq_iff_iff]
  simp only [beq_iff_eq, decide_eq_true_eq]
  exact ⟨fun h => ByteArray.ext (Array.ext' h), fun h => by rw [h]⟩
theorem Q_streq {K : Ctx} {s : GS} {t : Nat} {ty yt rt : TypeId} {x y : Operand} {pos : String} {af : Array Edge} {g : Option (Nat × Bool)} {a b : ByteArray}
    (hx : s.ev x = .d (.str a)) (hy : s.ev y = .d (.str b)) (ht : t < K.n) :
    Qy K ⟨some t, .binOp .eql ty x y yt, rt, pos, af, g⟩ s t (.d (.bool (decide (a = b)))) := by
  refine fun S O m ac w h => ⟨.bool (decide (a = b)), fun w _ => ?_, .d _ _ _ (.bool _)⟩
  have h1 := rd_str (h.evd hx)
  have h2 := rd_str (h.evd hy)
  simp only [execOp, h1, h2]
  simp [eqGuard, binOp, Op.stringOp, byteList_beq]
theorem Y_streq {K : Ctx} {s : GS} {t : Nat} {ty yt rt : TypeId} {x y : Operand} {pos : String} {af : Array Edge} {g : Option (Nat × Bool)} {a b : ByteArray}
    (hx : s.ev x = .d (.str a)) (hy : s.ev y = .d (.str b)) (ht : t < K.n) :
    Yld K ⟨some t, .binOp .eql ty x y yt, rt, pos, af, g⟩ s (s.set t (.d (.bool (decide (a = b))))) := Yld_pure rfl ht (Q_streq hx hy ht)
theorem Q_strne {K : Ctx} {s : GS} {t : Nat} {ty yt rt : TypeId} {x y : Operand} {pos : String} {af : Array Edge} {g : Option (Nat × Bool)} {a b : ByteArray}
    (hx : s.ev x = .d (.str a)) (hy : s.ev y = .d (.str b)) (ht : t < K.n) :
    Qy K ⟨some t, .binOp .neq ty x y yt, rt, pos, af, g⟩ s t (.d (.bool (!decide (a = b)))) := by
  refine fun S O m ac w h => ⟨.bool (!decide (a = b)), fun w _ => ?_, .d _ _ _ (.bool _)⟩
  have h1 := rd_str (h.evd hx)
  have h2 := rd_str (h.evd hy)
  simp only [execOp, h1, h2]
  simp [eqGuard, binOp, Op.stringOp, byteList_beq]
theorem Q_stradd {K : Ctx} {s : GS} {t : Nat} {ty yt rt : TypeId} {x y : Operand} {pos : String} {af : Array Edge} {g : Option (Nat × Bool)} {a b : ByteArray}
    (hx : s.ev x = .d (.str a)) (hy : s.ev y = .d (.str b)) (hl : a.size + b.size ≤ lim) (ht : t < K.n) :
    Qy K ⟨some t, .binOp .add ty x y yt, rt, pos, af, g⟩ s t (.d (.str (a ++ b))) := by
  refine fun S O m ac w h => ⟨.string (a ++ b), fun w _ => ?_, .d _ _ _ (.str _)⟩
  have h1 := rd_str (h.evd hx)
  have h2 := rd_str (h.evd hy)
  unfold lim at hl
  have hn : ¬ IntKind.i64.max < (a.size : Int) + (b.size : Int) := by
    have : IntKind.i64.max = 9223372036854775807 := by decide
    omega
  simp only [execOp, h1, h2]
  simp [eqGuard, binOp, Op.stringOp, hn]
  omega
theorem Y_stradd {K : Ctx} {s : GS} {t : Nat} {ty yt rt : TypeId} {x y : Operand} {pos : String} {af : Array Edge} {g : Option (Nat × Bool)} {a b : ByteArray}
    (hx : s.ev x = .d (.str a)) (hy : s.ev y = .d (.str b)) (hl : a.size + b.size ≤ lim) (ht : t < K.n) :
    Yld K ⟨some t, .binOp .add ty x y yt, rt, pos, af, g⟩ s (s.set t (.d (.str (a ++ b)))) := Yld_pure rfl ht (Q_stradd hx hy hl ht)
theorem Q_booleq {K : Ctx} {s : GS} {t : Nat} {ty yt rt : TypeId} {x y : Operand} {pos : String} {af : Array Edge} {g : Option (Nat × Bool)} {a b : Bool}
    (hx : s.ev x = .d (.bool a)) (hy : s.ev y = .d (.bool b)) (hu : K.P.underlying ty = some .bool) (ht : t < K.n) :
    Qy K ⟨some t, .binOp .eql ty x y yt, rt, pos, af, g⟩ s t (.d (.bool (a == b))) := by
  refine fun S O m ac w h => ⟨.bool (a == b), fun w _ => ?_, .d _ _ _ (.bool _)⟩
  have h1 := rd_bool (h.evd hx)
  have h2 := rd_bool (h.evd hy)
  have he : (Op.equal ty (.bool a) (.bool b)).run K.P w = .ok (a == b) w := by
    rw [Op.equal, show Op.maxDepth = 9999 + 1 from rfl, Op.equalIn]
    simp [run_underlying hu]
  simp only [execOp, h1, h2]
  have hb : binOp .eql ty (.bool a) (.bool b) = (do pure (.bool (← Op.equal ty (.bool a) (.bool b)))) := by rfl
  simp only [hb]
  simp [eqGuard, he]
theorem Y_booleq {K : Ctx} {s : GS} {t : Nat} {ty yt rt : TypeId} {x y : Operand} {pos : String} {af : Array Edge} {g : Option (Nat × Bool)} {a b : Bool}
    (hx : s.ev x = .d (.bool a)) (hy : s.ev y = .d (.bool b)) (hu : K.P.underlying ty = some .bool) (ht : t < K.n) :
    Yld K ⟨some t, .binOp .eql ty x y yt, rt, pos, af, g⟩ s (s.set t (.d (.bool (a == b)))) := Yld_pure rfl ht (Q_booleq hx hy hu ht)
theorem Q_not {K : Ctx} {s : GS} {t : Nat} {ty rt : TypeId} {x : Operand} {pos : String} {af : Array Edge} {g : Option (Nat × Bool)} {a : Bool}
    (hx : s.ev x = .d (.bool a)) (ht : t < K.n) : Qy K ⟨some t, .unOp .not ty x, rt, pos, af, g⟩ s t (.d (.bool (!a))) := by
  refine fun S O m ac w h => ⟨.bool (!a), fun w _ => ?_, .d _ _ _ (.bool _)⟩
  have h1 := rd_bool (h.evd hx)
  simp only [execOp, h1]
  simp [Op.unary]
theorem Y_not {K : Ctx} {s : GS} {t : Nat} {ty rt : TypeId} {x : Operand} {pos : String} {af : Array Edge} {g : Option (Nat × Bool)} {a : Bool}
    (hx : s.ev x = .d (.bool a)) (ht : t < K.n) : Yld K ⟨some t, .unOp .not ty x, rt, pos, af, g⟩ s (s.set t (.d (.bool (!a)))) := Yld_pure rfl ht (Q_not hx ht)
def Under (b : Prop) (p : PV) (d : D) : Prop := ∀ (w : World) (S : Reg) (O : Owns) (m l : List Nat) (v : Value), b → RP w S O m l p v → Rd w S d v
theorem under_d (b : Prop) (d : D) : Under b (.d d) d := fun _ _ _ _ _ _ _ h => by cases h with | d _ _ _ h => exact h
theorem under_when {b : Prop} (c : Bool) (d : D) (h : b → c = true) : Under b (.when c (.d d)) d := fun w S O m l v hb hr => by
  have := h hb; subst this
  cases hr with
  | whenT _ _ _ _ _ h => exact under_d True d w S O m l v trivial h
  | whenF _ _ _ hf => cases hf
theorem Q_pickb {K : Ctx} {s : GS} {t : Nat} {c x y : Operand} {ty : TypeId} {pos : String} {af : Array Edge} {g : Option (Nat × Bool)} {b u v : Bool}
    (hc : s.ev c = .d (.bool b)) (hx : Under (b = true) (s.ev x) (.bool u)) (hy : Under (b = false) (s.ev y) (.bool v)) (ht : t < K.n) {r : Bool} (hr : (bif b then u else v) = r) :
    Qy K ⟨some t, .pick c x y, ty, pos, af, g⟩ s t (.d (.bool r)) := by
  subst hr
  refine fun S O m ac w h => ⟨.bool (bif b then u else v), fun w _ => ?_, .d _ _ _ (.bool _)⟩
  have h1 := rd_bool (h.evd hc)
  obtain ⟨l1, hx1⟩ := h.ev x
  obtain ⟨l2, hy1⟩ := h.ev y
  simp only [execOp, h1]
  cases b with
  | true => have := rd_bool (hx _ _ _ _ _ _ rfl hx1); simp [asBool, this]
  | false => have := rd_bool (hy _ _ _ _ _ _ rfl hy1); simp [asBool, this]
theorem Q_and {K : Ctx} {s : GS} {t : Nat} {c x : Operand} {ty : TypeId} {pos : String} {af : Array Edge} {g : Option (Nat × Bool)} {b u : Bool}
    (hc : s.ev c = .d (.bool b)) (hx : Under (b = true) (s.ev x) (.bool u)) (ht : t < K.n) :
    Qy K ⟨some t, .pick c x (.const (.bool false)), ty, pos, af, g⟩ s t (.d (.bool (b && u))) :=
  Q_pickb hc hx (under_d _ _) ht (by cases b <;> rfl)
theorem Y_and {K : Ctx} {s : GS} {t : Nat} {c x : Operand} {ty : TypeId} {pos : String} {af : Array Edge} {g : Option (Nat × Bool)} {b u : Bool}
    (hc : s.ev c = .d (.bool b)) (hx : Under (b = true) (s.ev x) (.bool u)) (ht : t < K.n) :
    Yld K ⟨some t, .pick c x (.const (.bool false)), ty, pos, af, g⟩ s (s.set t (.d (.bool (b && u)))) := Yld_pure rfl ht (Q_and hc hx ht)
theorem Q_or {K : Ctx} {s : GS} {t : Nat} {c y : Operand} {ty : TypeId} {pos : String} {af : Array Edge} {g : Option (Nat × Bool)} {b u : Bool}
    (hc : s.ev c = .d (.bool b)) (hy : Under (b = false) (s.ev y) (.bool u)) (ht : t < K.n) :
    Qy K ⟨some t, .pick c (.const (.bool true)) y, ty, pos, af, g⟩ s t (.d (.bool (b || u))) :=
  Q_pickb hc (under_d _ _) hy ht (by cases b <;> rfl)
theorem Y_or {K : Ctx} {s : GS} {t : Nat} {c y : Operand} {ty : TypeId} {pos : String} {af : Array Edge} {g : Option (Nat × Bool)} {b u : Bool}
    (hc : s.ev c = .d (.bool b)) (hy : Under (b = false) (s.ev y) (.bool u)) (ht : t < K.n) :
    Yld K ⟨some t, .pick c (.const (.bool true)) y, ty, pos, af, g⟩ s (s.set t (.d (.bool (b || u)))) := Yld_pure rfl ht (Q_or hc hy ht)
/-- When a guard lets an operation through. -/
def PV.guard : PV → Bool → Option Bool
  | .d (.bool b), want => some (b == want)
  | .when c p, want => match PV.guard p want with | some g => some (c && g) | none => none
  | _, _ => none
def boolOf : Value → Option Bool
  | .bool b => some b
  | _ => none
theorem RP.guard {w : World} {S : Reg} {O : Owns} {m l : List Nat} {q : PV} {v : Value} (h : RP w S O m l q v) (want : Bool) : ∀ g, q.guard want = some g → (boolOf v == some want) = g := by
  induction h with
  | d l x v h =>
    intro g hg
    cases h <;> simp only [PV.guard] at hg <;> first | (cases hg; rename_i b; cases b <;> cases want <;> rfl) | cases hg
  | whenT l b p v hb _ ih =>
    intro g hg
    subst hb
    simp only [PV.guard] at hg
    split at hg
    · rename_i g' hg'
      injection hg with hg
      subst hg
      rw [Bool.true_and]
      exact ih g' hg'
    · cases hg
  | whenF l b p hb =>
    intro g hg
    subst hb
    simp only [PV.guard] at hg
    split at hg
    · injection hg with hg
    · cases hg
  | nils => intro g hg; simp [PV.guard] at hg
  | osl => intro g hg; simp [PV.guard] at hg
  | ref => intro g hg; simp [PV.guard] at hg
  | rsl => intro g hg; simp [PV.guard] at hg
  | mref => intro g hg; simp [PV.guard] at hg
  | fn => intro g hg; simp [PV.guard] at hg
  | agg => intro g hg; simp [PV.guard] at hg
  | tup => intro g hg; simp [PV.guard] at hg
  | undef => intro g hg; simp [PV.guard] at hg
theorem wanted_of {K : Ctx} {S : Reg} {O : Owns} {m : List Nat} {s : GS} {a : Act} {w : World} (h : Rep K S O m s a w) {ops : Array Oper} {j t : Nat} {oj : Oper} {q : PV} {want g : Bool}
    (hj : ops[j]? = some oj) (hd : oj.dst = some t) (hs : s.get t = some q) (ht : t < K.n) (hq : q.guard want = some g) : (yielded ops a.tmps j == some want) = g := by
  have hv := (h.slots t q hs).guard want g hq
  have hlt : t < a.tmps.size := by rw [h.size]; exact ht
  rw [Array.getD_eq_getD_getElem?, Array.getElem?_eq_getElem hlt, Option.getD_some] at hv
  simp only [yielded, hj, Option.bind_some, hd]
  rw [Array.getElem?_eq_getElem hlt]
  rw [← hv]
  cases a.tmps[t] <;> rfl
/-- Under a guard: the operation yields p where the guard lets it; else its temporary says nothing. -/
theorem GOps_guard {K : Ctx} {ops : Array Oper} {Q : Exit → GS → Prop} {s : GS} {i : Nat} {rest : List Nat} {o : Oper} {j t u : Nat} {want b : Bool} {oj : Oper} {p q : PV}
    (ho : ops[i]? = some o) (hg : o.guard = some (j, want)) (hj : ops[j]? = some oj) (hjd : oj.dst = some u) (hs : s.get u = some q) (hq : q.guard want = some b) (hu : u < K.n)
    (hd : o.dst = some t) (ht : t < K.n) (hy : b = true → Yld K o s (s.set t p)) (h : GOps K ops Q rest (s.set t (.when b p))) : GOps K ops Q (i :: rest) s := by
  rintro a w ⟨S, O, m, hr⟩
  have hyl := wanted_of hr hj hjd hs hu hq
  by_cases hb : b = true
  · obtain ⟨v, w', hrun, S', O', m', hr'⟩ := hy hb a w ⟨S, O, m, hr⟩
    have hw : Region.wanted o (yielded ops a.tmps) = true := by simp only [Region.wanted, hg]; rw [hyl, hb]
    simp only [wpOps, ho, hw, if_true]
    have hat : At K (s.set t (.when b p)) (a.put o.dst v) w' := by
      refine ⟨S', O', m', hr'.env, hr'.defers, hr'.size, hr'.pre, fun i q hq => ?_⟩
      rw [GS.get_set] at hq
      by_cases hi : i = t
      · rw [if_pos hi] at hq; injection hq with hq; subst hq; subst hi
        exact .whenT _ _ _ _ hb (hr'.slots i p (by rw [GS.get_set, if_pos rfl]))
      · rw [if_neg hi] at hq; exact hr'.slots i q (by rw [GS.get_set, if_neg hi]; exact hq)
    exact .inl (by simp only [Oper.wp, hrun, Oper.upon_value]; exact h _ _ hat)
  · have hbf : b = false := by simpa using hb
    have hw : Region.wanted o (yielded ops a.tmps) = false := by simp only [Region.wanted, hg]; rw [hyl, hbf]
    simp only [wpOps, ho, hw, if_false, Bool.false_eq_true]
    refine h _ _ ⟨S, O, m, ?_⟩
    rw [hd]
    refine hr.put ht ?_
    exact .whenF _ _ _ hbf
theorem G_cond {K : Ctx} {c : Operand} {x y : Code} {Q : Exit → GS → Prop} {s : GS} {b : Bool} (hc : s.ev c = .d (.bool b)) (hx : b = true → G K x Q s) (hy : b = false → G K y Q s) :
    G K (.cond c x y) Q s := by
  rintro a w ⟨S, O, m, hr⟩
  refine wp_cond_split (rd_bool (hr.evd hc)) (fun h => hx h a w ⟨S, O, m, hr⟩) (fun h => hy h a w ⟨S, O, m, hr⟩)
/-- Less may be known. -/
def Le (K : Ctx) (s s' : GS) : Prop := ∀ a w, At K s a w → At K s' a w
theorem Le.refl (K : Ctx) (s : GS) : Le K s s := fun _ _ h => h
theorem G_le {K : Ctx} {c : Code} {Q : Exit → GS → Prop} {s s' : GS} (h : Le K s s') (hg : G K c Q s') : G K c Q s := fun a w ha => hg a w (h a w ha)
theorem Q_nilCheck {K : Ctx} {s : GS} {t : Nat} {x : Operand} {ty : TypeId} {pos : String} {af : Array Edge} {g : Option (Nat × Bool)} {d : D} (hx : s.ev x = .d (.ptr d)) (ht : t < K.n) :
    Qy K ⟨some t, .nilCheck x, ty, pos, af, g⟩ s t (.d (.ptr d)) := by
  refine fun S O m a w hr => ?_
  have h := hr.evd hx
  refine ⟨a.eval x, ?_, .d _ _ _ h⟩
  generalize hv : a.eval x = v at h ⊢
  cases h with
  | ptr d a hs hc h => intro w _; simp only [execOp, hv]; rfl
theorem Y_nilCheck {K : Ctx} {s : GS} {t : Nat} {x : Operand} {ty : TypeId} {pos : String} {af : Array Edge} {g : Option (Nat × Bool)} {d : D} (hx : s.ev x = .d (.ptr d)) (ht : t < K.n) :
    Yld K ⟨some t, .nilCheck x, ty, pos, af, g⟩ s (s.set t (.d (.ptr d))) := Yld_pure rfl ht (Q_nilCheck hx ht)
end Go.Proofs.YtklkbfpjimeaoaaGreat.E
