import Derived.Test.YtklkbfpjimeaoaaM13
import Derived.LoopN
/- Contracts of functions. Conditions: none. -/
set_option linter.unusedSimpArgs false
set_option linter.unusedVariables false
namespace Go.Proofs.Ytklkbfpjimeaoaa.E
open Go
section
def idxK {α β : Type} : List α → List Nat → (List Nat → Option β) → Option β
 | [], _, k => k []
 | _ :: r, n :: ns, k => idxK r ns fun l => k (n :: l)
 | _ :: _, [], _ => none
theorem idxK_of {α β : Type} : ∀ (xs : List α) (ns : List Nat) (k : List Nat → Option β) (r : β), idxK xs ns k = some r → k (ns.take xs.length) = some r ∧ xs.length ≤ ns.length
 | [], ns, k, r, h => ⟨by rw [List.length_nil, List.take_zero]; exact h, Nat.zero_le _⟩
 | _ :: xs, n :: ns, k, r, h => by
  rw [idxK] at h
  obtain ⟨h1, h2⟩ := idxK_of xs ns _ r h
  exact ⟨by rw [List.length_cons, List.take_succ_cons]; exact h1, by rw [List.length_cons, List.length_cons]; omega⟩
 | _ :: _, [], _, _, h => by cases h
variable {ops : Array Oper}
theorem nums_take (h : ops.toList.length ≤ nums.length) : List.range ops.size = nums.take ops.toList.length := by
 have h2 : ops.size ≤ 120 := h
 rw [nums_eq, List.take_range, Array.length_toList, Nat.min_eq_left h2]
def rnd (K : Ctx) (c : Code) (Q : Exit → GS → Prop) : Nat → GS → Prop
 | 0, _ => False
 | n + 1, s => G K c (fun e s' => match e with
  | .normal => rnd K c Q n s'
  | e => Q e s') s
variable {K : Ctx} {c : Code} {Q : Exit → GS → Prop}
theorem G_rnd (n : Nat) {s : GS} (h : rnd K c Q n s) : G K (.loop c) Q s := by
 intro a w ha
 refine wp_loop_rounds n ?_
 induction n generalizing s a w with
 | zero => exact h.elim
 | succ n ih =>
  rw [rounds_succ]
  refine wp_mono (h a w ha) ?_
  rintro e a' w' ⟨s', q, r⟩
  cases e with
  | normal => exact ih q a' w' r
  | exit id => exact ⟨s', q, r⟩
  | goto l => exact ⟨s', q, r⟩
  | ret => exact ⟨s', q, r⟩
  | panic ch => exact ⟨s', q, r⟩
  | outgrown => exact ⟨s', q, r⟩
inductive Fr where
 | rnd (c : Code) (n : Nat)
 | thn (y : Code)
 | blk (id : Nat)
 | scp
def unf (K : Ctx) (Q : Exit → GS → Prop) : List Fr → Exit → GS → Prop
 | [] => Q
 | .rnd c n :: r => fun e s => match e with
  | .normal => E.rnd K c (unf K Q r) n s
  | e => unf K Q r e s
 | .thn y :: r => thn K y (unf K Q r)
 | .blk id :: r => inBlk id (unf K Q r)
 | .scp :: r => inScp (unf K Q r)
inductive Cf where
 | code (c : Code)
 | ops (ops : Array Oper) (l : List Nat)
 | leave (e : Exit)
def GF (K : Ctx) (fr : List Fr) (c : Cf) (Q : Exit → GS → Prop) (s : GS) : Prop := match c with
 | .code c => G K c (unf K Q fr) s
 | .ops ops l => GOps K ops (unf K Q fr) l s
 | .leave e => unf K Q fr e s
def noGoto : Exit → Bool
 | .goto _ => false
 | _ => true
def adv (T : List (Nat × TI)) (n : Nat) (fr : List Fr) (c : Cf) (s : GS) : Option (List (Bool × Bool) × List Fr × Cf × GS) := match c with
 | .code c => match c with
  | .skip => some ([], fr, .leave .normal, s)
  | .ret => some ([], fr, .leave .ret, s)
  | .exit id => some ([], fr, .leave (.exit id), s)
  | .label _ => some ([], fr, .leave .normal, s)
  | .seq a b => some ([], .thn b :: fr, .code a, s)
  | .block id b => some ([], .blk id :: fr, .code b, s)
  | .scope b => some ([], .scp :: fr, .code b, s)
  | .region _ ops d => match d with
   | false => idxK ops.toList nums fun l => some ([], fr, .ops ops l, s)
   | true => none
  | _ => none
 | .ops ops l => match l with
  | [] => some ([], fr, .leave .normal, s)
  | i :: l => match step T ops.toList n i s with
   | some (ob, s') => some (ob, fr, .ops ops l, s')
   | none => none
 | .leave e => match fr with
  | [] => none
  | .rnd c n :: r => match e with
   | .normal => match n with
    | 0 => none
    | n + 1 => some ([], .rnd c n :: r, .code c, s)
   | e => some ([], r, .leave e, s)
  | .thn y :: r => match e with
   | .normal => some ([], r, .code y, s)
   | e => some ([], r, .leave e, s)
  | .blk id :: r => match e with
   | .exit id' => match Nat.beq id' id with
    | true => some ([], r, .leave .normal, s)
    | false => some ([], r, .leave (.exit id'), s)
   | e => some ([], r, .leave e, s)
  | .scp :: r => match noGoto e with
   | true => some ([], r, .leave e, s)
   | false => none
variable {fr : List Fr} {s : GS}
theorem adv_of {T : List (Nat × TI)} {fr' : List Fr} {c c' : Cf} {s' : GS} {ob : List (Bool × Bool)} (hT : tabB K.P T = true) (h : adv T K.n fr c s = some (ob, fr', c', s')) (hg : GF K fr' c' Q s') (ho : Obl ob) : GF K fr c Q s := by
 unfold adv at h
 split at h
 · split at h
   · injection h with h; injection h with h1 h; injection h with h2 h; injection h with h3 h4; subst h1; subst h2; subst h3; subst h4; exact gK hg
   · injection h with h; injection h with h1 h; injection h with h2 h; injection h with h3 h4; subst h1; subst h2; subst h3; subst h4; exact gT hg
   · injection h with h; injection h with h1 h; injection h with h2 h; injection h with h3 h4; subst h1; subst h2; subst h3; subst h4; exact G_exit hg
   · injection h with h; injection h with h1 h; injection h with h2 h; injection h with h3 h4; subst h1; subst h2; subst h3; subst h4; exact G_label hg
   · injection h with h; injection h with h1 h; injection h with h2 h; injection h with h3 h4; subst h1; subst h2; subst h3; subst h4; exact zgS hg
   · injection h with h; injection h with h1 h; injection h with h2 h; injection h with h3 h4; subst h1; subst h2; subst h3; subst h4; exact G_block hg
   · injection h with h; injection h with h1 h; injection h with h2 h; injection h with h3 h4; subst h1; subst h2; subst h3; subst h4; exact G_scope hg
   · split at h
     · obtain ⟨h1, h2⟩ := idxK_of _ _ _ _ h
       injection h1 with h; injection h with h1 h; injection h with h3 h; injection h with h4 h5; subst h1; subst h3; subst h4; subst h5
       exact G_region _ _ rfl (nums_take h2) hg
     · cases h
   · cases h
 · split at h
   · injection h with h; injection h with h1 h; injection h with h2 h; injection h with h3 h4; subst h1; subst h2; subst h3; subst h4; exact gN hg
   · split at h
     · rename_i hs
       injection h with h; injection h with h1 h; injection h with h2 h; injection h with h3 h4; subst h1; subst h2; subst h3; subst h4
       exact gv hT hs hg ho
     · cases h
 · rename_i e
   split at h
   · cases h
   · split at h
     · split at h
       · cases h
       · injection h with h; injection h with h1 h; injection h with h2 h; injection h with h3 h4; subst h1; subst h2; subst h3; subst h4; exact hg
     · rename_i hne
       injection h with h; injection h with h1 h; injection h with h2 h; injection h with h3 h4; subst h1; subst h2; subst h3; subst h4
       cases e <;> first | exact absurd rfl hne | exact hg
   · split at h
     · injection h with h; injection h with h1 h; injection h with h2 h; injection h with h3 h4; subst h1; subst h2; subst h3; subst h4; exact hg
     · rename_i hne
       injection h with h; injection h with h1 h; injection h with h2 h; injection h with h3 h4; subst h1; subst h2; subst h3; subst h4
       cases e <;> first | exact absurd rfl hne | exact hg
   · split at h
     · rename_i id' 
       split at h
       · rename_i hb
         injection h with h; injection h with h1 h; injection h with h2 h; injection h with h3 h4; subst h1; subst h2; subst h3; subst h4
         rw [Nat.eq_of_beq_eq_true hb]
         exact blk_exit hg
       · rename_i hb
         injection h with h; injection h with h1 h; injection h with h2 h; injection h with h3 h4; subst h1; subst h2; subst h3; subst h4
         exact blk_other (Nat.ne_of_beq_eq_false hb) hg
     · rename_i hne
       injection h with h; injection h with h1 h; injection h with h2 h; injection h with h3 h4; subst h1; subst h2; subst h3; subst h4
       cases e <;> first | exact absurd rfl (hne _) | exact hg
   · split at h
     · rename_i hn
       injection h with h; injection h with h1 h; injection h with h2 h; injection h with h3 h4; subst h1; subst h2; subst h3; subst h4
       cases e <;> first | exact hg | cases hn
     · cases h
theorem gcd {c : Operand} {x y : Code} {b : Bool} (hc : evl s.slots c = .d (.bool b)) (hx : b = true → GF K fr (.code x) Q s) (hy : b = false → GF K fr (.code y) Q s) : GF K fr (.code (.cond c x y)) Q s := G_cond ((evl_eq s c).symm.trans hc) hx hy
theorem toO {l : List Nat} (h : GOps K ops (unf K Q fr) l s) : GF K fr (.ops ops l) Q s := h
theorem ofO {l : List Nat} (h : GF K fr (.ops ops l) Q s) : GOps K ops (unf K Q fr) l s := h
theorem toL {e : Exit} (h : unf K Q fr e s) : GF K fr (.leave e) Q s := h
theorem gRn (n : Nat) {K : Ctx} {fr : List Fr} {c : Code} {Q : Exit → GS → Prop} {s : GS} (h : GF K (.rnd c n :: fr) (.code c) Q s) : GF K fr (.code (.loop c)) Q s := G_rnd (n + 1) h
theorem gLo {α : Type} (St : α → GS) (mu : α → Nat) (I : α → Prop) (x0 : α) (h0 : I x0) (hs : Le K s (St x0))
 (hr : ∀ x, I x → ∀ Q' : Exit → GS → Prop, (∀ s' x', I x' → mu x' < mu x → Le K s' (St x') → Q' .normal s') → (∀ id s', GF K fr (.leave (.exit id)) Q s' → Q' (.exit id) s') → (∀ s', GF K fr (.leave .ret) Q s' → Q' .ret s') → (∀ ch s', GF K fr (.leave (.panic ch)) Q s' → Q' (.panic ch) s') → GF K [] (.code c) Q' (St x)) : GF K fr (.code (.loop c)) Q s :=
 g_loopp St mu I x0 h0 hr hs
def goes : Cf → Bool
 | .leave _ => false
 | _ => true
theorem gLe {c : Cf} {s' : GS} (hl : Le K s s') (h : GF K fr c Q s') (hc : goes c = true) : GF K fr c Q s := by
 cases c with
 | code c => exact G_le hl h
 | ops ops l => exact GOps_le hl h
 | leave e => cases hc
theorem pfb {P : Program} {f : FuncId} {fn : Func} {args : List D} {r : PV} {n : Nat} {rvs : List ResultVar} {slots : List (Nat × PV)} (hf : P.funcs[f]? = some fn) (hn : fn.ntmps = n) (hres : fn.results = rvs.toArray)
 (h : ∀ S0 O0 w0 m0, m0.length = 0 → GF ⟨P, n, S0, O0, w0, m0, [], []⟩ [] (.code c) (Fin P rvs 0 (fun q m => q = r ∧ m = [])) ⟨slots, []⟩)
 (hb : fn.body = some c := by rfl) (hnm : (fn.name == "runtime.NumGoroutine") = false := by rfl) (hal : args.length ≤ n := by exact oR rfl) (hsl : (List.range (args.map PV.d).length).zip (args.map PV.d) = slots := by rfl) : Pf P f args r :=
 pf_body slots hf hn hres h hb hnm hal hsl
def resD (T : List (Nat × TI)) (sl : List (Nat × PV)) (mem : List (List PV)) : ResultVar → Option PV
 | .tmp t => match lk sl t with
  | .undef => none
  | p => match p.toD with
   | some d => some (.d d)
   | none => cpy p some
 | .cell t ty => match lk sl t with
  | .ref b off => match nth mem b with
   | some cs => match plainB cs with
    | true => match look T ty with
     | some i => match i.leaf with
      | true => match nth cs off with
       | some p => match p.toD with
        | some d => some (.d d)
        | none => cpy p some
       | none => none
      | false => match fits (off + i.size) cs with
       | true => drp off cs fun r => takK i.size r fun r => match PV.toDs r with
        | some ds => some (.d (.agg ds))
        | none => copiesK r fun ps => some (.agg ps)
       | false => none
     | none => none
    | false => none
   | none => none
  | _ => none
def resDs (T : List (Nat × TI)) (sl : List (Nat × PV)) (mem : List (List PV)) : List ResultVar → (List PV → Option PV) → Option PV
 | [], k => k []
 | rv :: r, k => match resD T sl mem rv with
  | some p => resDs T sl mem r fun ps => k (p :: ps)
  | none => none
def tupK : List PV → Option PV
 | [p] => some p
 | ps => some (.tup ps)
end
section
variable {P : Program} {T : List (Nat × TI)} {sl : List (Nat × PV)} {mem : List (List PV)} {p : PV}
theorem resD_of {rv : ResultVar} (hT : tabB P T = true) (h : resD T sl mem rv = some p) : ResV P ⟨sl, mem⟩ rv p := by
 unfold resD at h
 split at h
 · rename_i t
   split at h
   · cases h
   · rename_i hne
     have hs : (GS.mk sl mem).get t = some (lk sl t) := lk_some rfl hne
     split at h
     · rename_i d hd; injection h with h; subst h; exact .dat hs hd
     · rw [cpy_eq] at h; injection h with h; subst h; exact .tmp hs
 · rename_i t ty
   split at h
   · rename_i b off hl
     have hs : (GS.mk sl mem).get t = some (.ref b off) := lk_some hl (by intro h; cases h)
     split at h
     · rename_i cs hm
       rw [nth_eq] at hm
       split at h
       · rename_i hpl
         split at h
         · rename_i i hi
           have hti := tabB_look hT hi
           obtain ⟨d, hd, hle, _⟩ := hti.und
           split at h
           · rename_i hlf
             split at h
             · rename_i q hq
               rw [nth_eq] at hq
               split at h
               · rename_i x hx; injection h with h; subst h; exact .leafD hs hm hq hx hpl hd (hle.trans hlf)
               · rw [cpy_eq] at h; injection h with h; subst h; exact .leaf hs hm hq hpl hd (hle.trans hlf)
             · cases h
           · rename_i hlf
             split at h
             · rename_i hf
               rw [drp_eq, takK_eq] at h
               have hq : mkAgg ((cs.drop off).take i.size) = p := by
                unfold mkAgg
                split at h
                · rename_i ds hds; rw [hds]; injection h
                · rename_i hds; rw [hds]; rw [copiesK_eq] at h; injection h
               rw [← hq]
               exact .agg hs hm hti.size hd (hle.trans hlf) (fits_of _ _ hf) hpl
             · cases h
         · cases h
       · cases h
     · cases h
   · cases h
theorem resDs_of (hT : tabB P T = true) : ∀ (rvs : List ResultVar) (k : List PV → Option PV) (q : PV), resDs T sl mem rvs k = some q → ∃ ps, ResL P ⟨sl, mem⟩ rvs ps ∧ k ps = some q
 | [], k, q, h => ⟨[], .nil, h⟩
 | rv :: r, k, q, h => by
  rw [resDs] at h
  split at h
  · rename_i p hp
    obtain ⟨ps, h1, h2⟩ := resDs_of hT r _ q h
    exact ⟨p :: ps, .cons (resD_of hT hp) h1, h2⟩
  · cases h
variable {q : PV}
theorem tupK_of {ps : List PV} (h : tupK ps = some q) : tupOf ps = q := by
 unfold tupK at h
 split at h
 · injection h
 · rename_i hne
   injection h with h
   rw [← h]
   unfold tupOf
   split
   · exact absurd rfl (hne _)
   · rfl
def endE : Exit → Bool
 | .normal => true
 | .ret => true
 | _ => false
variable {e : Exit}
theorem endE_of (h : endE e = true) : e = .normal ∨ e = .ret := by cases e <;> first | exact .inl rfl | exact .inr rfl | cases h
def endK (T : List (Nat × TI)) (sl : List (Nat × PV)) (mem : List (List PV)) (rvs : List ResultVar) (e : Exit) : Option PV := match endE e with
 | true => resDs T sl mem rvs tupK
 | false => none
variable {K : Ctx} {r : PV}
theorem gEnd {rvs : List ResultVar} (hT : tabB P T = true) (h : endK T sl mem rvs e = some q) (hb : PV.refsB 0 q = true) (hr : q = r) :
 GF K [] (.leave e) (Fin P rvs 0 (fun q m => q = r ∧ m = [])) ⟨sl, mem⟩ := by
 unfold endK at h
 split at h
 · rename_i he
   obtain ⟨ps, h1, h2⟩ := resDs_of hT rvs tupK q h
   have h3 := tupK_of h2
   exact ⟨endE_of he, .inl ⟨ps, [], h1, Nat.le_refl _, .nil, by rw [h3]; exact hb, by rw [h3]; exact ⟨hr, rfl⟩⟩⟩
 · cases h
variable {n : Nat}
theorem gEndM {rvs : List ResultVar} {mem' : List (List PV)} {R : PV → List (List PV) → Prop} (hT : tabB P T = true) (h : endK T sl mem rvs e = some q) (hb : PV.refsB mem'.length q = true) (hn : n ≤ mem'.length) (hm : MSub mem'.length mem mem') (hr : R q mem') :
 GF K [] (.leave e) (Fin P rvs n R) ⟨sl, mem⟩ := by
 unfold endK at h
 split at h
 · rename_i he
   obtain ⟨ps, h1, h2⟩ := resDs_of hT rvs tupK q h
   have h3 := tupK_of h2
   exact ⟨endE_of he, .inl ⟨ps, mem', h1, hn, hm, by rw [h3]; exact hb, by rw [h3]; exact hr⟩⟩
 · cases h
variable {t : Nat}
theorem gEndO {k : Nat} {xs : List D} (h : lk sl t = .osl k xs) (he : endE e = true) (hr : PV.osl k xs = r) :
 GF K [] (.leave e) (Fin P [.tmp t] 0 (fun q m => q = r ∧ m = [])) ⟨sl, mem⟩ := ⟨endE_of he, .inr ⟨t, k, xs, [], rfl, lk_some h (by intro h; cases h), Nat.le_refl _, .nil, hr, rfl⟩⟩
def lst : PV → Option (List D)
 | .d (.sl xs) => some xs
 | .osl _ xs => some xs
 | .nils => some []
 | _ => none
theorem lst_eq {xs : List D} (h : lst p = some xs) : p.list? = some xs := by
 unfold lst at h
 split at h <;> first | exact h | cases h
def gdK {α : Type} (ops : List Oper) (n : Nat) (o : Oper) (sl : List (Nat × PV)) (k : Option Bool → Option α) : Option α := match o.guard with
 | none => k none
 | some (j, w) => match nth ops j with
  | none => none
  | some oj => match oj.dst with
   | none => none
   | some u => match Nat.blt u n with
    | false => none
    | true => match gdOf (lk sl u) w with
     | none => none
     | some g => k (some g)
def stpK {α : Type} (g : Option Bool) (xs : List Operand) (sl : List (Nat × PV)) (k : List (Nat × PV) → List (Bool × Bool) → Option α) : Option α := match g with
 | none => k sl []
 | some g => stripK g xs sl [] k
def isT : Option Bool → Prop
 | none => True
 | some g => g = true
def whn (g : Option Bool) (p : PV) : PV := match g with
 | none => p
 | some g => .when g p
variable {i : Nat} {o : Oper}
theorem quiet_of {α : Type} {ops : Array Oper} {k : Option Bool → Option α} {r : α} (ho : nth ops.toList i = some o) (hd : o.dst = some t) (ht : t < K.n) (h : gdK ops.toList K.n o sl k = some r) :
 ∃ g, k g = some r ∧ ∀ (p : PV) (Q : Exit → GS → Prop) (rest : List Nat), (isT g → Yld K o ⟨sl, mem⟩ ⟨(t, p) :: sl, mem⟩) → GOps K ops Q rest ⟨(t, whn g p) :: sl, mem⟩ → GOps K ops Q (i :: rest) ⟨sl, mem⟩ := by
 have hoi : ops[i]? = some o := by rw [nth_eq] at ho; rw [← ho]; simp
 unfold gdK at h
 split at h
 · rename_i hg
   exact ⟨none, h, fun p Q rest hy hgo => GOps_val hoi hg (hy trivial) hgo⟩
 · rename_i j w hg
   split at h
   · cases h
   · rename_i oj hnj
     have hoj : ops[j]? = some oj := by rw [nth_eq] at hnj; rw [← hnj]; simp
     split at h
     · cases h
     · rename_i u hju
       split at h
       · cases h
       · rename_i hlt
         split at h
         · cases h
         · rename_i g hgb
           have hgb := gdOf_eq _ _ _ hgb
           have hu : (GS.mk sl mem).get u = some (lk sl u) := lk_some rfl (by intro h0; rw [h0] at hgb; cases hgb)
           exact ⟨some g, h, fun p Q rest hy hgo => GOps_guard hoi hg hoj hju hu hgb (blt_of hlt) hd ht (fun hb => hy hb) hgo⟩
theorem stpK_of {α : Type} {g : Option Bool} {xs : List Operand} {k : List (Nat × PV) → List (Bool × Bool) → Option α} {r : α} (mem : List (List PV)) (h : stpK g xs sl k = some r) :
 ∃ sl' ob, k sl' ob = some r ∧ (isT g → (∀ x ∈ ob, x.1 = true → x.2 = true) → ∀ (K : Ctx) (o : Oper) (t : Nat) (q : PV), Qy K o ⟨sl', mem⟩ t q → Qy K o ⟨sl, mem⟩ t q) := by
 cases g with
 | none => exact ⟨sl, [], h, fun _ _ _ _ _ _ h => h⟩
 | some g =>
  obtain ⟨sl', ob, h1, h2⟩ := stripK_of g mem xs sl [] k
  exact ⟨sl', ob, by rw [← h1]; exact h, fun hg hob K o t q hq => (h2 hg hob).2 K o t q hq⟩
def dstK {α : Type} (n : Nat) (o : Oper) (k : Nat → Option α) : Option α := match o.dst with
 | none => none
 | some t => match Nat.blt t n with
  | true => k t
  | false => none
theorem dstK_of {α : Type} {k : Nat → Option α} {r : α} (h : dstK n o k = some r) : ∃ t, o.dst = some t ∧ t < n ∧ k t = some r := by
 unfold dstK at h
 split at h
 · cases h
 · rename_i t hd
   split at h
   · rename_i hb; exact ⟨t, hd, blt_of hb, h⟩
   · cases h
def opK {α : Type} (ops : List Oper) (i : Nat) (k : Oper → Option α) : Option α := match nth ops i with
 | some o => k o
 | none => none
theorem opK_of {α : Type} {ops : List Oper} {k : Oper → Option α} {r : α} (h : opK ops i k = some r) : ∃ o, nth ops i = some o ∧ k o = some r := by
 unfold opK at h
 split at h
 · rename_i o ho; exact ⟨o, ho, h⟩
 · cases h
def ixs (T : List (Nat × TI)) (ops : List Oper) (n i : Nat) (sl : List (Nat × PV)) : Option (Nat × Option Bool × List (Bool × Bool) × List D × Int × Nat) := opK ops i fun o => dstK n o fun t => gdK ops n o sl fun g => match o.op with
 | .indexAddr ty x ix => stpK g [x, ix] sl fun sl' ob => match look T ty with
  | none => none
  | some ti => match ti.kind with
   | .slice _ m _ _ => match lst (evl sl' x) with
    | some xs => match evl sl' ix with
     | .d (.int _ j) => some (t, g, ob, xs, j, m)
     | _ => none
    | none => none
   | _ => none
 | _ => none
theorem slice_of {ty : TypeId} {i : TI} (hi : TOk P ty i) {e n b : Nat} {zs : List ZK} (hk : i.kind = .slice e n b zs) : P.underlying ty = some (.slice e) ∧ ∃ z, (P.info? e).map (fun i => (i.zero, i.size, i.bytes)) = some (some z, n, b) ∧ z.cells.all (·.oneCell') = true ∧ z.cells.size = zs.length := by
 obtain ⟨d, hd, _, hd2⟩ := hi.und
 rw [hk] at hd2
 cases d with
 | slice e' =>
  rw [kndB, Bool.and_eq_true] at hd2
  rw [← Nat.eq_of_beq_eq_true hd2.1]
  rw [← Nat.eq_of_beq_eq_true hd2.1] at hd2
  exact ⟨hd, infB_of hd2.2⟩
 | _ => cases hd2
theorem size_of_inf {e b : Nat} {z : Value} (h : (P.info? e).map (fun i => (i.zero, i.size, i.bytes)) = some (some z, n, b)) : (P.info? e).map (·.size) = some n := by
 cases hi : P.info? e with
 | none => rw [hi] at h; cases h
 | some i => rw [hi] at h; injection h with h; injection h with _ h; injection h with h _; rw [Option.map_some, h]
theorem gI {fr : List Fr} {ops : Array Oper} {Q : Exit → GS → Prop} {m : Nat} {l : List Nat} {g : Option Bool} {ob : List (Bool × Bool)} {xs : List D} {j : Int} (d : D) (hT : tabB K.P T = true)
 (h : ixs T ops.toList K.n i sl = some (t, g, ob, xs, j, m)) (hd : isT g → 0 ≤ j ∧ xs[j.toNat]? = some d ∧ d.cells.length = m) (hm : 0 < m) (ho : Obl ob) (hg : GF K fr (.ops ops l) Q ⟨(t, whn g (.d (.ptr d))) :: sl, mem⟩) : GF K fr (.ops ops (i :: l)) Q ⟨sl, mem⟩ := by
 obtain ⟨o, ho1, h⟩ := opK_of h
 obtain ⟨t', hdt, ht, h⟩ := dstK_of h
 obtain ⟨g', h, hq⟩ := quiet_of (mem := mem) ho1 hdt ht h
 split at h
 · rename_i ty x ix hop
   obtain ⟨sl', ob', h, hst⟩ := stpK_of mem h
   split at h
   · cases h
   · rename_i ti hl
     split at h
     · rename_i e n b zs hk
       obtain ⟨hu, z, hz, _⟩ := slice_of (tabB_look hT hl) hk
       split at h
       · rename_i ys hys
         split at h
         · rename_i kk jj hj
           injection h with h; injection h with e1 h; injection h with e2 h; injection h with e3 h; injection h with e4 h; injection h with e5 e6
           subst e1; subst e2; subst e3; subst e4; subst e5; subst e6
           refine hq _ _ _ (fun hgt => ?_) hg
           obtain ⟨h0, h1, h2⟩ := hd hgt
           obtain ⟨dd, op, rt, pos, af, gg⟩ := o
           dsimp only at hdt hop
           subst hdt; subst hop
           rw [evl_eq' sl' mem] at hj
           rw [evl_eq' sl' mem] at hys
           exact Yld_pure rfl ht (hst hgt ho.get _ _ _ _ (Q_indexAddr (lst_eq hys) hj h0 h1 hu (size_of_inf hz) h2 hm ht))
         · cases h
       · cases h
     · cases h
 · cases h
theorem str_of {ty : TypeId} {i : TI} (hi : TOk P ty i) (hk : i.kind = .str) : P.underlying ty = some .string := by
 obtain ⟨d, hd, _, hd2⟩ := hi.und
 rw [hk] at hd2
 cases d <;> first | exact hd | cases hd2
def toDsK {β : Sort _} : List PV → (List D → Option β) → Option β
 | [], k => k []
 | p :: r, k => match p.toD with
  | some d => toDsK r fun ds => k (d :: ds)
  | none => none
theorem toDsK_of {β : Sort _} : ∀ {ps : List PV} {k : List D → Option β} {r : β}, toDsK ps k = some r → ∃ ds, PV.toDs ps = some ds ∧ k ds = some r
 | [], k, r, h => ⟨[], rfl, h⟩
 | p :: ps, k, r, h => by
  rw [toDsK] at h
  split at h
  · rename_i d hd
    obtain ⟨ds, h1, h2⟩ := toDsK_of h
    exact ⟨d :: ds, by rw [PV.toDs, hd, h1], h2⟩
  · cases h
def calK {β : Sort _} (p : PV) (k : FuncId → List D → List D → Option β) : Option β := match p with
 | .fn (.func f) a c => match a with
  | [] => match c with
   | [] => k f [] []
   | c => toDsK c fun c => k f [] c
  | a => toDsK a fun a => toDsK c fun c => k f a c
 | .d (.fn (.func f) a c) => k f a c
 | _ => none
theorem calK_of {β : Sort _} {k : FuncId → List D → List D → Option β} {r : β} (h : calK p k = some r) : ∃ f a c, p.callee = some (f, a, c) ∧ k f a c = some r := by
 unfold calK at h
 split at h
 · rename_i f a c
   split at h
   · split at h
     · exact ⟨f, [], [], rfl, h⟩
     · obtain ⟨ds, h1, h2⟩ := toDsK_of h
       exact ⟨f, [], ds, by rw [PV.callee, h1]; rfl, h2⟩
   · obtain ⟨ds, h1, h2⟩ := toDsK_of h
     obtain ⟨ds', h3, h4⟩ := toDsK_of h2
     exact ⟨f, ds, ds', by rw [PV.callee, h1, h3], h4⟩
 · rename_i f a c; exact ⟨f, a, c, rfl, h⟩
 · cases h
def cls (ops : List Oper) (n i : Nat) (sl : List (Nat × PV)) : Option (Nat × Option Bool × List (Bool × Bool) × FuncId × List D) := opK ops i fun o => dstK n o fun t => gdK ops n o sl fun g => match o.op with
 | .call c => match c.callee with
  | .value fx => stpK g c.args.toList sl fun sl' ob => evsK sl' c.args.toList fun ps => calK (evl sl fx) fun f a b => toDsK ps fun ds => appK a ds fun ad => appK ad b fun all => some (t, g, ob, f, all)
  | _ => none
 | _ => none
theorem call_at {s : GS} {fx : Operand} {ar : Array Operand} {tys : Array TypeId} {f : FuncId} {fa fc ds : List D} (hop : o.op = .call ⟨.value fx, ar, tys⟩) (hd : o.dst = some t) (ht : t < K.n)
 (hfx : (s.ev fx).callee = some (f, fa, fc)) {s' : GS} (hxs : PV.toDs (ar.toList.map s'.ev) = some ds) (hc : Pf K.P f (fa ++ ds ++ fc) r) {S : Reg} {O : Owns} {m : List Nat} {a : Act} {w : World} (hr : Rep K S O m s a w) (hr' : Rep K S O m s' a w) {next : Act → World → Prop} {Q : Exit → GS → Prop} (h : ∀ a' w', At K (s.set t r) a' w' → next a' w') :
 o.wp K.P a w next (fun e a' w' => ∃ s', Q e s' ∧ At K s' a' w') := by
 obtain ⟨⟨fn, hf, hb, hn⟩, hp⟩ := hc
 obtain ⟨hl, hrd⟩ := evs_rd hr' ar.toList hxs
 exact call_wp (xs := ar.toList) hr (by simpa using hop) hd hfx hl hrd hf hb hn ht hp h
end
section
theorem Rep.bare {K : Ctx} {S : Reg} {O : Owns} {m : List Nat} {sl : List (Nat × PV)} {mem : List (List PV)} {a : Act} {w : World} {u : Nat} {c : Bool} {p : PV} (h : Rep K S O m ⟨sl, mem⟩ a w) (hl : lk sl u = .when c p) (hc : c = true) : Rep K S O m ⟨(u, p) :: sl, mem⟩ a w where
 env := h.env
 defers := h.defers
 size := h.size
 pre := h.pre
 slots := fun i q hq => by
  rw [GS.get, List.lookup_cons] at hq
  cases hb : (i == u) with
  | true =>
   rw [hb] at hq; injection hq with hq; subst hq
   have hi : i = u := by simpa using hb
   subst hi
   have hr := h.slots i _ (lk_some hl (by intro h; cases h))
   generalize a.tmps.getD i undef = v at hr
   subst hc
   cases hr with
   | whenT _ _ _ _ _ hr => exact hr
   | whenF _ _ _ hb => cases hb
  | false => rw [hb] at hq; exact h.slots i q hq
theorem stripR {β : Sort _} (g : Bool) (mem : List (List PV)) : ∀ (xs : List Operand) (sl : List (Nat × PV)) (ob : List (Bool × Bool)) (k : List (Nat × PV) → List (Bool × Bool) → β),
 ∃ sl' ob', stripK g xs sl ob k = k sl' ob' ∧ (g = true → (∀ x ∈ ob', x.1 = true → x.2 = true) → (∀ x ∈ ob, x.1 = true → x.2 = true) ∧ ∀ (K : Ctx) S O m a w, Rep K S O m ⟨sl, mem⟩ a w → Rep K S O m ⟨sl', mem⟩ a w)
 | [], sl, ob, k => ⟨sl, ob, rfl, fun _ h => ⟨h, fun _ _ _ _ _ _ h => h⟩⟩
 | x :: r, sl, ob, k => by
  unfold stripK
  split
  · rename_i u
    split
    · rename_i c p hl
      obtain ⟨sl', ob', h1, h2⟩ := stripR g mem r ((u, p) :: sl) ((g, c) :: ob) k
      refine ⟨sl', ob', h1, fun hgt h => ?_⟩
      obtain ⟨h3, h4⟩ := h2 hgt h
      exact ⟨fun x hx => h3 x (.tail _ hx), fun K S O m a w hr => h4 K S O m a w (hr.bare hl (h3 _ (.head _) hgt))⟩
    · exact stripR g mem r sl ob k
  · exact stripR g mem r sl ob k
theorem gC {K : Ctx} {fr : List Fr} {ops : Array Oper} {Q : Exit → GS → Prop} {i t : Nat} {l : List Nat} {sl : List (Nat × PV)} {mem : List (List PV)} {g : Option Bool} {ob : List (Bool × Bool)} {f : FuncId} {ds : List D} {r : PV}
 (h : cls ops.toList K.n i sl = some (t, g, ob, f, ds)) (hc : isT g → Pf K.P f ds r) (ho : Obl ob) (hg : GF K fr (.ops ops l) Q ⟨(t, whn g r) :: sl, mem⟩) : GF K fr (.ops ops (i :: l)) Q ⟨sl, mem⟩ := by
 refine toO ?_
 have hg := ofO hg
 obtain ⟨o, ho1, h⟩ := opK_of h
 obtain ⟨t', hdt, ht, h⟩ := dstK_of h
 have hoi : ops[i]? = some o := by rw [nth_eq] at ho1; rw [← ho1]; simp
 unfold gdK at h
 split at h
 · rename_i hgd
   split at h
   · rename_i c hop
     split at h
     · rename_i fx hcal
       unfold stpK at h
       dsimp only at h
       rw [evsK_eq] at h
       obtain ⟨f', a, b, h1, h⟩ := calK_of h
       obtain ⟨ds', h2, h⟩ := toDsK_of h
       rw [appK_eq, appK_eq] at h
       injection h with h; injection h with e1 h; injection h with e2 h; injection h with e3 h; injection h with e4 e5
       subst e1; subst e2; subst e3; subst e4; subst e5
       obtain ⟨ca, ar, tys⟩ := c
       dsimp only at hcal h2
       subst hcal
       obtain ⟨⟨fn, hf, hb, hn⟩, hp⟩ := hc trivial
       rw [evl_eq' sl mem] at h1
       refine GOps_call (xs := ar.toList) (R := fun q m => q = r ∧ m = []) hoi (by simpa using hop) hdt hgd h1 ?_ hf hb hn ht hp (fun r' m' hr => ?_)
       · rw [← h2]; congr 1; exact List.map_congr_left fun x _ => (evl_eq' sl mem x).symm
       · obtain ⟨rfl, rfl⟩ := hr; exact ⟨rfl, hg⟩
     · cases h
   · cases h
 · rename_i j want hgd
   split at h
   · cases h
   · rename_i oj hnj
     have hoj : ops[j]? = some oj := by rw [nth_eq] at hnj; rw [← hnj]; simp
     split at h
     · cases h
     · rename_i u hju
       split at h
       · cases h
       · rename_i hlt
         split at h
         · cases h
         · rename_i gb hgb
           have hgb := gdOf_eq _ _ _ hgb
           have hu : (GS.mk sl mem).get u = some (lk sl u) := lk_some rfl (by intro h0; rw [h0] at hgb; cases hgb)
           split at h
           · rename_i c hop
             split at h
             · rename_i fx hcal
               unfold stpK at h
               dsimp only at h
               obtain ⟨sl', ob', h0, hst⟩ := stripR gb mem c.args.toList sl [] (fun sl' ob => evsK sl' c.args.toList fun ps => calK (evl sl fx) fun f a b => toDsK ps fun ds => appK a ds fun ad => appK ad b fun all => some (t', some gb, ob, f, all))
               rw [h0, evsK_eq] at h
               obtain ⟨f', a, b, h1, h⟩ := calK_of h
               obtain ⟨ds', h2, h⟩ := toDsK_of h
               rw [appK_eq, appK_eq] at h
               injection h with h; injection h with e1 h; injection h with e2 h; injection h with e3 h; injection h with e4 e5
               subst e1; subst e2; subst e3; subst e4; subst e5
               obtain ⟨ca, ar, tys⟩ := c
               dsimp only at hcal h2
               subst hcal
               rintro a1 w ⟨S, O, m, hr⟩
               have hyl := wanted_of hr hoj hju hu (blt_of hlt) hgb
               by_cases hb : gb = true
               · have hw : Region.wanted o (yielded ops a1.tmps) = true := by simp only [Region.wanted]; rw [hgd]; dsimp only; rw [hyl]; exact hb
                 simp only [wpOps, hoi, hw, if_true]
                 have hr' := (hst hb ho.get).2 K S O m a1 w hr
                 rw [evl_eq' sl mem] at h1
                 refine .inl (call_at (s' := ⟨sl', mem⟩) hop hdt ht h1 ?_ (hc hb) hr hr' (fun a' w' ⟨S', O', m', hr'⟩ => hg a' w' ⟨S', O', m', hr'.env, hr'.defers, hr'.size, hr'.pre, fun i q hq => ?_⟩))
                 · rw [← h2]; congr 1; exact List.map_congr_left fun x _ => (evl_eq' sl' mem x).symm
                 · rw [GS.get, List.lookup_cons] at hq
                   cases hit : (i == t') with
                   | true =>
                    rw [hit] at hq; injection hq with hq; subst hq
                    have hi : i = t' := by simpa using hit
                    subst hi
                    exact .whenT _ _ _ _ hb (hr'.slots i r (by rw [GS.get_set, if_pos rfl]))
                   | false =>
                    rw [hit] at hq
                    exact hr'.slots i q (by rw [GS.get_set, if_neg (by simpa using hit)]; exact hq)
               · have hw : Region.wanted o (yielded ops a1.tmps) = false := by simp only [Region.wanted]; rw [hgd]; dsimp only; rw [hyl]; simpa using hb
                 simp only [wpOps, hoi, hw, if_false, Bool.false_eq_true]
                 rw [hdt]
                 refine hg _ _ ⟨S, O, m, hr.put ht ?_⟩
                 exact .whenF _ _ _ (by simpa using hb)
             · cases h
           · cases h
end
section
variable {K : Ctx} {sl : List (Nat × PV)} {mem : List (List PV)} {t : Nat}
theorem Qy_low {o : Oper} {u : Nat} {q : PV} {xs : List D} (hl : lst (lk sl u) = some xs) (hq : Qy K o ⟨(u, .d (.sl xs)) :: sl, mem⟩ t q) : Qy K o ⟨sl, mem⟩ t q := by
 refine fun S O m a w h => hq S O m a w ⟨h.env, h.defers, h.size, h.pre, fun i p hp => ?_⟩
 rw [GS.get, List.lookup_cons] at hp
 cases hb : (i == u) with
 | true =>
  rw [hb] at hp; injection hp with hp; subst hp
  have hi : i = u := by simpa using hb
  subst hi
  have hne : lk sl i ≠ .undef := by intro h0; rw [h0] at hl; cases hl
  have hr := h.slots i _ (lk_some rfl hne)
  have hd : (lk sl i).toD = some (.sl xs) := by
   unfold lst at hl
   split at hl <;> first | (rename_i h0; rw [h0]; injection hl with hl; subst hl; rfl) | cases hl
  exact .d _ _ _ (hr.toD _ hd)
 | false => rw [hb] at hp; exact h.slots i p hp
def lowK {β : Sort _} (sl : List (Nat × PV)) (x : Operand) (k : List (Nat × PV) → Option β) : Option β := match x with
 | .tmp u => match lst (lk sl u) with
  | some xs => k ((u, .d (.sl xs)) :: sl)
  | none => k sl
 | _ => k sl
variable {β : Sort _}
theorem lowK_of (mem : List (List PV)) {x : Operand} {k : List (Nat × PV) → Option β} {r : β} (h : lowK sl x k = some r) : ∃ sl', k sl' = some r ∧ ∀ (K : Ctx) (o : Oper) (t : Nat) (q : PV), Qy K o ⟨sl', mem⟩ t q → Qy K o ⟨sl, mem⟩ t q := by
 unfold lowK at h
 split at h
 · split at h
   · rename_i hl; exact ⟨_, h, fun K o t q hq => Qy_low hl hq⟩
   · exact ⟨_, h, fun _ _ _ _ h => h⟩
 · exact ⟨_, h, fun _ _ _ _ h => h⟩
def qc (T : List (Nat × TI)) (sl : List (Nat × PV)) (op : Op) : Option (Prop × PV) := match op with
 | .index ty x ix => match look T ty with
  | none => none
  | some ti => match ti.kind with
   | .str => match evl sl x with
    | .d (.str b) => match evl sl ix with
     | .d (.int _ j) => some (0 ≤ j ∧ j < b.size, .d (.int .u8 (b[j.toNat]!).toNat))
     | _ => none
    | _ => none
   | _ => none
 | .binOp op _ x y _ => match evl sl x with
  | .d (.str a) => match evl sl y with
   | .d (.str b) => match op with
    | .add => some (a.size + b.size ≤ lim, .d (.str (a ++ b)))
    | _ => none
   | _ => none
  | .d (.int k a) => match evl sl y with
   | .d (.int k' b) => match decide (k = k') with
    | true => match op with
     | .quo => some (b ≠ 0, .d (.int k (k.wrap (a.tdiv b))))
     | .rem => some (b ≠ 0, .d (.int k (a.tmod b)))
     | _ => none
    | false => none
   | _ => none
  | _ => none
 | .slice ty x lo hi mx => match mx with
  | some _ => none
  | none => match look T ty with
   | none => none
   | some ti => match ti.kind with
    | .str => match evl sl x with
     | .d (.str b) => match lo with
      | none => match hi with
       | none => none
       | some hi => match evl sl hi with
        | .d (.int _ j) => some (0 ≤ j ∧ j ≤ b.size, .d (.str (b.extract 0 j.toNat)))
        | _ => none
      | some lo => match evl sl lo with
       | .d (.int _ i) => match hi with
        | none => some (0 ≤ i ∧ i ≤ b.size, .d (.str (b.extract i.toNat b.size)))
        | some _ => none
       | _ => none
     | _ => none
    | .slice _ n _ _ => match evl sl x with
     | .d (.sl xs) => match lo with
      | none => match hi with
       | none => none
       | some hi => match evl sl hi with
        | .d (.int _ j) => some ((0 ≤ j ∧ j ≤ (xs.length : Nat)) ∧ ∀ x ∈ xs, x.cells.length = n, .d (.sl (xs.take j.toNat)))
        | _ => none
      | some lo => match evl sl lo with
       | .d (.int _ i) => match hi with
        | none => some ((0 ≤ i ∧ i ≤ (xs.length : Nat)) ∧ ∀ x ∈ xs, x.cells.length = n, .d (.sl (xs.drop i.toNat)))
        | some hi => match evl sl hi with
         | .d (.int _ j) => some ((0 ≤ i ∧ i ≤ j ∧ j ≤ (xs.length : Nat)) ∧ ∀ x ∈ xs, x.cells.length = n, .d (.sl ((xs.take j.toNat).drop i.toNat)))
         | _ => none
       | _ => none
     | _ => none
    | _ => none
 | _ => none
theorem qc_of {T : List (Nat × TI)} {op : Op} {C : Prop} {p : PV} {rt : TypeId} {pos : String} {af : Array Edge} {g : Option (Nat × Bool)} (hT : tabB K.P T = true) (ht : t < K.n) (h : qc T sl op = some (C, p)) (hc : C) : Qy K ⟨some t, op, rt, pos, af, g⟩ ⟨sl, mem⟩ t p := by
 unfold qc at h
 split at h
 · split at h
   · cases h
   · rename_i ti hl
     split at h
     · rename_i hk
       split at h
       · rename_i b hb
         split at h
         · rename_i kk j hj
           injection h with h; injection h with h1 h2; subst h1; subst h2
           rw [evl_eq' sl mem] at hb hj
           exact Q_strindex hb hj (str_of (tabB_look hT hl) hk) hc.1 hc.2
         · cases h
       · cases h
     · cases h
 · split at h
   · rename_i a ha
     split at h
     · rename_i b hb
       split at h
       · injection h with h; injection h with h1 h2; subst h1; subst h2
         rw [evl_eq' sl mem] at ha hb
         exact Q_stradd ha hb hc ht
       · cases h
     · cases h
   · rename_i k a ha
     split at h
     · rename_i k' b hb
       split at h
       · rename_i hk
         rw [decide_eq_true_eq] at hk
         subst hk
         rw [evl_eq' sl mem] at ha hb
         split at h
         · injection h with h; injection h with h1 h2; subst h1; subst h2; exact Q_quo ha hb hc rfl ht
         · injection h with h; injection h with h1 h2; subst h1; subst h2; exact Q_rem ha hb hc rfl ht
         · cases h
       · cases h
     · cases h
   · cases h
 · split at h
   · cases h
   · split at h
     · cases h
     · rename_i ti hl
       split at h
       · rename_i hk
         have hu := str_of (tabB_look hT hl) hk
         split at h
         · rename_i b hb
           rw [evl_eq' sl mem] at hb
           split at h
           · split at h
             · cases h
             · split at h
               · rename_i kk j hj
                 injection h with h; injection h with h1 h2; subst h1; subst h2
                 rw [evl_eq' sl mem] at hj
                 exact Q_strh hb hj hu hc.1 hc.2 rfl
               · cases h
           · split at h
             · rename_i kk j hj
               rw [evl_eq' sl mem] at hj
               split at h
               · injection h with h; injection h with h1 h2; subst h1; subst h2
                 exact Q_strl hb hj hu hc.1 hc.2 rfl
               · cases h
             · cases h
         · cases h
       · rename_i e n bb zs hk
         obtain ⟨hu, z, hz, _⟩ := slice_of (tabB_look hT hl) hk
         have hsz := size_of_inf hz
         split at h
         · rename_i xs hb
           rw [evl_eq' sl mem] at hb
           split at h
           · split at h
             · cases h
             · split at h
               · rename_i kk j hj
                 injection h with h; injection h with h1 h2; subst h1; subst h2
                 rw [evl_eq' sl mem] at hj
                 exact Q_sliceh hb hj hu hsz hc.1.1 hc.1.2 hc.2 rfl
               · cases h
           · split at h
             · rename_i kk i hi
               rw [evl_eq' sl mem] at hi
               split at h
               · injection h with h; injection h with h1 h2; subst h1; subst h2
                 exact Q_slicel hb hi hu hsz hc.1.1 hc.1.2 hc.2 rfl
               · split at h
                 · rename_i kk' j hj
                   injection h with h; injection h with h1 h2; subst h1; subst h2
                   rw [evl_eq' sl mem] at hj
                   exact Q_slicelh hb hi hj hu hsz hc.1.1 hc.1.2.1 hc.1.2.2 hc.2 rfl
                 · cases h
             · cases h
         · cases h
       · cases h
 · cases h
def low1 (op : Op) : Operand := match op with
 | .slice _ x _ _ _ => x
 | _ => .func 0
def qcs (T : List (Nat × TI)) (ops : List Oper) (n i : Nat) (sl : List (Nat × PV)) : Option (Nat × Option Bool × List (Bool × Bool) × Prop × PV) := opK ops i fun o => dstK n o fun t => gdK ops n o sl fun g => stpK g o.op.operands.toList sl fun sl' ob => lowK sl' (low1 o.op) fun sl' => match qc T sl' o.op with
 | some (C, p) => some (t, g, ob, C, p)
 | none => none
variable {fr : List Fr} {ops : Array Oper} {i : Nat} {l : List Nat}
theorem gQ {T : List (Nat × TI)} {Q : Exit → GS → Prop} {g : Option Bool} {ob : List (Bool × Bool)} {C : Prop} {p : PV} (hT : tabB K.P T = true)
 (h : qcs T ops.toList K.n i sl = some (t, g, ob, C, p)) (hc : isT g → C) (ho : Obl ob) (hg : GF K fr (.ops ops l) Q ⟨(t, whn g p) :: sl, mem⟩) : GF K fr (.ops ops (i :: l)) Q ⟨sl, mem⟩ := by
 obtain ⟨o, ho1, h⟩ := opK_of h
 obtain ⟨t', hdt, ht, h⟩ := dstK_of h
 obtain ⟨g', h, hq⟩ := quiet_of (mem := mem) ho1 hdt ht h
 obtain ⟨sl', ob', h, hst⟩ := stpK_of mem h
 obtain ⟨sl2, h, hst2⟩ := lowK_of mem h
 split at h
 · rename_i C' p' hqc
   injection h with h; injection h with e1 h; injection h with e2 h; injection h with e3 h; injection h with e4 e5
   subst e1; subst e2; subst e3; subst e4; subst e5
   refine hq _ _ _ (fun hgt => ?_) hg
   obtain ⟨dd, op, rt, pos, af, gg⟩ := o
   dsimp only at hdt hqc
   subst hdt
   exact Yld_pure rfl ht (hst hgt ho.get _ _ _ _ (hst2 _ _ _ _ (qc_of hT ht hqc (hc hgt))))
 · cases h
def aps (T : List (Nat × TI)) (ops : List Oper) (n i : Nat) (sl : List (Nat × PV)) : Option (Nat × Nat × Nat × Nat × List D × List D) := opK ops i fun o => dstK n o fun t => match o.guard with
 | some _ => none
 | none => match o.op with
  | .call c => match c.callee with
   | .builtin .append => match c.args.toList with
    | [.tmp u, y] => match c.argTypes.toList with
     | [ty, ty'] => match Nat.beq ty ty' with
      | true => match look T ty with
       | none => none
       | some ti => match ti.kind with
        | .slice _ k b zs => match sizeIs zs k with
         | true => match lst (evl sl y) with
          | some ys => match lk sl u with
           | .osl k' xs => match Nat.beq k k' with
            | true => some (t, u, k, b, xs, ys)
            | false => none
           | .nils => some (t, u, k, b, [], ys)
           | _ => none
          | none => none
         | false => none
        | _ => none
      | false => none
     | _ => none
    | _ => none
   | _ => none
  | _ => none
theorem gA {T : List (Nat × TI)} {Q : Exit → GS → Prop} {u k b : Nat} {xs ys : List D} (hT : tabB K.P T = true)
 (h : aps T ops.toList K.n i sl = some (t, u, k, b, xs, ys)) (hk0 : 0 < k) (hne : ys ≠ []) (hk : ∀ y ∈ ys, y.cells.length = k) (hl : xs.length + ys.length ≤ lim) (hB : (xs.length + ys.length) * b ≤ lim) (hg : GF K fr (.ops ops l) Q ⟨(t, .osl k (xs ++ ys)) :: (u, .d (.sl xs)) :: sl, mem⟩) : GF K fr (.ops ops (i :: l)) Q ⟨sl, mem⟩ := by
 obtain ⟨o, ho1, h1⟩ := opK_of h
 obtain ⟨t', hdt, ht, h2⟩ := dstK_of h1
 clear h h1
 have h := h2
 clear h2
 have hoi : ops[i]? = some o := by rw [nth_eq] at ho1; rw [← ho1]; simp
 split at h
 · cases h
 · rename_i hgd
   split at h
   · rename_i c hop
     split at h
     · rename_i hcal
       split at h
       · rename_i u' y hargs
         split at h
         · rename_i ty ty' htys
           split at h
           · rename_i hty
             have hty := Nat.eq_of_beq_eq_true hty
             subst hty
             split at h
             · cases h
             · rename_i ti hlk
               split at h
               · rename_i e k1 b1 zs hkd
                 obtain ⟨hu, z, hz, hz1, hzs⟩ := slice_of (tabB_look hT hlk) hkd
                 split at h
                 · rename_i hsz
                   have hsz := sizeIs_of _ _ hsz
                   split at h
                   · rename_i ys' hys
                     obtain ⟨ca, ar, tys⟩ := c
                     dsimp only at hcal hargs htys
                     subst hcal
                     have e1 : ar = #[.tmp u', y] := by apply Array.toList_inj.1; exact hargs
                     have e2 : tys = #[ty, ty] := by apply Array.toList_inj.1; exact htys
                     subst e1; subst e2
                     rw [evl_eq' sl mem] at hys
                     obtain ⟨dd, op, rt, pos, af, gg⟩ := o
                     dsimp only at hdt hop hgd
                     subst hdt; subst hop
                     split at h
                     · rename_i k2 xs2 hlku
                       split at h
                       · rename_i hkk
                         have hkk := Nat.eq_of_beq_eq_true hkk
                         subst hkk
                         injection h with h; injection h with f1 h; injection h with f2 h; injection h with f3 h; injection h with f4 h; injection h with f5 f6
                         subst f1; subst f2; subst f3; subst f4; subst f5; subst f6
                         exact GOps_val hoi hgd (Y_append (lk_some hlku (by intro h; cases h)) (.inl rfl) (lst_eq hys) hne hk hk0 hu hz (hzs.trans hsz) hz1 hl hB ht) hg
                       · cases h
                     · rename_i hlku
                       injection h with h; injection h with f1 h; injection h with f2 h; injection h with f3 h; injection h with f4 h; injection h with f5 f6
                       subst f1; subst f2; subst f3; subst f4; subst f5; subst f6
                       exact GOps_val hoi hgd (Y_append (xs := []) (lk_some hlku (by intro h; cases h)) (.inr ⟨rfl, rfl⟩) (lst_eq hys) hne hk hk0 hu hz (hzs.trans hsz) hz1 hl hB ht) hg
                     · cases h
                   · cases h
                 · cases h
               · cases h
           · cases h
         · cases h
       · cases h
     · cases h
   · cases h
def seqK {β : Sort _} : List (Nat × Operand) → List Nat → (List Operand → Option β) → Option β
 | [], _, k => k []
 | (i, x) :: r, n :: ns, k => match Nat.beq i n with
  | true => seqK r ns fun xs => k (x :: xs)
  | false => none
 | _ :: _, [], _ => none
theorem seqK_of : ∀ {ps : List (Nat × Operand)} {ns : List Nat} {k : List Operand → Option β} {r : β}, seqK ps ns k = some r → ∃ xs, k xs = some r ∧ ps = (ns.take xs.length).zip xs ∧ xs.length ≤ ns.length
 | [], ns, k, r, h => ⟨[], h, by simp, Nat.zero_le _⟩
 | (i, x) :: ps, n :: ns, k, r, h => by
  rw [seqK] at h
  split at h
  · rename_i hb
    obtain ⟨xs, h1, h2, h3⟩ := seqK_of h
    refine ⟨x :: xs, h1, ?_, by simp only [List.length_cons]; omega⟩
    rw [h2, Nat.eq_of_beq_eq_true hb]; rfl
  · cases h
 | _ :: _, [], _, _, h => by cases h
def bss (T : List (Nat × TI)) (ops : List Oper) (n i : Nat) (sl : List (Nat × PV)) : Option (Nat × Nat × List D) := opK ops i fun o => dstK n o fun t => match o.guard with
 | some _ => none
 | none => match o.op with
  | .buildSlice ty len parts => seqK parts.toList nums fun xs => match sizeIs xs len with
   | true => match look T ty with
    | none => none
    | some ti => match ti.kind with
     | .slice _ k _ zs => match sizeIs zs k with
      | true => match Nat.ble (len * k) 16777216 with
       | true => evsK sl xs fun ps => toDsK ps fun ds => some (t, k, ds)
       | false => none
      | false => none
     | _ => none
   | false => none
  | _ => none
theorem gB {T : List (Nat × TI)} {Q : Exit → GS → Prop} {k : Nat} {ds : List D} (hT : tabB K.P T = true)
 (h : bss T ops.toList K.n i sl = some (t, k, ds)) (hk0 : 0 < k) (hk : ∀ d ∈ ds, d.cells.length = k) (hg : GF K fr (.ops ops l) Q ⟨(t, .osl k ds) :: sl, mem⟩) : GF K fr (.ops ops (i :: l)) Q ⟨sl, mem⟩ := by
 obtain ⟨o, ho1, h1⟩ := opK_of h
 obtain ⟨t', hdt, ht, h2⟩ := dstK_of h1
 clear h h1
 have h := h2
 clear h2
 have hoi : ops[i]? = some o := by rw [nth_eq] at ho1; rw [← ho1]; simp
 split at h
 · cases h
 · rename_i hgd
   split at h
   · rename_i ty len parts hop
     obtain ⟨xs, h, hps, hln⟩ := seqK_of h
     split at h
     · rename_i hsz
       have hsz := sizeIs_of _ _ hsz
       split at h
       · cases h
       · rename_i ti hlk
         split at h
         · rename_i e k1 b1 zs hkd
           obtain ⟨hu, z, hz, hz1, hzs⟩ := slice_of (tabB_look hT hlk) hkd
           split at h
           · rename_i hszz
             have hszz := sizeIs_of _ _ hszz
             split at h
             · rename_i hle
               rw [evsK_eq] at h
               obtain ⟨ds', h1, h⟩ := toDsK_of h
               injection h with h; injection h with f1 h; injection h with f2 f3
               subst f1; subst f2; subst f3
               obtain ⟨dd, op, rt, pos, af, gg⟩ := o
               dsimp only at hdt hop hgd
               subst hdt; subst hop
               refine GOps_val hoi hgd (Y_buildSlice (xs := xs) hu hz ?_ hsz (hzs.trans hszz) ?_ hk (Nat.le_of_ble_eq_true hle) hk0 ht) hg
               · rw [hps, nums_eq, List.take_range, Nat.min_eq_left (by simpa [nums] using hln)]
               · rw [← h1]; congr 1; exact List.map_congr_left fun x _ => (evl_eq' sl mem x).symm
             · cases h
           · cases h
         · cases h
     · cases h
   · cases h
def frzK {β : Sort _} (n : Nat) (F : Nat → PV) : List (Nat × PV) → (List (Nat × PV) → β) → β
 | [], k => k []
 | (i, p) :: r, k => match p with
  | .ref b off => match Nat.beq b n with
   | true => frc (F off) fun q => frzK n F r fun l => k ((i, q) :: l)
   | false => frzK n F r fun l => k ((i, .ref b off) :: l)
  | .d x => frzK n F r fun l => k ((i, .d x) :: l)
  | .nils => frzK n F r fun l => k ((i, .nils) :: l)
  | .undef => frzK n F r fun l => k ((i, .undef) :: l)
  | .osl m xs => frzK n F r fun l => k ((i, .osl m xs) :: l)
  | p => frc (PV.frz n F noH .undef p) fun q => frzK n F r fun l => k ((i, q) :: l)
theorem frzK_eq (n : Nat) (F : Nat → PV) : ∀ (l : List (Nat × PV)) (k : List (Nat × PV) → β), frzK n F l k = k (l.map fun x => (x.1, PV.frz n F noH .undef x.2))
 | [], _ => rfl
 | (i, p) :: r, k => by
  cases p with
  | ref b off =>
   rw [frzK]
   cases hb : Nat.beq b n with
   | true => dsimp only; rw [frc_eq, frzK_eq n F r, List.map_cons, PV.frz, if_pos (Nat.eq_of_beq_eq_true hb)]
   | false => dsimp only; rw [frzK_eq n F r, List.map_cons, PV.frz, if_neg (Nat.ne_of_beq_eq_false hb)]
  | d x => rw [frzK, frzK_eq n F r, List.map_cons, PV.frz]
  | nils => rw [frzK, frzK_eq n F r, List.map_cons, PV.frz]
  | undef => rw [frzK, frzK_eq n F r, List.map_cons, PV.frz]
  | osl m xs => rw [frzK, frzK_eq n F r, List.map_cons, PV.frz]
  | _ => unfold frzK; dsimp only; rw [frc_eq, frzK_eq n F r, List.map_cons]
def popK {α : Type} {β : Sort _} : List α → (List α → α → Option β) → Option β
 | [], _ => none
 | x :: r, k => match r with
  | [] => k [] x
  | y :: r' => popK (y :: r') fun l z => k (x :: l) z
theorem popK_of {α : Type} : ∀ {l : List α} {k : List α → α → Option β} {r : β}, popK l k = some r → ∃ l' z, l = l' ++ [z] ∧ k l' z = some r
 | [], _, _, h => by cases h
 | [x], k, r, h => ⟨[], x, rfl, h⟩
 | x :: y :: l, k, r, h => by
  obtain ⟨l', z, h1, h2⟩ := popK_of (l := y :: l) (k := fun l z => k (x :: l) z) h
  exact ⟨x :: l', z, by rw [h1]; rfl, h2⟩
def frs (isAgg : Bool) (s : GS) : Option (Nat × D × GS) := match s with
 | ⟨sl, mem⟩ => popK mem fun keep cs => lenK keep fun n => match PV.toDs cs with
  | some ds => match isAgg with
   | true => frzK n (ptrF (.agg ds)) sl fun sl' => some (n, .agg ds, ⟨sl', keep⟩)
   | false => match ds with
    | [d] => match isLeaf d with
     | true => frzK n (ptrF d) sl fun sl' => some (n, d, ⟨sl', keep⟩)
     | false => none
    | _ => none
  | none => none
theorem gFz (isAgg : Bool) {K : Ctx} {fr : List Fr} {c : Cf} {Q : Exit → GS → Prop} {s s' : GS} {n : Nat} {d : D} (h : frs isAgg s = some (n, d, s')) (hk : K.m0.length ≤ n) (hrf : s'.mem.all (PV.refsBs n) = true) (hc : goes c = true) (hg : GF K fr c Q s') : GF K fr c Q s := by
 obtain ⟨sl, mem⟩ := s
 unfold frs at h
 dsimp only at h
 obtain ⟨keep, cs, hm, h⟩ := popK_of h
 rw [lenK_eq] at h
 split at h
 · rename_i ds hds
   split at h
   · rw [frzK_eq] at h
     injection h with h; injection h with f1 h; injection h with f2 f3
     subst f1; subst f2; subst f3
     exact gLe (Le_freeze keep.length hm rfl hds rfl hk hrf) hg hc
   · split at h
     · split at h
       · rename_i hl
         rw [frzK_eq] at h
         injection h with h; injection h with f1 h; injection h with f2 f3
         subst f1; subst f2; subst f3
         exact gLe (Le_freeze keep.length hm rfl hds (isLeaf_of hl) hk hrf) hg hc
       · cases h
     · cases h
 · cases h
end
end Go.Proofs.Ytklkbfpjimeaoaa.E
