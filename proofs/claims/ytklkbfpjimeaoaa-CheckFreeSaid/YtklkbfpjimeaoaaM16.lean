import Derived.Test.YtklkbfpjimeaoaaM15
/- Contracts of functions. Conditions: none. -/
set_option linter.unusedSimpArgs false
set_option linter.unusedVariables false
namespace Go.Proofs.Ytklkbfpjimeaoaa.E
open Go
def klOk (kl : List (Nat × Nat)) (i d : Nat) : Bool := match kl.lookup d with
 | none => true
 | some m => Nat.beq m i
def seeF (kl : List (Nat × Nat)) (ops : List Oper) (i : Nat) (es : List (Nat × Nat × PV)) (base : List (Nat × PV)) : Option (List (Nat × PV)) := opK ops i fun o => dpK o.after.toList fun ds => pickK (ds.filter (klOk kl i)) es fun l => appK l base some
theorem seeF_of {kl : List (Nat × Nat)} {ops : Array Oper} {i : Nat} {es : List (Nat × Nat × PV)} {base pre : List (Nat × PV)} (h : seeF kl ops.toList i es base = some pre) : pre = pick es ((depsOf ops i).filter (klOk kl i)) ++ base := by
 obtain ⟨o, ho, h⟩ := opK_of h
 have hoi : ops[i]? = some o := by rw [nth_eq] at ho; rw [← ho]; simp
 have h1 := pickK_of _ (dpK_of h)
 rw [appK_eq] at h1
 injection h1 with h1
 unfold depsOf
 rw [hoi]
 exact h1.symm
theorem klF {kl : List (Nat × Nat)} {ops : Array Oper} {i : Nat} : (((depsOf ops i).filter (klOk kl i)).all fun d => (depsOf ops i).contains d && (match kl.lookup d with | none => true | some m => Nat.beq m i)) = true := by
 rw [List.all_eq_true]
 intro d hd
 obtain ⟨h1, h2⟩ := List.mem_filter.1 hd
 rw [Bool.and_eq_true]
 exact ⟨by simpa using h1, h2⟩
def tkB (kl : List (Nat × Nat)) (es : List (Nat × Nat × PV)) (u i : Nat) : Bool := es.any fun e => Nat.beq e.2.1 u && (match kl.lookup e.1 with | some m => Nat.beq m i | none => false)
theorem tkB_x {kl : List (Nat × Nat)} {es : List (Nat × Nat × PV)} {u i : Nat} {q : PV} (h : tkB kl es u i = true) : (([(u, q)] : List (Nat × PV)).all fun y => es.any fun e => Nat.beq e.2.1 y.1 && (match kl.lookup e.1 with | some m => Nat.beq m i | none => false)) = true := by
 rw [List.all_cons, List.all_nil, Bool.and_true]
 exact h
def COk (kl : List (Nat × Nat)) (K : Ctx) (fr : List Fr) (ops : Array Oper) (base : List (Nat × PV)) (mem : List (List PV)) (i : Nat) (es : List (Nat × Nat × PV)) (Q : Exit → GS → Prop) : Prop := CGk kl K ops (fun _ => mem) base (unf K Q fr) i es
section
variable {kl : List (Nat × Nat)} {K : Ctx} {fr : List Fr} {ops : Array Oper} {base pre : List (Nat × PV)} {mem : List (List PV)} {i j t u : Nat} {es es' : List (Nat × Nat × PV)} {Q : Exit → GS → Prop} {p q : PV}
theorem cg_end {kl : List (Nat × Nat)} {K : Ctx} {fr : List Fr} {ops : Array Oper} {base sl : List (Nat × PV)} {M : (Nat → Bool) → List (List PV)} {mem : List (List PV)} {i : Nat} {es : List (Nat × Nat × PV)} {Q : Exit → GS → Prop} (hi : sizeIs ops.toList i = true) (hM : M (allB ops.size) = mem) (hp : (es.filter fun x => (kl.lookup x.1).isNone).map (·.2) ++ base = sl) (h : GF K fr (.leave .normal) Q ⟨sl, mem⟩)
 (hn : nodupB (es.map (·.2.1)) = true) (hb : base.all (fun x => !(es.map (·.2.1)).contains x.1) = true) (hf : es.all (fun x => Nat.blt x.1 ops.size) = true) : CGk kl K ops M base (unf K Q fr) i es := by
 have hi := sizeIs_of _ _ hi
 subst hp
 refine ⟨es, .done hi.symm, nodupB_iff hn, fun x hx hm => ?_, fun x hx => blt_of (List.all_eq_true.1 hf x hx), ?_⟩
 · have := List.all_eq_true.1 hb x hx
   simp only [Bool.not_eq_true', List.contains_eq_mem, decide_eq_false_iff_not] at this
   exact this hm
 · rw [hM]
   exact h
end
theorem gOpenCG (kl : List (Nat × Nat)) {K : Ctx} {fr : List Fr} {id : Nat} {ops : Array Oper} {sl base : List (Nat × PV)} {M : (Nat → Bool) → List (List PV)} {mem : List (List PV)} {ds : List Nat} {Q : Exit → GS → Prop} (hb : baseK ops.toList sl = some (ds, base)) (hm : K.P.follows .mixedOrders = true)
 (hdep : ((List.range ops.size).all fun i => (depsOf ops i).all fun d => Nat.blt d i) = true) (hM : M noB = mem) (h : CGk kl K ops M base (unf K Q fr) 0 []) : GF K fr (.code (.region id ops true)) Q ⟨sl, mem⟩ := by
 obtain ⟨ds', h1⟩ := dstsK_any hb
 have h2 := fltK_of ds' h1
 injection h2 with h2; injection h2 with h3 h4
 subst h3
 exact g_ck kl ds' M hM h h4 hm hdep
def COa (K : Ctx) (fr : List Fr) (ops : Array Oper) (base : List (Nat × PV)) (iL iA iS : Nat) (c0 c1 c2 : List PV) (tl : List (List PV)) (i : Nat) (es : List (Nat × Nat × PV)) (Q : Exit → GS → Prop) : Prop := CGk [(iL, iA), (iA, iS)] K ops (fun b => (cond (b iS) c2 (cond (b iL) c1 c0)) :: tl) base (unf K Q fr) i es
section
variable {K : Ctx} {fr : List Fr} {ops : Array Oper} {base pre : List (Nat × PV)} {iL iA iS : Nat} {c0 c1 c2 : List PV} {tl : List (List PV)} {i j t u : Nat} {es es' : List (Nat × Nat × PV)} {Q : Exit → GS → Prop} {p q : PV}
theorem upd_ne {b : Nat → Bool} {i k : Nat} (h : Nat.beq i k = false) : upd b i k = b k := by
 unfold upd
 rw [beq_sw h]; rfl
theorem upd_self {b : Nat → Bool} {i : Nat} : upd b i i = true := by
 unfold upd
 rw [Nat.beq_refl]; rfl
theorem aStep (hs : seeF [(iL, iA), (iA, iS)] ops.toList i es base = some pre) (hj : nth nums (i + 1) = some j) (hes : snocK es (i, t, p) some = some es') (hL : Nat.beq i iL = false) (hS : Nat.beq i iS = false)
 (hc : COa K fr ops base iL iA iS c0 c1 c2 tl j es' Q) (hstep : ∀ (rest : List (Nat × PV)) (X : List PV) (Q' : Exit → GS → Prop), GF K [] (.ops ops []) Q' ⟨(t, p) :: (pre ++ rest), X :: tl⟩ → GF K [] (.ops ops [i]) Q' ⟨pre ++ rest, X :: tl⟩) : COa K fr ops base iL iA iS c0 c1 c2 tl i es Q := by
 have hpre := seeF_of hs
 subst hpre
 have hj := numj hj
 rw [snocK_eq] at hes
 injection hes with hes
 subst hj; subst hes
 have hck : CFk [(iL, iA), (iA, iS)] K ops (fun b => (cond (b iS) c2 (cond (b iL) c1 c0)) :: tl) base (unf K Q fr) i es (fun rest => pick es ((depsOf ops i).filter (klOk [(iL, iA), (iA, iS)] i)) ++ base ++ rest) :=
  ck_st (i + 1) (fun b rest _ _ _ => by rw [upd_ne hL, upd_ne hS]; exact ofO (fr := []) (hstep rest _ (fun e s' => e = .normal ∧ s' = ⟨(t, p) :: (pick es ((depsOf ops i).filter (klOk [(iL, iA), (iA, iS)] i)) ++ base ++ rest), (cond (b iS) c2 (cond (b iL) c1 c0)) :: tl⟩) (toO (fr := []) (gN ⟨rfl, rfl⟩)))) hc rfl rfl
 exact hck ((depsOf ops i).filter (klOk [(iL, iA), (iA, iS)] i)) (fun _ => rfl) klF
theorem aLoad (hs : seeF [(iL, iA), (iA, iS)] ops.toList iL es base = some pre) (hj : nth nums (iL + 1) = some j) (hes : snocK es (iL, t, p) some = some es') (h1 : memN iL (depsOf ops iA) = true) (h2 : memN iA (depsOf ops iS) = true) (hS : Nat.beq iL iS = false)
 (hc : COa K fr ops base iL iA iS c0 c1 c2 tl j es' Q) (hstep : ∀ (rest : List (Nat × PV)) (Q' : Exit → GS → Prop), GF K [] (.ops ops []) Q' ⟨(t, p) :: (pre ++ rest), c1 :: tl⟩ → GF K [] (.ops ops [iL]) Q' ⟨pre ++ rest, c0 :: tl⟩) : COa K fr ops base iL iA iS c0 c1 c2 tl iL es Q := by
 have hpre := seeF_of hs
 subst hpre
 have hj := numj hj
 rw [snocK_eq] at hes
 injection hes with hes
 subst hj; subst hes
 rw [memN_eq] at h1 h2
 have hck : CFk [(iL, iA), (iA, iS)] K ops (fun b => (cond (b iS) c2 (cond (b iL) c1 c0)) :: tl) base (unf K Q fr) iL es (fun rest => pick es ((depsOf ops iL).filter (klOk [(iL, iA), (iA, iS)] iL)) ++ base ++ rest) :=
  ck_st (iL + 1) (fun b rest hb _ hv => by
   have hbS : b iS = false := by
    cases h : b iS with
    | false => rfl
    | true =>
     have := hv iA (hv iS h iA (by simpa using h2)) iL (by simpa using h1)
     rw [hb] at this; cases this
   rw [upd_ne hS, upd_self, hb, hbS]
   exact ofO (fr := []) (hstep rest (fun e s' => e = .normal ∧ s' = ⟨(t, p) :: (pick es ((depsOf ops iL).filter (klOk [(iL, iA), (iA, iS)] iL)) ++ base ++ rest), c1 :: tl⟩) (toO (fr := []) (gN ⟨rfl, rfl⟩)))) hc rfl rfl
 exact hck ((depsOf ops iL).filter (klOk [(iL, iA), (iA, iS)] iL)) (fun _ => rfl) klF
theorem aApp (hs : seeF [(iL, iA), (iA, iS)] ops.toList iA es base = some pre) (hj : nth nums (iA + 1) = some j) (hes : snocK es (iA, t, p) some = some es') (hx : tkB [(iL, iA), (iA, iS)] es u iA = true) (hL : Nat.beq iA iL = false) (hS : Nat.beq iA iS = false)
 (hc : COa K fr ops base iL iA iS c0 c1 c2 tl j es' Q) (hstep : ∀ (rest : List (Nat × PV)) (X : List PV) (Q' : Exit → GS → Prop), GF K [] (.ops ops []) Q' ⟨(t, p) :: (u, q) :: (pre ++ rest), X :: tl⟩ → GF K [] (.ops ops [iA]) Q' ⟨pre ++ rest, X :: tl⟩) : COa K fr ops base iL iA iS c0 c1 c2 tl iA es Q := by
 have hpre := seeF_of hs
 subst hpre
 have hj := numj hj
 rw [snocK_eq] at hes
 injection hes with hes
 subst hj; subst hes
 have hck : CFk [(iL, iA), (iA, iS)] K ops (fun b => (cond (b iS) c2 (cond (b iL) c1 c0)) :: tl) base (unf K Q fr) iA es (fun rest => pick es ((depsOf ops iA).filter (klOk [(iL, iA), (iA, iS)] iA)) ++ base ++ rest) :=
  ck_tk (iA + 1) u (q := q) (fun b rest _ _ _ => by rw [upd_ne hL, upd_ne hS]; exact ofO (fr := []) (hstep rest _ (fun e s' => e = .normal ∧ s' = ⟨(t, p) :: (u, q) :: (pick es ((depsOf ops iA).filter (klOk [(iL, iA), (iA, iS)] iA)) ++ base ++ rest), (cond (b iS) c2 (cond (b iL) c1 c0)) :: tl⟩) (toO (fr := []) (gN ⟨rfl, rfl⟩)))) hc rfl rfl (tkB_x hx)
 exact hck ((depsOf ops iA).filter (klOk [(iL, iA), (iA, iS)] iA)) (fun _ => rfl) klF
theorem aStore (hs : seeF [(iL, iA), (iA, iS)] ops.toList iS es base = some pre) (hj : nth nums (iS + 1) = some j) (hx : tkB [(iL, iA), (iA, iS)] es u iS = true) (h1 : memN iL (depsOf ops iA) = true) (h2 : memN iA (depsOf ops iS) = true) (hL : Nat.beq iS iL = false)
 (hc : COa K fr ops base iL iA iS c0 c1 c2 tl j es Q) (hstep : ∀ (rest : List (Nat × PV)) (Q' : Exit → GS → Prop), GF K [] (.ops ops []) Q' ⟨(u, q) :: (pre ++ rest), c2 :: tl⟩ → GF K [] (.ops ops [iS]) Q' ⟨pre ++ rest, c1 :: tl⟩) : COa K fr ops base iL iA iS c0 c1 c2 tl iS es Q := by
 have hpre := seeF_of hs
 subst hpre
 have hj := numj hj
 subst hj
 rw [memN_eq] at h1 h2
 have hck : CFk [(iL, iA), (iA, iS)] K ops (fun b => (cond (b iS) c2 (cond (b iL) c1 c0)) :: tl) base (unf K Q fr) iS es (fun rest => pick es ((depsOf ops iS).filter (klOk [(iL, iA), (iA, iS)] iS)) ++ base ++ rest) :=
  ck_atk (iS + 1) u (q := q) (fun b rest hb hd hv => by
   have hbL : b iL = true := hv iA (hd iA (by simpa using h2)) iL (by simpa using h1)
   rw [upd_ne hL, upd_self, hb, hbL]
   exact ofO (fr := []) (hstep rest (fun e s' => e = .normal ∧ s' = ⟨(u, q) :: (pick es ((depsOf ops iS).filter (klOk [(iL, iA), (iA, iS)] iS)) ++ base ++ rest), c2 :: tl⟩) (toO (fr := []) (gN ⟨rfl, rfl⟩)))) hc rfl (tkB_x hx)
 exact hck ((depsOf ops iS).filter (klOk [(iL, iA), (iA, iS)] iS)) (fun _ => rfl) klF
theorem oPutH (hs : see ops.toList iS es base = some pre) (hj : nth nums (iS + 1) = some j) (hes : snocK es (iS, t, p) some = some es')
 (hc : COh K fr ops base iS c1 c2 tl j es' Q) (hstep : ∀ (rest : List (Nat × PV)) (Q' : Exit → GS → Prop), GF K [] (.ops ops []) Q' ⟨(t, p) :: (pre ++ rest), c2 :: tl⟩ → GF K [] (.ops ops [iS]) Q' ⟨pre ++ rest, c1 :: tl⟩) : COh K fr ops base iS c1 c2 tl iS es Q := by
 obtain ⟨o, ho, rfl⟩ := see_of hs
 have hj := numj hj
 rw [snocK_eq] at hes
 injection hes with hes
 subst hj; subst hes
 have hck : CFk [] K ops (fun b => (cond (b iS) c2 c1) :: tl) base (unf K Q fr) iS es (fun rest => pick es (depsOf ops iS) ++ base ++ rest) :=
  ck_st (iS + 1) (fun b rest hb hd _ => by
   rw [upd_self, hb]
   exact ofO (fr := []) (hstep rest (fun e s' => e = .normal ∧ s' = ⟨(t, p) :: (pick es (depsOf ops iS) ++ base ++ rest), c2 :: tl⟩) (toO (fr := []) (gN ⟨rfl, rfl⟩)))) hc rfl rfl
 exact hck (depsOf ops iS) (fun _ => rfl) (see_ds (i := iS))
end
def bxs (ops : List Oper) (n i : Nat) (sl : List (Nat × PV)) : Option (Nat × PV) := opK ops i fun o => dstK n o fun t => match o.guard with
 | some _ => none
 | none => match o.op with
  | .box _ x => frc (evl sl x) fun p => some (t, p)
  | _ => none
theorem gBx {K : Ctx} {fr : List Fr} {ops : Array Oper} {Q : Exit → GS → Prop} {i t k : Nat} {l : List Nat} {sl : List (Nat × PV)} {mem mem' : List (List PV)} {p : PV} {cs : List PV} (h : bxs ops.toList K.n i sl = some (t, p)) (hw : p.whole = true) (hcs : PV.copies p.cellsOf = cs) (hm : mem ++ [cs] = mem') (hk : mem.length = k)
 (hg : GF K fr (.ops ops l) Q ⟨(t, .ref k 0) :: sl, mem'⟩) : GF K fr (.ops ops (i :: l)) Q ⟨sl, mem⟩ := by
 subst hm; subst hk
 obtain ⟨o, ho1, h1⟩ := opK_of h
 obtain ⟨t', hdt, ht, h2⟩ := dstK_of h1
 clear h h1
 have hoi : ops[i]? = some o := by rw [nth_eq] at ho1; rw [← ho1]; simp
 split at h2
 · cases h2
 · rename_i hgd
   split at h2
   · rename_i ty x hop
     rw [frc_eq] at h2
     injection h2 with h2; injection h2 with e1 e2
     subst e1; subst e2
     obtain ⟨dd, op, rt, pos, af, gg⟩ := o
     dsimp only at hdt hgd hop
     subst hdt; subst hgd; subst hop
     rw [evl_eq' sl mem] at hw hcs
     exact GOps_val hoi rfl (Y_box rfl hw hcs ht) hg
   · cases h2
theorem gA0 {K : Ctx} {T : List (Nat × TI)} {fr : List Fr} {ops : Array Oper} {Q : Exit → GS → Prop} {i t u k b : Nat} {l : List Nat} {sl : List (Nat × PV)} {mem : List (List PV)} {xs : List D} (hT : tabB K.P T = true)
 (h : aps T ops.toList K.n i sl = some (t, u, k, b, xs, [])) (hu0 : lk sl u = .osl k xs) (htu : t ≠ u) (hg : GF K fr (.ops ops l) Q ⟨(t, .osl k xs) :: (u, .d (.sl xs)) :: sl, mem⟩) : GF K fr (.ops ops (i :: l)) Q ⟨sl, mem⟩ := by
 obtain ⟨o, ho1, h1⟩ := opK_of h
 obtain ⟨t', hdt, ht, h2⟩ := dstK_of h1
 clear h h1
 have h := h2
 clear h2
 have hoi : ops[i]? = some o := by rw [nth_eq] at ho1; rw [← ho1]; simp
 split at h
 · cases h
 · rename_i hgd
   split at h
   · rename_i c hop
     split at h
     · rename_i hcal
       split at h
       · rename_i u' y hargs
         split at h
         · rename_i ty ty' htys
           split at h
           · rename_i hty
             have hty := Nat.eq_of_beq_eq_true hty
             subst hty
             split at h
             · cases h
             · rename_i ti hlk
               split at h
               · rename_i e k1 b1 zs hkd
                 obtain ⟨hu, z, hz, hz1, hzs⟩ := slice_of (tabB_look hT hlk) hkd
                 split at h
                 · rename_i hsz
                   have hsz := sizeIs_of _ _ hsz
                   split at h
                   · rename_i ys' hys
                     obtain ⟨ca, ar, tys⟩ := c
                     dsimp only at hcal hargs htys
                     subst hcal
                     have e1 : ar = #[.tmp u', y] := by apply Array.toList_inj.1; exact hargs
                     have e2 : tys = #[ty, ty] := by apply Array.toList_inj.1; exact htys
                     subst e1; subst e2
                     rw [evl_eq' sl mem] at hys
                     obtain ⟨dd, op, rt, pos, af, gg⟩ := o
                     dsimp only at hdt hop hgd
                     subst hdt; subst hop
                     split at h
                     · rename_i k2 xs2 hlku
                       split at h
                       · rename_i hkk
                         have hkk := Nat.eq_of_beq_eq_true hkk
                         subst hkk
                         injection h with h; injection h with f1 h; injection h with f2 h; injection h with f3 h; injection h with f4 h; injection h with f5 f6
                         subst f1; subst f2; subst f3; subst f4; subst f5; subst f6
                         exact GOps_val hoi hgd (Y_append0 (lk_some hlku (by intro h; cases h)) (lst_eq hys) hu hz htu ht) hg
                       · cases h
                     · rename_i hlku
                       injection h with h; injection h with f1 h; injection h with f2 h; injection h with f3 h
                       rw [f2] at hlku
                       rw [hu0] at hlku; cases hlku
                     · cases h
                   · cases h
                 · cases h
               · cases h
           · cases h
         · cases h
       · cases h
     · cases h
   · cases h
end Go.Proofs.Ytklkbfpjimeaoaa.E
