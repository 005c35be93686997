import Derived.Test.YtoonleefemkalaaDoorM3
/- Contracts of functions. Conditions: none. -/
set_option linter.unusedSimpArgs false
set_option linter.unusedVariables false
namespace Go.Proofs.YtoonleefemkalaaDoor.E
open Go
section
section
variable {K:Ctx} {y:Code} {Q:Exit→GS→Prop} {s:GS} {id id':Nat}
theorem blk_exit (h:Q .normal s):inBlk id Q (.exit id) s:=by simp only [inBlk,if_true];exact h
theorem blk_other (hne:id' ≠ id) (h:Q (.exit id') s):inBlk id Q (.exit id') s:=by simp only [inBlk,if_neg hne];exact h
end
theorem S_val {K:Ctx} {ops:Array Oper} {Q:Exit→GS→Prop} {s s' s'':GS} {i:Nat} {rest:List Nat} {o:Oper} (ho:ops[i]? = some o) (hg:o.guard=none)
 (hy:Yld K o s s') (hs:s'=s'') (h:GOps K ops Q rest s''):GOps K ops Q (i :: rest) s:=by subst hs;exact GOps_val ho hg hy h
def PV.wk (q p:PV):Prop:=q=p∨p=.undef∨(q=.nils∧∃ k,p=.osl k [])∨(q=.nils∧p=.d (.sl []))∨(∃ k xs,q=.osl k xs∧p=.d (.sl xs))
theorem RP.wk {w:World} {S:Reg} {O:Owns} {m l:List Nat} {q p:PV} {v:Value} (h:RP w S O m l q v) (hw:PV.wk q p):RP w S O m l p v:=by
 rcases hw with rfl | rfl | ⟨rfl,k,rfl⟩ | ⟨rfl,rfl⟩ | ⟨k,xs,rfl,rfl⟩
 · exact h
 · exact .undef _ _
 · cases h with
   | nils=>exact .osl l k [] none 0 (rd_nilslice w S) (by simp) (fun _=>rfl) (by simp)
 · exact .d _ _ _ (h.toD _ rfl)
 · exact .d _ _ _ (h.toD _ rfl)
mutual
def PV.refsB (n:Nat):PV→Bool
 | .ref b _=>decide (b < n)
 | .rsl b _ _ _=>decide (b < n)
 | .mref b=>decide (b < n)
 | .ifr _ b _=>decide (b < n)
 | .fn _ a c=>PV.refsBs n a && PV.refsBs n c
 | .agg cs=>PV.refsBs n cs
 | .tup cs=>PV.refsBs n cs
 | .when _ p=>PV.refsB n p
 | _=>true
def PV.refsBs (n:Nat):List PV→Bool
 | []=>true
 | p :: ps=>PV.refsB n p && PV.refsBs n ps
end
theorem PV.refsBs_get {n:Nat} {ps:List PV} (h:PV.refsBs n ps=true) {j:Nat} {p:PV} (hp:ps[j]? = some p):PV.refsB n p=true:=by
 induction ps generalizing j with
 | nil=>simp at hp
 | cons q qs ih=>
  simp only [PV.refsBs,Bool.and_eq_true] at h
  cases j with
  | zero=>simp at hp;exact hp▸h.1
  | succ j=>exact ih h.2 (by simpa using hp)
theorem RP.take {w:World} {S:Reg} {O:Owns} {m l:List Nat} {p:PV} {v:Value} (h:RP w S O m l p v) (n:Nat):PV.refsB n p=true→RP w S O (m.take n) l p v:=by
 induction h with
 | d l x v h=>exact fun _=>.d l x v h
 | nils l=>exact fun _=>.nils l
 | osl l k xs a cap hr hk hn ht=>exact fun _=>.osl l k xs a cap hr hk hn ht
 | ref l b off r h=>intro hb;simp only [PV.refsB,decide_eq_true_eq] at hb;exact .ref l b off r (by rw [List.getElem?_take,if_pos hb];exact h)
 | rsl l b off n' k a cap hc hl h0 h=>intro hb;simp only [PV.refsB,decide_eq_true_eq] at hb;exact .rsl l b off n' k a cap hc hl h0 (fun hn=>by obtain ⟨r,h1,h2⟩:=h hn;exact ⟨r,by rw [List.getElem?_take,if_pos hb];exact h1,h2⟩)
 | mref l b r h=>intro hb;simp only [PV.refsB,decide_eq_true_eq] at hb;exact .mref l b r (by rw [List.getElem?_take,if_pos hb];exact h)
 | ifr l t b off r h=>intro hb;simp only [PV.refsB,decide_eq_true_eq] at hb;exact .ifr l t b off r (by rw [List.getElem?_take,if_pos hb];exact h)
 | fn l f first caps vf vc h1 h2 _ _ g1 g2=>
  intro hb
  simp only [PV.refsB,Bool.and_eq_true] at hb
  exact .fn l f first caps vf vc h1 h2 (fun i p v hi hv=>g1 i p v hi hv (PV.refsBs_get hb.1 hi)) (fun i p v hi hv=>g2 i p v hi hv (PV.refsBs_get hb.2 hi))
 | agg l cs vs hl ho _ ih=>intro hb;simp only [PV.refsB] at hb;exact .agg l cs vs hl ho (fun i p v hi hv=>ih i p v hi hv (PV.refsBs_get hb hi))
 | tup l cs vs hl _ ih=>intro hb;simp only [PV.refsB] at hb;exact .tup l cs vs hl (fun i p v hi hv=>ih i p v hi hv (PV.refsBs_get hb hi))
 | whenT l b p v hbt _ ih=>intro hb;simp only [PV.refsB] at hb;exact .whenT l b p v hbt (ih hb)
 | whenF l b p hbf=>exact fun _=>.whenF l b p hbf
 | undef l v=>exact fun _=>.undef l v
inductive Sub (s:GS) (n:Nat):List (Nat×PV)→Prop
 | nil:Sub s n []
 | cons {i:Nat} {q p:PV} {rest:List (Nat×PV)}:s.get i=some q→PV.wk q p→PV.refsB n p=true→Sub s n rest→Sub s n ((i,p) :: rest)
theorem Sub.get {s:GS} {n:Nat} {l:List (Nat×PV)} (h:Sub s n l):∀ i p,l.lookup i=some p→∃ q,s.get i=some q∧PV.wk q p∧PV.refsB n p=true:=by
 induction h with
 | nil=>intro i p hp;simp at hp
 | cons h1 h2 h3 _ ih=>
  intro i p hp
  rw [List.lookup_cons] at hp
  split at hp
  · rename_i hb;injection hp with hp;subst hp;have:=eq_of_beq hb;subst this;exact ⟨_,h1,h2,h3⟩
  · exact ih i p hp
inductive CSub (n:Nat):List PV→List PV→Prop
 | nil:CSub n [] []
 | cons {q p:PV} {qs ps:List PV}:PV.wk q p→PV.refsB n p=true→CSub n qs ps→CSub n (q :: qs) (p :: ps)
theorem CSub.get {n:Nat} {qs ps:List PV} (h:CSub n qs ps):qs.length=ps.length∧∀ (j:Nat) p,ps[j]? = some p→∃ q,qs[j]? = some q∧PV.wk q p∧PV.refsB n p=true:=by
 induction h with
 | nil=>exact ⟨rfl,fun j p h=>by simp at h⟩
 | cons h1 h2 _ ih=>
  refine ⟨by simp [ih.1],fun j p hp=>?_⟩
  cases j with
  | zero=>simp at hp;subst hp;exact ⟨_,rfl,h1,h2⟩
  | succ j=>exact ih.2 j p (by simpa using hp)
inductive MSub (n:Nat):List (List PV)→List (List PV)→Prop
 | nil {ms:List (List PV)}:MSub n ms []
 | cons {cs cs':List PV} {ms ms':List (List PV)}:CSub n cs cs'→MSub n ms ms'→MSub n (cs :: ms) (cs' :: ms')
theorem MSub.get {n:Nat} {ms ms':List (List PV)} (h:MSub n ms ms'):ms'.length≤ms.length∧∀ (i:Nat) cs',ms'[i]? = some cs'→∃ cs,ms[i]? = some cs∧CSub n cs cs':=by
 induction h with
 | nil=>exact ⟨by simp,fun i cs h=>by simp at h⟩
 | cons h1 _ ih=>
  refine ⟨by simp [ih.1],fun i cs' hc=>?_⟩
  cases i with
  | zero=>simp at hc;subst hc;exact ⟨_,rfl,h1⟩
  | succ i=>exact ih.2 i cs' (by simpa using hc)
theorem Env.less {S0:Reg} {O0:Owns} {w0:World} {S:Reg} {O:Owns} {m:List Nat} {mem mem':List (List PV)} {w:World} (h:Env S0 O0 w0 S O m mem w) (hm:MSub mem'.length mem mem'):
 Env S0 O0 w0 S O (m.take mem'.length) mem' w:=by
 obtain ⟨h1,h2⟩:=hm.get
 refine ⟨h.ext,h.old,h.part,h.s0,h.snew,h.sown,h.slt,h.olt,h.onew,by simp [h.mlen];omega,fun i cs' r hi hr hne'=>?_⟩
 obtain ⟨cs,hcs,hsub⟩:=h2 i cs' hi
 obtain ⟨hl,hg⟩:=hsub.get
 have hr':m[i]? = some r:=by
  rw [List.getElem?_take] at hr
  split at hr
  · exact hr
  · cases hr
 obtain ⟨g1,g2⟩:=h.mem i cs r hcs hr' (by rintro rfl;exact hne' (List.eq_nil_of_length_eq_zero (by simpa using hl.symm)))
 refine ⟨g1,g2.to rfl (Ext.refl S w) (fun _ _ h=>h) hl.symm (fun j p hp=>?_) (fun p p' h0 h1 hs=>?_)⟩
 · obtain ⟨q,hq,hw,hb⟩:=hg j p hp
   exact ⟨q,hq,fun v hr=>(hr.wk hw).take _ hb⟩
 · obtain ⟨q,hq,hw,_⟩:=hg 0 p' h1
   rw [h0] at hq
   injection hq with hq
   subst hq
   rcases hw with rfl | rfl | ⟨rfl,_⟩ | ⟨rfl,_⟩ | ⟨_,_,rfl,_⟩
   · exact .inl rfl
   · exact .inr rfl
   · cases hs
   · cases hs
   · cases hs
theorem Le_of {K:Ctx} {s s':GS} (hk:K.m0.length≤s'.mem.length) (hm:MSub s'.mem.length s.mem s'.mem) (hs:Sub s s'.mem.length s'.slots):Le K s s':=by
 rintro a w ⟨S,O,m,h⟩
 refine ⟨S,O,m.take s'.mem.length,h.env.less hm,h.defers,h.size,List.prefix_take_iff.2 ⟨h.pre,hk⟩,fun i p hp=>?_⟩
 obtain ⟨q,hq,hw,hb⟩:=hs.get i p hp
 exact ((h.slots i q hq).wk hw).take _ hb
theorem Q_extract {K:Ctx} {s:GS} {t u ix:Nat} {ty:TypeId} {pos:String} {af:Array Edge} {g:Option (Nat×Bool)} {ps:List PV} {p:PV}
 (hx:s.get u=some (.tup ps)) (hp:ps[ix]? = some p) (ht:t < K.n):Qy K ⟨some t,.extract (.tmp u) ix,ty,pos,af,g⟩ s t p.copy:=by
 refine fun S O m a w h=>?_
 have hr:=h.slots u _ hx
 have hv:a.eval (.tmp u)=a.tmps.getD u undef:=rfl
 generalize hvv:a.tmps.getD u undef=v at hr hv
 cases hr with
 | tup _ _ vs hl hh=>
  have hlt:ix < vs.size:=by rw [hl];exact (lG hp)
  refine ⟨vs[ix],fun w _=>?_,(hh ix p _ hp (Array.getElem?_eq_getElem hlt)).copy _ _⟩
  simp only [execOp,hv]
  simp [Instr.extract,Array.getElem?_eq_getElem hlt]
theorem Q_makeFunc {K:Ctx} {s:GS} {t:Nat} {f:Fn} {xs ys:List Operand} {ty:TypeId} {pos:String} {af:Array Edge} {g:Option (Nat×Bool)} (ht:t < K.n):
 Qy K ⟨some t,.makeFunc f xs.toArray ys.toArray,ty,pos,af,g⟩ s t (.fn f (PV.copies (xs.map s.ev)) (PV.copies (ys.map s.ev))):=by
 refine fun S O m a w h=>?_
 refine ⟨.func f (xs.map a.eval).toArray (ys.map a.eval).toArray,fun w _=>?_,.fn _ _ _ _ _ _ (by simp [PV.copies_map]) (by simp [PV.copies_map]) (fun i p v hp hv=>?_) (fun i p v hp hv=>?_)⟩
 · simp [execOp,Instr.makeFunc]
 · obtain ⟨q,hq,rfl⟩:=PV.copies_getElem? _ _ _ hp
   rw [List.getElem?_map] at hq
   cases hx:xs[i]? with
   | none=>simp [hx] at hq
   | some x=>
    simp [hx] at hq hv;subst hq;subst hv
    obtain ⟨l,hr⟩:=h.ev x
    exact hr.copy _ _
 · obtain ⟨q,hq,rfl⟩:=PV.copies_getElem? _ _ _ hp
   rw [List.getElem?_map] at hq
   cases hx:ys[i]? with
   | none=>simp [hx] at hq
   | some x=>
    simp [hx] at hq hv;subst hq;subst hv
    obtain ⟨l,hr⟩:=h.ev x
    exact hr.copy _ _
theorem Y_append0 {K:Ctx} {s:GS} {t u:Nat} {y:Operand} {ty e rt:TypeId} {pos:String} {af:Array Edge} {g:Option (Nat×Bool)} {k:Nat} {xs:List D} {z:Value} {by_:Nat}
 (hu:s.get u=some (.osl k xs)) (hy:(s.ev y).list? = some []) (hun:K.P.underlying ty=some (.slice e))
 (hinf:(K.P.info? e).map (fun i=>(i.zero,i.size,i.bytes))=some (some z,k,by_)) (htu:t ≠ u) (ht:t < K.n):
 Yld K ⟨some t,.call ⟨.builtin .append,#[.tmp u,y],#[ty,ty]⟩,rt,pos,af,g⟩ s ((s.set u (.d (.sl xs))).set t (.osl k xs)):=by
 rintro a w ⟨S,O,m,h⟩
 have hru:=h.slots u _ hu
 have hry:=h.evl hy
 obtain ⟨inf,hin⟩:∃ inf,K.P.info? e=some inf:=by
  cases hq:K.P.info? e with
  | none=>simp [hq] at hinf
  | some i=>exact ⟨i,rfl⟩
 obtain ⟨ay,capy,hvy⟩:∃ ay capy,a.eval y=.slice ay 0 capy:=by
  generalize a.eval y=vy at hry
  cases hry with | sl _ ay capy _ _ _ _ _ _ _=>exact ⟨ay,capy,rfl⟩
 obtain ⟨ab,cap,hvu,hcap⟩:∃ ab cap,a.tmps.getD u undef=.slice ab xs.length cap∧xs.length≤cap:=by
  generalize a.tmps.getD u undef=vu at hru
  cases hru with
  | osl _ _ _ ab cap hr hk hn ht=>exact ⟨ab,cap,rfl,by cases hr with | sl _ _ _ _ h _ _ _ _ _=>exact h⟩
 have hcells:(Builtin.firstCells inf.size 0 (.slice ay 0 capy)).run K.P w=.ok #[] w:=by
  cases ay with
  | none=>simp [Builtin.firstCells]
  | some b=>simp [Builtin.firstCells,loadCells,loadCellsFrom]
 have hrun:(Builtin.append_ #[ty,ty] rt #[.slice ab xs.length cap,.slice ay 0 capy]).run K.P w=.ok (.slice ab xs.length cap) w:=by
  cases ab<;>simp [Builtin.append_,run_underlying hun,sizeOf,typeInfo,hin,Builtin.lenOf,hcap,hcells,storeCells]
 refine ⟨.slice ab xs.length cap,w,?_,S,reo O (renTT u t),m,h.env.relab (renTT u t) (fun _=>if_neg (by simp)) (fun i j q=>renTT_cell u t i j q),h.defers,by simp [Act.put,h.size],h.pre,fun i p hp=>?_⟩
 · have he:a.eval (.tmp u)=.slice ab xs.length cap:=hvu
   simp [execOp,resolve,invoke,builtin,he,hvy,hrun]
 rw [getD_put _ _ _ _ (by rw [h.size];exact ht)]
 rw [hvu] at hru
 rw [GS.get_set] at hp
 by_cases hi:i=t
 · rw [if_pos hi] at hp ⊢;injection hp with hp;subst hp;subst hi
   exact hru.move rfl _ (by simp [renTT])
 · rw [if_neg hi] at hp ⊢
   rw [GS.get_set] at hp
   by_cases hiu:i=u
   · rw [if_pos hiu] at hp;injection hp with hp;subst hp;subst hiu
     rw [hvu]
     exact (hru.copy _ _:RP w S _ m _ (PV.osl k xs).copy _)
   · rw [if_neg hiu] at hp
     exact (h.slots i p hp).mv _ _ (fun q=>if_neg (end_ne' q i u hiu))
end
section
inductive ResV (P:Program) (s:GS):ResultVar→PV→Prop
 | tmp {t:Nat} {p:PV}:s.get t=some p→ResV P s (.tmp t) p.copy
 | dat {t:Nat} {p:PV} {d:D}:s.get t=some p→p.toD=some d→ResV P s (.tmp t) (.d d)
 | leaf {t b off:Nat} {ty:TypeId} {cs:List PV} {p:PV} {d:TypeDesc}:s.get t=some (.ref b off)→s.mem[b]? = some cs→cs[off]? = some p→plainB cs=true→P.underlying ty=some d→leafT d=true→ResV P s (.cell t ty) p.copy
 | leafD {t b off:Nat} {ty:TypeId} {cs:List PV} {p:PV} {x:D} {d:TypeDesc}:s.get t=some (.ref b off)→s.mem[b]? = some cs→cs[off]? = some p→p.toD=some x→plainB cs=true→P.underlying ty=some d→leafT d=true→ResV P s (.cell t ty) (.d x)
 | agg {t b off n:Nat} {ty:TypeId} {cs:List PV} {d:TypeDesc}:s.get t=some (.ref b off)→s.mem[b]? = some cs→(P.info? ty).map (·.size)=some n→P.underlying ty=some d→leafT d=false→
  off + n≤cs.length→plainB cs=true→ResV P s (.cell t ty) (mkAgg ((cs.drop off).take n))
theorem ResV.run {K:Ctx} {S:Reg} {O:Owns} {m:List Nat} {s:GS} {a:Act} {w:World} (h:Rep K S O m s a w) {rv:ResultVar} {p:PV} (hr:ResV K.P s rv p) (O':Owns) (l:List Nat):
 ∃ v,(match rv with | .tmp t=>(pure (a.tmps.getD t undef):Sem Value) | .cell t ty=>do loadVar ty (← asAddr (a.tmps.getD t undef))).run K.P w=.ok v w∧RP w S O' m l p v:=by
 cases hr with
 | tmp hs=>exact ⟨_,rfl,(h.slots _ _ hs).copy _ _⟩
 | dat hs hd=>exact ⟨_,rfl,.d _ _ _ ((h.slots _ _ hs).toD _ hd)⟩
 | @leaf t b off ty cs p d hs hm hc hpl hu hl=>
  have hrp:=h.slots _ _ hs
  generalize hv:a.tmps.getD t undef=v at hrp
  cases hrp with
  | ref _ _ _ r hr=>
   obtain ⟨r',vs,el,h1,h2,h3,h4,h5,h6⟩:=h.block hm hpl
   obtain rfl:r=r':=by rw [hr] at h1;exact Option.some.inj h1
   have hlt:off < vs.size:=Nat.lt_of_lt_of_le (lG hc) h4
   have hcell:w.cell? ⟨r,off,none⟩=some vs[off]:=by rw [cell_of_row w r off vs el _ h3];exact Array.getElem?_eq_getElem hlt
   refine ⟨vs[off],?_,(h6 off p _ hc (Array.getElem?_eq_getElem hlt)).copy _ _⟩
   have:=run_loadAt_leaf hu hl hcell
   simp only [Instr.loadAt,Instr.sureAddr,pure_bind] at this
   simp only [hv,asAddr,pure_bind]
   exact this
 | @leafD t b off ty cs p x d hs hm hc hx hpl hu hl=>
  have hrp:=h.slots _ _ hs
  generalize hv:a.tmps.getD t undef=v at hrp
  cases hrp with
  | ref _ _ _ r hr=>
   obtain ⟨r',vs,el,h1,h2,h3,h4,h5,h6⟩:=h.block hm hpl
   obtain rfl:r=r':=by rw [hr] at h1;exact Option.some.inj h1
   have hlt:off < vs.size:=Nat.lt_of_lt_of_le (lG hc) h4
   have hcell:w.cell? ⟨r,off,none⟩=some vs[off]:=by rw [cell_of_row w r off vs el _ h3];exact Array.getElem?_eq_getElem hlt
   refine ⟨vs[off],?_,.d _ _ _ ((h6 off p _ hc (Array.getElem?_eq_getElem hlt)).toD _ hx)⟩
   have:=run_loadAt_leaf hu hl hcell
   simp only [Instr.loadAt,Instr.sureAddr,pure_bind] at this
   simp only [hv,asAddr,pure_bind]
   exact this
 | @agg t b off n ty cs d hs hm hz hu hl hn hne=>
  have hrp:=h.slots _ _ hs
  generalize hv:a.tmps.getD t undef=v at hrp
  cases hrp with
  | ref _ _ _ r hr=>
   obtain ⟨r',vs,el,h1,h2,h3,h4,h5,h6⟩:=h.block hm hne
   obtain rfl:r=r':=by rw [hr] at h1;exact Option.some.inj h1
   have hlen:((vs.toList.drop off).take n).length=n:=by simp;omega
   have hgv:∀ (i:Nat) v,((vs.toList.drop off).take n)[i]? = some v→vs[off + i]? = some v:=fun i v hv=>by
    simp only [List.getElem?_take,List.getElem?_drop] at hv
    split at hv
    · simpa using hv
    · cases hv
   refine ⟨.agg ((vs.toList.drop off).take n).toArray,?_,RP_mkAgg (O:=O) _ (fun i=>[off + i,b,1]) (by simp;omega) (fun i v hv=>h5 (off + i) v (hgv i v (by simpa using hv))) (fun i p v hp hv=>h6 (off + i) p v ?_ (hgv i v (by simpa using hv)))⟩
   · have:=run_loadAt_agg (w:=w) (ad:=⟨r,off,none⟩) (vs:=(vs.toList.drop off).take n) hu hl (by rw [hlen];exact hz) (fun j v hj=>by
      rw [add_at,cell_of_row w r (off + j) vs el _ h3];exact hgv j v hj)
     simp only [Instr.loadAt,Instr.sureAddr,pure_bind] at this
     simp only [hv,asAddr,pure_bind]
     exact this
   · simp only [List.getElem?_take,List.getElem?_drop] at hp
     split at hp
     · exact hp
     · cases hp
inductive ResL (P:Program) (s:GS):List ResultVar→List PV→Prop
 | nil:ResL P s [] []
 | cons {rv:ResultVar} {p:PV} {rvs:List ResultVar} {ps:List PV}:ResV P s rv p→ResL P s rvs ps→ResL P s (rv :: rvs) (p :: ps)
def tupOf:List PV→PV
 | [p]=>p
 | ps=>.tup ps
theorem ResL.run {K:Ctx} {S:Reg} {O:Owns} {m:List Nat} {s:GS} {a:Act} {w:World} (h:Rep K S O m s a w) {fn:Func} {rvs:List ResultVar} (hfn:fn.results=rvs.toArray) {ps:List PV}
 (hr:ResL K.P s rvs ps) (O':Owns):∃ v,(results fn a.tmps).run K.P w=.ok v w∧RP w S O' m [2] (tupOf ps) v:=by
 have key:∀ (F:ResultVar→Sem Value),(∀ rv,F rv=(match rv with | .tmp t=>(pure (a.tmps.getD t undef):Sem Value) | .cell t ty=>do loadVar ty (← asAddr (a.tmps.getD t undef))))→
  ∀ (rvs:List ResultVar) (ps:List PV),ResL K.P s rvs ps→∃ vs:List Value,(rvs.mapM F).run K.P w=.ok vs w∧vs.length=ps.length∧∀ (i:Nat) p v (l:List Nat),ps[i]? = some p→vs[i]? = some v→RP w S O' m l p v:=by
  intro F hF rvs ps hL
  induction hL with
  | nil=>exact ⟨[],by simp,rfl,fun i p v l h=>by simp at h⟩
  | @cons rv p rvs ps h1 _ ih=>
   obtain ⟨vs,g1,g2,g3⟩:=ih
   obtain ⟨v,e1,_⟩:=h1.run h O' []
   refine ⟨v :: vs,?_,by simp [g2],fun i q u l hq hu=>?_⟩
   · rw [List.mapM_cons,Sem.run_bind,hF rv,e1,Result.andThen_ok,Sem.run_bind,g1];rfl
   · cases i with
     | zero=>
      simp at hq hu;subst hq;subst hu
      obtain ⟨v',e2,r2⟩:=h1.run h O' l
      rw [e1] at e2;injection e2 with e2;subst e2;exact r2
     | succ i=>exact g3 i q u l (by simpa using hq) (by simpa using hu)
 obtain ⟨vs,g1,g2,g3⟩:=key (fun | .tmp t=>pure (a.tmps.getD t undef) | .cell t ty=>do loadVar ty (← asAddr (a.tmps.getD t undef))) (fun rv=>by cases rv<;>rfl) rvs ps hr
 have hrun:(results fn a.tmps).run K.P w=.ok (if h:vs.toArray.size=1 then vs.toArray[0] else .tuple vs.toArray) w:=by
  unfold results
  rw [hfn,List.mapM_toArray,Sem.run_bind,Sem.run_map]
  refine (congrArg (fun r=>Result.andThen (Result.andThen r _) _) g1).trans ?_
  rfl
 refine ⟨_,hrun,?_⟩
 match ps,vs,g2,g3 with
 | [],[],_,_=>exact .tup _ [] #[] rfl (fun i p v h=>by simp at h)
 | [p],[v],_,g3=>exact g3 0 p v [2] rfl rfl
 | p :: q :: ps,v :: u :: vs,g2,g3=>
  have hne:¬ ((v :: u :: vs).toArray.size=1):=by simp
  rw [dif_neg hne]
  exact .tup _ _ _ (by simpa using g2) (fun i p' v' hp hv=>g3 i p' v' _ hp (by simpa using hv))
theorem lookup_zip (l:List PV) (i:Nat):((List.range l.length).zip l).lookup i=l[i]?:=by
 have hlk:∀ (l:List PV) (k:Nat) (i:Nat),(((List.range' k l.length).zip l).lookup i)=if k≤i then l[i - k]? else none:=by
  intro l
  induction l with
  | nil=>intro k i;simp
  | cons x l ih=>
   intro k i
   rw [List.length_cons,List.range'_succ,List.zip_cons_cons,List.lookup_cons,ih]
   by_cases hik:i=k
   · subst hik;simp
   · have:(i == k)=false:=by simpa using hik
     rw [this]
     by_cases h2:k + 1≤i
     · rw [if_pos h2,if_pos (by omega),show i - k=(i - (k + 1)) + 1 by omega,List.getElem?_cons_succ]
     · rw [if_neg h2,if_neg (by omega)]
 have:=hlk l 0 i
 rw [← List.range_eq_range'] at this
 simpa using this
def Fin (P:Program) (rvs:List ResultVar) (n:Nat) (R:PV→List (List PV)→Prop) (e:Exit) (s:GS):Prop:=
 (e=.normal∨e=.ret)∧((∃ ps mem',ResL P s rvs ps∧n≤mem'.length∧MSub mem'.length s.mem mem'∧PV.refsB mem'.length (tupOf ps)=true∧R (tupOf ps) mem')∨
  ∃ t k xs mem',rvs=[.tmp t]∧s.get t=some (.osl k xs)∧n≤mem'.length∧MSub mem'.length s.mem mem'∧R (.osl k xs) mem')
def renTR (t:Nat) (l:List Nat):List Nat:=if l=[t,0] then [2] else l
theorem gcall_body {P:Program} {f:FuncId} {fn:Func} {c:Code} {args:List PV} {mem:List (List PV)} {R:PV→List (List PV)→Prop} (n:Nat) (rvs:List ResultVar) (slots:List (Nat×PV)) (k:Nat)
 (hf:P.funcs[f]? = some fn) (hb:fn.body=some c) (hn:fn.ntmps=n) (hal:args.length≤n) (hres:fn.results=rvs.toArray) (hsl:(List.range args.length).zip args=slots) (hk:mem.length=k)
 (h:∀ S0 O0 w0 m0,m0.length=k→G ⟨P,n,S0,O0,w0,m0,[],[]⟩ c (Fin P rvs k R) ⟨slots,mem⟩):GCall P f args mem R:=by
 subst hsl
 subst hk
 intro w S O m vals henv hvs hargs
 refine calls_of_wp hf hb ?_
 have hrep:At ⟨P,n,S,O,w,m,[],[]⟩ ⟨(List.range args.length).zip args,mem⟩ { tmps:=vals++Array.replicate (fn.ntmps - vals.size) undef,defers:=[] } w:=by
  refine ⟨S,O,m,henv,rfl,by simp [hn];omega,List.prefix_rfl,fun i p hp=>?_⟩
  have hp':args[i]? = some p:=by rw [← lookup_zip];exact hp
  have hlt:i < args.length:=(lG hp')
  have hlt2:i < vals.size:=by omega
  rw [Array.getD_eq_getD_getElem?,Array.getElem?_append_left hlt2,Array.getElem?_eq_getElem hlt2]
  exact hargs i p _ hp' (Array.getElem?_eq_getElem hlt2)
 refine wp_mono (h S O w m henv.mlen _ _ hrep) ?_
 rintro e a' w' ⟨s',⟨he,hfin⟩,S',O',m',hr'⟩
 have hex:∃ v r mem' O'',(results fn a'.tmps).run P w'=.ok v w'∧R r mem'∧Env S O w S' O'' (m'.take mem'.length) mem' w'∧m <+: m'.take mem'.length∧RP w' S' O'' (m'.take mem'.length) [2] r v:=by
  rcases hfin with ⟨ps,mem',hL,hlen,hms,hrf,hR⟩ | ⟨t,k,xs,mem',hrv,hst,hlen,hms,hR⟩
  · obtain ⟨v,hrun,hrp⟩:=hL.run hr' hres O'
    exact ⟨v,_,mem',O',hrun,hR,hr'.env.less hms,List.prefix_take_iff.2 ⟨hr'.pre,by rw [henv.mlen];exact hlen⟩,hrp.take mem'.length hrf⟩
  · have hsl:=hr'.slots t _ hst
    have hres':fn.results=#[.tmp t]:=by rw [hres,hrv]
    refine ⟨a'.tmps.getD t undef,_,mem',reo O' (renTR t),by simp [results,hres'],hR,(hr'.env.less hms).relab (renTR t) (fun _=>if_neg (by simp)) (fun i j q=>if_neg (end_ne q j i t)),
     List.prefix_take_iff.2 ⟨hr'.pre,by rw [henv.mlen];exact hlen⟩,(hsl.move (l':=[2]) rfl (renTR t) (by simp [renTR])).take _ rfl⟩
 obtain ⟨v,r,mem',O'',hrun,hR,henv',hpre,hrp'⟩:=hex
 rcases he with rfl | rfl
 · exact ⟨hr'.defers,v,hrun,v,r,mem',S',O'',_,rfl,hR,henv',hpre,hrp'⟩
 · exact ⟨hr'.defers,v,hrun,v,r,mem',S',O'',_,rfl,hR,henv',hpre,hrp'⟩
end
section
mutual
def PV.ren (f:Nat→Nat):PV→PV
 | .ref b o=>.ref (f b) o
 | .rsl b o n k=>.rsl (f b) o n k
 | .mref b=>.mref (f b)
 | .ifr t b o=>.ifr t (f b) o
 | .mapc kvs=>.mapc kvs
 | .fn g a c=>.fn g (PV.rens f a) (PV.rens f c)
 | .agg cs=>.agg (PV.rens f cs)
 | .tup cs=>.tup (PV.rens f cs)
 | .when b p=>.when b (PV.ren f p)
 | .d x=>.d x
 | .nils=>.nils
 | .osl k xs=>.osl k xs
 | .undef=>.undef
def PV.rens (f:Nat→Nat):List PV→List PV
 | []=>[]
 | p :: ps=>PV.ren f p :: PV.rens f ps
end
theorem PV.rens_map (f:Nat→Nat) (ps:List PV):PV.rens f ps=ps.map (PV.ren f):=by
 induction ps with
 | nil=>simp [PV.rens]
 | cons p ps ih=>simp [PV.rens,ih]
theorem PV.rens_get (f:Nat→Nat) (ps:List PV) (i:Nat):(PV.rens f ps)[i]? = (ps[i]?).map (PV.ren f):=by rw [PV.rens_map,List.getElem?_map]
variable {w:World} {S:Reg} {O:Owns} {m l:List Nat} {p:PV} {v:Value}
theorem RP.ren {m0:List Nat} (f:Nat→Nat) (h:RP w S O m0 l p v) (hm:∀ (b r:Nat),m0[b]? = some r→m[f b]? = some r):
 RP w S O m l (p.ren f) v:=by
 induction h with
 | d l x v h=>simp only [PV.ren];exact .d l x v h
 | nils l=>simp only [PV.ren];exact .nils l
 | osl l k xs a cap hr hk hn ht=>simp only [PV.ren];exact .osl l k xs a cap hr hk hn ht
 | ref l b off r h=>simp only [PV.ren];exact .ref l _ off r (hm b r h)
 | rsl l b off n k a cap hc hl h0 h=>simp only [PV.ren];exact .rsl l _ off n k a cap hc hl h0 (fun hn=>by obtain ⟨r,h1,h2⟩:=h hn;exact ⟨r,hm b r h1,h2⟩)
 | mref l b r h=>simp only [PV.ren];exact .mref l _ r (hm b r h)
 | ifr l t b off r h=>simp only [PV.ren];exact .ifr l t _ off r (hm b r h)
 | fn l g first caps vf vc h1 h2 _ _ g1 g2=>
  simp only [PV.ren]
  refine .fn l g _ _ vf vc (by simp [PV.rens_map,h1]) (by simp [PV.rens_map,h2]) (fun i p v hi hv=>?_) (fun i p v hi hv=>?_)
  · rw [PV.rens_get] at hi
    cases hq:first[i]? with
    | none=>simp [hq] at hi
    | some q=>simp [hq] at hi;subst hi;exact g1 i q v hq hv
  · rw [PV.rens_get] at hi
    cases hq:caps[i]? with
    | none=>simp [hq] at hi
    | some q=>simp [hq] at hi;subst hi;exact g2 i q v hq hv
 | agg l cs vs hl ho _ ih=>
  simp only [PV.ren]
  refine .agg l _ vs (by simp [PV.rens_map,hl]) ho (fun i p v hi hv=>?_)
  rw [PV.rens_get] at hi
  cases hq:cs[i]? with
  | none=>simp [hq] at hi
  | some q=>simp [hq] at hi;subst hi;exact ih i q v hq hv
 | tup l cs vs hl _ ih=>
  simp only [PV.ren]
  refine .tup l _ vs (by simp [PV.rens_map,hl]) (fun i p v hi hv=>?_)
  rw [PV.rens_get] at hi
  cases hq:cs[i]? with
  | none=>simp [hq] at hi
  | some q=>simp [hq] at hi;subst hi;exact ih i q v hq hv
 | whenT l b p v hb _ ih=>simp only [PV.ren];exact .whenT l b _ v hb ih
 | whenF l b p hb=>simp only [PV.ren];exact .whenF l b _ hb
 | undef l v=>simp only [PV.ren];exact .undef l v
theorem RP.unren {m0:List Nat} {q:PV} (f:Nat→Nat) (n:Nat) (h:RP w S O m l q v) (hm:∀ (b r:Nat),b < n→m[f b]? = some r→m0[b]? = some r):
 ∀ p:PV,PV.refsB n p=true→PV.ren f p=q→RP w S O m0 l p v:=by
 induction h with
 | d l x v h=>intro p hb hp;cases p<;>simp only [PV.ren] at hp<;>cases hp;exact .d l x v h
 | nils l=>intro p hb hp;cases p<;>simp only [PV.ren] at hp<;>cases hp;exact .nils l
 | osl l k xs a cap hr hk hn ht=>intro p hb hp;cases p<;>simp only [PV.ren] at hp<;>cases hp;exact .osl l k xs a cap hr hk hn ht
 | ref l b off r h=>
  intro p hb hp
  cases p<;>simp only [PV.ren] at hp<;>cases hp
  simp only [PV.refsB,decide_eq_true_eq] at hb
  exact .ref l _ _ r (hm _ r hb h)
 | rsl l b off n' k a cap hc hl h0 h=>
  intro p hb hp
  cases p<;>simp only [PV.ren] at hp<;>cases hp
  simp only [PV.refsB,decide_eq_true_eq] at hb
  exact .rsl l _ _ _ _ a cap hc hl h0 (fun hn=>by obtain ⟨r,h1,h2⟩:=h hn;exact ⟨r,hm _ r hb h1,h2⟩)
 | mref l b r h=>
  intro p hb hp
  cases p<;>simp only [PV.ren] at hp<;>cases hp
  simp only [PV.refsB,decide_eq_true_eq] at hb
  exact .mref l _ r (hm _ r hb h)
 | ifr l t b off r h=>
  intro p hb hp
  cases p<;>simp only [PV.ren] at hp<;>cases hp
  simp only [PV.refsB,decide_eq_true_eq] at hb
  exact .ifr l _ _ _ r (hm _ r hb h)
 | fn l g first caps vf vc h1 h2 _ _ g1 g2=>
  intro p hb hp
  cases p<;>simp only [PV.ren] at hp<;>cases hp
  simp only [PV.refsB,Bool.and_eq_true] at hb
  refine .fn l _ _ _ vf vc (by simpa [PV.rens_map] using h1) (by simpa [PV.rens_map] using h2) (fun i p v hi hv=>?_) (fun i p v hi hv=>?_)
  · exact g1 i _ v (by rw [PV.rens_get,hi];rfl) hv p (PV.refsBs_get hb.1 hi) rfl
  · exact g2 i _ v (by rw [PV.rens_get,hi];rfl) hv p (PV.refsBs_get hb.2 hi) rfl
 | agg l cs vs hl ho _ ih=>
  intro p hb hp
  cases p<;>simp only [PV.ren] at hp<;>cases hp
  simp only [PV.refsB] at hb
  exact .agg l _ vs (by simpa [PV.rens_map] using hl) ho (fun i p v hi hv=>ih i _ v (by rw [PV.rens_get,hi];rfl) hv p (PV.refsBs_get hb hi) rfl)
 | tup l cs vs hl _ ih=>
  intro p hb hp
  cases p<;>simp only [PV.ren] at hp<;>cases hp
  simp only [PV.refsB] at hb
  exact .tup l _ vs (by simpa [PV.rens_map] using hl) (fun i p v hi hv=>ih i _ v (by rw [PV.rens_get,hi];rfl) hv p (PV.refsBs_get hb hi) rfl)
 | whenT l b p v hbt _ ih=>
  intro p' hb hp
  cases p'<;>simp only [PV.ren] at hp<;>cases hp
  simp only [PV.refsB] at hb
  exact .whenT l _ _ v hbt (ih _ hb rfl)
 | whenF l b p hbf=>
  intro p' hb hp
  cases p'<;>simp only [PV.ren] at hp<;>cases hp
  exact .whenF l _ _ hbf
 | undef l v=>intro p hb hp;cases p<;>simp only [PV.ren] at hp<;>cases hp;exact .undef l v
variable {f:Nat→Nat}
theorem PV.ren_spec (h:p.spec=true):PV.ren f p=p:=by cases p<;>first | (simp only [PV.ren];done) | cases h
theorem PV.ren_specB (h:(PV.ren f p).spec=true):p=PV.ren f p:=by cases p<;>simp only [PV.ren,PV.spec] at h ⊢<;>cases h
theorem PV.rens_fwd {cs:List PV}:∀ p p',cs[0]? = some p→(PV.rens f cs)[0]? = some p'→p.spec=true→p'=p∨p'=.undef:=by
 intro p p' h0 h1 hs
 rw [PV.rens_get,h0] at h1
 injection h1 with h1
 exact .inl (by rw [← h1,PV.ren_spec hs])
theorem PV.rens_bwd {cs:List PV}:∀ p p',(PV.rens f cs)[0]? = some p→cs[0]? = some p'→p.spec=true→p'=p∨p'=.undef:=by
 intro p p' h0 h1 hs
 rw [PV.rens_get,h1] at h0
 injection h0 with h0
 subst h0
 exact .inl (PV.ren_specB hs)
def setAll:List (List PV)→List Nat→List (List PV)→List (List PV)
 | mem,b :: bs,c :: cs=>setAll (mem.set b c) bs cs
 | mem,_,_=>mem
theorem setAll_length:∀ (sel:List Nat) (new mem:List (List PV)),(setAll mem sel new).length=mem.length
 | [],_,_=>by simp [setAll]
 | _ :: _,[],_=>by simp [setAll]
 | b :: bs,c :: cs,mem=>by rw [setAll,setAll_length bs cs];simp
theorem setAll_get:∀ (sel:List Nat) (new mem:List (List PV)),sel.Nodup→new.length=sel.length→(∀ b ∈ sel,b < mem.length)→∀ k:Nat,
 (setAll mem sel new)[k]? = if k ∈ sel then new[sel.idxOf k]? else mem[k]?
 | [],new,mem,_,_,_,k=>by simp [setAll]
 | b :: bs,[],mem,_,hl,_,k=>by simp at hl
 | b :: bs,c :: cs,mem,hn,hl,hb,k=>by
  have hn':=List.nodup_cons.1 hn
  rw [setAll,setAll_get bs cs (mem.set b c) hn'.2 (by simpa using hl) (fun x hx=>by simpa using hb x (by simp [hx]))]
  by_cases hk:k ∈ bs
  · have hkb:b ≠ k:=fun h=>hn'.1 (h▸hk)
    have hbk:(b == k)=false:=by simpa using hkb
    rw [if_pos hk,if_pos (by simp [hk]),List.idxOf_cons,hbk]
    simp
  · rw [if_neg hk]
    by_cases hkb:k=b
    · subst hkb
      have:=hb k (by simp)
      rw [if_pos (by simp),List.getElem?_set_self this];simp
    · rw [if_neg (by simp [hk,hkb]),List.getElem?_set_ne (Ne.symm hkb)]
def fwd (sel:List Nat) (O:Owns):Owns:=fun r=>
 match O r with
 | none=>none
 | some (l,t)=>match l.reverse with
  | 1 :: x :: q=>if x ∈ sel then some (q.reverse++[sel.idxOf x,1],t) else none
  | _=>none
variable {sel:List Nat} {r t:Nat}
theorem fwd_some (h:fwd sel O r=some (l,t)):∃ q x,O r=some (q++[x,1],t)∧x ∈ sel∧l=q++[sel.idxOf x,1]:=by
 unfold fwd at h
 split at h
 · cases h
 · rename_i l0 t0 ho
   split at h
   · rename_i x q hq
     split at h
     · rename_i hx
       injection h with h;injection h with h1 h2;subst h1;subst h2
       refine ⟨q.reverse,x,?_,hx,rfl⟩
       rw [ho]
       have:=congrArg List.reverse hq
       simp at this;rw [this]
     · cases h
   · cases h
theorem fwd_of {x:Nat} {q:List Nat} (h:O r=some (q++[x,1],t)) (hx:x ∈ sel):fwd sel O r=some (q++[sel.idxOf x,1],t):=by
 unfold fwd
 rw [h]
 simp [hx]
theorem fwd_none (h:O r=some (l,t)) (hl:∀ q x,x ∈ sel→l ≠ q++[x,1]):fwd sel O r=none:=by
 cases hf:fwd sel O r with
 | none=>rfl
 | some p=>
  obtain ⟨l',t'⟩:=p
  obtain ⟨q,x,h1,h2,_⟩:=fwd_some hf
  rw [h] at h1;injection h1 with h1;injection h1 with h1 _
  exact absurd h1 (hl q x h2)
def bwd (f:Nat→Nat) (t:Nat) (l:List Nat):List Nat:=
 match l.reverse with
 | 1 :: x :: q=>q.reverse++[f x,1]
 | 2 :: q=>q.reverse++[t,0]
 | _=>l
theorem bwd_blk (f:Nat→Nat) (t i:Nat) (q:List Nat):bwd f t (q++[i,1])=q++[f i,1]:=by simp [bwd]
theorem bwd_res (f:Nat→Nat) (t:Nat) (q:List Nat):bwd f t (q++[2])=q++[t,0]:=by simp [bwd]
def PV.callee':PV→Option (FuncId×List PV×List PV)
 | .fn (.func f) a c=>some (f,a,c)
 | .d (.fn (.func f) a c)=>some (f,a.map .d,c.map .d)
 | _=>none
theorem RP.callee' (h:RP w S O m l p v) {f:FuncId} {a c:List PV} (hp:p.callee'=some (f,a,c)):
 ∃ vf vc,v=.func (.func f) vf vc∧vf.size=a.length∧vc.size=c.length∧(∀ (i:Nat) q u,a[i]? = some q→vf[i]? = some u→∃ l',RP w S O m l' q u)∧
  ∀ (i:Nat) q u,c[i]? = some q→vc[i]? = some u→∃ l',RP w S O m l' q u:=by
 unfold PV.callee' at hp
 split at hp
 · injection hp with hp;injection hp with h1 h2;injection h2 with h2 h3;subst h1;subst h2;subst h3
   cases h with
   | fn _ _ _ _ vf vc h1 h2 g1 g2=>exact ⟨vf,vc,rfl,h1,h2,fun i q u hi hu=>⟨_,g1 i q u hi hu⟩,fun i q u hi hu=>⟨_,g2 i q u hi hu⟩⟩
 · injection hp with hp;injection hp with h1 h2;injection h2 with h2 h3;subst h1;subst h2;subst h3
   cases h with
   | d _ _ _ h=>
    cases h with
    | fn _ _ _ vf vc h1 h2 g1 g2=>
     refine ⟨vf,vc,rfl,by simpa using h1,by simpa using h2,fun i q u hi hu=>?_,fun i q u hi hu=>?_⟩
     · rw [List.getElem?_map] at hi
       rename_i a0 c0
       cases hq:a0[i]? with
       | none=>simp [hq] at hi
       | some d=>simp [hq] at hi;subst hi;exact ⟨[],.d _ _ _ (g1 i d u hq hu)⟩
     · rw [List.getElem?_map] at hi
       rename_i a0 c0
       cases hq:c0[i]? with
       | none=>simp [hq] at hi
       | some d=>simp [hq] at hi;subst hi;exact ⟨[],.d _ _ _ (g2 i d u hq hu)⟩
 · cases hp
theorem Rep.afterm {K:Ctx} {s:GS} {a:Act} {w':World} (h:Rep K S O m s a w) {sel m0:List Nat} (hnd:sel.Nodup) (hsel:∀ b ∈ sel,b < s.mem.length)
 (hm0:m0=sel.map (fun b=>m.getD b 0)) {S':Reg} {O':Owns} {mem':List (List PV)} (he:Env S (fwd sel O) w S' O' m0 mem' w')
 {t:Nat} (ht:t < K.n) {r:PV} {v:Value} (hr:RP w' S' O' m0 [2] r v):
 At K (GS.set ⟨s.slots,setAll s.mem sel (mem'.map (PV.rens (fun b=>sel.getD b 0)))⟩ t (r.ren (fun b=>sel.getD b 0))) (a.put (some t) v) w':=by
 have hml:mem'.length=sel.length:=by rw [← he.mlen,hm0];simp
 have hmget:∀ (b x:Nat),sel[b]? = some x→m0[b]? = m[x]?:=fun b x hb=>by
  have hx:x < m.length:=by rw [h.env.mlen];exact hsel x (mG hb)
  rw [hm0,List.getElem?_map,hb,Option.map_some,List.getD_eq_getElem?_getD,gE hx];rfl
 have hfm:∀ (b r:Nat),m0[b]? = some r→m[sel.getD b 0]? = some r:=fun b r hb=>by
  have hlt:b < sel.length:=by have:=(lG hb);rw [hm0] at this;simpa using this
  have hs:sel[b]? = some sel[b]:=gE hlt
  have:sel.getD b 0=sel[b]:=by rw [List.getD_eq_getElem?_getD,hs];rfl
  rw [this,← hmget b _ hs];exact hb
 have hE:=he.ext
 let pass:Nat→Prop:=fun b=>(fwd sel O b).isSome=true∨w.heap.size≤b
 have hdec:∀ b,pass b∨¬ pass b:=fun b=>Classical.em _
 let O'':Owns:=fun b=>if (fwd sel O b).isSome=true∨w.heap.size≤b then reo O' (bwd (fun b=>sel.getD b 0) t) b else O b
 have hOp:∀ b,pass b→O'' b=reo O' (bwd (fun b=>sel.getD b 0) t) b:=fun b hb=>if_pos hb
 have hOn:∀ b,¬ pass b→O'' b=O b:=fun b hb=>if_neg hb
 have hO'p:∀ (b:Nat) l t',O' b=some (l,t')→pass b:=fun b l t' hb=>by
  rcases he.onew b l t' hb with h1 | ⟨l0,t0,h1,_⟩
  · exact .inr h1
  · exact .inl (by rw [h1];rfl)
 have hold:∀ b,¬ pass b→w'.heap[b]? = w.heap[b]?:=fun b hb=>by
  refine he.old b (Nat.lt_of_not_le fun h=>hb (.inr h)) ?_
  cases hf:fwd sel O b with
  | none=>rfl
  | some x=>exact absurd (.inl (by rw [hf];rfl)) hb
 have hkeep:∀ (b:Nat) l t' ,O b=some (l,t')→(∀ q x,x ∈ sel→l ≠ q++[x,1])→O'' b=some (l,t'):=fun b l t' hb hl=>by
  rw [hOn b]
  · exact hb
  · rintro (h1 | h1)
    · rw [fwd_none hb hl] at h1;cases h1
    · exact absurd (h.env.olt b l t' hb) (Nat.not_lt_of_le h1)
 have hback:∀ (l:List Nat) (q:PV) (u:Value) (l':List Nat),(∀ q',bwd (fun b=>sel.getD b 0) t (q'++l)=q'++l')→RP w' S' O' m0 l q u→RP w' S' O'' m l' (q.ren (fun b=>sel.getD b 0)) u:=fun l q u l' hb hq=>
  (hq.ren (fun b=>sel.getD b 0) hfm).frame l' (Ext.refl _ _) (fun _ _ h=>h) (fun b t' q' hO=>by rw [hOp b (hO'p b _ t' hO),reo_of hO,hb]) (fun _ _ h=>h)
 have hstay:∀ (l:List Nat) (q:PV) (u:Value),(∀ q' q'' x,x ∈ sel→q'++l ≠ q''++[x,1])→RP w S O m l q u→RP w' S' O'' m l q u:=fun l q u hl hq=>
  hq.ext hE he.s0 (fun b t' q' hO=>hkeep b _ t' hO (fun q'' x hx=>hl q' q'' x hx)) (fun _ _ h=>h)
 have henv:Env K.S0 K.O0 K.w0 S' O'' m (setAll s.mem sel (mem'.map (PV.rens (fun b=>sel.getD b 0)))) w':=by
  refine ⟨h.env.ext.trans hE h.env.s0,fun b hb hO=>?_,fun b l t' o hb hO hot=>?_,fun b o hb=>he.s0 b o (h.env.s0 b o hb),fun b o hb=>?_,fun b o l t' hS hO=>?_,he.slt,fun b l t' hO=>?_,fun b l t' hO=>?_,by rw [setAll_length];exact h.env.mlen,fun i cs r' hi hr' hne'=>?_⟩
  · rw [hold b,h.env.old b hb hO]
    rintro (h1 | h1)
    · cases hf:fwd sel O b with
      | none=>rw [hf] at h1;cases h1
      | some x=>
       obtain ⟨l',t'⟩:=x
       obtain ⟨q,x,h2,_,_⟩:=fwd_some hf
       rcases h.env.onew b _ _ h2 with h3 | ⟨l0,t0,h3,_⟩
       · omega
       · rw [hO] at h3;cases h3
    · have:=h.env.ext.size;omega
  · have hcell:w'.cell? ⟨b,o,none⟩=w.cell? ⟨b,o,none⟩:=by
     cases hf:fwd sel O b with
     | none=>simp only [World.cell?,hold b (by
      rintro (h1 | h1)
      · rw [hf] at h1;cases h1
      · have:=h.env.ext.size;omega)]
     | some x=>
      obtain ⟨l',t''⟩:=x
      obtain ⟨q,x,h2,_,_⟩:=fwd_some hf
      refine he.part b l' t'' o (Nat.lt_of_lt_of_le hb h.env.ext.size) hf ?_
      rcases h.env.onew b _ _ h2 with h3 | ⟨l0,t0,h3,h4⟩
      · omega
      · rw [hO] at h3;injection h3 with h3;injection h3 with _ h3;omega
    rw [hcell];exact h.env.part b l t' o hb hO hot
  · rcases he.snew b o hb with h1 | h1 | ⟨l,t',h1,h2⟩
    · exact h.env.snew b o h1
    · exact .inr (.inl (Nat.le_trans h.env.ext.size h1))
    · obtain ⟨q,x,h3,_,_⟩:=fwd_some h1
      rcases h.env.onew b _ _ h3 with h4 | ⟨l0,t0,h4,h5⟩
      · exact .inr (.inl h4)
      · exact .inr (.inr ⟨l0,t0,h4,by omega⟩)
  · rcases hdec b with hp | hp
    · rw [hOp b hp] at hO;obtain ⟨l0,h1,_⟩:=reo_some hO;exact he.sown b o l0 t' hS h1
    · rw [hOn b hp] at hO
      rcases he.snew b o hS with h1 | h1 | ⟨l1,t1,h1,_⟩
      · exact h.env.sown b o l t' h1 hO
      · exact absurd (.inr h1) hp
      · exact absurd (.inl (by rw [h1];rfl)) hp
  · rcases hdec b with hp | hp
    · rw [hOp b hp] at hO;obtain ⟨l0,h1,_⟩:=reo_some hO;exact he.olt b l0 t' h1
    · rw [hOn b hp] at hO;exact Nat.lt_of_lt_of_le (h.env.olt b l t' hO) hE.size
  · rcases hdec b with hp | hp
    · rw [hOp b hp] at hO
      obtain ⟨l0,h1,_⟩:=reo_some hO
      rcases he.onew b l0 t' h1 with h2 | ⟨l1,t1,h2,h3⟩
      · exact .inl (Nat.le_trans h.env.ext.size h2)
      · obtain ⟨q,x,h4,_,_⟩:=fwd_some h2
        rcases h.env.onew b _ _ h4 with h5 | ⟨l2,t2,h5,h6⟩
        · exact .inl h5
        · exact .inr ⟨l2,t2,h5,by omega⟩
    · rw [hOn b hp] at hO;exact h.env.onew b l t' hO
  · rw [setAll_get sel _ s.mem hnd (by simp [hml]) hsel] at hi
    by_cases his:i ∈ sel
    · rw [if_pos his,List.getElem?_map] at hi
      have hidx:sel[sel.idxOf i]? = some i:=by
       rw [gE (List.idxOf_lt_length_of_mem his)];simp
      cases hc:mem'[sel.idxOf i]? with
      | none=>simp [hc] at hi
      | some cs0=>
       simp only [hc,Option.map_some,Option.some.injEq] at hi;subst hi
       have hmi:m0[sel.idxOf i]? = some r':=by rw [hmget _ i hidx];exact hr'
       obtain ⟨g1,g2⟩:=he.mem _ cs0 r' hc hmi (by rintro rfl;exact hne' rfl)
       have hfi:sel.getD (sel.idxOf i) 0=i:=by rw [List.getD_eq_getElem?_getD,hidx];rfl
       refine ⟨?_,g2.to rfl (Ext.refl _ _) (fun _ _ h=>h) (by simp [PV.rens_map]) (fun j p hp=>?_) PV.rens_fwd⟩
       · rw [hOp r' (hO'p r' _ _ g1),reo_of g1]
         have:=bwd_blk (fun b=>sel.getD b 0) t (sel.idxOf i) []
         simp only [List.nil_append,hfi] at this;rw [this]
       · rw [PV.rens_get] at hp
         cases hq:cs0[j]? with
         | none=>simp [hq] at hp
         | some q=>
          simp only [hq,Option.map_some,Option.some.injEq] at hp;subst hp
          refine ⟨q,rfl,fun u hu=>hback [j,sel.idxOf i,1] q u [j,i,1] (fun q'=>?_) hu⟩
          have:=bwd_blk (fun b=>sel.getD b 0) t (sel.idxOf i) (q'++[j])
          simp only [hfi,List.append_assoc,List.cons_append,List.nil_append] at this
          exact this
    · rw [if_neg his] at hi
      obtain ⟨g1,g2⟩:=h.env.mem i cs r' hi hr' hne'
      have hne:∀ q x,x ∈ sel→[i,1] ≠ q++[x,1]:=fun q x hx heq=>by
       have:=congrArg (fun l=>l.reverse[1]?) heq;simp at this;exact his (this▸hx)
      have hnp:¬ pass r':=by
       rintro (h1 | h1)
       · rw [fwd_none g1 hne] at h1;cases h1
       · exact absurd (h.env.olt _ _ _ g1) (Nat.not_lt_of_le h1)
      refine ⟨hkeep _ _ _ g1 hne,g2.frame (hold _ hnp) hE he.s0 (fun j b t' q' hO=>hkeep b _ t' hO (fun q'' x hx heq=>?_)) (fun _ _ h=>h)⟩
      have:=congrArg (fun l=>l.reverse[1]?) heq;simp at this;exact his (this▸hx)
 refine ⟨S',O'',m,henv,h.defers,by simp [Act.put,h.size],h.pre,fun i p hp=>?_⟩
 rw [getD_put _ _ _ _ (by rw [h.size];exact ht)]
 rw [GS.get_set] at hp
 by_cases hi:i=t
 · rw [if_pos hi] at hp ⊢;injection hp with hp;subst hp;subst hi
   exact hback [2] r v [i,0] (bwd_res _ i) hr
 · rw [if_neg hi] at hp ⊢
   refine hstay _ _ _ (fun q' q'' x hx heq=>?_) (h.slots i p hp)
   have:=congrArg List.getLast? heq;simp at this
theorem GOps_callm {K:Ctx} {ops:Array Oper} {Q:Exit→GS→Prop} {s:GS} {i:Nat} {rest:List Nat} {o:Oper} {fx:Operand} {xs:List Operand} {tys:Array TypeId} {f:FuncId} {fn:Func} {fa fc:List PV}
 {R:PV→List (List PV)→Prop} (sel:List Nat) (args0:List PV) (mem0:List (List PV))
 (ho:ops[i]? = some o) (hop:o.op=.call ⟨.value fx,xs.toArray,tys⟩) (hd:o.dst=some t) (hg:o.guard=none)
 (hfx:(s.ev fx).callee'=some (f,fa,fc)) (hargs:PV.copies (fa++xs.map s.ev++fc)=PV.rens (fun b=>sel.getD b 0) args0)
 (hnd:sel.Nodup) (hsel:∀ b ∈ sel,b < s.mem.length) (hmem:sel.map (fun b=>s.mem.getD b [])=mem0.map (PV.rens (fun b=>sel.getD b 0)))
 (hra:PV.refsBs sel.length args0=true) (hrm:mem0.all (PV.refsBs sel.length)=true)
 (hf:K.P.funcs[f]? = some fn) (hb:fn.body.isSome=true) (hn:(fn.name == "runtime.NumGoroutine")=false) (ht:t < K.n)
 (hc:GCall K.P f args0 mem0 R)
 (h:∀ r mem',R r mem'→mem'.length=sel.length∧GOps K ops Q rest (GS.set ⟨s.slots,setAll s.mem sel (mem'.map (PV.rens (fun b=>sel.getD b 0)))⟩ t (r.ren (fun b=>sel.getD b 0)))):
 GOps K ops Q (i :: rest) s:=by
 rintro a w ⟨S,O,m,hr⟩
 obtain ⟨l,hrf⟩:=hr.ev fx
 obtain ⟨vf,vc,hvf,hs1,hs2,g1,g2⟩:=hrf.callee' hfx
 have hrun:(execOp a.eval o).run K.P w=.ok (.enter f (vf++(xs.map a.eval).toArray++vc)) w:=by
  simp only [execOp,hop]
  simp [resolve,Deferred.ofValue,hvf,invoke,run_callFunc hf hb hn]
 simp only [wpOps,ho,Region.wanted,hg,if_true]
 refine .inl ?_
 simp only [Oper.wp,hrun,Oper.upon_enter]
 have hmget:∀ (b x:Nat),sel[b]? = some x→(sel.map (fun b=>m.getD b 0))[b]? = m[x]?:=fun b x hb=>by
  have hx:x < m.length:=by rw [hr.env.mlen];exact hsel x (mG hb)
  rw [List.getElem?_map,hb,Option.map_some,List.getD_eq_getElem?_getD,gE hx];rfl
 have hum:∀ (b r:Nat),b < sel.length→m[sel.getD b 0]? = some r→(sel.map (fun b=>m.getD b 0))[b]? = some r:=fun b r hb hm=>by
  have hs:sel[b]? = some sel[b]:=gE hb
  rw [hmget b _ hs]
  rw [List.getD_eq_getElem?_getD,hs] at hm;exact hm
 have hml0:mem0.length=sel.length:=by have:=congrArg List.length hmem;simpa using this.symm
 have hentry:Env S (fwd sel O) w S (fwd sel O) (sel.map (fun b=>m.getD b 0)) mem0 w:=by
  have he:=hr.env
  refine ⟨Ext.refl S w,fun _ _ _=>rfl,fun _ _ _ _ _ _ _=>rfl,fun _ _ h=>h,fun _ _ h=>.inl h,fun b o l t' hS hO=>?_,he.slt,fun b l t' hO=>?_,fun b l t' hO=>.inr ⟨l,t',hO,Nat.le_refl _⟩,by simp [hml0],fun j cs r' hj hr' hne'=>?_⟩
  · obtain ⟨q,x,h1,_,_⟩:=fwd_some hO;exact he.sown b o _ t' hS h1
  · obtain ⟨q,x,h1,_,_⟩:=fwd_some hO;exact he.olt b _ t' h1
  · have hjl:j < sel.length:=by rw [← hml0];exact (lG hj)
    have hsj:sel[j]? = some sel[j]:=gE hjl
    have hmx:m[sel[j]]? = some r':=by rw [← hmget j _ hsj];exact hr'
    have hcx:s.mem[sel[j]]? = some (PV.rens (fun b=>sel.getD b 0) cs):=by
     have h1:=congrArg (fun l=>l[j]?) hmem
     simp only [List.getElem?_map,hsj,hj,Option.map_some,Option.some.injEq] at h1
     have hlt:=hsel _ (mG hsj)
     rw [gE hlt,← h1,List.getD_eq_getElem?_getD,gE hlt];rfl
    obtain ⟨k1,k2⟩:=he.mem _ _ r' hcx hmx (by rw [PV.rens_map];simpa using hne')
    have hidx:sel.idxOf sel[j]=j:=hnd.idxOf_getElem j hjl
    refine ⟨?_,k2.to rfl (Ext.refl _ _) (fun _ _ h=>h) (by simp [PV.rens_map]) (fun jj p hp=>?_) PV.rens_bwd⟩
    · have:=fwd_of (sel:=sel) (O:=O) (r:=r') (x:=sel[j]) (t:=0) (q:=[]) (by simpa using k1) (mG hsj)
      simpa [hidx] using this
    · refine ⟨PV.ren (fun b=>sel.getD b 0) p,by rw [PV.rens_get,hp];rfl,fun u h2=>?_⟩
      have hb2:PV.refsB sel.length p=true:=PV.refsBs_get (List.all_eq_true.1 hrm cs (mG hj)) hp
      have h3:=h2.unren (m0:=sel.map (fun b=>m.getD b 0)) (fun b=>sel.getD b 0) sel.length hum p hb2 rfl
      refine h3.frame _ (Ext.refl _ _) (fun _ _ h=>h) (fun b t' q hO=>?_) (fun _ _ h=>h)
      have:=fwd_of (sel:=sel) (O:=O) (r:=b) (x:=sel[j]) (t:=t') (q:=q++[jj]) (by simpa using hO) (mG hsj)
      simpa [hidx] using this
 have hlen:(fa++xs.map s.ev++fc).length=args0.length:=by have:=congrArg List.length hargs;simpa [PV.copies_map,PV.rens_map] using this
 have hcall:=hc w S (fwd sel O) (sel.map (fun b=>m.getD b 0)) (vf++(xs.map a.eval).toArray++vc) hentry (by simp at hlen;simp [hs1,hs2];omega) (fun j p v hp hv=>by
  have hb2:PV.refsB sel.length p=true:=PV.refsBs_get hra hp
  have h1:(PV.copies (fa++xs.map s.ev++fc))[j]? = some (PV.ren (fun b=>sel.getD b 0) p):=by rw [hargs,PV.rens_get,hp];rfl
  obtain ⟨q,hq,hqe⟩:=PV.copies_getElem? _ _ _ h1
  have hex:∃ l',RP w S O m l' q v:=by
   by_cases h1:j < fa.length
   · rw [List.append_assoc,List.getElem?_append_left h1] at hq
     rw [Array.append_assoc,Array.getElem?_append_left (by omega)] at hv
     exact g1 j q v hq hv
   · by_cases h2:j < fa.length + xs.length
     · rw [List.getElem?_append_left (by simp;omega),List.getElem?_append_right (by omega),List.getElem?_map] at hq
       rw [Array.getElem?_append_left (by simp;omega),Array.getElem?_append_right (by omega),hs1] at hv
       cases hx:xs[j - fa.length]? with
       | none=>simp [hx] at hq
       | some x=>simp [hx] at hq hv;subst hq;subst hv;exact hr.ev x
     · rw [List.getElem?_append_right (by simp;omega)] at hq
       rw [Array.getElem?_append_right (by simp;omega)] at hv
       refine g2 _ q v hq ?_
       rw [← hv];congr 1;simp;omega
  obtain ⟨l',hl'⟩:=hex
  have h4:RP w S (fwd sel O) m [j,0] q.copy v:=hl'.copy _ _
  rw [← hqe] at h4
  exact h4.unren (fun b=>sel.getD b 0) sel.length hum p hb2 rfl)
 refine Calls.mono hcall ?_
 rintro e w' ⟨v,r,mem',S',O',m',rfl,hR,henv,hm,hres⟩
 obtain ⟨hml,hrest⟩:=h r mem' hR
 have hmm:m'=sel.map (fun b=>m.getD b 0):=by
  have h1:m'.length=sel.length:=by rw [henv.mlen];exact hml
  exact (hm.eq_of_length (by simp [h1])).symm
 subst hmm
 simp only
 rw [hd]
 exact hrest _ _ (hr.afterm hnd hsel rfl henv ht hres)
end
end Go.Proofs.YtoonleefemkalaaDoor.E
