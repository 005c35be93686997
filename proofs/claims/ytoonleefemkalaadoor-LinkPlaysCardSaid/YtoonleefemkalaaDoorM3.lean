import Derived.Test.YtoonleefemkalaaDoorM2
import Derived.Laws.AppendOwn
/- Contracts of functions. Conditions: none. -/
set_option linter.unusedSimpArgs false
set_option linter.unusedVariables false
namespace Go.Proofs.YtoonleefemkalaaDoor.E
open Go
section
def splice {α:Type} (cs:List α) (off:Nat) (ps:List α):List α:=cs.take off++ps++cs.drop (off + ps.length)
theorem splice_get {α:Type} (cs:List α) (off:Nat) (ps:List α) (hfit:off + ps.length≤cs.length) (j:Nat):
 (splice cs off ps)[j]? = if off≤j∧j < off + ps.length then ps[j - off]? else cs[j]?:=by
 unfold splice
 by_cases h1:j < off
 · rw [if_neg (by omega),List.append_assoc,List.getElem?_append_left (by simp;omega),List.getElem?_take,if_pos h1]
 · by_cases h2:j < off + ps.length
   · rw [if_pos ⟨by omega,h2⟩,List.append_assoc,List.getElem?_append_right (by simp;omega),List.getElem?_append_left (by simp;omega)]
     congr 1
     simp;omega
   · rw [if_neg (by omega),List.getElem?_append_right (by simp;omega),List.getElem?_drop]
     congr 1
     simp;omega
theorem splice_length {α:Type} (cs:List α) (off:Nat) (ps:List α) (hfit:off + ps.length≤cs.length):(splice cs off ps).length=cs.length:=by
 unfold splice;simp;omega
mutual
def PV.noown:PV→Bool
 | .d _=>true
 | .nils=>true
 | .osl _ _=>false
 | .ref _ _=>true
 | .rsl _ _ _ _=>true
 | .mref _=>true
 | .ifr _ _ _=>true
 | .mapc _=>true
 | .fn _ a c=>PV.noowns a && PV.noowns c
 | .agg cs=>PV.noowns cs
 | .tup cs=>PV.noowns cs
 | .when _ p=>p.noown
 | .undef=>true
def PV.noowns:List PV→Bool
 | []=>true
 | p :: ps=>p.noown && PV.noowns ps
end
theorem PV.noown_aux:∀ n,(∀ p:PV,SizeOf.sizeOf p≤n→p.noown=true→p.copy=p)∧(∀ ps:List PV,SizeOf.sizeOf ps≤n→PV.noowns ps=true→PV.copies ps=ps):=by
 intro n
 induction n with
 | zero=>exact ⟨fun p hp=>by cases p<;>simp at hp,fun ps hp=>by cases ps<;>simp at hp⟩
 | succ n ih=>
  refine ⟨fun p hp h=>?_,fun ps hp h=>?_⟩
  · cases p with
    | d x=>rfl
    | nils=>rfl
    | osl k xs=>simp [PV.noown] at h
    | ref b o=>rfl
    | rsl b o n k=>rfl
    | mref b=>rfl
    | ifr t b o=>rfl
    | mapc kvs=>rfl
    | fn f a c=>simp only [PV.noown,Bool.and_eq_true] at h;simp only [PV.copy];rw [ih.2 a (by simp at hp;omega) h.1,ih.2 c (by simp at hp;omega) h.2]
    | agg cs=>simp only [PV.noown] at h;simp only [PV.copy];rw [ih.2 cs (by simp at hp;omega) h]
    | tup cs=>simp only [PV.noown] at h;simp only [PV.copy];rw [ih.2 cs (by simp at hp;omega) h]
    | when b p=>simp only [PV.noown] at h;simp only [PV.copy];rw [ih.1 p (by simp at hp;omega) h]
    | undef=>rfl
  · cases ps with
    | nil=>rfl
    | cons q qs=>simp only [PV.noowns,Bool.and_eq_true] at h;simp only [PV.copies];rw [ih.1 q (by simp at hp;omega) h.1,ih.2 qs (by simp at hp;omega) h.2]
variable {p:PV}
theorem PV.copy_eq (h:p.noown=true):p.copy=p:=(PV.noown_aux _).1 p (Nat.le_refl _) h
variable {ps:List PV}
theorem PV.copies_eq (h:PV.noowns ps=true):PV.copies ps=ps:=(PV.noown_aux _).2 ps (Nat.le_refl _) h
variable {w:World} {S:Reg} {O:Owns} {m:List Nat}
theorem RP.any {l:List Nat} {v:Value} (h:RP w S O m l p v) (hn:p.noown=true) (O':Owns) (l':List Nat):RP w S O' m l' p v:=by
 have:=h.copy O' l';rwa [PV.copy_eq hn] at this
theorem PV.noowns_get (h:PV.noowns ps=true) {j:Nat} {p:PV} (hp:ps[j]? = some p):p.noown=true:=by
 induction ps generalizing j with
 | nil=>simp at hp
 | cons q qs ih=>
  simp only [PV.noowns,Bool.and_eq_true] at h
  cases j with
  | zero=>simp at hp;exact hp▸h.1
  | succ j=>exact ih h.2 (by simpa using hp)
theorem PV.noown_cellsOf (h:p.noown=true):PV.noowns p.cellsOf=true:=by
 have hd:∀ ds:List D,PV.noowns (ds.map .d)=true:=fun ds=>by induction ds with | nil=>rfl | cons d ds ih=>simp [PV.noowns,PV.noown,ih]
 unfold PV.cellsOf
 split
 · exact hd _
 · simpa [PV.noown] using h
 · simp [PV.noowns,h]
variable {K:Ctx} {s:GS}
theorem Rep.store {a:Act} (h:Rep K S O m s a w) {b off:Nat} {cs:List PV} (hm:s.mem[b]? = some cs) (hne:plainB cs=true)
 (ps:List PV) (us:List Value) (hl:us.length=ps.length) (hfit:off + ps.length≤cs.length) (ho:∀ (j:Nat) v,us[j]? = some v→v.oneCell'=true)
 (f:List Nat→List Nat) (hf1:∀ i,f [i,1]=[i,1]) (hf2:∀ i j q,f (q++[j,i,1])=q++[j,i,1]) (slots':List (Nat×PV))
 (hslots:∀ (i:Nat) p,slots'.lookup i=some p→RP w S (reo O f) m [i,0] p (a.tmps.getD i undef))
 (hps:∀ (j:Nat) p v,ps[j]? = some p→us[j]? = some v→RP w S (reo O f) m [off + j,b,1] p v) (r:Nat) (hr:m[b]? = some r):
 ∃ w',(storeCells ⟨r,off,none⟩ us).run K.P w=.ok () w'∧Rep K S (reo O f) m ⟨slots',s.mem.set b (splice cs off ps)⟩ a w':=by
 obtain ⟨r',vs,el,h1,h2,h3,h4,h5,h6⟩:=h.block hm hne
 obtain rfl:r=r':=by rw [hr] at h1;exact Option.some.inj h1
 have hst:=run_storeCells_at K.P r off el us 0 vs w h3 (by omega) (fun v hv=>by obtain ⟨j,hj⟩:=List.getElem?_of_mem hv;exact ho j v hj)
 simp only [Nat.add_zero] at hst
 refine ⟨_,hst,?_⟩
 have hvs:(vs.toList.take off++us++vs.toList.drop (off + us.length))=splice vs.toList off us:=rfl
 rw [hvs]
 have hfit':off + us.length≤vs.toList.length:=by simp;omega
 have hsz:(splice vs.toList off us).toArray.size=vs.size:=by simp [splice_length _ _ _ hfit']
 have hSr:∀ o,¬ S r o:=fun o hS=>absurd (h.env.sown r o _ _ hS h2) (Nat.not_lt_zero _)
 have hE:Ext S w (w.setRow r (splice vs.toList off us).toArray):=ext_setRow h3 hsz (fun o hS=>absurd hS (hSr o))
 have hgetv:∀ j v,(splice vs.toList off us).toArray[j]? = some v→if off≤j∧j < off + us.length then us[j - off]? = some v else vs[j]? = some v:=fun j v hv=>by
  rw [List.getElem?_toArray,splice_get _ _ _ hfit'] at hv
  split at hv
  · rename_i hc;rw [if_pos hc];exact hv
  · rename_i hc;rw [if_neg hc];simpa using hv
 refine ⟨h.env.write f hm (plainB_ne hne) hr h3 (by rw [splice_length _ _ _ hfit,hsz];exact h4) hsz (fun j v hv=>?_) hf1 (fun j p v hp hv=>?_) (fun i j q _=>hf2 i j q),h.defers,h.size,h.pre,fun i p hp=>?_⟩
 · have:=hgetv j v hv
   split at this
   · exact ho _ _ this
   · exact h5 j v this
 · have h7:=hgetv j v hv
   rw [splice_get _ _ _ hfit] at hp
   by_cases hc:off≤j∧j < off + ps.length
   · rw [if_pos hc] at hp
     rw [if_pos (by omega)] at h7
     have:=hps (j - off) p v hp h7
     rw [show off + (j - off)=j by omega] at this
     exact this.ext hE (fun _ _ h=>h) (fun _ _ _ h=>h) (fun _ _ h=>h)
   · rw [if_neg hc] at hp
     rw [if_neg (by omega)] at h7
     exact ((h6 j p v hp h7).mv f _ (hf2 b j)).ext hE (fun _ _ h=>h) (fun _ _ _ h=>h) (fun _ _ h=>h)
 · exact (hslots i p hp).ext hE (fun _ _ h=>h) (fun _ _ _ h=>h) (fun _ _ h=>h)
variable {ty:TypeId} {n:Nat}
theorem run_storeAt {P:Program} (hz:(P.info? ty).map (·.size)=some n) (w:World) (ad:Addr) (v:Value) (hv:v.cells.size=n):
 (Instr.storeAt ty (.pointer (some ad)) v).run P w=(storeCells ad v.cells.toList).run P w:=by
 cases hq:P.info? ty with
 | none=>simp [hq] at hz
 | some i=>
  have hs:i.size=n:=by simpa [hq] using hz
  simp [Instr.storeAt,Instr.sureAddr,storeVar,sizeOf,typeInfo,hq,hs,hv]
theorem reo_id (O:Owns):reo O (fun l=>l)=O:=by
 funext b;unfold reo;cases O b<;>rfl
variable {x:Operand} {rt:TypeId} {pos:String} {af:Array Edge} {b off:Nat} {cs:List PV}
theorem D_store {y:Operand} {g:Option (Nat×Bool)}
 (hx:s.ev x=.ref b off) (hm:s.mem[b]? = some cs) (hy:s.ev y=p) (hno:p.noown=true) (hw:p.whole=true) (hps:p.cellsOf=ps)
 (hz:(K.P.info? ty).map (·.size)=some n) (hn:ps.length=n) (hfit:off + n≤cs.length) (hpl:plainB cs=true):
 Does K ⟨none,.store ty x y,rt,pos,af,g⟩ s ⟨s.slots,s.mem.set b (splice cs off ps)⟩:=by
 subst hps
 rintro a w ⟨S,O,m,h⟩
 obtain ⟨lx,hrx⟩:=h.ev x
 rw [hx] at hrx
 obtain ⟨ly,hry⟩:=h.ev y
 rw [hy] at hry
 generalize hvx:a.eval x=vx at hrx
 generalize hvy:a.eval y=vy at hry
 cases hrx with
 | ref _ _ _ r hr=>
  obtain ⟨g1,g2,g3⟩:=hry.cellsOf hw
  obtain ⟨w',hst,hrep⟩:=h.store (off:=off) hm hpl p.cellsOf vy.cells.toList (by simpa using g1) (by omega) (fun j v hv=>g2 j v (by simpa using hv)) (fun l=>l) (fun _=>rfl) (fun _ _ _=>rfl) s.slots
   (fun i q hq=>by rw [reo_id];exact h.slots i q hq) (fun j q v hq hv=>by
    have hqn:=PV.noowns_get (PV.noown_cellsOf hno) hq
    rcases g3 j q v hq (by simpa using hv) with h4 | h4
    · exact h4.any hqn _ _
    · exact h4.any hqn _ _) r hr
  refine ⟨w',?_,S,_,m,hrep⟩
  simp only [execOp,hvx,hvy]
  simp [run_storeAt hz w _ vy (by omega),hst]
def PV.leafy:PV→Bool
 | .osl _ _=>true
 | p=>p.noown && p.whole && (match p with | .d (.agg _)=>false | .agg _=>false | _=>true)
theorem RP.move {l l':List Nat} {v:Value} (h:RP w S O m l p v) (hl:p.leafy=true) (f:List Nat→List Nat) (hf:f l=l'):
 RP w S (reo O f) m l' p v:=by
 by_cases hn:p.noown=true
 · exact h.any hn _ _
 · cases h with
   | osl _ k xs a cap hr hk hc ht=>
    refine .osl _ k xs a cap hr hk hc (fun ad ha=>?_)
    obtain ⟨h1,h2,h3⟩:=ht ad ha
    exact ⟨h1,by rw [reo_of h2,hf],h3⟩
   | _=>simp [PV.leafy,hn] at hl
def PV.flat:PV→Bool
 | .agg ps=>ps.all PV.leafy
 | p=>p.leafy
def renSt (u off b:Nat) (l:List Nat):List Nat:=
 if l=[u,0] then [off,b,1] else match l with
 | i :: l'=>if l'=[u,0] then [off + i,b,1] else i :: l'
 | []=>[]
theorem end_ne (q:List Nat) (j i u:Nat):q++[j,i,1] ≠ [u,0]:=fun h=>by
 have:=congrArg List.getLast? h;simp at this
theorem end_ne' (q:List Nat) (k u:Nat) (hk:k ≠ u):q++[k,0] ≠ [u,0]:=fun h=>by
 have h2:=congrArg (fun l=>l.reverse[1]?) h;simp at h2;exact hk h2
theorem end_ne1 (q:List Nat) (k off b:Nat):q++[k,0] ≠ [off,b,1]:=fun h=>by
 have:=congrArg List.getLast? h;simp at this
theorem end_ne2 (q:List Nat) (j i off b:Nat) (h:i=b→j ≠ off):q++[j,i,1] ≠ [off,b,1]:=fun he=>by
 have h1:=congrArg (fun l=>l.reverse[1]?) he
 have h2:=congrArg (fun l=>l.reverse[2]?) he
 simp at h1 h2;exact h h1 h2
theorem renSt_blk (u off b i:Nat):renSt u off b [i,1]=[i,1]:=by simp [renSt]
theorem renSt_cell (u off b i j:Nat) (q:List Nat):renSt u off b (q++[j,i,1])=q++[j,i,1]:=by
 unfold renSt
 rw [if_neg (end_ne q j i u)]
 cases q with
 | nil=>simp
 | cons x q=>simp only [List.cons_append];rw [if_neg (end_ne q j i u)]
theorem renSt_slot (u off b k:Nat) (q:List Nat) (hk:k ≠ u):renSt u off b (q++[k,0])=q++[k,0]:=by
 unfold renSt
 rw [if_neg (end_ne' q k u hk)]
 cases q with
 | nil=>simp
 | cons x q=>simp only [List.cons_append];rw [if_neg (end_ne' q k u hk)]
theorem D_store_take {u:Nat} {g:Option (Nat×Bool)}
 (hx:s.ev x=.ref b off) (hm:s.mem[b]? = some cs) (hy:s.get u=some p) (hfl:p.flat=true) (hps:p.cellsOf=ps)
 (hz:(K.P.info? ty).map (·.size)=some n) (hn:ps.length=n) (hfit:off + n≤cs.length) (hpl:plainB cs=true):
 Does K ⟨none,.store ty x (.tmp u),rt,pos,af,g⟩ s ⟨(u,p.copy) :: s.slots,s.mem.set b (splice cs off ps)⟩:=by
 subst hps
 rintro a w ⟨S,O,m,h⟩
 obtain ⟨lx,hrx⟩:=h.ev x
 rw [hx] at hrx
 have hry:RP w S O m [u,0] p (a.eval (.tmp u)):=h.slots u p hy
 generalize hvx:a.eval x=vx at hrx
 generalize hvy:a.eval (.tmp u)=vy at hry
 have hw:p.whole=true:=by
  cases p with
  | osl k xs=>rfl
  | agg ps=>rfl
  | d x=>rfl
  | nils=>rfl
  | ref b o=>rfl
  | rsl b o n k=>rfl
  | mref b=>rfl
  | ifr t b o=>rfl
  | mapc kvs=>simp [PV.flat,PV.leafy,PV.whole] at hfl
  | fn f a c=>rfl
  | tup cs=>simp [PV.flat,PV.leafy,PV.whole] at hfl
  | when b p=>simp [PV.flat,PV.leafy,PV.whole] at hfl
  | undef=>simp [PV.flat,PV.leafy,PV.whole] at hfl
 cases hrx with
 | ref _ _ _ r hr=>
  obtain ⟨g1,g2,g3⟩:=hry.cellsOf hw
  obtain ⟨w',hst,hrep⟩:=h.store (off:=off) hm hpl p.cellsOf vy.cells.toList (by simpa using g1) (by omega) (fun j v hv=>g2 j v (by simpa using hv)) (renSt u off b) (renSt_blk u off b) (fun i j q=>renSt_cell u off b i j q) ((u,p.copy) :: s.slots)
   (fun i q hq=>by
    have hq':(s.set u p.copy).get i=some q:=hq
    rw [GS.get_set] at hq'
    by_cases hi:i=u
    · rw [if_pos hi] at hq';injection hq' with hq';subst hq';subst hi
      exact (h.slots i p hy).copy _ _
    · rw [if_neg hi] at hq'
      exact (h.slots i q hq').mv _ _ (fun q=>renSt_slot u off b i q hi))
   (fun j q v hq hv=>by
    have hv':vy.cells[j]? = some v:=by simpa using hv
    by_cases hagg:∃ ps,p=.agg ps
    · obtain ⟨ps,rfl⟩:=hagg
      cases hry with
      | agg _ _ vs hl ho hh=>
       simp only [PV.cellsOf] at hq
       have hle:q.leafy=true:=by
        simp only [PV.flat,List.all_eq_true] at hfl;exact hfl q (mG hq)
       exact (hh j q v hq (by simpa [Value.cells] using hv')).move hle _ (by simp [renSt])
    · have hle:p.leafy=true:=by
       cases p<;>first | exact hfl | exact absurd ⟨_,rfl⟩ hagg
      have hce:p.cellsOf=[p]:=by
       cases p with
       | d x=>cases x<;>first | rfl | simp [PV.leafy] at hle
       | agg ps=>exact absurd ⟨_,rfl⟩ hagg
       | _=>rfl
      have hone:vy.cells.size=1:=by rw [g1,hce];rfl
      rw [hce] at hq
      obtain ⟨rfl,rfl⟩:j=0∧q=p:=by cases j with | zero=>exact ⟨rfl,by simpa using hq.symm⟩ | succ j=>simp at hq
      have hvv:v=vy:=by
       have h1:vy.cells=#[v]:=by
        apply Array.ext (by simpa using hone)
        intro i hi1 hi2
        have:i=0:=by simp at hi2;exact hi2
        subst this
        have:=Array.getElem?_eq_getElem hi1
        rw [hv'] at this;injection this with this;simpa using this.symm
       have hnot:vy.oneCell'=true:=by
        cases hry with
        | d _ x _ hd=>exact hd.oneCell (by intro cs hcs;subst hcs;simp [PV.leafy] at hle)
        | nils=>rfl
        | osl=>rfl
        | ref=>rfl
        | rsl=>rfl
        | mref=>rfl
        | ifr=>rfl
        | fn=>rfl
        | agg=>exact absurd ⟨_,rfl⟩ hagg
        | _=>simp [PV.leafy,PV.whole] at hle
       rw [Value.cells_of_one hnot] at h1
       simpa using h1.symm
      subst hvv
      exact hry.move hle _ (by simp [renSt])) r hr
  refine ⟨w',?_,S,_,m,hrep⟩
  simp only [execOp,hvx,hvy]
  simp [run_storeAt hz w _ vy (by omega),hst]
def renTT (u t:Nat) (l:List Nat):List Nat:=if l=[u,0] then [t,0] else l
theorem renTT_cell (u t i j:Nat) (q:List Nat):renTT u t (q++[j,i,1])=q++[j,i,1]:=if_neg (end_ne q j i u)
theorem Y_assign_take {t u:Nat} {g:Option (Nat×Bool)} {k:Nat} {xs:List D}
 (hu:s.get u=some (.osl k xs)) (htu:t ≠ u) (ht:t < K.n):
 Yld K ⟨some t,.assign (.tmp u),ty,pos,af,g⟩ s ((s.set u (.d (.sl xs))).set t (.osl k xs)):=by
 rintro a w ⟨S,O,m,h⟩
 have hru:=h.slots u _ hu
 refine ⟨a.tmps.getD u undef,w,rfl,S,reo O (renTT u t),m,h.env.relab (renTT u t) (fun _=>if_neg (by simp)) (fun i j q=>renTT_cell u t i j q),h.defers,by simp [Act.put,h.size],h.pre,fun i p hp=>?_⟩
 rw [getD_put _ _ _ _ (by rw [h.size];exact ht)]
 rw [GS.get_set] at hp
 by_cases hi:i=t
 · rw [if_pos hi] at hp ⊢;injection hp with hp;subst hp;subst hi
   exact hru.move rfl _ (by simp [renTT])
 · rw [if_neg hi] at hp ⊢
   rw [GS.get_set] at hp
   by_cases hiu:i=u
   · rw [if_pos hiu] at hp;injection hp with hp;subst hp;subst hiu
     exact (hru.copy _ _:RP w S _ m _ (PV.osl k xs).copy _)
   · rw [if_neg hiu] at hp
     exact (h.slots i p hp).mv _ _ (fun q=>if_neg (end_ne' q i u hiu))
def renMT (off b t:Nat) (l:List Nat):List Nat:=if l=[off,b,1] then [t,0] else l
theorem Y_load_take {t:Nat} {g:Option (Nat×Bool)} {k:Nat} {xs:List D} {d:TypeDesc}
 (hx:s.ev x=.ref b off) (hm:s.mem[b]? = some cs) (hc:cs[off]? = some (.osl k xs)) (hu:K.P.underlying ty=some d) (hl:leafT d=true) (hpl:plainB cs=true) (ht:t < K.n):
 Yld K ⟨some t,.load ty x,rt,pos,af,g⟩ s ⟨(t,.osl k xs) :: s.slots,s.mem.set b (cs.set off (.d (.sl xs)))⟩:=by
 rintro a w ⟨S,O,m,h⟩
 obtain ⟨l,hr⟩:=h.ev x
 rw [hx] at hr
 generalize hv:a.eval x=v at hr
 cases hr with
 | ref _ _ _ r hr=>
  obtain ⟨r',vs,el,h1,h2,h3,h4,h5,h6⟩:=h.block hm hpl
  obtain rfl:r=r':=by rw [hr] at h1;exact Option.some.inj h1
  have hlc:off < cs.length:=(lG hc)
  have hlt:off < vs.size:=by omega
  have hcell:w.cell? ⟨r,off,none⟩=some vs[off]:=by rw [cell_of_row w r off vs el _ h3];exact Array.getElem?_eq_getElem hlt
  have hrp:=h6 off _ _ hc (Array.getElem?_eq_getElem hlt)
  have hself:w.setRow r vs=w:=setRow_self w r vs el (0,0) h3
  refine ⟨vs[off],w,?_,S,reo O (renMT off b t),m,?_,h.defers,by simp [Act.put,h.size],h.pre,fun i p hp=>?_⟩
  · simp only [execOp,hv]
    simp [run_loadAt_leaf hu hl hcell]
  · have:=h.env.write (b:=b) (cs':=cs.set off (.d (.sl xs))) (vs':=vs) (renMT off b t) hm (plainB_ne hpl) hr h3 (by simpa using h4) rfl h5 (fun i=>if_neg (by simp)) (fun j p v hp hv'=>by
     rw [hself]
     by_cases hj:j=off
     · subst hj
       rw [List.getElem?_set_self hlc] at hp;injection hp with hp;subst hp
       rw [Array.getElem?_eq_getElem hlt] at hv';injection hv' with hv';subst hv'
       exact (hrp.copy _ _:RP w S _ m _ (PV.osl k xs).copy _)
     · rw [List.getElem?_set_ne (Ne.symm hj)] at hp
       exact (h6 j p v hp hv').mv _ _ (fun q=>if_neg (end_ne2 q j b off b (fun _=>hj)))) (fun i j q hib=>if_neg (end_ne2 q j i off b (fun h=>absurd h hib)))
    rw [hself] at this
    exact this
  · rw [getD_put _ _ _ _ (by rw [h.size];exact ht)]
    have hp':(s.set t (.osl k xs)).get i=some p:=hp
    rw [GS.get_set] at hp'
    by_cases hi:i=t
    · rw [if_pos hi] at hp' ⊢;injection hp' with hp';subst hp';subst hi
      exact hrp.move rfl _ (by simp [renMT])
    · rw [if_neg hi] at hp' ⊢
      exact (h.slots i p hp').mv _ _ (fun q=>if_neg (end_ne1 q i off b))
end
section
theorem Rd.news {w:World} {S:Reg} {ys:List D} {ad:Addr} {n cap k:Nat} (h:Rd w S (.sl ys) (.slice (some ad) n cap)) (hk:∀ y ∈ ys,y.cells.length=k):
 ∃ news:List Value,news.length=ys.length * k∧(∀ (j:Nat) u,news[j]? = some u→w.cell? (ad.add j)=some u∧u.oneCell'=true)∧
  ∀ (i:Nat) y (j:Nat) x u,ys[i]? = some y→y.cells[j]? = some x→news[i * k + j]? = some u→Rd w S x u:=by
 generalize hv:Value.slice (some ad) n cap=v at h
 cases h with
 | sl _ a cap' k' hcap hlim hk' hn hc hr=>
  injection hv with h1 h2 h3
  subst h1;subst h3
  have hcell:=hc ad rfl
  have hadd:ad.spot=none→∀ j,ad.add j=⟨ad.block,ad.off + j,none⟩:=fun hs j=>by rw [show ad=⟨ad.block,ad.off,none⟩ by cases ad;simp_all];exact add_at _ _ _
  by_cases hys:ys=[]
  · subst hys;exact ⟨[],by simp,by simp,by simp⟩
  · have hkk:k'=k:=by
     obtain ⟨y,hy⟩:=List.exists_mem_of_ne_nil ys hys
     rw [← hk' y hy,hk y hy]
    subst hkk
    rcases Nat.eq_zero_or_pos k' with h0 | hpos
    · subst h0
      refine ⟨[],by simp,by simp,fun i y j x u hi hj hu=>by simp at hu⟩
    · refine ⟨(List.range (ys.length * k')).map fun j=>(w.cell? (ad.add j)).getD undef,by simp,fun j u hu=>?_,fun i y j x u hi hj hu=>?_⟩
      · rw [List.getElem?_map] at hu
        cases hj:(List.range (ys.length * k'))[j]? with
        | none=>simp [hj] at hu
        | some j'=>
         obtain ⟨hlt,rfl⟩:=List.getElem?_eq_some_iff.1 hj
         simp only [List.length_range] at hlt
         simp only [hj,Option.map_some,List.getElem_range] at hu
         have hi:j / k' < ys.length:=Nat.div_lt_of_lt_mul (by rw [Nat.mul_comm];exact hlt)
         have hcl:(ys[j / k']).cells.length=k':=hk _ (List.getElem_mem hi)
         have hjm:j % k' < (ys[j / k']).cells.length:=by rw [hcl];exact Nat.mod_lt _ hpos
         obtain ⟨hs,_,u',h1,h2⟩:=hcell (j / k') _ (j % k') _ (gE hi) (gE hjm)
         have had:=hadd hs
         have he:j / k' * k' + j % k'=j:=by rw [Nat.mul_comm];exact Nat.div_add_mod j k'
         rw [he] at h1
         rw [had,h1] at hu
         simp only [Option.getD_some,Option.some.injEq] at hu
         subst hu
         exact ⟨by rw [had];exact h1,h2⟩
      · have hcl:y.cells.length=k':=hk _ (mG hi)
        have hjl:j < k':=by rw [← hcl];exact (lG hj)
        have hil:i < ys.length:=(lG hi)
        have hlt:i * k' + j < ys.length * k':=by
         calc i * k' + j < i * k' + k':=by omega
          _=(i + 1) * k':=by rw [Nat.add_mul,Nat.one_mul]
          _≤ys.length * k':=Nat.mul_le_mul_right _ hil
        rw [List.getElem?_map,List.getElem?_range hlt] at hu
        simp only [Option.map_some,Option.some.injEq] at hu
        obtain ⟨hs,_,u',h1,h2⟩:=hcell i y j x hi hj
        have had:=hadd hs
        rw [had,h1] at hu
        simp only [Option.getD_some] at hu
        subst hu
        exact hr ad i y j x u' rfl hi hj h1
theorem run_append_room_at {P:Program} (w:World) (t ty e:TypeId) (i:TypeInfo) (ht:P.underlying t=some (.slice e)) (hi:P.info? e=some i)
 (g o sLen sCap:Nat) (cur:Array Value) (el:TypeId) (hg:w.heap[g]? = some (.cells cur el (0,0)))
 (a:Addr) (m c:Nat) (news:List Value) (hl:news.length=m * i.size) (hnews:∀ (j:Nat) u,news[j]? = some u→w.cell? (a.add j)=some u) (h1:∀ u ∈ news,u.oneCell'=true)
 (hroom:sLen + m≤sCap) (hfit:o + sLen * i.size + news.length≤cur.size):
 (Builtin.append_ #[t,t] ty #[.slice (some ⟨g,o,none⟩) sLen sCap,.slice (some a) m c]).run P w=
  .ok (.slice (some ⟨g,o,none⟩) (sLen + m) sCap) (w.setRow g (splice cur.toList (o + sLen * i.size) news).toArray):=by
 have hf:=run_firstCells_some (P:=P) w i.size m a m c news hl hnews
 have hst:=run_storeCells_at P g (o + sLen * i.size) el news 0 cur w hg (by simpa using hfit) h1
 simp only [Nat.add_zero] at hst
 simp [Builtin.append_,run_underlying ht,sizeOf,typeInfo,hi,Builtin.lenOf,hroom,hf,add_at,hst,splice]
theorem Y_append {K:Ctx} {s:GS} {t u:Nat} {y:Operand} {ty e rt:TypeId} {pos:String} {af:Array Edge} {g:Option (Nat×Bool)} {k by_:Nat} {xs ys:List D} {p:PV} {z:Value}
 (hu:s.get u=some p) (hp:p=.osl k xs∨(p=.nils∧xs=[])) (hy:(s.ev y).list? = some ys) (hne:ys ≠ []) (hk:∀ y ∈ ys,y.cells.length=k) (hk0:0 < k)
 (hun:K.P.underlying ty=some (.slice e)) (hinf:(K.P.info? e).map (fun i=>(i.zero,i.size,i.bytes))=some (some z,k,by_)) (hzs:z.cells.size=k) (hz1:z.cells.all (·.oneCell')=true)
 (hlen:xs.length + ys.length≤lim) (hB:(xs.length + ys.length) * by_≤lim) (ht:t < K.n):
 Yld K ⟨some t,.call ⟨.builtin .append,#[.tmp u,y],#[ty,ty]⟩,rt,pos,af,g⟩ s ((s.set u (.d (.sl xs))).set t (.osl k (xs++ys))):=by
 rintro a w ⟨S,O,m,h⟩
 have hru:=h.slots u p hu
 have hry:=h.evl hy
 obtain ⟨inf,hin,hiz,his,hib⟩:∃ inf,K.P.info? e=some inf∧inf.zero=some z∧inf.size=k∧inf.bytes=by_:=by
  cases hq:K.P.info? e with
  | none=>simp [hq] at hinf
  | some i=>simp [hq] at hinf;exact ⟨i,rfl,hinf.1,hinf.2.1,hinf.2.2⟩
 have hrd:Rd w S (.sl xs) (a.eval (.tmp u)):=by
  show Rd w S (.sl xs) (a.tmps.getD u undef)
  rcases hp with rfl | ⟨rfl,rfl⟩
  · exact hru.toD _ rfl
  · exact hru.toD _ rfl
 have hbase:∃ ab cap,a.eval (.tmp u)=.slice ab xs.length cap∧(ab=none→xs=[]∧cap=0)∧(∀ x ∈ xs,x.cells.length=k)∧
  ∀ ad,ab=some ad→ad.spot=none∧O ad.block=some ([u,0],ad.off + xs.length * k)∧∃ vs el,w.heap[ad.block]? = some (.cells vs el (0,0))∧ad.off + cap * k≤vs.size:=by
  show ∃ ab cap,a.tmps.getD u undef=_∧_
  rcases hp with rfl | ⟨rfl,rfl⟩
  · generalize a.tmps.getD u undef=vu at hru
    cases hru with
    | osl _ _ _ ab cap hr hkk hn htt=>
     refine ⟨ab,cap,rfl,fun hnn=>⟨?_,hn hnn⟩,hkk,htt⟩
     cases hr with | sl _ _ _ _ _ _ _ hn' _ _=>exact hn' hnn
  · generalize a.tmps.getD u undef=vu at hru
    cases hru with
    | nils=>exact ⟨none,0,rfl,fun _=>⟨rfl,rfl⟩,by simp,by simp⟩
 obtain ⟨ab,cap,hvu,hnone,hkx,htail⟩:=hbase
 obtain ⟨ay,capy,hvy,hyn⟩:∃ ay capy,a.eval y=.slice (some ay) ys.length capy∧True:=by
  generalize hvy:a.eval y=vy at hry
  cases hry with
  | sl _ ay capy _ _ _ _ hn _ _=>
   cases ay with
   | none=>exact absurd (hn rfl) hne
   | some ay=>exact ⟨ay,capy,rfl,trivial⟩
 rw [hvy] at hry
 obtain ⟨news,hnl,hnews,hnrd⟩:=hry.news hk
 have hrun0:∀ v w',(Builtin.append_ #[ty,ty] rt #[a.eval (.tmp u),a.eval y]).run K.P w=.ok v w'→(execOp a.eval ⟨some t,.call ⟨.builtin .append,#[.tmp u,y],#[ty,ty]⟩,rt,pos,af,g⟩).run K.P w=.ok (.value v) w':=by
  intro v w' hr
  simp [execOp,resolve,invoke,builtin,hr]
 have hyslen:0 < ys.length:=List.length_pos_iff.2 hne
 have hlimv:lim=140737488355328:=rfl
 have hkall:∀ x ∈ xs++ys,x.cells.length=k:=fun x hx=>by
  rcases List.mem_append.1 hx with hx | hx
  · exact hkx x hx
  · exact hk x hx
 -- what is known of the result, whichever block it lies in
 have fin:∀ (w':World) (S':Reg) (O':Owns) (nb off cap':Nat) (vs':Array Value) (el':TypeId),Env K.S0 K.O0 K.w0 S' O' m s.mem w'→Ext S w w'→(∀ b o,S b o→S' b o)→
  (∀ b t' q i,i ≠ u→O b=some (q++[i,0],t')→O' b=some (q++[i,0],t'))→O' nb=some ([t,0],off + (xs.length + ys.length) * k)→
  w'.heap[nb]? = some (.cells vs' el' (0,0))→off + cap' * k≤vs'.size→xs.length + ys.length≤cap'→
  (∀ (i:Nat) x (j:Nat) y,(xs++ys)[i]? = some x→x.cells[j]? = some y→S' nb (off + (i * k + j))∧∃ v,vs'[off + (i * k + j)]? = some v∧v.oneCell'=true∧Rd w' S' y v)→
  At K ((s.set u (.d (.sl xs))).set t (.osl k (xs++ys))) (a.put (some t) (.slice (some ⟨nb,off,none⟩) (xs.length + ys.length) cap')) w':=by
  intro w' S' O' nb off cap' vs' el' henv hE hS hO hOn hh hsz hcap hcells
  have hcell:∀ o,w'.cell? ⟨nb,o,none⟩=vs'[o]?:=fun o=>cell_of_row w' nb o vs' el' (0,0) hh
  have hrdn:Rd w' S' (.sl (xs++ys)) (.slice (some ⟨nb,off,none⟩) (xs++ys).length cap'):=by
   refine .sl (xs++ys) (some ⟨nb,off,none⟩) cap' k (by simp;omega) (by simp;omega) hkall (by simp) (fun ad had=>?_) (fun ad i x j y v had hi hj hv=>?_)
   · injection had with had;subst had
     intro i x j y hi hj
     obtain ⟨h1,v,h2,h3,_⟩:=hcells i x j y hi hj
     exact ⟨rfl,h1,v,(hcell _).trans h2,h3⟩
   · injection had with had;subst had
     obtain ⟨_,v',h2,_,h4⟩:=hcells i x j y hi hj
     rw [hcell,h2] at hv;injection hv with hv;subst hv;exact h4
  refine ⟨S',O',m,henv,h.defers,by simp [Act.put,h.size],h.pre,fun i q hq=>?_⟩
  rw [getD_put _ _ _ _ (by rw [h.size];exact ht)]
  rw [GS.get_set] at hq
  by_cases hit:i=t
  · rw [if_pos hit] at hq ⊢;injection hq with hq;subst hq;subst hit
    have:=RP.osl (O:=O') (m:=m) [i,0] k (xs++ys) (some ⟨nb,off,none⟩) cap' hrdn hkall (by simp) (fun ad had=>by
     injection had with had;subst had
     exact ⟨rfl,by rw [hOn];simp,vs',el',hh,hsz⟩)
    simpa using this
  · rw [if_neg hit] at hq ⊢
    rw [GS.get_set] at hq
    by_cases hiu:i=u
    · rw [if_pos hiu] at hq;injection hq with hq;subst hq;subst hiu
      exact .d _ _ _ (hrd.ext hE hS)
    · rw [if_neg hiu] at hq
      exact (h.slots i q hq).ext hE hS (fun b t' q' hb=>hO b t' q' i hiu hb) (fun _ _ h=>h)
 -- a new block
 have grown:∀ (old:Nat) (olds:List Value),olds.length=xs.length * k→(∀ (j:Nat) v,olds[j]? = some v→v.oneCell'=true)→
  (∀ (i:Nat) x (j:Nat) y v,xs[i]? = some x→x.cells[j]? = some y→olds[i * k + j]? = some v→Rd w S y v)→
  At K ((s.set u (.d (.sl xs))).set t (.osl k (xs++ys)))
   (a.put (some t) (.slice (some ⟨w.heap.size,0,none⟩) (xs.length + ys.length) (grownCap w (xs.length + ys.length) old e)))
   (w.drew.alloc (.cells (olds.toArray++news.toArray++Builtin.zeroCells z.cells (grownCap w (xs.length + ys.length) old e - (xs.length + ys.length))) e)):=by
  intro old olds hol ho1 hord
  have hge:=grownCap_ge w (xs.length + ys.length) old e
  generalize grownCap w (xs.length + ys.length) old e=cp at hge ⊢
  have hwz:w.heap.size=w.drew.heap.size:=rfl
  have hE:Ext S w (w.drew.alloc (.cells (olds.toArray++news.toArray++Builtin.zeroCells z.cells (cp - (xs.length + ys.length))) e)):=
   (ext_drew S w).trans (ext_alloc S w.drew _ h.env.slt) (fun _ _ h=>h)
  have hsum:(xs.length + ys.length) * k=olds.length + news.length:=by rw [hol,hnl,Nat.add_mul]
  refine fin _ (fun b o=>S b o∨(b=w.heap.size∧o < (xs.length + ys.length) * k)) (fun b=>if b=w.heap.size then some ([t,0],(xs.length + ys.length) * k) else O b) w.heap.size 0 cp _ e ?_ hE (fun _ _ h=>.inl h) ?_ (by simp) (heap_alloc_new' w.drew _) ?_ hge ?_
  · have he:=h.env
    have hsz0:K.w0.heap.size≤w.heap.size:=he.ext.size
    refine ⟨he.ext.trans hE he.s0,fun b hb hO=>?_,fun b l t' o hb hO hot=>?_,fun b o h=>.inl (he.s0 b o h),fun b o hb=>?_,fun b o l t' hS hO=>?_,fun b o hS=>?_,fun b l t' hO=>?_,fun b l t' hO=>?_,he.mlen,fun i cs r hi hr hne'=>?_⟩
    · rw [heap_alloc_old' w.drew _ b (show b < w.heap.size by omega)];exact he.old b hb hO
    · rw [World.cell?_alloc_lt w.drew _ ⟨b,o,none⟩ (show b < w.heap.size by omega)];exact he.part b l t' o hb hO hot
    · rcases hb with hb | ⟨rfl,_⟩
      · exact he.snew b o hb
      · exact .inr (.inl hsz0)
    · rcases hS with hS | ⟨rfl,hlt⟩
      · rw [if_neg (Nat.ne_of_lt (he.slt b o hS))] at hO;exact he.sown b o l t' hS hO
      · simp at hO;omega
    · rcases hS with hS | ⟨rfl,hlt⟩
      · have:=he.slt b o hS;simp;omega
      · simp
    · by_cases hb:b=w.heap.size
      · subst hb;simp
      · rw [if_neg hb] at hO;have:=he.olt b l t' hO;simp;omega
    · by_cases hb:b=w.heap.size
      · exact .inl (by omega)
      · rw [if_neg hb] at hO;exact he.onew b l t' hO
    · obtain ⟨g1,g2⟩:=he.mem i cs r hi hr hne'
      have hrl:=he.olt _ _ _ g1
      exact ⟨by rw [if_neg (Nat.ne_of_lt hrl)];exact g1,g2.frame (heap_alloc_old' w.drew _ r hrl) hE (fun _ _ h=>.inl h) (fun j b t' q hb=>by rw [if_neg (Nat.ne_of_lt (he.olt b _ t' hb))];exact hb) (fun _ _ h=>h)⟩
  · intro b t' q i _ hb
    rw [if_neg (Nat.ne_of_lt (h.env.olt b _ t' hb))];exact hb
  · simp only [Array.size_append,List.size_toArray,size_zeroCells,hzs,Nat.zero_add]
    rw [← hsum,← Nat.add_mul]
    exact Nat.mul_le_mul_right _ (by omega)
  · intro i x j y hi hj
    have hjk:j < k:=by rw [← hkall x (mG hi)];exact (lG hj)
    have hil:i < xs.length + ys.length:=by have:=(lG hi);simpa using this
    have hlt:i * k + j < (xs.length + ys.length) * k:=by
     calc i * k + j < i * k + k:=by omega
      _=(i + 1) * k:=by rw [Nat.add_mul,Nat.one_mul]
      _≤(xs.length + ys.length) * k:=Nat.mul_le_mul_right _ hil
    refine ⟨.inr ⟨rfl,by omega⟩,?_⟩
    rw [Nat.zero_add]
    by_cases hx:i < xs.length
    · rw [List.getElem?_append_left hx] at hi
      have hlt2:i * k + j < olds.length:=by
       rw [hol]
       calc i * k + j < i * k + k:=by omega
        _=(i + 1) * k:=by rw [Nat.add_mul,Nat.one_mul]
        _≤xs.length * k:=Nat.mul_le_mul_right _ hx
      have hg:=gE hlt2
      refine ⟨olds[i * k + j],?_,ho1 _ _ hg,(hord i x j y _ hi hj hg).ext hE (fun _ _ h=>.inl h)⟩
      rw [Array.append_assoc,Array.getElem?_append_left (by simpa using hlt2)]
      simp [hg]
    · rw [List.getElem?_append_right (by omega)] at hi
      have hil2:i - xs.length < ys.length:=(lG hi)
      have hsub:i * k + j - olds.length=(i - xs.length) * k + j:=by
       rw [hol,Nat.sub_mul]
       have:xs.length * k≤i * k:=Nat.mul_le_mul_right _ (by omega)
       omega
      have hge2:olds.length≤i * k + j:=by
       rw [hol]
       have:xs.length * k≤i * k:=Nat.mul_le_mul_right _ (by omega)
       omega
      have hlt2:(i - xs.length) * k + j < news.length:=by
       rw [hnl]
       calc (i - xs.length) * k + j < (i - xs.length) * k + k:=by omega
        _=(i - xs.length + 1) * k:=by rw [Nat.add_mul,Nat.one_mul]
        _≤ys.length * k:=Nat.mul_le_mul_right _ hil2
      have hg:=gE hlt2
      refine ⟨news[(i - xs.length) * k + j],?_,(hnews _ _ hg).2,(hnrd _ x j y _ hi hj hg).ext hE (fun _ _ h=>.inl h)⟩
      rw [Array.append_assoc,Array.getElem?_append_right (by simpa using hge2),Array.getElem?_append_left (by simp;omega)]
      simp only [List.size_toArray,List.getElem?_toArray]
      rw [hsub];exact hg
 have hneed:¬ (9223372036854775807 < xs.length + ys.length):=by omega
 cases ab with
 | none=>
  obtain ⟨hx0,hc0⟩:=hnone rfl
  subst hx0;subst hc0
  have hr:=run_append_nil (P:=K.P) w ty rt e inf z hun hin hiz ay ys.length capy news (by rw [his];exact hnl) (fun j v hj=>(hnews j v hj).1) hyslen (by omega) (by
   simp only [List.length_nil,Nat.zero_add] at hB;rw [hib];omega)
  have hgr:=grown 0 [] (by simp) (by simp) (by simp)
  simp only [List.length_nil,Nat.zero_add] at hgr hvu
  refine ⟨_,_,hrun0 _ _ (by rw [hvu,hvy];exact hr),?_⟩
  simp only [List.nil_append,Array.empty_append] at hgr ⊢
  exact hgr
 | some ad=>
  obtain ⟨hsp,hOad,vs,el,hheap,hcapk⟩:=htail ad rfl
  have had:ad=⟨ad.block,ad.off,none⟩:=by cases ad;simp_all
  by_cases hroom:xs.length + ys.length≤cap
  · -- within the capacity
    have hfit:ad.off + xs.length * inf.size + news.length≤vs.size:=by
     rw [his,hnl]
     calc ad.off + xs.length * k + ys.length * k=ad.off + (xs.length + ys.length) * k:=by rw [Nat.add_mul];omega
      _≤ad.off + cap * k:=by have:=Nat.mul_le_mul_right k hroom;omega
      _≤vs.size:=hcapk
    have hr:=run_append_room_at (P:=K.P) w ty rt e inf hun hin ad.block ad.off xs.length cap vs el hheap ay ys.length capy news (by rw [his];exact hnl) (fun j v hj=>(hnews j v hj).1)
     (fun v hv=>by obtain ⟨j,hj⟩:=List.getElem?_of_mem hv;exact (hnews j v hj).2) hroom hfit
    rw [his] at hr hfit
    refine ⟨_,_,hrun0 _ _ (by rw [hvu,hvy,had];exact hr),?_⟩
    have hfitL:ad.off + xs.length * k + news.length≤vs.toList.length:=by simpa using hfit
    have hSr:∀ o,S ad.block o→o < ad.off + xs.length * k:=fun o hS=>h.env.sown _ o _ _ hS hOad
    have hsz:(splice vs.toList (ad.off + xs.length * k) news).toArray.size=vs.size:=by simp [splice_length _ _ _ hfitL]
    have hget:∀ o,(splice vs.toList (ad.off + xs.length * k) news).toArray[o]? = if ad.off + xs.length * k≤o∧o < ad.off + xs.length * k + news.length then news[o - (ad.off + xs.length * k)]? else vs[o]?:=fun o=>by
     rw [List.getElem?_toArray,splice_get _ _ _ hfitL];simp
    have hE:Ext S w (w.setRow ad.block (splice vs.toList (ad.off + xs.length * k) news).toArray):=ext_setRow hheap hsz (fun o hS=>by rw [hget,if_neg (by have:=hSr o hS;omega)])
    have hsum:(xs.length + ys.length) * k=xs.length * k + news.length:=by rw [hnl,Nat.add_mul]
    refine fin _ (fun b o=>S b o∨(b=ad.block∧ad.off + xs.length * k≤o∧o < ad.off + (xs.length + ys.length) * k)) (fun b=>if b=ad.block then some ([t,0],ad.off + (xs.length + ys.length) * k) else O b) ad.block ad.off cap _ el ?_ hE (fun _ _ h=>.inl h) ?_ (by simp) (setRow_heap w ad.block vs _ el (0,0) hheap) (by rw [hsz];exact hcapk) hroom ?_
    · have he:=h.env
      refine ⟨he.ext.trans hE he.s0,fun b hb hO=>?_,fun b l t' o hb hO hot=>?_,fun b o h=>.inl (he.s0 b o h),fun b o hb=>?_,fun b o l t' hS hO=>?_,fun b o hS=>?_,fun b l t' hO=>?_,fun b l t' hO=>?_,he.mlen,fun i cs r hi hr hne'=>?_⟩
      · have:b ≠ ad.block:=by
         rintro rfl
         rcases he.onew _ _ _ hOad with h1 | ⟨l0,t0,h1,_⟩
         · omega
         · rw [hO] at h1;cases h1
        rw [setRow_other _ _ _ _ this];exact he.old b hb hO
      · by_cases hba:b=ad.block
        · subst hba
          rcases he.onew _ _ _ hOad with h1 | ⟨l0,t0,h1,h2⟩
          · omega
          · rw [hO] at h1;injection h1 with h1;injection h1 with _ h1
            rw [cell_of_row _ _ _ _ _ _ (setRow_heap w ad.block vs _ el (0,0) hheap),hget,if_neg (by omega)]
            rw [← cell_of_row w ad.block o vs el _ hheap]
            exact he.part _ l t' o hb hO hot
        · rw [cell_setRow_other _ _ _ _ hba];exact he.part b l t' o hb hO hot
      · rcases hb with hb | ⟨rfl,h1,_⟩
        · exact he.snew b o hb
        · rcases he.onew _ _ _ hOad with h2 | ⟨l0,t0,h2,h3⟩
          · exact .inr (.inl h2)
          · exact .inr (.inr ⟨l0,t0,h2,by omega⟩)
      · by_cases hba:b=ad.block
        · rw [if_pos hba] at hO;injection hO with hO;injection hO with hO1 hO2;subst hO2;subst hba
          rcases hS with hS | ⟨_,_,hS⟩
          · have:=hSr o hS;have:=Nat.mul_le_mul_right k (show xs.length≤xs.length + ys.length by omega);omega
          · exact hS
        · rw [if_neg hba] at hO
          rcases hS with hS | ⟨hS,_⟩
          · exact he.sown b o l t' hS hO
          · exact absurd hS hba
      · rcases hS with hS | ⟨rfl,_⟩
        · have:=he.slt b o hS;simpa using this
        · have:=he.olt _ _ _ hOad;simpa using this
      · by_cases hba:b=ad.block
        · subst hba;have:=he.olt _ _ _ hOad;simpa using this
        · rw [if_neg hba] at hO;have:=he.olt b l t' hO;simpa using this
      · by_cases hba:b=ad.block
        · rw [if_pos hba] at hO;injection hO with hO;injection hO with hO1 hO2;subst hO2;subst hba
          rcases he.onew _ _ _ hOad with h2 | ⟨l0,t0,h2,h3⟩
          · exact .inl h2
          · exact .inr ⟨l0,t0,h2,by have:=Nat.mul_le_mul_right k (show xs.length≤xs.length + ys.length by omega);omega⟩
        · rw [if_neg hba] at hO;exact he.onew b l t' hO
      · obtain ⟨g1,g2⟩:=he.mem i cs r hi hr hne'
        have hrr:r ≠ ad.block:=by
         rintro rfl
         rw [g1] at hOad;injection hOad with hOad;injection hOad with hOad _;simp at hOad
        refine ⟨by rw [if_neg hrr];exact g1,g2.frame (setRow_other _ _ _ _ hrr) hE (fun _ _ h=>.inl h) (fun j b t' q hb=>?_) (fun _ _ h=>h)⟩
        rw [if_neg];· exact hb
        rintro rfl
        rw [hb] at hOad;injection hOad with hOad;injection hOad with hOad _;exact end_ne q j i u hOad
    · intro b t' q i hi hb
      rw [if_neg];· exact hb
      rintro rfl
      rw [hb] at hOad;injection hOad with hOad;injection hOad with hOad _
      exact end_ne' q i u hi hOad
    · intro i x j y hi hj
      have hjk:j < k:=by rw [← hkall x (mG hi)];exact (lG hj)
      have hil:i < xs.length + ys.length:=by have:=(lG hi);simpa using this
      by_cases hx:i < xs.length
      · rw [List.getElem?_append_left hx] at hi
        have hlt2:i * k + j < xs.length * k:=by
         calc i * k + j < i * k + k:=by omega
          _=(i + 1) * k:=by rw [Nat.add_mul,Nat.one_mul]
          _≤xs.length * k:=Nat.mul_le_mul_right _ hx
        have hold:S ad.block (ad.off + (i * k + j))∧∃ v,w.cell? ⟨ad.block,ad.off + (i * k + j),none⟩=some v∧v.oneCell'=true∧Rd w S y v:=by
         have hrd':Rd w S (.sl xs) (.slice (some ad) xs.length cap):=hvu▸hrd
         generalize hvv:Value.slice (some ad) xs.length cap=vv at hrd'
         cases hrd' with
         | sl _ a' cap' k' _ _ hk' _ hc hrc=>
          injection hvv with hv1 hv2 hv3
          subst hv1
          have hkk:k'=k:=by rw [← hk' x (mG hi),hkx x (mG hi)]
          subst hkk
          obtain ⟨_,h1,v,h2,h3⟩:=hc ad rfl i x j y hi hj
          exact ⟨h1,v,h2,h3,hrc ad i x j y v rfl hi hj h2⟩
        obtain ⟨h1,v,h2,h3,h4⟩:=hold
        rw [cell_of_row w _ _ vs el _ hheap] at h2
        exact ⟨.inl h1,v,by rw [hget,if_neg (by omega)];exact h2,h3,h4.ext hE (fun _ _ h=>.inl h)⟩
      · rw [List.getElem?_append_right (by omega)] at hi
        have hil2:i - xs.length < ys.length:=(lG hi)
        have hmul:xs.length * k≤i * k:=Nat.mul_le_mul_right _ (by omega)
        have hsub:(i - xs.length) * k=i * k - xs.length * k:=Nat.sub_mul _ _ _
        have hlt2:(i - xs.length) * k + j < news.length:=by
         rw [hnl]
         calc (i - xs.length) * k + j < (i - xs.length) * k + k:=by omega
          _=(i - xs.length + 1) * k:=by rw [Nat.add_mul,Nat.one_mul]
          _≤ys.length * k:=Nat.mul_le_mul_right _ hil2
        have hg:=gE hlt2
        refine ⟨.inr ⟨rfl,by omega,by omega⟩,news[(i - xs.length) * k + j],?_,(hnews _ _ hg).2,(hnrd _ x j y _ hi hj hg).ext hE (fun _ _ h=>.inl h)⟩
        rw [hget,if_pos (by omega),show ad.off + (i * k + j) - (ad.off + xs.length * k)=(i - xs.length) * k + j by omega]
        exact hg
  · -- beyond it
    obtain ⟨olds,hol,holds,hordd⟩:=(hvu▸hrd:Rd w S (.sl xs) (.slice (some ad) xs.length cap)).news hkx
    have hr:=run_append_grow (P:=K.P) w ty rt e inf z hun hin hiz ad xs.length cap olds (by rw [his];exact hol) (fun j v hj=>(holds j v hj).1) ay ys.length capy news (by rw [his];exact hnl) (fun j v hj=>(hnews j v hj).1)
     (by omega) (by omega) (growslice_fits (by omega) (by rw [hib];omega))
    exact ⟨_,_,hrun0 _ _ (by rw [hvu,hvy];exact hr),grown cap olds hol (fun j v hj=>(holds j v hj).2) (fun i x j y v hi hj hv=>hordd i x j y v hi hj hv)⟩
end
section
def GCall (P:Program) (f:FuncId) (args:List PV) (mem:List (List PV)) (R:PV→List (List PV)→Prop):Prop:=
 ∀ (w:World) (S:Reg) (O:Owns) (m:List Nat) (vals:Array Value),Env S O w S O m mem w→vals.size=args.length→
  (∀ (i:Nat) p v,args[i]? = some p→vals[i]? = some v→RP w S O m [i,0] p v)→
  Calls P f vals w (fun e w'=>∃ v r mem' S' O' m',e=.returned v∧R r mem'∧Env S O w S' O' m' mem' w'∧m <+: m'∧RP w' S' O' m' [2] r v)
variable {f:FuncId}
theorem GCall.mono {P:Program} {args:List PV} {mem:List (List PV)} {R R':PV→List (List PV)→Prop} (h:GCall P f args mem R) (hr:∀ r m,R r m→R' r m):GCall P f args mem R':=
 fun w S O m vals h1 h2 h3=>(h w S O m vals h1 h2 h3).mono fun _ _ ⟨v,r,mem',S',O',m',e,g,rest⟩=>⟨v,r,mem',S',O',m',e,hr _ _ g,rest⟩
def Pure (P:Program) (f:FuncId) (args:List D) (r:PV):Prop:=GCall P f (args.map .d) [] (fun q m=>q=r∧m=[])
theorem List.map_toDs (ds:List D):PV.toDs (ds.map .d)=some ds:=by
 induction ds with
 | nil=>rfl
 | cons d ds ih=>simp [PV.toDs,PV.toD,ih]
def noOwns:Owns:=fun _=>none
variable {S:Reg} {O:Owns} {m:List Nat} {w:World}
theorem Env.entry {S0:Reg} {O0:Owns} {w0:World} {mem:List (List PV)} (h:Env S0 O0 w0 S O m mem w):Env S noOwns w S noOwns [] [] w where
 ext:=Ext.refl S w
 old:=fun _ _ _=>rfl
 part:=fun _ _ _ _ _ h=>by cases h
 s0:=fun _ _ h=>h
 snew:=fun _ _ h=>.inl h
 sown:=fun _ _ _ _ _ h=>by cases h
 slt:=h.slt
 olt:=fun _ _ _ h=>by cases h
 onew:=fun _ _ _ h=>by cases h
 mlen:=rfl
 mem:=fun _ _ _ h=>by simp at h
def renRes (t:Nat) (l:List Nat):List Nat:=if l.getLast? = some 2 then l.dropLast++[t,0] else l
theorem renRes_res (t:Nat) (q:List Nat):renRes t (q++[2])=q++[t,0]:=by simp [renRes]
variable {K:Ctx} {s:GS}
theorem Rep.after {a:Act} {w':World} (h:Rep K S O m s a w) {S':Reg} {O':Owns} {m':List Nat} (he:Env S noOwns w S' O' m' [] w')
 {t:Nat} (ht:t < K.n) {r:PV} {v:Value} (hr:RP w' S' O' m' [2] r v):At K (s.set t r) (a.put (some t) v) w':=by
 have hm0:m'=[]:=List.eq_nil_of_length_eq_zero (by have:=he.mlen;simpa using this)
 subst hm0
 let O'':Owns:=fun b=>if b < w.heap.size then O b else reo O' (renRes t) b
 have hO1:∀ b,b < w.heap.size→O'' b=O b:=fun b hb=>if_pos hb
 have hO2:∀ b,¬ b < w.heap.size→O'' b=reo O' (renRes t) b:=fun b hb=>if_neg hb
 have hE:=he.ext
 have hold:∀ b,b < w.heap.size→w'.heap[b]? = w.heap[b]?:=fun b hb=>he.old b hb rfl
 have hk:∀ (b:Nat) l t',O b=some (l,t')→O'' b=some (l,t'):=fun b l t' hb=>by rw [hO1 b (h.env.olt b l t' hb)];exact hb
 refine ⟨S',O'',m,⟨⟨h.env.ext.trans hE h.env.s0,fun b hb hO=>?_,fun b l t' o hb hO hot=>?_,fun b o hb=>he.s0 b o (h.env.s0 b o hb),fun b o hb=>?_,fun b o l t' hS hO=>?_,he.slt,fun b l t' hO=>?_,fun b l t' hO=>?_,h.env.mlen,fun i cs r' hi hr' hne'=>?_⟩,h.defers,by simp [Act.put,h.size],h.pre,fun i p hp=>?_⟩⟩
 · rw [hold b (Nat.lt_of_lt_of_le hb h.env.ext.size)];exact h.env.old b hb hO
 · have:w'.cell? ⟨b,o,none⟩=w.cell? ⟨b,o,none⟩:=by simp only [World.cell?,hold b (Nat.lt_of_lt_of_le hb h.env.ext.size)]
   rw [this];exact h.env.part b l t' o hb hO hot
 · rcases he.snew b o hb with h1 | h1 | ⟨_,_,h1,_⟩
   · exact h.env.snew b o h1
   · exact .inr (.inl (Nat.le_trans h.env.ext.size h1))
   · cases h1
 · by_cases hb:b < w.heap.size
   · rw [hO1 b hb] at hO
     rcases he.snew b o hS with h1 | h1 | ⟨_,_,h1,_⟩
     · exact h.env.sown b o l t' h1 hO
     · omega
     · cases h1
   · rw [hO2 b hb] at hO
     obtain ⟨l0,h1,_⟩:=reo_some hO
     exact he.sown b o l0 t' hS h1
 · by_cases hb:b < w.heap.size
   · exact Nat.lt_of_lt_of_le hb hE.size
   · rw [hO2 b hb] at hO;obtain ⟨l0,h1,_⟩:=reo_some hO;exact he.olt b l0 t' h1
 · by_cases hb:b < w.heap.size
   · rw [hO1 b hb] at hO;exact h.env.onew b l t' hO
   · exact .inl (Nat.le_trans h.env.ext.size (Nat.le_of_not_lt hb))
 · obtain ⟨g1,g2⟩:=h.env.mem i cs r' hi hr' hne'
   exact ⟨hk _ _ _ g1,g2.frame (hold _ (h.env.olt _ _ _ g1)) hE he.s0 (fun j b t' q hb=>hk b _ t' hb) (fun _ _ h=>h)⟩
 · rw [getD_put _ _ _ _ (by rw [h.size];exact ht)]
   rw [GS.get_set] at hp
   by_cases hi:i=t
   · rw [if_pos hi] at hp ⊢;injection hp with hp;subst hp;subst hi
     refine hr.frame _ (Ext.refl _ _) (fun _ _ h=>h) (fun b t' q hb=>?_) (fun b r hb=>by simp at hb)
     have hnb:¬ b < w.heap.size:=by
      rcases he.onew b _ t' hb with h1 | ⟨_,_,h1,_⟩
      · omega
      · cases h1
     rw [hO2 b hnb,reo_of hb,renRes_res]
   · rw [if_neg hi] at hp ⊢
     exact (h.slots i p hp).ext hE he.s0 (fun b t' q hb=>hk b _ t' hb) (fun _ _ h=>h)
theorem run_callFunc {P:Program} {fn:Func} (hf:P.funcs[f]? = some fn) (hb:fn.body.isSome=true) (hn:(fn.name == "runtime.NumGoroutine")=false) (args:Array Value) (w:World):
 (callFunc f args).run P w=.ok (.enter f args) w:=by
 obtain ⟨c,hc⟩:=Option.isSome_iff_exists.1 hb
 have hn':¬ fn.name="runtime.NumGoroutine":=by simpa using hn
 simp [callFunc,hf,hn',hc]
def PV.callee:PV→Option (FuncId×List D×List D)
 | .fn (.func f) a c=>match PV.toDs a,PV.toDs c with
  | some a,some c=>some (f,a,c)
  | _,_=>none
 | .d (.fn (.func f) a c)=>some (f,a,c)
 | _=>none
theorem RP.callee {l:List Nat} {p:PV} {v:Value} (h:RP w S O m l p v) {f:FuncId} {a c:List D} (hp:p.callee=some (f,a,c)):
 ∃ vf vc,v=.func (.func f) vf vc∧vf.size=a.length∧vc.size=c.length∧(∀ (i:Nat) d u,a[i]? = some d→vf[i]? = some u→Rd w S d u)∧∀ (i:Nat) d u,c[i]? = some d→vc[i]? = some u→Rd w S d u:=by
 unfold PV.callee at hp
 split at hp
 · split at hp
   · rename_i f' a0 c0 a' c' ha hc
     injection hp with hp;injection hp with h1 h2;injection h2 with h2 h3;subst h1;subst h2;subst h3
     obtain ⟨la,ga⟩:=PV.toDs_get _ _ ha
     obtain ⟨lc,gc⟩:=PV.toDs_get _ _ hc
     cases h with
     | fn _ _ _ _ vf vc h1 h2 g1 g2=>
      exact ⟨vf,vc,rfl,by omega,by omega,fun i d u hi hu=>by obtain ⟨p,hp,hpd⟩:=ga i d hi;exact (g1 i p u hp hu).toD d hpd,
       fun i d u hi hu=>by obtain ⟨p,hp,hpd⟩:=gc i d hi;exact (g2 i p u hp hu).toD d hpd⟩
   · cases hp
 · injection hp with hp;injection hp with h1 h2;injection h2 with h2 h3;subst h1;subst h2;subst h3
   cases h with
   | d _ _ _ h=>cases h with | fn _ _ _ vf vc h1 h2 g1 g2=>exact ⟨vf,vc,rfl,h1,h2,g1,g2⟩
 · cases hp
theorem evs_rd {a:Act} (h:Rep K S O m s a w) (xs:List Operand) {ds:List D} (hd:PV.toDs (xs.map s.ev)=some ds):
 ds.length=xs.length∧∀ (i:Nat) d v,ds[i]? = some d→(xs.map a.eval)[i]? = some v→Rd w S d v:=by
 obtain ⟨h1,h2⟩:=PV.toDs_get _ _ hd
 refine ⟨by simpa using h1,fun i d v hi hv=>?_⟩
 obtain ⟨p,hp,hpd⟩:=h2 i d hi
 rw [List.getElem?_map] at hp hv
 cases hx:xs[i]? with
 | none=>simp [hx] at hp
 | some x=>
  simp only [hx,Option.map_some,Option.some.injEq] at hp hv
  subst hp;subst hv
  obtain ⟨l,hr⟩:=h.ev x
  exact hr.toD d hpd
theorem GOps_call {ops:Array Oper} {Q:Exit→GS→Prop} {i:Nat} {rest:List Nat} {o:Oper} {t:Nat} {fx:Operand} {xs:List Operand} {tys:Array TypeId} {fn:Func} {fa fc ds:List D}
 {R:PV→List (List PV)→Prop}
 (ho:ops[i]? = some o) (hop:o.op=.call ⟨.value fx,xs.toArray,tys⟩) (hd:o.dst=some t) (hg:o.guard=none)
 (hfx:(s.ev fx).callee=some (f,fa,fc)) (hxs:PV.toDs (xs.map s.ev)=some ds)
 (hf:K.P.funcs[f]? = some fn) (hb:fn.body.isSome=true) (hn:(fn.name == "runtime.NumGoroutine")=false) (ht:t < K.n)
 (hc:GCall K.P f ((fa++ds++fc).map .d) [] R) (h:∀ r m,R r m→m=[]∧GOps K ops Q rest (s.set t r)):GOps K ops Q (i :: rest) s:=by
 rintro a w ⟨S,O,m,hr⟩
 obtain ⟨l,hrf⟩:=hr.ev fx
 obtain ⟨vf,vc,hvf,hs1,hs2,g1,g2⟩:=hrf.callee hfx
 obtain ⟨hlen,hrd⟩:=evs_rd hr xs hxs
 have hrun:(execOp a.eval o).run K.P w=.ok (.enter f (vf++(xs.map a.eval).toArray++vc)) w:=by
  simp only [execOp,hop]
  simp [resolve,Deferred.ofValue,hvf,invoke,run_callFunc hf hb hn]
 simp only [wpOps,ho,Region.wanted,hg,if_true]
 refine .inl ?_
 simp only [Oper.wp,hrun,Oper.upon_enter]
 have hcall:=hc w S noOwns [] (vf++(xs.map a.eval).toArray++vc) hr.env.entry (by simp [hs1,hs2,hlen]) (fun j p v hp hv=>by
  rw [List.getElem?_map] at hp
  cases hj:(fa++ds++fc)[j]? with
  | none=>rw [hj] at hp;cases hp
  | some d=>
   simp only [hj,Option.map_some,Option.some.injEq] at hp;subst hp
   refine .d _ _ _ ?_
   by_cases h1:j < fa.length
   · rw [List.append_assoc,List.getElem?_append_left h1] at hj
     rw [Array.append_assoc,Array.getElem?_append_left (by omega)] at hv
     exact g1 j d v hj hv
   · by_cases h2:j < fa.length + ds.length
     · rw [List.getElem?_append_left (by simp;omega),List.getElem?_append_right (by omega)] at hj
       rw [Array.getElem?_append_left (by simp;omega),Array.getElem?_append_right (by omega),hs1] at hv
       exact hrd _ d v hj (by simpa using hv)
     · rw [List.getElem?_append_right (by simp;omega)] at hj
       rw [Array.getElem?_append_right (by simp;omega)] at hv
       refine g2 _ d v hj ?_
       rw [← hv];congr 1;simp;omega)
 refine Calls.mono hcall ?_
 rintro e w' ⟨v,r,mem',S',O',m',rfl,hR,henv,hm,hres⟩
 obtain ⟨rfl,hrest⟩:=h r mem' hR
 simp only
 rw [hd]
 exact hrest _ _ (hr.after henv ht hres)
end
end Go.Proofs.YtoonleefemkalaaDoor.E
