import Derived.Test.YtoonleefemkalaaDoorM5
import Derived.Laws.StructEq
import Derived.Laws.Slices
import Derived.Laws.Strings
import Derived.OrdersHeld
import Derived.IntWalk
import GoSem.Extern.Table
import Derived.Below
/- Contracts of functions. Conditions: none. -/
set_option linter.unusedSimpArgs false
set_option linter.unusedVariables false
namespace Go.Proofs.YtoonleefemkalaaDoor.E
open Go
section
theorem wrap_i64 {n:Int} (h1:-9223372036854775808≤n) (h2:n≤9223372036854775807):IntKind.i64.wrap n=n:=IntWalk.i64_in n ⟨by omega,by omega⟩
variable {K:Ctx} {S:Reg} {O:Owns} {m:List Nat} {s:GS} {a:Act} {w:World}
theorem Rep.drew (h:Rep K S O m s a w):Rep K S O m s a w.drew where
 env:={ ext:=h.env.ext.trans (ext_drew S w) h.env.s0,old:=h.env.old,part:=h.env.part,s0:=h.env.s0,snew:=h.env.snew,sown:=h.env.sown,slt:=h.env.slt,olt:=h.env.olt,onew:=h.env.onew,mlen:=h.env.mlen,
        mem:=fun i cs r hi hr hne'=>by
         obtain ⟨g1,g2⟩:=h.env.mem i cs r hi hr hne'
         exact ⟨g1,g2.frame rfl (ext_drew S w) (fun _ _ h=>h) (fun _ _ _ _ h=>h) (fun _ _ h=>h)⟩ }
 defers:=h.defers
 size:=h.size
 pre:=h.pre
 slots:=fun i p hp=>(h.slots i p hp).ext (ext_drew S w) (fun _ _ h=>h) (fun _ _ _ h=>h) (fun _ _ h=>h)
def endN (K:Ctx) (Q:Exit→GS→Prop):Exit→Act→World→Prop:=fun e a w=>e=.normal∧∃ s,Q .normal s∧At K s a w
variable {P:Program} {ty e:TypeId}
theorem run_ptr_nil (hu:P.underlying ty=some (.pointer e)) (a:Option Addr) (w:World):(Op.equal ty (.pointer a) (.pointer none)).run P w=.ok a.isNone w:=by
 rw [Op.equal,show Op.maxDepth=9999 + 1 from rfl,Op.equalIn]
 cases a<;>simp [run_underlying hu]
def D.isNil:D→Option Bool
 | .nil=>some true
 | .ptr _=>some false
 | _=>none
variable {t:Nat} {yt rt:TypeId} {x:Operand} {pos:String} {af:Array Edge} {g:Option (Nat×Bool)} {b:Bool}
theorem Q_ptreql {d:D}
 (hx:s.ev x=.d d) (hd:d.isNil=some b) (hu:K.P.underlying ty=some (.pointer e)):Qy K ⟨some t,.binOp .eql ty x (.const (.pointer none)) yt,rt,pos,af,g⟩ s t (.d (.bool b)):=by
 refine fun S O m a w h=>⟨.bool b,fun w _=>?_,.d _ _ _ (.bool _)⟩
 have hr:=h.evd hx
 generalize hv:a.eval x=v at hr
 have hc:a.eval (.const (.pointer none))=.pointer none:=rfl
 simp only [execOp,hv,hc]
 cases hr with
 | nil=>simp [D.isNil] at hd;subst hd;simp [eqGuard,binOp,run_ptr_nil hu]
 | ptr d ad hs hcc hh=>simp [D.isNil] at hd;subst hd;simp [eqGuard,binOp,run_ptr_nil hu]
 | _=>simp [D.isNil] at hd
theorem Q_ptrneq {d:D}
 (hx:s.ev x=.d d) (hd:d.isNil=some b) (hu:K.P.underlying ty=some (.pointer e)):Qy K ⟨some t,.binOp .neq ty x (.const (.pointer none)) yt,rt,pos,af,g⟩ s t (.d (.bool (!b))):=by
 refine fun S O m a w h=>⟨.bool (!b),fun w _=>?_,.d _ _ _ (.bool _)⟩
 have hr:=h.evd hx
 generalize hv:a.eval x=v at hr
 have hc:a.eval (.const (.pointer none))=.pointer none:=rfl
 simp only [execOp,hv,hc]
 cases hr with
 | nil=>simp [D.isNil] at hd;subst hd;simp [eqGuard,binOp,run_ptr_nil hu]
 | ptr d ad hs hcc hh=>simp [D.isNil] at hd;subst hd;simp [eqGuard,binOp,run_ptr_nil hu]
 | _=>simp [D.isNil] at hd
theorem sP {o:Oper} {q p:PV} (u:Nat) (hu:s.get u=some (.when b p)) (hb:b=true) (hq:Qy K o (s.set u p) t q):Qy K o s t q:=by
 intro S O m a w h
 refine hq S O m a w ⟨h.env,h.defers,h.size,h.pre,fun i p' hp=>?_⟩
 rw [GS.get_set] at hp
 by_cases hi:i=u
 · rw [if_pos hi] at hp;injection hp with hp;subst hp;subst hi
   have h1:=h.slots i _ hu
   subst hb
   generalize a.tmps.getD i undef=v at h1
   cases h1 with
   | whenT _ _ _ _ _ h=>exact h
   | whenF _ _ _ hf=>cases hf
 · rw [if_neg hi] at hp;exact h.slots i p' hp
variable {r:PV}
theorem call_wp {Q:Exit→GS→Prop} {o:Oper} {fx:Operand} {xs:List Operand} {tys:Array TypeId} {f:FuncId} {fn:Func} {fa fc ds:List D} {next:Act→World→Prop}
 (hr:Rep K S O m s a w) (hop:o.op=.call ⟨.value fx,xs.toArray,tys⟩) (hd:o.dst=some t) (hfx:(s.ev fx).callee=some (f,fa,fc)) (hlen:ds.length=xs.length)
 (hrd:∀ (i:Nat) d v,ds[i]? = some d→(xs.map a.eval)[i]? = some v→Rd w S d v)
 (hf:K.P.funcs[f]? = some fn) (hb:fn.body.isSome=true) (hn:(fn.name == "runtime.NumGoroutine")=false) (ht:t < K.n)
 (hc:Pure K.P f (fa++ds++fc) r) (h:∀ a' w',At K (s.set t r) a' w'→next a' w'):o.wp K.P a w next (fun e a' w'=>∃ s',Q e s'∧At K s' a' w'):=by
 obtain ⟨l,hrf⟩:=hr.ev fx
 obtain ⟨vf,vc,hvf,hs1,hs2,g1,g2⟩:=hrf.callee hfx
 have hrun:(execOp a.eval o).run K.P w=.ok (.enter f (vf++(xs.map a.eval).toArray++vc)) w:=by
  simp only [execOp,hop]
  simp [resolve,Deferred.ofValue,hvf,invoke,run_callFunc hf hb hn]
 simp only [Oper.wp,hrun,Oper.upon_enter]
 have hcall:=hc w S noOwns [] (vf++(xs.map a.eval).toArray++vc) hr.env.entry (by simp [hs1,hs2,hlen]) (fun j p v hp hv=>by
  rw [List.getElem?_map] at hp
  cases hj:(fa++ds++fc)[j]? with
  | none=>rw [hj] at hp;cases hp
  | some d=>
   simp only [hj,Option.map_some,Option.some.injEq] at hp;subst hp
   refine .d _ _ _ ?_
   by_cases h1:j < fa.length
   · rw [List.append_assoc,List.getElem?_append_left h1] at hj
     rw [Array.append_assoc,Array.getElem?_append_left (by omega)] at hv
     exact g1 j d v hj hv
   · by_cases h2:j < fa.length + ds.length
     · rw [List.getElem?_append_left (by simp;omega),List.getElem?_append_right (by omega)] at hj
       rw [Array.getElem?_append_left (by simp;omega),Array.getElem?_append_right (by omega),hs1] at hv
       exact hrd _ d v hj (by simpa using hv)
     · rw [List.getElem?_append_right (by simp;omega)] at hj
       rw [Array.getElem?_append_right (by simp;omega)] at hv
       refine g2 _ d v hj ?_
       rw [← hv];congr 1;simp;omega)
 refine Calls.mono hcall ?_
 rintro e w' ⟨v,r',mem',S',O',m',rfl,⟨rfl,rfl⟩,henv,hm,hres⟩
 simp only
 rw [hd]
 exact h _ _ (hr.after henv ht hres)
def structPl (P:Program) (ty:TypeId):Option (List (Nat×Nat)):=
 match P.underlying ty with
 | some (.struct fs)=>if fs.all (fun f=>(P.info? f.type).isSome)=true then some (placesOf P fs) else none
 | _=>none
theorem Q_buildS {parts:Array (Nat×Operand)} {z:Value} {zs cs':List PV} {pl:List (Nat×Nat)} {ps:List (Nat×PV)}
 (hst:structPl K.P ty=some pl) (hz:(K.P.info? ty).map (·.zero)=some (some z)) (h1:z.cells.all (·.oneCell')=true) (hzs:zeros z=zs) (hps:(parts.toList.map fun x=>(x.1,s.ev x.2))=ps)
 (hb:bfill (pl[·]?) zs ps=some cs') (hr:mkAgg cs'=r) (ht:t < K.n):Qy K ⟨some t,.build ty parts,rt,pos,af,g⟩ s t r:=by
 unfold structPl at hst
 split at hst
 · rename_i fs hu
   split at hst
   · rename_i hall
     injection hst with hst
     exact Q_build hu hz h1 hall hst hzs hps hb hr ht
   · cases hst
 · cases hst
variable {n:Nat}
theorem Y_buildA {k:Nat} {parts:Array (Nat×Operand)} {z:Value} {zs cs':List PV} {ps:List (Nat×PV)}
 (hu:K.P.underlying ty=some (.array n e)) (hz:(K.P.info? ty).map (·.zero)=some (some z)) (hsz:(K.P.info? e).map (·.size)=some k) (h1:z.cells.all (·.oneCell')=true) (hzs:zeros z=zs)
 (hps:(parts.toList.map fun x=>(x.1,s.ev x.2))=ps) (hb:bfill (fun i=>some (i * k,k)) zs ps=some cs') (hr:mkAgg cs'=r) (ht:t < K.n):Yld K ⟨some t,.build ty parts,rt,pos,af,g⟩ s (s.set t r):=by
 subst hzs;subst hps;subst hr
 refine Yld_pure rfl ht fun S O m a w h=>?_
 obtain ⟨cells',g1,g2,g3,g4⟩:=bfill_run (w:=w) (S:=S) (m:=m) (fun i=>some (i * k,k)) _ (parts.toList.map fun x=>(x.1,a.eval x.2)) _ cs' z.cells (by simp) (fun j i p v hp hv=>parts_get h _ j i p v hp hv)
  (by simp [zeros]) (fun j v hv=>by have:=Array.all_eq_true_iff_forall_mem.1 h1;exact this v (Array.mem_of_getElem? hv)) (fun j q v hq hv=>zeros_rp w S m z j q v hq hv) hb
 refine ⟨.agg cells',fun w _=>?_,RP_mkAgg _ (fun _=>[]) g2 g3 g4⟩
 have hzv:(zeroValue ty).run K.P w=.ok z w:=by
  cases hq:K.P.info? ty with
  | none=>simp [hq] at hz
  | some i=>
   have hs:i.zero=some z:=by simpa [hq] using hz
   simp [zeroValue,typeInfo,hq,hs]
 have hsv:(sizeOf e).run K.P w=.ok k w:=by
  cases hq:K.P.info? e with
  | none=>simp [hq] at hsz
  | some i=>
   have hs:i.size=k:=by simpa [hq] using hsz
   simp [sizeOf,typeInfo,hq,hs]
 have hpm:(parts.map fun x=>(x.1,a.eval x.2)).toList=parts.toList.map fun x=>(x.1,a.eval x.2):=by simp
 have hrun:(Instr.build ty (parts.map fun x=>(x.1,a.eval x.2))).run K.P w=.ok (.agg cells') w:=by
  unfold Instr.build
  rw [Sem.run_bind,hzv]
  simp only [Result.andThen_ok,Sem.run_bind,run_underlying hu,hsv,hpm,g1]
  rfl
 simp only [execOp]
 have:(parts.map fun x=>match x with | (i,x)=>(i,a.eval x))=parts.map fun x=>(x.1,a.eval x.2):=by congr 1
 simp [this,hrun]
mutual
def PV.frz (n:Nat) (F:Nat→PV) (H:Nat→Nat→Nat→PV) (X:PV):PV→PV
 | .ref b off=>if b=n then F off else .ref b off
 | .rsl b off c k=>if b=n then H off c k else .rsl b off c k
 | .mref b=>if b=n then X else .mref b
 | .ifr t b off=>if b=n then .undef else .ifr t b off
 | .mapc kvs=>.mapc kvs
 | .fn g a c=>.fn g (PV.frzs n F H X a) (PV.frzs n F H X c)
 | .agg cs=>.agg (PV.frzs n F H X cs)
 | .tup cs=>.tup (PV.frzs n F H X cs)
 | .when b p=>.when b (PV.frz n F H X p)
 | .d x=>.d x
 | .nils=>.nils
 | .osl k xs=>.osl k xs
 | .undef=>.undef
def PV.frzs (n:Nat) (F:Nat→PV) (H:Nat→Nat→Nat→PV) (X:PV):List PV→List PV
 | []=>[]
 | p :: ps=>PV.frz n F H X p :: PV.frzs n F H X ps
end
theorem PV.frzs_map (n:Nat) (F:Nat→PV) (H:Nat→Nat→Nat→PV) (X:PV) (ps:List PV):PV.frzs n F H X ps=ps.map (PV.frz n F H X):=by
 induction ps with
 | nil=>simp [PV.frzs]
 | cons p ps ih=>simp [PV.frzs,ih]
theorem PV.frzs_get (n:Nat) (F:Nat→PV) (H:Nat→Nat→Nat→PV) (X:PV) (ps:List PV) (i:Nat):(PV.frzs n F H X ps)[i]? = (ps[i]?).map (PV.frz n F H X):=by rw [PV.frzs_map,List.getElem?_map]
theorem RP.frz {l:List Nat} {p:PV} {v:Value} (n:Nat) (F:Nat→PV) (H:Nat→Nat→Nat→PV) (X:PV) (h:RP w S O m l p v) (hlen:m.length=n + 1)
 (hF:∀ r off l,m[n]? = some r→RP w S O (m.take n) l (F off) (.pointer (some ⟨r,off,none⟩)))
 (hH:∀ r off c k a cap l,m[n]? = some r→c≤cap→c≤lim→(c=0→off=0→cap=0)→(cap ≠ 0→a=some ⟨r,rofs c off,none⟩)→RP w S O (m.take n) l (H off c k) (.slice a c cap))
 (hX:∀ r l,m[n]? = some r→RP w S O (m.take n) l X (.map (some r))):RP w S O (m.take n) l (PV.frz n F H X p) v:=by
 induction h with
 | d l x v h=>simp only [PV.frz];exact .d l x v h
 | nils l=>simp only [PV.frz];exact .nils l
 | osl l k xs a cap hr hk hn ht=>simp only [PV.frz];exact .osl l k xs a cap hr hk hn ht
 | ref l b off r h=>
  simp only [PV.frz]
  by_cases hb:b=n
  · subst hb
    rw [if_pos rfl]
    exact hF r off l h
  · rw [if_neg hb]
    have hlt:=(lG h)
    exact .ref l b off r (by rw [List.getElem?_take,if_pos (by omega)];exact h)
 | rsl l b off c k a cap hc hl h0 h=>
  simp only [PV.frz]
  by_cases hb:b=n
  · subst hb
    rw [if_pos rfl]
    have hlt:b < m.length:=by omega
    refine hH m[b] off c k a cap l (gE hlt) hc hl h0 (fun hn=>?_)
    obtain ⟨r,h1,h2⟩:=h hn
    rw [gE hlt] at h1
    injection h1 with h1
    rw [h1];exact h2.1
  · rw [if_neg hb]
    refine .rsl l b off c k a cap hc hl h0 (fun hn=>?_)
    obtain ⟨r,h1,h2⟩:=h hn
    have hlt:=(lG h1)
    exact ⟨r,by rw [List.getElem?_take,if_pos (by omega)];exact h1,h2⟩
 | mref l b r h=>
  simp only [PV.frz]
  by_cases hb:b=n
  · subst hb
    rw [if_pos rfl]
    exact hX r l h
  · rw [if_neg hb]
    have hlt:=(lG h)
    exact .mref l b r (by rw [List.getElem?_take,if_pos (by omega)];exact h)
 | ifr l t b off r h=>
  simp only [PV.frz]
  by_cases hb:b=n
  · subst hb
    rw [if_pos rfl]
    exact .undef l _
  · rw [if_neg hb]
    have hlt:=(lG h)
    exact .ifr l t b off r (by rw [List.getElem?_take,if_pos (by omega)];exact h)
 | fn l g first caps vf vc h1 h2 _ _ g1 g2=>
  simp only [PV.frz]
  refine .fn l g _ _ vf vc (by simp [PV.frzs_map,h1]) (by simp [PV.frzs_map,h2]) (fun i p v hi hv=>?_) (fun i p v hi hv=>?_)
  · rw [PV.frzs_get] at hi
    cases hq:first[i]? with
    | none=>simp [hq] at hi
    | some q=>simp [hq] at hi;subst hi;exact g1 i q v hq hv
  · rw [PV.frzs_get] at hi
    cases hq:caps[i]? with
    | none=>simp [hq] at hi
    | some q=>simp [hq] at hi;subst hi;exact g2 i q v hq hv
 | agg l cs vs hl ho _ ih=>
  simp only [PV.frz]
  refine .agg l _ vs (by simp [PV.frzs_map,hl]) ho (fun i p v hi hv=>?_)
  rw [PV.frzs_get] at hi
  cases hq:cs[i]? with
  | none=>simp [hq] at hi
  | some q=>simp [hq] at hi;subst hi;exact ih i q v hq hv
 | tup l cs vs hl _ ih=>
  simp only [PV.frz]
  refine .tup l _ vs (by simp [PV.frzs_map,hl]) (fun i p v hi hv=>?_)
  rw [PV.frzs_get] at hi
  cases hq:cs[i]? with
  | none=>simp [hq] at hi
  | some q=>simp [hq] at hi;subst hi;exact ih i q v hq hv
 | whenT l b p v hb _ ih=>simp only [PV.frz];exact .whenT l b _ v hb ih
 | whenF l b p hb=>simp only [PV.frz];exact .whenF l b _ hb
 | undef l v=>simp only [PV.frz];exact .undef l v
theorem lookup_map (f:PV→PV) (l:List (Nat×PV)) (i:Nat):(l.map fun x=>(x.1,f x.2)).lookup i=(l.lookup i).map f:=by
 induction l with
 | nil=>rfl
 | cons x l ih=>
  obtain ⟨j,p⟩:=x
  simp only [List.map_cons,List.lookup_cons,ih]
  split<;>rfl
theorem Le_frz {keep keep':List (List PV)} {cs:List PV} (n N:Nat) (F:Nat→PV) (H:Nat→Nat→Nat→PV) (X:PV) (hmem:s.mem=keep++[cs]) (hn:keep.length=n) (hk:K.m0.length≤n) (hN:N≤cs.length) (hlk:keep'.length=keep.length)
 (hkeep:∀ (i:Nat) cs',keep'[i]? = some cs'→∃ cs0,keep[i]? = some cs0∧cs0.length=cs'.length∧∀ (j:Nat) p',cs'[j]? = some p'→∃ p0,cs0[j]? = some p0∧((p'=p0∧PV.refsB n p0=true)∨p'=PV.frz n F H X p0))
 (hFH:∀ S O m a w,Rep K S O m s a w→∀ r,m[n]? = some r→∀ O',(∀ off l,RP w (fun b o=>S b o∨(b=r∧o < N)) O' (m.take n) l (F off) (.pointer (some ⟨r,off,none⟩)))∧
  (∀ off c k ad cap l,c≤cap→c≤lim→(c=0→off=0→cap=0)→(cap ≠ 0→ad=some ⟨r,rofs c off,none⟩)→RP w (fun b o=>S b o∨(b=r∧o < N)) O' (m.take n) l (H off c k) (.slice ad c cap))∧(∀ l,RP w (fun b o=>S b o∨(b=r∧o < N)) O' (m.take n) l X (.map (some r)))):
 Le K s ⟨s.slots.map fun x=>(x.1,PV.frz n F H X x.2),keep'⟩:=by
 rintro a w ⟨S,O,m,h⟩
 have he:=h.env
 have hml:m.length=n + 1:=by rw [he.mlen,hmem];simp [hn]
 have hbn:s.mem[n]? = some cs:=by rw [hmem,List.getElem?_append_right (by omega)];simp [hn]
 obtain ⟨r,h1⟩:∃ r,m[n]? = some r:=⟨m[n],gE (by omega)⟩
 have hown:cs ≠ []→O r=some ([n,1],0):=fun hne=>(he.mem n cs r hbn h1 hne).1
 have hS:∀ b o,S b o→S b o∨(b=r∧o < N):=fun _ _ h=>.inl h
 have hpos:∀ o,o < N→cs ≠ []:=fun o ho=>by rintro rfl;simp at hN;omega
 have hOr:∀ (b:Nat) l t,l ≠ [n,1]→O b=some (l,t)→(if b=r∧cs ≠ [] then none else O b)=some (l,t):=fun b l t hl hb=>by
  rw [if_neg]
  · exact hb
  · rintro ⟨rfl,hne⟩;rw [hown hne] at hb;injection hb with hb;injection hb with hb _;exact hl hb.symm
 obtain ⟨hF,hH,hX⟩:=hFH S O m a w h r h1 (fun b=>if b=r∧cs ≠ [] then none else O b)
 have hOo:∀ (b:Nat) l t,(if b=r∧cs ≠ [] then none else O b)=some (l,t)→O b=some (l,t):=fun b l t hO=>by
  by_cases hb:b=r∧cs ≠ []
  · rw [if_pos hb] at hO;cases hO
  · rw [if_neg hb] at hO;exact hO
 refine ⟨fun b o=>S b o∨(b=r∧o < N),fun b=>if b=r∧cs ≠ [] then none else O b,m.take n,⟨he.ext,he.old,he.part,fun b o h=>.inl (he.s0 b o h),fun b o hb=>?_,fun b o l t hS hO=>?_,fun b o hS=>?_,fun b l t hO=>he.olt b l t (hOo b l t hO),fun b l t hO=>he.onew b l t (hOo b l t hO),by simp [hml,hn,hlk],fun i cs' r' hi hr' hne'=>?_⟩,h.defers,h.size,List.prefix_take_iff.2 ⟨h.pre,hk⟩,fun i p hp=>?_⟩
 · rcases hb with hb | ⟨rfl,ho⟩
   · exact he.snew b o hb
   · rcases he.onew _ _ _ (hown (hpos o ho)) with g | ⟨l0,t0,g1,g2⟩
     · exact .inr (.inl g)
     · exact .inr (.inr ⟨l0,t0,g1,by omega⟩)
 · rcases hS with hS | ⟨hS,ho⟩
   · exact he.sown b o l t hS (hOo b l t hO)
   · rw [if_pos ⟨hS,hpos o ho⟩] at hO;cases hO
 · rcases hS with hS | ⟨rfl,ho⟩
   · exact he.slt b o hS
   · exact he.olt _ _ _ (hown (hpos o ho))
 · obtain ⟨cs0,hc0,hcl,hcp⟩:=hkeep i cs' hi
   have hin:i < n:=by
    have h0:i < keep.length:=(lG hc0)
    omega
   have hi':s.mem[i]? = some cs0:=by rw [hmem,List.getElem?_append_left (by omega)];exact hc0
   have hr2:m[i]? = some r':=by rw [List.getElem?_take,if_pos hin] at hr';exact hr'
   obtain ⟨g1,g2⟩:=he.mem i cs0 r' hi' hr2 (by rintro rfl;exact hne' (List.eq_nil_of_length_eq_zero (by simpa using hcl.symm)))
   refine ⟨hOr _ _ _ (by simp;omega) g1,g2.to rfl (Ext.refl S w) hS hcl.symm (fun j p hp=>?_) (fun p p' h0 h1 hs=>?_)⟩
   · obtain ⟨p0,hp0,hpp⟩:=hcp j p hp
     refine ⟨p0,hp0,fun v hv=>?_⟩
     have hext:=hv.ext (Ext.refl S w) hS (fun b t q hb=>hOr b _ t (by intro hc;have:=congrArg List.length hc;simp at this) hb) (fun _ _ h=>h)
     rcases hpp with ⟨rfl,hrb⟩ | rfl
     · exact hext.take n hrb
     · refine RP.frz n F H X hext hml (fun r' off l hr'=>?_) (fun r' off c k a cap l hr'=>?_) (fun r' l hr'=>?_)
       · rw [h1] at hr';injection hr' with hr';subst hr';exact hF off l
       · rw [h1] at hr';injection hr' with hr';subst hr';exact hH off c k a cap l
       · rw [h1] at hr';injection hr' with hr';subst hr';exact hX l
   · obtain ⟨p0,hp0,hpp⟩:=hcp 0 p' h1
     rw [h0] at hp0
     injection hp0 with hp0
     subst hp0
     rcases hpp with ⟨rfl,_⟩ | rfl
     · exact .inl rfl
     · exact .inl (by cases p<;>first | (simp only [PV.frz];done) | cases hs)
 · have hp':(s.slots.lookup i).map (PV.frz n F H X)=some p:=by rw [← lookup_map];exact hp
   cases hq:s.slots.lookup i with
   | none=>simp [hq] at hp'
   | some q=>
    simp only [hq,Option.map_some,Option.some.injEq] at hp'
    subst hp'
    refine RP.frz n F H X ((h.slots i q hq).ext (Ext.refl S w) hS (fun b t q' hb=>hOr b _ t (by intro hc;have:=congrArg List.getLast? hc;simp at this) hb) (fun _ _ h=>h)) hml (fun r' off l hr'=>?_) (fun r' off c k a cap l hr'=>?_) (fun r' l hr'=>?_)
    · rw [h1] at hr';injection hr' with hr';subst hr';exact hF off l
    · rw [h1] at hr';injection hr' with hr';subst hr';exact hH off c k a cap l
    · rw [h1] at hr';injection hr' with hr';subst hr';exact hX l
def ptrF (d:D) (off:Nat):PV:=if off=0 then .d (.ptr d) else .undef
def noH (_ _ _:Nat):PV:=.undef
theorem Rd.ofBlock (h:Rep K S O m s a w) {n r:Nat} {cs:List PV} {ds:List D} (hb:s.mem[n]? = some cs) (hr:m[n]? = some r) (hne:cs ≠ []) (hds:PV.toDs cs=some ds):
 ∀ (j:Nat) x,ds[j]? = some x→∃ v,w.cell? ⟨r,j,none⟩=some v∧v.oneCell'=true∧Rd w S x v:=fun j x hj=>by
 obtain ⟨gl,gd⟩:=PV.toDs_get _ _ hds
 obtain ⟨_,hblk⟩:=h.env.mem n cs r hb hr hne
 have hpl:plainB cs=true:=by
  match cs,hds with
  | [],_=>exact absurd rfl hne
  | .mapc _ :: _,hds=>simp [PV.toDs,PV.toD] at hds
  | .undef :: _,hds=>simp [PV.toDs,PV.toD] at hds
  | p :: _ :: _,hds=>cases p<;>first | rfl | simp [PV.toDs,PV.toD] at hds
  | [.d _],_=>rfl
  | [.nils],_=>rfl
  | [.osl _ _],_=>rfl
  | [.ref _ _],_=>rfl
  | [.rsl _ _ _ _],_=>rfl
  | [.mref _],_=>rfl
  | [.ifr _ _ _],_=>rfl
  | [.fn _ _ _],_=>rfl
  | [.agg _],_=>rfl
  | [.tup _],_=>rfl
  | [.when _ _],_=>rfl
 obtain ⟨vs,el,h3,h4,h5,h6⟩:=hblk.cells hpl
 obtain ⟨p,hp,hpd⟩:=gd j x hj
 have hlt:j < vs.size:=Nat.lt_of_lt_of_le (lG hp) h4
 exact ⟨vs[j],by rw [cell_of_row w r j vs el (0,0) h3];exact Array.getElem?_eq_getElem hlt,h5 j _ (Array.getElem?_eq_getElem hlt),(h6 j p _ hp (Array.getElem?_eq_getElem hlt)).toD x hpd⟩
theorem Le_freeze {keep:List (List PV)} {cs:List PV} {ds:List D} {d:D} (n:Nat) (hmem:s.mem=keep++[cs]) (hn:keep.length=n) (hds:PV.toDs cs=some ds) (hd:d.cells=ds) (hk:K.m0.length≤n)
 (hrf:keep.all (PV.refsBs n)=true):Le K s ⟨s.slots.map fun x=>(x.1,PV.frz n (ptrF d) noH .undef x.2),keep⟩:=by
 obtain ⟨gl,gd⟩:=PV.toDs_get _ _ hds
 refine Le_frz n ds.length (ptrF d) noH .undef hmem hn hk (by omega) rfl (fun i cs' hi=>⟨cs',hi,rfl,fun j p' hp=>⟨p',hp,.inl ⟨rfl,PV.refsBs_get (List.all_eq_true.1 hrf cs' (mG hi)) hp⟩⟩⟩) ?_
 intro S O m a w h r hr O'
 have hbn:s.mem[n]? = some cs:=by rw [hmem,List.getElem?_append_right (by omega)];simp [hn]
 refine ⟨fun off l=>?_,fun off c k ad cap l _ _ _ _=>.undef _ _,fun l=>.undef _ _⟩
 unfold ptrF
 by_cases ho:off=0
 · subst ho
   rw [if_pos rfl]
   have hlt:∀ (j:Nat) x,d.cells[j]? = some x→∃ v,w.cell? ⟨r,j,none⟩=some v∧v.oneCell'=true∧Rd w S x v:=fun j x hj=>by
    rw [hd] at hj
    exact Rd.ofBlock h hbn hr (by rintro rfl;simp only [PV.toDs] at hds;injection hds with hds;subst hds;simp at hj) hds j x hj
   refine .d _ _ _ (.ptr d _ rfl (fun j x hj=>?_) (fun j x v hj hv=>?_))
   · obtain ⟨v,g1,g2,_⟩:=hlt j x hj
     exact ⟨.inr ⟨rfl,by rw [hd] at hj;have:=(lG hj);show 0 + j < _;omega⟩,v,by rw [Nat.zero_add];exact g1,g2⟩
   · obtain ⟨v',g1,_,g3⟩:=hlt j x hj
     rw [Nat.zero_add,g1] at hv;injection hv with hv;subst hv
     exact g3.frame (fun _ _ _=>rfl) (fun _ _ _ _ h=>h) (fun _ _ h=>.inl h)
 · rw [if_neg ho];exact .undef _ _
def flat (xs:List D):List PV:=xs.flatMap fun x=>x.cells.map PV.d
theorem flat_cons (x:D) (xs:List D):flat (x :: xs)=x.cells.map PV.d++flat xs:=by simp [flat]
theorem flat_length {k:Nat}:∀ (xs:List D),(∀ x ∈ xs,x.cells.length=k)→(flat xs).length=xs.length * k
 | [],_=>by simp [flat]
 | x :: xs,h=>by
  rw [flat_cons,List.length_append,List.length_map,h x (by simp),flat_length xs (fun y hy=>h y (by simp [hy])),List.length_cons,Nat.add_mul];omega
theorem flat_toDs:∀ (xs:List D),PV.toDs (flat xs)=some (xs.flatMap D.cells)
 | []=>rfl
 | x :: xs=>by
  have hap:∀ (ds:List D) (ps:List PV) (es:List D),PV.toDs ps=some es→PV.toDs (ds.map PV.d++ps)=some (ds++es):=by
   intro ds ps es hps
   induction ds with
   | nil=>simpa using hps
   | cons d ds ih=>simp [PV.toDs,PV.toD,ih]
  rw [flat_cons,hap _ _ _ (flat_toDs xs),List.flatMap_cons]
theorem flatD_get {k:Nat}:∀ (xs:List D),(∀ x ∈ xs,x.cells.length=k)→∀ (i j:Nat) x y,xs[i]? = some x→x.cells[j]? = some y→(xs.flatMap D.cells)[i * k + j]? = some y
 | [],_,i,j,x,y,hi,_=>by simp at hi
 | z :: xs,h,i,j,x,y,hi,hj=>by
  have hz:z.cells.length=k:=h z (by simp)
  rw [List.flatMap_cons]
  cases i with
  | zero=>
   simp at hi;subst hi
   have:=(lG hj)
   rw [Nat.zero_mul,Nat.zero_add,List.getElem?_append_left this];exact hj
  | succ i=>
   have hge:z.cells.length≤(i + 1) * k + j:=by rw [hz,Nat.add_mul];omega
   rw [List.getElem?_append_right hge,show (i + 1) * k + j - z.cells.length=i * k + j by rw [hz,Nat.add_mul];omega]
   exact flatD_get xs (fun y hy=>h y (by simp [hy])) i j x y (by simpa using hi) hj
theorem CSub_flat (n:Nat):∀ xs:List D,CSub n (flat xs) (flat xs)
 | []=>.nil
 | x :: xs=>by
  have hap:∀ (ds:List D) (ps:List PV),CSub n ps ps→CSub n (ds.map PV.d++ps) (ds.map PV.d++ps):=by
   intro ds ps hps
   induction ds with
   | nil=>simpa using hps
   | cons d ds ih=>exact .cons (.inl rfl) rfl ih
  rw [flat_cons];exact hap _ _ (CSub_flat n xs)
def noF (_:Nat):PV:=.undef
theorem Rd.sub {xs:List D} {a:Option Addr} {cap l h:Nat} (hr:Rd w S (.sl xs) (.slice a xs.length cap)) (hlh:l≤h) (hh:h≤xs.length) (hk:∀ x ∈ xs,x.cells.length=n):
 Rd w S (.sl ((xs.take h).drop l)) (sliced a l h cap n):=by
 generalize hL:xs.length=L at hr
 cases hr with
 | sl _ _ _ k hcap hlim hk0 hn hc hrd=>
  have hlen:((xs.take h).drop l).length=h - l:=by simp;omega
  have hget:∀ (i:Nat) x,((xs.take h).drop l)[i]? = some x→xs[l + i]? = some x:=by
   intro i x hi
   rw [List.getElem?_drop,List.getElem?_take] at hi
   split at hi
   · exact hi
   · cases hi
  have hv:sliced a l h cap n=.slice (if cap=l then a else a.map (·.add (l * n))) ((xs.take h).drop l).length (cap - l):=by rw [hlen];rfl
  rw [hv]
  have hadr:∀ ad',(if cap=l then a else a.map (·.add (l * n)))=some ad'→∃ ad,a=some ad∧(cap=l∧ad'=ad∨cap ≠ l∧ad'=ad.add (l * n)):=by
   intro ad' had
   split at had
   · exact ⟨ad',had,.inl ⟨by assumption,rfl⟩⟩
   · cases a with
     | none=>cases had
     | some ad=>exact ⟨ad,rfl,.inr ⟨by assumption,by injection had with had;exact had.symm⟩⟩
  have hk1:∀ (i:Nat) x,((xs.take h).drop l)[i]? = some x→k=n:=fun i x hi=>by
   have hm:=mG (hget i x hi)
   exact (hk0 x hm).symm.trans (hk x hm)
  refine .sl _ _ _ n (by rw [hlen];omega) (by rw [hlen];omega) (fun x hx=>hk x (List.mem_of_mem_take (List.mem_of_mem_drop hx))) ?_ ?_ ?_
  · intro hnone
    have ha:a=none:=by
     split at hnone
     · exact hnone
     · cases a with
       | none=>rfl
       | some ad=>cases hnone
    rw [hn ha];simp
  · intro ad' had'
    obtain ⟨ad,ha,hor⟩:=hadr ad' had'
    intro i x j y hi hj
    have hsp:=(hc ad ha (l + i) x j y (hget i x hi) hj).1
    have hadd:ad.add (l * n)=⟨ad.block,ad.off + l * n,none⟩:=by
     have:ad=⟨ad.block,ad.off,none⟩:=by cases ad;simp_all
     rw [this];simp [add_at]
    rw [hadd] at hor
    rcases hor with ⟨hcl,rfl⟩ | ⟨hcl,rfl⟩
    · exfalso
      have:=(lG hi)
      rw [hlen] at this;omega
    · have e:=hk1 i x hi;subst e
      have:=(hc ad ha (l + i) x j y (hget i x hi) hj).2
      exact ⟨rfl,by simpa [Nat.add_mul,Nat.add_assoc] using this⟩
  · intro ad' i x j y v had' hi hj hcell
    obtain ⟨ad,ha,hor⟩:=hadr ad' had'
    have hsp:=(hc ad ha (l + i) x j y (hget i x hi) hj).1
    have hadd:ad.add (l * n)=⟨ad.block,ad.off + l * n,none⟩:=by
     have:ad=⟨ad.block,ad.off,none⟩:=by cases ad;simp_all
     rw [this];simp [add_at]
    rw [hadd] at hor
    rcases hor with ⟨hcl,rfl⟩ | ⟨hcl,rfl⟩
    · exfalso
      have:=(lG hi)
      rw [hlen] at this;omega
    · have e:=hk1 i x hi;subst e
      exact hrd ad (l + i) x j y v ha (hget i x hi) hj (by simpa [Nat.add_mul,Nat.add_assoc] using hcell)
theorem elem_of (hu:P.underlying ty=some (.slice e)):P.underlying ty=some (.slice (P.elem ty)):=by
 have:P.elem ty=e:=by simp [Program.elem,hu]
 rw [this];exact hu
theorem sizeOf_of (hu:P.underlying ty=some (.slice e)) (hz:(P.info? e).map (·.size)=some n) (w:World):(sizeOf (P.elem ty)).run P w=.ok n w:=by
 have he:P.elem ty=e:=by simp [Program.elem,hu]
 rw [he]
 cases hq:P.info? e with
 | none=>simp [hq] at hz
 | some inf=>
  have hs:inf.size=n:=by simpa [hq] using hz
  simp [sizeOf,typeInfo,hq,hs]
variable {k:IntKind} {i:Int}
theorem Q_slicel {lo:Operand} {xs ys:List D}
 (hx:s.ev x=.d (.sl xs)) (hl:s.ev lo=.d (.int k i)) (hu:K.P.underlying ty=some (.slice e)) (hz:(K.P.info? e).map (·.size)=some n) (h0:0≤i) (h1:i≤(xs.length:Nat)) (hk:∀ x ∈ xs,x.cells.length=n) (hy:xs.drop i.toNat=ys):
 Qy K ⟨some t,.slice ty x (some lo) none none,rt,pos,af,g⟩ s t (.d (.sl ys)):=by
 subst hy
 refine fun S O m ac w h=>?_
 have hr:=h.evd hx
 have hli:=rd_int (h.evd hl)
 generalize hv:ac.eval x=v at hr
 have hr':=hr
 cases hr' with
 | sl _ a cap k' _ _ _ _ _ _=>
  refine ⟨sliced a i.toNat xs.length cap n,fun w _=>?_,.d _ _ _ ?_⟩
  · simp only [execOp,Option.map_some,Option.map_none,hv,hli]
    simp only [Sem.run_bind,run_sliceAt_slice w ty _ _ _ _ (elem_of hu),run_slice_l w ty a xs.length cap (elem_of hu) k i h0 h1,sizeOf_of hu hz w,Result.andThen_ok]
    rfl
  · have:=hr.sub (l:=i.toNat) (h:=xs.length) (by omega) (Nat.le_refl _) hk
    simpa using this
theorem Q_sliceh {hi:Operand} {xs ys:List D} {j:Int}
 (hx:s.ev x=.d (.sl xs)) (hh:s.ev hi=.d (.int k j)) (hu:K.P.underlying ty=some (.slice e)) (hz:(K.P.info? e).map (·.size)=some n) (h0:0≤j) (h1:j≤(xs.length:Nat)) (hk:∀ x ∈ xs,x.cells.length=n) (hy:xs.take j.toNat=ys):
 Qy K ⟨some t,.slice ty x none (some hi) none,rt,pos,af,g⟩ s t (.d (.sl ys)):=by
 subst hy
 refine fun S O m ac w h=>?_
 have hr:=h.evd hx
 have hli:=rd_int (h.evd hh)
 generalize hv:ac.eval x=v at hr
 have hr':=hr
 cases hr' with
 | sl _ a cap k' hcap _ _ _ _ _=>
  refine ⟨sliced a 0 j.toNat cap n,fun w _=>?_,.d _ _ _ ?_⟩
  · simp only [execOp,Option.map_some,Option.map_none,hv,hli]
    simp only [Sem.run_bind,run_sliceAt_slice w ty _ _ _ _ (elem_of hu),run_slice_h w ty a xs.length cap (elem_of hu) k j h0 (by omega),sizeOf_of hu hz w,Result.andThen_ok]
    rfl
  · have:=hr.sub (l:=0) (h:=j.toNat) (by omega) (by omega) hk
    simpa using this
theorem Q_slicelh {lo hi:Operand} {xs ys:List D} {k':IntKind} {j:Int}
 (hx:s.ev x=.d (.sl xs)) (hl:s.ev lo=.d (.int k i)) (hh:s.ev hi=.d (.int k' j)) (hu:K.P.underlying ty=some (.slice e)) (hz:(K.P.info? e).map (·.size)=some n) (h0:0≤i) (h01:i≤j) (h1:j≤(xs.length:Nat)) (hk:∀ x ∈ xs,x.cells.length=n)
 (hy:(xs.take j.toNat).drop i.toNat=ys):Qy K ⟨some t,.slice ty x (some lo) (some hi) none,rt,pos,af,g⟩ s t (.d (.sl ys)):=by
 subst hy
 refine fun S O m ac w h=>?_
 have hr:=h.evd hx
 have hli:=rd_int (h.evd hl)
 have hhi:=rd_int (h.evd hh)
 generalize hv:ac.eval x=v at hr
 have hr':=hr
 cases hr' with
 | sl _ a cap k' hcap _ _ _ _ _=>
  refine ⟨sliced a i.toNat j.toNat cap n,fun w _=>?_,.d _ _ _ ?_⟩
  · simp only [execOp,Option.map_some,Option.map_none,hv,hli,hhi]
    simp only [Sem.run_bind,run_sliceAt_slice w ty _ _ _ _ (elem_of hu),run_slice_lh w ty a xs.length cap (elem_of hu) _ _ i j h0 h01 (by omega),sizeOf_of hu hz w,Result.andThen_ok]
    rfl
  · exact hr.sub (l:=i.toNat) (h:=j.toNat) (by omega) (by omega) hk
theorem Q_strindex {ix:Operand} {b:ByteArray}
 (hx:s.ev x=.d (.str b)) (hi:s.ev ix=.d (.int k i)) (hu:K.P.underlying ty=some .string) (h0:0≤i) (h1:i < (b.size:Nat)):
 Qy K ⟨some t,.index ty x ix,rt,pos,af,g⟩ s t (.d (.int .u8 (b[i.toNat]!).toNat)):=by
 refine fun S O m ac w h=>⟨.int .u8 (b[i.toNat]!).toNat,fun w _=>?_,.d _ _ _ (.int _ _)⟩
 have hb:=rd_str (h.evd hx)
 have hn:=rd_int (h.evd hi)
 simp only [execOp,hb,hn]
 have hlt:i.toNat < b.size:=by omega
 have e:b[i.toNat]! = b[i.toNat]:=getElem!_pos b i.toNat hlt
 simp only [Sem.run_bind,run_index_string w ty b k i hu,dif_pos (And.intro h0 h1),Result.andThen_ok]
 rw [e]
 rfl
def D.leafV:D→Option Value
 | .int k n=>some (.int k n)
 | .bool b=>some (.bool b)
 | .str x=>some (.string x)
 | _=>none
def D.leafVs:List D→Option (List Value)
 | []=>some []
 | d :: ds=>match d.leafV,D.leafVs ds with
  | some v,some vs=>some (v :: vs)
  | _,_=>none
theorem D.leafVs_get:∀ (ds:List D) (vs:List Value),D.leafVs ds=some vs→vs.length=ds.length∧∀ (i:Nat) d,ds[i]? = some d→d.leafV=vs[i]?
 | [],vs,h=>by simp only [D.leafVs] at h;injection h with h;subst h;exact ⟨rfl,fun i d h=>by simp at h⟩
 | d :: ds,vs,h=>by
  simp only [D.leafVs] at h
  split at h
  · rename_i v vs' h1 h2
    injection h with h;subst h
    obtain ⟨g1,g2⟩:=D.leafVs_get ds vs' h2
    refine ⟨by simp [g1],fun i e he=>?_⟩
    cases i with
    | zero=>simp at he;subst he;simpa using h1
    | succ i=>simpa using g2 i e (by simpa using he)
  · cases h
theorem rd_leafs {cs:List D} {v:Value} {vs:List Value} (h:Rd w S (.agg cs) v) (hv:D.leafVs cs=some vs):v=.agg vs.toArray:=by
 obtain ⟨g1,g2⟩:=D.leafVs_get cs vs hv
 cases h with
 | agg _ us hl ho hr=>
  congr 1
  apply Array.ext
  · simp [hl,g1]
  · intro i hi hi'
    have hc:i < cs.length:=by omega
    have hd:=hr i cs[i] us[i] (gE hc) (Array.getElem?_eq_getElem hi)
    have hv':=g2 i cs[i] (gE hc)
    have hvi:i < vs.length:=by omega
    rw [gE hvi] at hv'
    simp only [List.getElem_toArray]
    generalize cs[i]=d at hd hv'
    generalize us[i]=u at hd ⊢
    generalize vs[i]=v' at hv' ⊢
    cases hd<;>simp only [D.leafV] at hv'<;>first | (cases hv';rfl) | cases hv'
theorem Q_structne {y:Operand} {cs ds:List D} {vs us:List Value} {r:Bool}
 (hx:s.ev x=.d (.agg cs)) (hy:s.ev y=.d (.agg ds)) (hc:D.leafVs cs=some vs) (hd:D.leafVs ds=some us) (hm:K.P.eqGuardType K.P.depth ty=false) (hu:K.P.underlying ty=some (.struct (K.P.fieldsOf ty))) (hp:K.P.stoodInHeld ty=false)
 (hr:∀ w,(Op.eqFields 9999 vs.toArray us.toArray (K.P.fieldsOf ty).toList).run K.P w=.ok r w):Qy K ⟨some t,.binOp .neq ty x y yt,rt,pos,af,g⟩ s t (.d (.bool (!r))):=by
 refine fun S O m ac w h=>⟨.bool (!r),fun w _=>?_,.d _ _ _ (.bool _)⟩
 have h1:=rd_leafs (h.evd hx) hc
 have h2:=rd_leafs (h.evd hy) hd
 simp only [execOp,h1,h2]
 simp only [Sem.run_bind,run_eqGuard_agg w .neq ty x y vs.toArray us.toArray hm,Result.andThen_ok,run_neq_struct,run_equalIn_agg w 9999 ty vs.toArray us.toArray hu hp,hr]
 rfl
theorem Q_boolne {y:Operand} {a:Bool}
 (hx:s.ev x=.d (.bool a)) (hy:s.ev y=.d (.bool b)) (hu:K.P.underlying ty=some .bool):
 Qy K ⟨some t,.binOp .neq ty x y yt,rt,pos,af,g⟩ s t (.d (.bool (a != b))):=by
 refine fun S O m ac w h=>⟨.bool (a != b),fun w _=>?_,.d _ _ _ (.bool _)⟩
 have h1:=rd_bool (h.evd hx)
 have h2:=rd_bool (h.evd hy)
 have he:(Op.equal ty (.bool a) (.bool b)).run K.P w=.ok (a == b) w:=by
  rw [Op.equal,show Op.maxDepth=9999 + 1 from rfl,Op.equalIn]
  simp [run_underlying hu]
 simp only [execOp,h1,h2]
 have hb:binOp .neq ty (.bool a) (.bool b)=(do pure (.bool (!(← Op.equal ty (.bool a) (.bool b))))):=by rfl
 simp only [hb]
 simp [eqGuard,he,bne]
theorem GOps_le {ops:Array Oper} {Q:Exit→GS→Prop} {l:List Nat} {s':GS} (h:Le K s s') (hg:GOps K ops Q l s'):GOps K ops Q l s:=fun a w ha=>hg a w (h a w ha)
theorem Le.trans {s' s'':GS} (h:Le K s s') (h':Le K s' s''):Le K s s'':=fun a w ha=>h' a w (h a w ha)
end
section
variable {K:Ctx} {s:GS}
theorem J0 {A:Prop} (h:A:=by simp only [GS.set,PV.copy,PV.copies,mkAgg,PV.toDs,PV.toD,splice,List.set_cons_zero,List.set_cons_succ,List.take_zero,List.take_succ_cons,List.drop_zero,List.drop_succ_cons,List.nil_append,List.cons_append,List.append_nil,List.length_cons,List.length_nil,Nat.reduceAdd,Nat.zero_add,Nat.add_zero,List.take_nil,List.drop_nil,List.map_cons,List.map_nil,PV.cellsOf,Option.map_some,GS.ev,GS.get,List.lookup_cons,Nat.reduceBEq,Option.getD_some,Option.getD_none,List.lookup_nil,ofConst]<;>rfl):A:=h
theorem sv {ops:Array Oper} {Q:Exit→GS→Prop} {s' s'':GS} {i:Nat} {rest:List Nat} {o:Oper} (ho:ops[i]? = some o) (hy:Yld K o s s') (h:GOps K ops Q rest s'') (hg:o.guard=none:=by rfl)
 (hs:s'=s'':=by exact J0):GOps K ops Q (i :: rest) s:=S_val ho hg hy hs h
def GS.keep (l:List Nat) (s:GS):GS:=⟨s.slots.filter fun x=>l.contains x.1,s.mem⟩
def Fok (P:Program) (f:FuncId):Prop:=∃ fn,P.funcs[f]? = some fn∧fn.body.isSome=true∧(fn.name == "runtime.NumGoroutine")=false
def Pf (P:Program) (f:FuncId) (args:List D) (r:PV):Prop:=Fok P f∧Pure P f args r
theorem pf_body {P:Program} {f:FuncId} {fn:Func} {c:Code} {args:List D} {r:PV} {n:Nat} {rvs:List ResultVar} (slots:List (Nat×PV)) (hf:P.funcs[f]? = some fn) (hn:fn.ntmps=n) (hres:fn.results=rvs.toArray)
 (h:∀ S0 O0 w0 m0,m0.length=0→G ⟨P,n,S0,O0,w0,m0,[],[]⟩ c (Fin P rvs 0 (fun q m=>q=r∧m=[])) ⟨slots,[]⟩)
 (hb:fn.body=some c:=by rfl) (hnm:(fn.name == "runtime.NumGoroutine")=false:=by rfl) (hal:args.length≤n:=by exact oR rfl) (hsl:(List.range (args.map PV.d).length).zip (args.map PV.d)=slots:=by rfl):Pf P f args r:=
 ⟨⟨fn,hf,by rw [hb];rfl,hnm⟩,gcall_body n rvs slots 0 hf hb hn (by simpa using hal) hres hsl rfl h⟩
def Gm (P:Program) (f:FuncId) (args:List PV) (mem:List (List PV)) (r:PV) (mem':List (List PV)):Prop:=Fok P f∧GCall P f args mem (fun q m=>q=r∧m=mem')
theorem gm_body {P:Program} {f:FuncId} {fn:Func} {c:Code} {args:List PV} {mem mem':List (List PV)} {r:PV} {n:Nat} {rvs:List ResultVar} (k:Nat) (slots:List (Nat×PV)) (hf:P.funcs[f]? = some fn) (hn:fn.ntmps=n) (hres:fn.results=rvs.toArray)
 (h:∀ S0 O0 w0 m0,m0.length=k→G ⟨P,n,S0,O0,w0,m0,[],[]⟩ c (Fin P rvs k (fun q m=>q=r∧m=mem')) ⟨slots,mem⟩)
 (hb:fn.body=some c:=by rfl) (hnm:(fn.name == "runtime.NumGoroutine")=false:=by rfl) (hal:args.length≤n:=by exact oR rfl) (hsl:(List.range args.length).zip args=slots:=by rfl) (hk:mem.length=k:=by rfl):Gm P f args mem r mem':=
 ⟨⟨fn,hf,by rw [hb];rfl,hnm⟩,gcall_body n rvs slots k hf hb hn hal hres hsl hk h⟩
theorem J2 {A:Prop} (h:A:=by simp only [GS.ev,GS.get,List.lookup_cons,Nat.reduceBEq,Option.getD_some,Option.getD_none,List.lookup_nil,ofConst]<;>rfl):A:=h
theorem le_of {s':GS} (hk:K.m0.length≤s'.mem.length:=by first | (dsimp only [List.length_cons,List.length_nil,List.length_append];omega) | simp_all)
 (hm:MSub s'.mem.length s.mem s'.mem:=by repeat (first | exact MSub.nil | (refine MSub.cons (by repeat (first | exact CSub.nil | refine CSub.cons (by first | exact .inl rfl | exact .inr (.inr (.inl ⟨rfl,_,rfl⟩)) | exact .inr (.inr (.inr (.inl ⟨rfl,rfl⟩))) | exact .inr (.inl rfl) | exact .inr (.inr (.inr (.inr ⟨_,_,rfl,rfl⟩)))) rfl ?_ | exact CSub_flat _ _)) ?_)))
 (hs:Sub s s'.mem.length s'.slots:=by repeat (first | exact Sub.nil | refine Sub.cons (by exact J2) (by first | exact .inl rfl | exact .inr (.inr (.inl ⟨rfl,_,rfl⟩)) | exact .inr (.inr (.inr (.inl ⟨rfl,rfl⟩))) | exact .inr (.inl rfl) | exact .inr (.inr (.inr (.inr ⟨_,_,rfl,rfl⟩)))) rfl ?_)):Le K s s':=Le_of hk hm hs
theorem vq {ops:Array Oper} {Q:Exit→GS→Prop} {s'':GS} {i t:Nat} {rest:List Nat} {o:Oper} {p:PV} (ho:ops[i]? = some o) (hq:Qy K o s t p) (h:GOps K ops Q rest s'') (hg:o.guard=none:=by rfl) (hd:o.dst=some t:=by rfl) (ht:t < K.n:=by exact oR rfl)
 (hs:s.set t p=s'':=by exact J0):GOps K ops Q (i :: rest) s:=sv ho (Yld_pure hd ht hq) h hg hs
end
end Go.Proofs.YtoonleefemkalaaDoor.E
namespace Go.Proofs.YtoonleefemkalaaDoor.E
open Go Go.RowKit
def allOf (W:World):Reg:=fun b _=>b < W.heap.size
theorem Env.start (W:World):Env (allOf W) noOwns W (allOf W) noOwns [] [] W where
 ext:=Ext.refl _ W
 old:=fun _ _ _=>rfl
 part:=fun _ _ _ _ _ h=>by cases h
 s0:=fun _ _ h=>h
 snew:=fun _ _ h=>.inl h
 sown:=fun _ _ _ _ _ h=>by cases h
 slt:=fun _ _ h=>h
 olt:=fun _ _ _ h=>by cases h
 onew:=fun _ _ _ h=>by cases h
 mlen:=rfl
 mem:=fun _ _ _ h=>by simp at h
theorem Env.below {W w':World} {S0 S':Reg} {O':Owns} {m':List Nat} {mem':List (List PV)} (h:Env S0 noOwns W S' O' m' mem' w'):Below W.heap.size W w':=
 ⟨h.ext.os,h.ext.tape,h.ext.output,h.ext.size,fun k hk=>h.old k hk rfl⟩
theorem Pure.row {P:Program} {f:FuncId} {ds:List D} {b:Bool} (h:Pure P f ds (.d (.bool b))) (W:World) (vals:Array Value) (hsz:vals.size=ds.length)
 (hr:∀ (i:Nat) d v,ds[i]? = some d→vals[i]? = some v→Rd W (allOf W) d v):
 Calls P f vals W fun e w'=>e=.returned (.bool b)∧Below W.heap.size W w':=by
 refine (h W (allOf W) noOwns [] vals (Env.start W) (by simpa using hsz) ?_).mono ?_
 · intro i p v hi hv
   rw [List.getElem?_map] at hi
   cases hd:ds[i]? with
   | none=>rw [hd] at hi;cases hi
   | some d=>
    rw [hd] at hi
    cases hi
    exact .d _ d v (hr i d v hd hv)
 · rintro e w' ⟨v,r,mem',S',O',m',rfl,⟨rfl,rfl⟩,henv,_,hrp⟩
   refine ⟨?_,henv.below⟩
   cases hrp with
   | d _ _ _ hd=>rw [rd_bool hd]
end Go.Proofs.YtoonleefemkalaaDoor.E
