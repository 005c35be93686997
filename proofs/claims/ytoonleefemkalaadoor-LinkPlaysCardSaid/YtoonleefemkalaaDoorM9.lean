import Derived.Test.YtoonleefemkalaaDoorM8
import Derived.Tactics
import Derived.Tactics2
/- Contracts of functions. Conditions: none. -/
set_option linter.unusedSimpArgs false
set_option linter.unusedVariables false
namespace Go.Proofs.YtoonleefemkalaaDoor.E
open Go
section
theorem put_self (a:Act) (t:Nat):a.put (some t) (a.tmps.getD t undef)=a:=by
 unfold Act.put
 simp only
 congr 1
 apply Array.ext
 · simp
 · intro i h1 h2
   rw [Array.getElem_setIfInBounds]
   split
   · rename_i h;subst h
     rw [Array.getD_eq_getD_getElem?,Array.getElem?_eq_getElem h2];rfl
   · rfl
theorem GOps_callx {K:Ctx} {ops:Array Oper} {Q:Exit→GS→Prop} {s:GS} {i:Nat} {rest:List Nat} {o:Oper} {t:Nat} {fx:Operand} {xs:List Operand} {tys:Array TypeId} {f:FuncId} {fn:Func} {fa fc:List PV}
 {R:PV→List (List PV)→Prop} {RX:Value→List (List PV)→Prop} (sel:List Nat) (args0:List PV) (mem0:List (List PV))
 (ho:ops[i]? = some o) (hop:o.op=.call ⟨.value fx,xs.toArray,tys⟩) (hd:o.dst=some t) (hg:o.guard=none)
 (hfx:(s.ev fx).callee'=some (f,fa,fc)) (hargs:PV.copies (fa++xs.map s.ev++fc)=PV.rens (fun b=>sel.getD b 0) args0)
 (hnd:sel.Nodup) (hsel:∀ b ∈ sel,b < s.mem.length) (hmem:sel.map (fun b=>s.mem.getD b [])=mem0.map (PV.rens (fun b=>sel.getD b 0)))
 (hra:PV.refsBs sel.length args0=true) (hrm:mem0.all (PV.refsBs sel.length)=true)
 (hf:K.P.funcs[f]? = some fn) (hb:fn.body.isSome=true) (hn:(fn.name == "runtime.NumGoroutine")=false) (ht:t < K.n)
 (hc:GX K.P f args0 mem0 R RX)
 (h:∀ r mem',R r mem'→mem'.length=sel.length∧GOps K ops Q rest (GS.set ⟨s.slots,setAll s.mem sel (mem'.map (PV.rens (fun b=>sel.getD b 0)))⟩ t (r.ren (fun b=>sel.getD b 0))))
 (hp:∀ v mem',RX v mem'→mem'.length=sel.length∧Q (.panic (chain1 v)) (GS.set ⟨s.slots,setAll s.mem sel (mem'.map (PV.rens (fun b=>sel.getD b 0)))⟩ t .undef)):
 GOps K ops Q (i :: rest) s:=by
 rintro a w ⟨S,O,m,hr⟩
 obtain ⟨l,hrf⟩:=hr.ev fx
 obtain ⟨vf,vc,hvf,hs1,hs2,g1,g2⟩:=hrf.callee' hfx
 have hrun:(execOp a.eval o).run K.P w=.ok (.enter f (vf++(xs.map a.eval).toArray++vc)) w:=by
  simp only [execOp,hop]
  simp [resolve,Deferred.ofValue,hvf,invoke,run_callFunc hf hb hn]
 simp only [wpOps,ho,Region.wanted,hg,if_true]
 refine .inl ?_
 simp only [Oper.wp,hrun,Oper.upon_enter]
 have hmget:∀ (b x:Nat),sel[b]? = some x→(sel.map (fun b=>m.getD b 0))[b]? = m[x]?:=fun b x hb=>by
  have hx:x < m.length:=by rw [hr.env.mlen];exact hsel x (mG hb)
  rw [List.getElem?_map,hb,Option.map_some,List.getD_eq_getElem?_getD,gE hx];rfl
 have hum:∀ (b r:Nat),b < sel.length→m[sel.getD b 0]? = some r→(sel.map (fun b=>m.getD b 0))[b]? = some r:=fun b r hb hm=>by
  have hs:sel[b]? = some sel[b]:=gE hb
  rw [hmget b _ hs]
  rw [List.getD_eq_getElem?_getD,hs] at hm;exact hm
 have hml0:mem0.length=sel.length:=by have:=congrArg List.length hmem;simpa using this.symm
 have hentry:Env S (fwd sel O) w S (fwd sel O) (sel.map (fun b=>m.getD b 0)) mem0 w:=by
  have he:=hr.env
  refine ⟨Ext.refl S w,fun _ _ _=>rfl,fun _ _ _ _ _ _ _=>rfl,fun _ _ h=>h,fun _ _ h=>.inl h,fun b o l t' hS hO=>?_,he.slt,fun b l t' hO=>?_,fun b l t' hO=>.inr ⟨l,t',hO,Nat.le_refl _⟩,by simp [hml0],fun j cs r' hj hr' hne'=>?_⟩
  · obtain ⟨q,x,h1,_,_⟩:=fwd_some hO;exact he.sown b o _ t' hS h1
  · obtain ⟨q,x,h1,_,_⟩:=fwd_some hO;exact he.olt b _ t' h1
  · have hjl:j < sel.length:=by rw [← hml0];exact (lG hj)
    have hsj:sel[j]? = some sel[j]:=gE hjl
    have hmx:m[sel[j]]? = some r':=by rw [← hmget j _ hsj];exact hr'
    have hcx:s.mem[sel[j]]? = some (PV.rens (fun b=>sel.getD b 0) cs):=by
     have h1:=congrArg (fun l=>l[j]?) hmem
     simp only [List.getElem?_map,hsj,hj,Option.map_some,Option.some.injEq] at h1
     have hlt:=hsel _ (mG hsj)
     rw [gE hlt,← h1,List.getD_eq_getElem?_getD,gE hlt];rfl
    obtain ⟨k1,k2⟩:=he.mem _ _ r' hcx hmx (by rw [PV.rens_map];simpa using hne')
    have hidx:sel.idxOf sel[j]=j:=hnd.idxOf_getElem j hjl
    refine ⟨?_,k2.to rfl (Ext.refl _ _) (fun _ _ h=>h) (by simp [PV.rens_map]) (fun jj p hp=>?_) PV.rens_bwd⟩
    · have:=fwd_of (sel:=sel) (O:=O) (r:=r') (x:=sel[j]) (t:=0) (q:=[]) (by simpa using k1) (mG hsj)
      simpa [hidx] using this
    · refine ⟨PV.ren (fun b=>sel.getD b 0) p,by rw [PV.rens_get,hp];rfl,fun u h2=>?_⟩
      have hb2:PV.refsB sel.length p=true:=PV.refsBs_get (List.all_eq_true.1 hrm cs (mG hj)) hp
      have h3:=h2.unren (m0:=sel.map (fun b=>m.getD b 0)) (fun b=>sel.getD b 0) sel.length hum p hb2 rfl
      refine h3.frame _ (Ext.refl _ _) (fun _ _ h=>h) (fun b t' q hO=>?_) (fun _ _ h=>h)
      have:=fwd_of (sel:=sel) (O:=O) (r:=b) (x:=sel[j]) (t:=t') (q:=q++[jj]) (by simpa using hO) (mG hsj)
      simpa [hidx] using this
 have hlen:(fa++xs.map s.ev++fc).length=args0.length:=by have:=congrArg List.length hargs;simpa [PV.copies_map,PV.rens_map] using this
 have hcall:=hc w S (fwd sel O) (sel.map (fun b=>m.getD b 0)) (vf++(xs.map a.eval).toArray++vc) hentry (by simp at hlen;simp [hs1,hs2];omega) (fun j p v hp hv=>by
  have hb2:PV.refsB sel.length p=true:=PV.refsBs_get hra hp
  have h1:(PV.copies (fa++xs.map s.ev++fc))[j]? = some (PV.ren (fun b=>sel.getD b 0) p):=by rw [hargs,PV.rens_get,hp];rfl
  obtain ⟨q,hq,hqe⟩:=PV.copies_getElem? _ _ _ h1
  have hex:∃ l',RP w S O m l' q v:=by
   by_cases h1:j < fa.length
   · rw [List.append_assoc,List.getElem?_append_left h1] at hq
     rw [Array.append_assoc,Array.getElem?_append_left (by omega)] at hv
     exact g1 j q v hq hv
   · by_cases h2:j < fa.length + xs.length
     · rw [List.getElem?_append_left (by simp;omega),List.getElem?_append_right (by omega),List.getElem?_map] at hq
       rw [Array.getElem?_append_left (by simp;omega),Array.getElem?_append_right (by omega),hs1] at hv
       cases hx:xs[j - fa.length]? with
       | none=>simp [hx] at hq
       | some x=>simp [hx] at hq hv;subst hq;subst hv;exact hr.ev x
     · rw [List.getElem?_append_right (by simp;omega)] at hq
       rw [Array.getElem?_append_right (by simp;omega)] at hv
       refine g2 _ q v hq ?_
       rw [← hv];congr 1;simp;omega
  obtain ⟨l',hl'⟩:=hex
  have h4:RP w S (fwd sel O) m [j,0] q.copy v:=hl'.copy _ _
  rw [← hqe] at h4
  exact h4.unren (fun b=>sel.getD b 0) sel.length hum p hb2 rfl)
 refine Calls.mono hcall ?_
 have hmm:∀ (m':List Nat) (mem':List (List PV)) (S':Reg) (O':Owns) (w':World),Env S (fwd sel O) w S' O' m' mem' w'→mem'.length=sel.length→sel.map (fun b=>m.getD b 0) <+: m'→m'=sel.map (fun b=>m.getD b 0):=fun m' mem' S' O' w' henv hml hm=>by
  have h1:m'.length=sel.length:=by rw [henv.mlen];exact hml
  exact (hm.eq_of_length (by simp [h1])).symm
 rintro e w' (⟨v,r,mem',S',O',m',rfl,hR,henv,hm,hres⟩ | ⟨v,mem',S',O',m',rfl,hR,henv,hm⟩)
 · obtain ⟨hml,hrest⟩:=h r mem' hR
   obtain rfl:=hmm m' mem' S' O' w' henv hml hm
   simp only
   rw [hd]
   exact hrest _ _ (hr.afterm hnd hsel rfl henv ht hres)
 · obtain ⟨hml,hq⟩:=hp v mem' hR
   obtain rfl:=hmm m' mem' S' O' w' henv hml hm
   simp only
   have h1:=hr.afterm hnd hsel rfl henv ht (r:=.undef) (v:=a.tmps.getD t undef) (.undef _ _)
   rw [put_self] at h1
   exact ⟨_,hq,h1⟩
def Xm (P:Program) (f:FuncId) (args:List PV) (mem:List (List PV)) (out:PV ⊕ Value) (mem':List (List PV)):Prop:=Fok P f∧GX P f args mem (fun q m=>out=.inl q∧m=mem') (fun v m=>out=.inr v∧m=mem')
section
variable {K:Ctx} {x y:Code} {Qr:Exit→Act→World→Prop} {s s':GS} {ops:Array Oper} {i:Nat} {rest:List Nat} {o:Oper}
end
end
section
def andI (a b:Int):Int:=IntKind.i64.wrap (BitVec.ofInt 64 a &&& BitVec.ofInt 64 b).toNat
def orI (a b:Int):Int:=IntKind.i64.wrap (BitVec.ofInt 64 a ||| BitVec.ofInt 64 b).toNat
end
section
inductive ZK where
 | int (k:IntKind) | bool | str | sl | ptr | fn | ifc | map
def ZK.pv:ZK→PV
 | .int k=>.d (.int k 0)
 | .bool=>.d (.bool false)
 | .str=>.d (.str ⟨#[]⟩)
 | .sl=>.nils
 | .ptr=>.d .nil
 | .fn=>.d .nilF
 | .ifc=>.d .nilI
 | .map=>.d .nilM
def ZK.val:ZK→Value
 | .int k=>.int k 0
 | .bool=>.bool false
 | .str=>.string ⟨#[]⟩
 | .sl=>.slice none 0 0
 | .ptr=>.pointer none
 | .fn=>.nilFunc
 | .ifc=>.nilIface
 | .map=>.map none
theorem ZK.of (z:ZK):ofConst z.val=z.pv:=by cases z<;>rfl
theorem ZK.one (z:ZK):z.val.oneCell'=true:=by cases z<;>rfl
def ZK.is:ZK→Value→Bool
 | .int k,.int k' n=>decide (k=k') && decide (n=0)
 | .bool,.bool b=>!b
 | .str,.string s=>decide (s.data.toList=[])
 | .sl,.slice none a b=>Nat.beq a 0 && Nat.beq b 0
 | .ptr,.pointer none=>true
 | .fn,.nilFunc=>true
 | .ifc,.nilIface=>true
 | .map,.map none=>true
 | _,_=>false
theorem ZK.is_of:∀ (z:ZK) (v:Value),z.is v=true→v=z.val
 | .int k,.int k' n,h=>by
  rw [ZK.is,Bool.and_eq_true,decide_eq_true_eq,decide_eq_true_eq] at h
  rw [ZK.val,h.1,h.2]
 | .bool,.bool b,h=>by cases b<;>first | rfl | cases h
 | .str,.string ⟨⟨l⟩⟩,h=>by rw [ZK.is,decide_eq_true_eq] at h;change l=[] at h;subst h;rfl
 | .sl,.slice none a b,h=>by
  rw [ZK.is,Bool.and_eq_true] at h
  rw [Nat.eq_of_beq_eq_true h.1,Nat.eq_of_beq_eq_true h.2];rfl
 | .ptr,.pointer none,_=>rfl
 | .fn,.nilFunc,_=>rfl
 | .ifc,.nilIface,_=>rfl
 | .map,.map none,_=>rfl
def zsB:List Value→List ZK→Bool
 | [],[]=>true
 | v :: vs,z :: zs=>z.is v && zsB vs zs
 | _,_=>false
theorem zsB_of:∀ (vs:List Value) (zs:List ZK),zsB vs zs=true→vs=zs.map ZK.val
 | [],[],_=>rfl
 | v :: vs,z :: zs,h=>by
  rw [zsB,Bool.and_eq_true] at h
  rw [z.is_of v h.1,zsB_of vs zs h.2];rfl
 | [],_ :: _,h=>by cases h
 | _ :: _,[],h=>by cases h
inductive TK where
 | bool | int (k:IntKind) | str | ptr | slice (e:TypeId) (n b:Nat) (zs:List ZK) | struct (fs:List (Nat×Nat×Bool)) | array (n m:Nat) | map (k e:TypeId) | other
structure TI where
 leaf:Bool
 size:Nat
 zs:List ZK
 kind:TK
def infB (P:Program) (ty:TypeId) (n b:Nat) (zs:List ZK):Bool:=match P.info? ty with
 | some i=>Nat.beq i.size n && (Nat.beq i.bytes b && (match i.zero with | some z=>zsB z.cells.toList zs | none=>false))
 | none=>false
def sizB (P:Program) (ty:TypeId) (n:Nat):Bool:=match P.info? ty with
 | some i=>Nat.beq i.size n
 | none=>false
def leafB (P:Program) (ty:TypeId) (l:Bool):Bool:=match P.underlying ty with
 | some d=>leafT d == l
 | none=>false
def fldB (P:Program):List Field→List (Nat×Nat×Bool)→Bool
 | [],[]=>true
 | f :: fs,(o,n,l) :: r=>Nat.beq f.offset o && (sizB P f.type n && (leafB P f.type l && fldB P fs r))
 | _,_=>false
def kndB (P:Program):TypeDesc→TK→Bool
 | .bool,.bool=>true
 | .int k,.int k'=>decide (k=k')
 | .string,.str=>true
 | .pointer _,.ptr=>true
 | .slice e,.slice e' n b zs=>Nat.beq e e' && infB P e n b zs
 | .struct fs,.struct l=>fldB P fs.toList l
 | .array n e,.array n' m=>Nat.beq n n' && sizB P e m
 | .map k e,.map k' e'=>Nat.beq k k' && Nat.beq e e'
 | _,.other=>true
 | _,_=>false
def aggV:Value→Bool
 | .agg _=>true
 | _=>false
def tiB (P:Program) (ty:TypeId) (i:TI):Bool:=(match P.info? ty with
 | some x=>Nat.beq x.size i.size && (match x.zero with | some z=>zsB z.cells.toList i.zs && aggV z == !i.leaf | none=>false)
 | none=>false) && (leafB P ty i.leaf && (match P.underlying ty with | some d=>kndB P d i.kind | none=>false))
def look {α:Type}:List (Nat×α)→Nat→Option α
 | [],_=>none
 | (j,p) :: r,i=>match Nat.beq i j with
  | true=>some p
  | false=>look r i
def tabB (P:Program) (T:List (Nat×TI)):Bool:=T.all fun x=>tiB P x.1 x.2
variable {α:Type}
theorem look_mem:∀ {l:List (Nat×α)} {i:Nat} {p:α},look l i=some p→(i,p) ∈ l
 | [],_,_,h=>by cases h
 | (j,q) :: r,i,p,h=>by
  rw [look] at h
  cases hb:Nat.beq i j with
  | true=>rw [hb] at h;injection h with h;rw [Nat.eq_of_beq_eq_true hb,h];exact .head _
  | false=>rw [hb] at h;exact .tail _ (look_mem h)
structure TOk (P:Program) (ty:TypeId) (i:TI):Prop where
 size:(P.info? ty).map (·.size)=some i.size
 zero:∃ z,(P.info? ty).map (·.zero)=some (some z)∧z.cells.all (·.oneCell')=true∧zeros z=i.zs.map ZK.pv∧z.cells.toList=i.zs.map ZK.val∧aggV z=!i.leaf
 und:∃ d,P.underlying ty=some d∧leafT d=i.leaf∧kndB P d i.kind=true
variable {P:Program} {ty:TypeId}
theorem sizB_of {n:Nat} (h:sizB P ty n=true):(P.info? ty).map (·.size)=some n:=by
 unfold sizB at h
 cases hi:P.info? ty with
 | none=>rw [hi] at h;cases h
 | some i=>rw [hi] at h;rw [Option.map_some,Nat.eq_of_beq_eq_true h]
theorem leafB_of {l:Bool} (h:leafB P ty l=true):∃ d,P.underlying ty=some d∧leafT d=l:=by
 unfold leafB at h
 cases hi:P.underlying ty with
 | none=>rw [hi] at h;cases h
 | some d=>rw [hi] at h;exact ⟨d,rfl,by simpa using h⟩
variable {zs:List ZK}
theorem cells_one {vs:List Value} (h:vs=zs.map ZK.val):∀ v ∈ vs,v.oneCell'=true:=by
 subst h
 intro v hv
 obtain ⟨z,_,rfl⟩:=List.mem_map.1 hv
 exact z.one
theorem zs_of {z:Value} (h:zsB z.cells.toList zs=true):z.cells.all (·.oneCell')=true∧zeros z=zs.map ZK.pv:=by
 have h1:=zsB_of _ _ h
 refine ⟨?_,?_⟩
 · rw [Array.all_eq_true']
   intro v hv
   exact cells_one h1 v (by simpa using hv)
 · unfold zeros
   rw [h1,List.map_map]
   exact List.map_congr_left fun z _=>z.of
theorem infB_of {n b:Nat} (h:infB P ty n b zs=true):∃ z,(P.info? ty).map (fun i=>(i.zero,i.size,i.bytes))=some (some z,n,b)∧z.cells.all (·.oneCell')=true∧z.cells.size=zs.length:=by
 unfold infB at h
 cases hi:P.info? ty with
 | none=>rw [hi] at h;cases h
 | some i=>
  rw [hi,Bool.and_eq_true,Bool.and_eq_true] at h
  obtain ⟨h1,h2,h3⟩:=h
  cases hz:i.zero with
  | none=>rw [hz] at h3;cases h3
  | some z=>
   rw [hz] at h3
   refine ⟨z,?_,(zs_of h3).1,?_⟩
   · rw [Option.map_some,hz,Nat.eq_of_beq_eq_true h1,Nat.eq_of_beq_eq_true h2]
   · have:=congrArg List.length (zsB_of _ _ h3)
     simpa using this
theorem tiB_of {i:TI} (h:tiB P ty i=true):TOk P ty i:=by
 unfold tiB at h
 rw [Bool.and_eq_true,Bool.and_eq_true] at h
 obtain ⟨h1,h2,h3⟩:=h
 obtain ⟨d,h4,h5⟩:=leafB_of h2
 rw [h4] at h3
 cases hi:P.info? ty with
 | none=>rw [hi] at h1;cases h1
 | some x=>
  rw [hi,Bool.and_eq_true] at h1
  cases hz:x.zero with
  | none=>rw [hz] at h1;cases h1.2
  | some z=>
   rw [hz] at h1
   have h6:=h1.2
   dsimp only at h6
   rw [Bool.and_eq_true,beq_iff_eq] at h6
   exact ⟨by rw [hi,Option.map_some,Nat.eq_of_beq_eq_true h1.1],⟨z,by rw [hi,Option.map_some,hz],(zs_of h6.1).1,(zs_of h6.1).2,zsB_of _ _ h6.1,h6.2⟩,d,h4,h5,h3⟩
theorem tabB_look {T:List (Nat×TI)} (h:tabB P T=true) {ty:Nat} {i:TI} (hl:look T ty=some i):TOk P ty i:=by
 unfold tabB at h
 rw [List.all_eq_true] at h
 exact tiB_of (h _ (look_mem hl))
theorem fldB_get:∀ {fs:List Field} {l:List (Nat×Nat×Bool)},fldB P fs l=true→∀ {i o n:Nat} {b:Bool},l[i]? = some (o,n,b)→∃ f,fs[i]? = some f∧f.offset=o∧(P.info? f.type).map (·.size)=some n∧∃ d,P.underlying f.type=some d∧leafT d=b
 | [],[],_,i,_,_,_,h=>by simp at h
 | f :: fs,(o',n',b') :: r,h,i,o,n,b,hi=>by
  rw [fldB,Bool.and_eq_true,Bool.and_eq_true,Bool.and_eq_true] at h
  obtain ⟨h1,h2,h3,h4⟩:=h
  cases i with
  | zero=>
   simp only [List.getElem?_cons_zero,Option.some.injEq,Prod.mk.injEq] at hi
   obtain ⟨rfl,rfl,rfl⟩:=hi
   exact ⟨f,by simp,Nat.eq_of_beq_eq_true h1,sizB_of h2,leafB_of h3⟩
  | succ i=>
   obtain ⟨f',h5,h6⟩:=fldB_get h4 (i:=i) (by simpa using hi)
   exact ⟨f',by simpa using h5,h6⟩
 | [],_ :: _,h,_,_,_,_,_=>by cases h
 | _ :: _,[],h,_,_,_,_,_=>by cases h
theorem fldB_places:∀ {fs:List Field} {l:List (Nat×Nat×Bool)},fldB P fs l=true→fs.map (fun f=>(f.offset,((P.info? f.type).map (·.size)).getD 0))=l.map (fun x=>(x.1,x.2.1))∧∀ f ∈ fs,(P.info? f.type).isSome=true
 | [],[],_=>⟨rfl,fun _ h=>by cases h⟩
 | f :: fs,(o',n',b') :: r,h=>by
  rw [fldB,Bool.and_eq_true,Bool.and_eq_true,Bool.and_eq_true] at h
  obtain ⟨h1,h2,h3,h4⟩:=h
  obtain ⟨h5,h6⟩:=fldB_places h4
  have h7:=sizB_of h2
  refine ⟨?_,fun g hg=>?_⟩
  · rw [List.map_cons,List.map_cons,h5,h7,Nat.eq_of_beq_eq_true h1];rfl
  · rcases List.mem_cons.1 hg with rfl | hg
    · cases hx:P.info? g.type with
      | none=>rw [hx] at h7;cases h7
      | some _=>rfl
    · exact h6 g hg
 | [],_ :: _,h=>by cases h
 | _ :: _,[],h=>by cases h
theorem structPl_of {fs:Array Field} {l:List (Nat×Nat×Bool)} (hu:P.underlying ty=some (.struct fs)) (h:fldB P fs.toList l=true):structPl P ty=some (l.map fun x=>(x.1,x.2.1)):=by
 obtain ⟨h1,h2⟩:=fldB_places h
 unfold structPl
 rw [hu]
 simp only
 rw [if_pos (by rw [Array.all_eq_true'];intro f hf;exact h2 f (by simpa using hf)),placesOf,h1]
def frc {α:Sort _} (p:PV) (k:PV→α):α:=match p with
 | .d x=>k (.d x)
 | .nils=>k .nils
 | .osl n xs=>k (.osl n xs)
 | .ref b o=>k (.ref b o)
 | .rsl b o n c=>k (.rsl b o n c)
 | .mref b=>k (.mref b)
 | .ifr t b o=>k (.ifr t b o)
 | .mapc kvs=>k (.mapc kvs)
 | .fn f a c=>k (.fn f a c)
 | .agg cs=>k (.agg cs)
 | .tup vs=>k (.tup vs)
 | .when b p=>k (.when b p)
 | .undef=>k .undef
theorem frc_eq {α:Sort _} (p:PV) (k:PV→α):frc p k=k p:=by cases p<;>rfl
def copiesK {α:Sort _}:List PV→(List PV→α)→α
 | [],k=>k []
 | p :: ps,k=>frc p.copy fun q=>copiesK ps fun qs=>k (q :: qs)
theorem copiesK_eq {α:Sort _}:∀ (ps:List PV) (k:List PV→α),copiesK ps k=k (PV.copies ps)
 | [],_=>rfl
 | p :: ps,k=>by rw [copiesK,frc_eq,copiesK_eq ps];rfl
def cpy {α:Sort _} (p:PV) (k:PV→α):α:=match p with
 | .agg cs=>copiesK cs fun ds=>k (.agg ds)
 | .fn f a c=>copiesK a fun a'=>copiesK c fun c'=>k (.fn f a' c')
 | p=>frc p.copy k
theorem cpy_eq {α:Sort _} (p:PV) (k:PV→α):cpy p k=k p.copy:=by
 cases p<;>first | (simp only [cpy,frc_eq];done) | (simp only [cpy,copiesK_eq,PV.copy])
def setK {α:Type} {β:Sort _}:List α→Nat→α→(List α→β)→β
 | [],_,_,k=>k []
 | _ :: r,0,y,k=>k (y :: r)
 | x :: r,n + 1,y,k=>setK r n y fun r'=>k (x :: r')
variable {β:Sort _}
theorem setK_eq:∀ (l:List α) (n:Nat) (y:α) (k:List α→β),setK l n y k=k (l.set n y)
 | [],_,_,_=>rfl
 | _ :: _,0,_,_=>rfl
 | x :: r,n + 1,y,k=>by rw [setK,setK_eq r n y];rfl
def nth {α:Type}:List α→Nat→Option α
 | [],_=>none
 | x :: _,0=>some x
 | _ :: r,n + 1=>nth r n
theorem nth_eq:∀ (l:List α) (n:Nat),nth l n=l[n]?
 | [],_=>rfl
 | _ :: _,0=>rfl
 | x :: r,n + 1=>by rw [nth,nth_eq r n];simp
def snocK {α:Type} {β:Sort _}:List α→α→(List α→β)→β
 | [],y,k=>k [y]
 | x :: r,y,k=>snocK r y fun r'=>k (x :: r')
theorem snocK_eq:∀ (l:List α) (y:α) (k:List α→β),snocK l y k=k (l++[y])
 | [],_,_=>rfl
 | x :: r,y,k=>by rw [snocK,snocK_eq r y];rfl
def appK {α:Type} {β:Sort _}:List α→List α→(List α→β)→β
 | [],y,k=>k y
 | x :: r,y,k=>appK r y fun r'=>k (x :: r')
theorem appK_eq:∀ (l y:List α) (k:List α→β),appK l y k=k (l++y)
 | [],_,_=>rfl
 | x :: r,y,k=>by rw [appK,appK_eq r y];rfl
def takK {α:Type} {β:Sort _}:Nat→List α→(List α→β)→β
 | 0,_,k=>k []
 | _ + 1,[],k=>k []
 | n + 1,x :: r,k=>takK n r fun r'=>k (x :: r')
theorem takK_eq:∀ (n:Nat) (l:List α) (k:List α→β),takK n l k=k (l.take n)
 | 0,_,_=>rfl
 | _ + 1,[],_=>rfl
 | n + 1,x :: r,k=>by rw [takK,takK_eq n r];rfl
def drp {α:Type} {β:Sort _}:Nat→List α→(List α→β)→β
 | 0,l,k=>k l
 | _ + 1,[],k=>k []
 | n + 1,_ :: r,k=>drp n r k
theorem drp_eq:∀ (n:Nat) (l:List α) (k:List α→β),drp n l k=k (l.drop n)
 | 0,_,_=>rfl
 | _ + 1,[],_=>rfl
 | n + 1,x :: r,k=>by rw [drp,drp_eq n r];rfl
def nums:List Nat:=[0,1,2,3,4,5,6,7,8,9,10,11,12,13,14,15,16,17,18,19,20,21,22,23,24,25,26,27,28,29,30,31,32,33,34,35,36,37,38,39,40,41,42,43,44,45,46,47,48,49,50,51,52,53,54,55,56,57,58,59,60,61,62,63,64,65,66,67,68,69,70,71,72,73,74,75,76,77,78,79,80,81,82,83,84,85,86,87,88,89,90,91,92,93,94,95,96,97,98,99,100,101,102,103,104,105,106,107,108,109,110,111,112,113,114,115,116,117,118,119]
theorem nums_eq:nums=List.range 120:=by decide
def lenN {α:Type}:List α→List Nat→Option Nat
 | [],n :: _=>some n
 | _ :: r,_ :: ns=>lenN r ns
 | _,[]=>none
theorem lenN_of:∀ (l:List α) (ns:List Nat) (n:Nat),lenN l ns=some n→ns[l.length]? = some n
 | [],m :: _,n,h=>by rw [lenN] at h;exact h
 | x :: r,m :: ns,n,h=>by rw [lenN] at h;rw [List.length_cons,List.getElem?_cons_succ];exact lenN_of r ns n h
 | [],[],_,h=>by cases h
 | _ :: _,[],_,h=>by cases h
def lenK {α:Type} {β:Sort _} (l:List α) (k:Nat→β):β:=match lenN l nums with
 | some n=>k n
 | none=>k l.length
theorem lenK_eq (l:List α) (k:Nat→β):lenK l k=k l.length:=by
 unfold lenK
 split
 · rename_i n h
   have h:=lenN_of _ _ _ h
   rw [nums_eq] at h
   obtain ⟨_,h⟩:=List.getElem?_eq_some_iff.1 h
   rw [← h];simp
 · rfl
def sizeIs {α:Type}:List α→Nat→Bool
 | [],0=>true
 | _ :: r,n + 1=>sizeIs r n
 | _,_=>false
theorem sizeIs_of:∀ (l:List α) (n:Nat),sizeIs l n=true→l.length=n
 | [],0,_=>rfl
 | _ :: r,n + 1,h=>by rw [sizeIs] at h;rw [List.length_cons,sizeIs_of r n h]
 | [],_ + 1,h=>by cases h
 | _ :: _,0,h=>by cases h
def fits {α:Type}:Nat→List α→Bool
 | 0,_=>true
 | n + 1,_ :: r=>fits n r
 | _ + 1,[]=>false
theorem fits_of:∀ (n:Nat) (l:List α),fits n l=true→n≤l.length
 | 0,_,_=>Nat.zero_le _
 | n + 1,_ :: r,h=>by rw [fits] at h;rw [List.length_cons];have:=fits_of n r h;omega
 | _ + 1,[],h=>by cases h
def splK {α:Type} {β:Sort _} (cs:List α) (off:Nat) (ps:List α) (n:Nat) (k:List α→β):β:=takK off cs fun a=>drp (off + n) cs fun c=>appK ps c fun pc=>appK a pc k
theorem splK_eq (cs:List α) (off:Nat) (ps:List α) (n:Nat) (k:List α→β) (hn:ps.length=n):splK cs off ps n k=k (splice cs off ps):=by
 subst hn
 unfold splK splice
 rw [takK_eq,drp_eq,appK_eq,appK_eq,List.append_assoc]
def mpc (ks:List D) (vs:List PV):List PV:=.mapc (ks.map fun k=>(k,k)) :: vs
def lk:List (Nat×PV)→Nat→PV
 | [],_=>.undef
 | (j,p) :: r,i=>match Nat.beq i j with
  | true=>p
  | false=>lk r i
theorem lk_eq:∀ (l:List (Nat×PV)) (i:Nat),lk l i=(l.lookup i).getD .undef
 | [],_=>rfl
 | (j,p) :: r,i=>by
  rw [lk,List.lookup_cons]
  cases hb:Nat.beq i j with
  | true=>rw [show (i == j)=true from beq_iff_eq.2 (Nat.eq_of_beq_eq_true hb)];rfl
  | false=>rw [show (i == j)=false from beq_eq_false_iff_ne.2 (Nat.ne_of_beq_eq_false hb)];exact lk_eq r i
theorem lk_some {l:List (Nat×PV)} {i:Nat} {p:PV} (h:lk l i=p) (hp:p ≠ .undef):l.lookup i=some p:=by
 rw [lk_eq] at h
 cases hl:l.lookup i with
 | none=>rw [hl] at h;exact absurd h.symm hp
 | some q=>rw [hl] at h;rw [← h];rfl
def evl (l:List (Nat×PV)):Operand→PV
 | .tmp t=>lk l t
 | .const v=>ofConst v
 | .global _=>.undef
 | .func f=>.fn (.func f) [] []
theorem evl_eq (s:GS) (x:Operand):evl s.slots x=s.ev x:=by cases x<;>first | rfl | exact lk_eq _ _
theorem evl_eq' (l:List (Nat×PV)) (m:List (List PV)) (x:Operand):evl l x=GS.ev ⟨l,m⟩ x:=evl_eq ⟨l,m⟩ x
def evsK {β:Sort _} (l:List (Nat×PV)):List Operand→(List PV→β)→β
 | [],k=>k []
 | x :: r,k=>frc (evl l x) fun p=>evsK l r fun ps=>k (p :: ps)
theorem evsK_eq (l:List (Nat×PV)):∀ (xs:List Operand) (k:List PV→β),evsK l xs k=k (xs.map (evl l))
 | [],_=>rfl
 | x :: r,k=>by rw [evsK,frc_eq,evsK_eq l r];rfl
end
section
def nz:Int→Bool
 | .ofNat 0=>false
 | .ofNat (_ + 1)=>true
 | .negSucc _=>true
theorem nz_of:∀ {b:Int},nz b=true→b ≠ 0
 | .ofNat 0,h=>by cases h
 | .ofNat (n + 1),_=>by intro h;injection h with h;cases h
 | .negSucc n,_=>by intro h;cases h
def ibin (op:BinOp) (k:IntKind) (a b:Int):Option PV:=match op with
 | .eql=>some (.d (.bool (a == b)))
 | .neq=>some (.d (.bool (a != b)))
 | .lss=>some (.d (.bool (decide (a < b))))
 | .leq=>some (.d (.bool (decide (a≤b))))
 | .gtr=>some (.d (.bool (decide (a > b))))
 | .geq=>some (.d (.bool (decide (a ≥ b))))
 | .add=>some (.d (.int k (k.wrap (a + b))))
 | .sub=>some (.d (.int k (k.wrap (a - b))))
 | .mul=>some (.d (.int k (k.wrap (a * b))))
 | .and=>match k with
  | .i64=>some (.d (.int .i64 (andI a b)))
  | k=>some (.d (.int k (k.wrap (BitVec.ofInt k.bits a &&& BitVec.ofInt k.bits b).toNat)))
 | .or=>match k with
  | .i64=>some (.d (.int .i64 (orI a b)))
  | k=>some (.d (.int k (k.wrap (BitVec.ofInt k.bits a ||| BitVec.ofInt k.bits b).toNat)))
 | .quo=>match nz b with
  | true=>some (.d (.int k (k.wrap (a.tdiv b))))
  | false=>none
 | .rem=>match nz b with
  | true=>some (.d (.int k (a.tmod b)))
  | false=>none
 | _=>none
def sbin (op:BinOp) (a b:ByteArray):Option PV:=match op with
 | .eql=>some (.d (.bool (decide (a=b))))
 | .neq=>some (.d (.bool (!decide (a=b))))
 | _=>none
def bbin (op:BinOp) (a b:Bool):Option PV:=match op with
 | .eql=>some (.d (.bool (a == b)))
 | .neq=>some (.d (.bool (a != b)))
 | _=>none
def ishift (op:BinOp) (k:IntKind) (a b:Int):Option PV:=match b with
 | .ofNat m=>match op with
  | .shl=>some (.d (.int k (k.wrap (a * 2 ^ (min m k.bits)))))
  | .shr=>some (.d (.int k (a.fdiv (2 ^ (min m k.bits)))))
  | _=>none
 | _=>none
def isShift:BinOp→Bool
 | .shl=>true
 | .shr=>true
 | _=>false
def qbin (T:List (Nat×TI)) (op:BinOp) (ty:TypeId) (x y:PV):Option PV:=match x with
 | .d (.int k a)=>match y with
  | .d (.int k' b)=>match isShift op with
   | true=>ishift op k a b
   | false=>match decide (k=k') with
    | true=>ibin op k a b
    | false=>none
  | _=>none
 | .d (.str a)=>match y with
  | .d (.str b)=>sbin op a b
  | _=>none
 | .d (.bool a)=>match y with
  | .d (.bool b)=>match look T ty with
   | some i=>match i.kind with
    | .bool=>bbin op a b
    | _=>none
   | none=>none
  | _=>none
 | _=>none
def isLeaf:D→Bool
 | .agg _=>false
 | _=>true
theorem isLeaf_of {d:D} (h:isLeaf d=true):d.cells=[d]:=by cases d<;>first | rfl | cases h
def qload (T:List (Nat×TI)) (own:Bool) (mem:List (List PV)) (ty:TypeId) (x:PV):Option PV:=match look T ty with
 | none=>none
 | some i=>match x with
  | .ref b off=>match own with
   | false=>none
   | true=>match nth mem b with
    | none=>none
    | some cs=>match plainB cs with
     | false=>none
     | true=>match i.leaf with
      | true=>match nth cs off with
       | some p=>cpy p some
       | none=>none
      | false=>match fits (off + i.size) cs with
       | true=>drp off cs fun r=>takK i.size r fun r=>match PV.toDs r with
        | some ds=>some (.d (.agg ds))
        | none=>copiesK r fun ps=>some (.agg ps)
       | false=>none
  | .d (.ptr d)=>match i.leaf with
   | true=>match isLeaf d with
    | true=>some (.d d)
    | false=>none
   | false=>match d with
    | .agg ds=>match sizeIs ds i.size with
     | true=>some (.d (.agg ds))
     | false=>none
    | _=>none
  | _=>none
def qfadr (T:List (Nat×TI)) (st:TypeId) (f:Nat) (x:PV):Option PV:=match look T st with
 | none=>none
 | some i=>match i.kind with
  | .struct fs=>match nth fs f with
   | some (o,n + 1,l)=>match x with
    | .ref b off=>some (.ref b (off + o))
    | .d (.ptr (.agg ds))=>match l with
     | true=>match nth ds o with
      | some d=>match isLeaf d with
       | true=>some (.d (.ptr d))
       | false=>none
      | none=>none
     | false=>drp o ds fun r=>takK (n + 1) r fun r=>some (.d (.ptr (.agg r)))
    | _=>none
   | _=>none
  | _=>none
def qfld (T:List (Nat×TI)) (st:TypeId) (f:Nat) (x:PV):Option PV:=match look T st with
 | none=>none
 | some i=>match i.kind with
  | .struct fs=>match nth fs f with
   | some (o,_,l)=>match l with
    | true=>match x with
     | .d (.agg ds)=>match nth ds o with
      | some d=>some (.d d)
      | none=>none
     | _=>none
    | false=>none
   | none=>none
  | _=>none
def qlen (T:List (Nat×TI)) (ty:TypeId) (x:PV):Option PV:=match look T ty with
 | none=>none
 | some i=>match i.kind with
  | .slice _ _ _ _=>match x with
   | .d (.sl xs)=>some (.d (.int .i64 (xs.length:Int)))
   | .osl _ xs=>some (.d (.int .i64 (xs.length:Int)))
   | .nils=>some (.d (.int .i64 0))
   | .rsl _ _ n _=>some (.d (.int .i64 (n:Int)))
   | _=>none
  | .str=>match x with
   | .d (.str b)=>some (.d (.int .i64 (b.size:Int)))
   | _=>none
  | _=>none
def qconv (T:List (Nat×TI)) (src dst:TypeId) (x:PV):Option PV:=match look T src with
 | none=>none
 | some _=>match look T dst with
  | none=>none
  | some i=>match i.kind with
   | .int k'=>match x with
    | .d (.int _ n)=>some (.d (.int k' (k'.wrap n)))
    | _=>none
   | _=>none
def bfillK (pl:List (Nat×Nat×Bool)):List PV→List (Nat×PV)→Option (List PV)
 | cs,[]=>some cs
 | cs,(i,p) :: rest=>match nth pl i with
  | some (off,size,_)=>match p.whole with
   | true=>match sizeIs p.cellsOf size with
    | true=>match fits (off + size) cs with
     | true=>copiesK p.cellsOf fun ps=>splK cs off ps size fun cs'=>bfillK pl cs' rest
     | false=>none
    | false=>none
   | false=>none
  | none=>none
def prtK {β:Sort _} (l:List (Nat×PV)):List (Nat×Operand)→(List (Nat×PV)→β)→β
 | [],k=>k []
 | (i,x) :: r,k=>frc (evl l x) fun p=>prtK l r fun ps=>k ((i,p) :: ps)
theorem prtK_eq {β:Sort _} (l:List (Nat×PV)):∀ (xs:List (Nat×Operand)) (k:List (Nat×PV)→β),prtK l xs k=k (xs.map fun x=>(x.1,evl l x.2))
 | [],_=>rfl
 | (i,x) :: r,k=>by rw [prtK,frc_eq,prtK_eq l r];rfl
def zpvK {β:Sort _}:List ZK→(List PV→β)→β
 | [],k=>k []
 | z :: r,k=>frc z.pv fun p=>zpvK r fun ps=>k (p :: ps)
theorem zpvK_eq {β:Sort _}:∀ (zs:List ZK) (k:List PV→β),zpvK zs k=k (zs.map ZK.pv)
 | [],_=>rfl
 | z :: r,k=>by rw [zpvK,frc_eq,zpvK_eq r];rfl
def qbuild (T:List (Nat×TI)) (sl:List (Nat×PV)) (ty:TypeId) (parts:List (Nat×Operand)):Option PV:=match look T ty with
 | none=>none
 | some i=>match i.kind with
  | .struct fs=>zpvK i.zs fun zs=>prtK sl parts fun ps=>match bfillK fs zs ps with
   | some cs=>match PV.toDs cs with
    | some ds=>some (.d (.agg ds))
    | none=>copiesK cs fun qs=>some (.agg qs)
   | none=>none
  | _=>none
def bfillA (m:Nat):List PV→List (Nat×PV)→Option (List PV)
 | cs,[]=>some cs
 | cs,(i,p) :: rest=>match p.whole with
  | true=>match sizeIs p.cellsOf m with
   | true=>match fits (i * m + m) cs with
    | true=>copiesK p.cellsOf fun ps=>splK cs (i * m) ps m fun cs'=>bfillA m cs' rest
    | false=>none
   | false=>none
  | false=>none
theorem bfillA_of (m:Nat):∀ (parts:List (Nat×PV)) (cs cs':List PV),bfillA m cs parts=some cs'→bfill (fun i=>some (i * m,m)) cs parts=some cs'
 | [],_,_,h=>h
 | (i,p) :: rest,cs,cs',h=>by
  rw [bfillA] at h
  split at h
  · rename_i hw
    split at h
    · rename_i hs
      split at h
      · rename_i hf
        have hs:=sizeIs_of _ _ hs
        rw [copiesK_eq,splK_eq _ _ _ _ _ (by rw [PV.copies_map,List.length_map];exact hs)] at h
        rw [bfill]
        dsimp only
        rw [if_pos ⟨hw,hs,fits_of _ _ hf⟩]
        exact bfillA_of m rest _ _ h
      · cases h
    · cases h
  · cases h
def qpeq (T:List (Nat×TI)) (op:BinOp) (ty:TypeId) (x:PV):Option PV:=match look T ty with
 | none=>none
 | some i=>match i.kind with
  | .ptr=>match x with
   | .d d=>match d.isNil with
    | some b=>match op with
     | .eql=>some (.d (.bool b))
     | .neq=>some (.d (.bool (!b)))
     | _=>none
    | none=>none
   | _=>none
  | _=>none
def imm (f:Int→Int→Int) (x y:PV):Option PV:=match x with
 | .d (.int k a)=>match y with
  | .d (.int k' b)=>match decide (k=k') with
   | true=>some (.d (.int k (f a b)))
   | false=>none
  | _=>none
 | _=>none
theorem imm_of {f:Int→Int→Int} {x y p:PV} (h:imm f x y=some p):∃ k a b,x=.d (.int k a)∧y=.d (.int k b)∧p=.d (.int k (f a b)):=by
 unfold imm at h
 split at h
 · split at h
   · split at h
     · rename_i hk
       rw [decide_eq_true_eq] at hk
       subst hk
       injection h with h
       exact ⟨_,_,_,rfl,rfl,h.symm⟩
     · cases h
   · cases h
 · cases h
def qv (T:List (Nat×TI)) (own:Bool) (sl:List (Nat×PV)) (mem:List (List PV)) (op:Op):Option PV:=match op with
 | .move x=>cpy (evl sl x) some
 | .assign x=>cpy (evl sl x) some
 | .binOp op ty x y _=>match y with
  | .const (.pointer none)=>qpeq T op ty (evl sl x)
  | y=>qbin T op ty (evl sl x) (evl sl y)
 | .unOp op _ x=>match op with
  | .not=>match evl sl x with
   | .d (.bool a)=>some (.d (.bool (!a)))
   | _=>none
  | .neg=>match evl sl x with
   | .d (.int k a)=>some (.d (.int k (k.wrap (0 - a))))
   | _=>none
  | _=>none
 | .load ty x=>qload T own mem ty (evl sl x)
 | .fieldAddr st x f=>qfadr T st f (evl sl x)
 | .field st x f=>qfld T st f (evl sl x)
 | .extract x ix=>match x with
  | .tmp u=>match lk sl u with
   | .tup ps=>match nth ps ix with
    | some p=>cpy p some
    | none=>none
   | _=>none
  | _=>none
 | .nilCheck x=>match evl sl x with
  | .d (.ptr d)=>some (.d (.ptr d))
  | .ref b o=>some (.ref b o)
  | _=>none
 | .convert src dst x=>qconv T src dst (evl sl x)
 | .makeFunc f xs ys=>evsK sl xs.toList fun as=>evsK sl ys.toList fun bs=>copiesK as fun as=>copiesK bs fun bs=>some (.fn f as bs)
 | .build ty parts=>qbuild T sl ty parts.toList
 | .call c=>match c.callee with
  | .builtin .len=>match c.args.toList with
   | [x]=>match c.argTypes.toList with
    | [ty]=>qlen T ty (evl sl x)
    | _=>none
   | _=>none
  | .builtin .max=>match c.args.toList with
   | [x,y]=>match c.argTypes.toList with
    | [_,_]=>imm (fun a b=>if b > a then b else a) (evl sl x) (evl sl y)
    | _=>none
   | _=>none
  | .builtin .min=>match c.args.toList with
   | [x,y]=>match c.argTypes.toList with
    | [_,_]=>imm (fun a b=>if b < a then b else a) (evl sl x) (evl sl y)
    | _=>none
   | _=>none
  | _=>none
 | _=>none
variable {K:Ctx} {T:List (Nat×TI)} {s:GS} {t:Nat} {rt:TypeId} {pos:String} {af:Array Edge} {g:Option (Nat×Bool)}
theorem ibin_of {op:BinOp} {ty yt:TypeId} {x y:Operand} {k:IntKind} {a b:Int} {p:PV} (hx:s.ev x=.d (.int k a)) (hy:s.ev y=.d (.int k b)) (ht:t < K.n) (h:ibin op k a b=some p):Qy K ⟨some t,.binOp op ty x y yt,rt,pos,af,g⟩ s t p:=by
 cases op with
 | eql=>injection h with h;subst h;exact Q_eql hx hy ht
 | neq=>injection h with h;subst h;exact Q_neq hx hy ht
 | lss=>injection h with h;subst h;exact Q_lss hx hy ht
 | leq=>injection h with h;subst h;exact Q_leq hx hy ht
 | gtr=>injection h with h;subst h;exact Q_gtr hx hy ht
 | geq=>injection h with h;subst h;exact Q_geq hx hy ht
 | add=>injection h with h;subst h;exact Q_add hx hy rfl ht
 | sub=>injection h with h;subst h;exact Q_sub hx hy rfl ht
 | mul=>injection h with h;subst h;exact Q_mul hx hy rfl ht
 | and=>cases k<;>(injection h with h;subst h;exact Q_bits hx hy rfl (.inl rfl) ht)
 | or=>cases k<;>(injection h with h;subst h;exact Q_bits hx hy rfl (.inr (.inl rfl)) ht)
 | quo=>
  unfold ibin at h
  cases hz:nz b with
  | true=>rw [hz] at h;injection h with h;subst h;exact Q_quo hx hy (nz_of hz) rfl ht
  | false=>rw [hz] at h;cases h
 | rem=>
  unfold ibin at h
  cases hz:nz b with
  | true=>rw [hz] at h;injection h with h;subst h;exact Q_rem hx hy (nz_of hz) rfl ht
  | false=>rw [hz] at h;cases h
 | _=>cases h
theorem qbin_of {op:BinOp} {ty yt:TypeId} {x y:Operand} {p:PV} (hT:tabB K.P T=true) (ht:t < K.n) (h:qbin T op ty (s.ev x) (s.ev y)=some p):Qy K ⟨some t,.binOp op ty x y yt,rt,pos,af,g⟩ s t p:=by
 unfold qbin at h
 split at h
 · rename_i k a hx
   split at h
   · rename_i k' b hy
     split at h
     · rename_i hs
       unfold ishift at h
       split at h
       · rename_i m
         split at h
         · injection h with h;subst h;exact Q_shift hx hy (Int.natCast_nonneg m) (by rw [if_pos rfl];rfl) (.inl rfl) ht
         · injection h with h;subst h;exact Q_shift hx hy (Int.natCast_nonneg m) (by rw [if_neg (by decide)];rfl) (.inr rfl) ht
         · cases h
       · cases h
     · split at h
       · rename_i hk
         rw [decide_eq_true_eq] at hk
         subst hk
         exact ibin_of hx hy ht h
       · cases h
   · cases h
 · rename_i a hx
   split at h
   · rename_i b hy
     cases op<;>first | (injection h with h;subst h;first | exact Q_streq hx hy ht | exact Q_strne hx hy ht) | cases h
   · cases h
 · rename_i a hx
   split at h
   · rename_i b hy
     split at h
     · rename_i i hl
       split at h
       · rename_i hk
         obtain ⟨d,hd,_,hd2⟩:=(tabB_look hT hl).und
         rw [hk] at hd2
         have hu:K.P.underlying ty=some .bool:=by cases d<;>first | exact hd | cases hd2
         cases op<;>first | (injection h with h;subst h;first | exact Q_booleq hx hy hu ht | exact Q_boolne hx hy hu) | cases h
       · cases h
     · cases h
   · cases h
 · cases h
theorem qload_of {own:Bool} {ty:TypeId} {x:Operand} {p:PV} (hT:tabB K.P T=true) (ht:t < K.n) (hB:own=true→K.Bs=[]) (h:qload T own s.mem ty (s.ev x)=some p):Qy K ⟨some t,.load ty x,rt,pos,af,g⟩ s t p:=by
 unfold qload at h
 split at h
 · cases h
 · rename_i i hl
   have hi:=tabB_look hT hl
   obtain ⟨d,hd,hle,_⟩:=hi.und
   split at h
   · rename_i b off hx
     split at h
     · cases h
     · have hBs:K.Bs.contains b=false:=by rw [hB rfl];rfl
       split at h
       · cases h
       · rename_i cs hm
         rw [nth_eq] at hm
         split at h
         · cases h
         · rename_i hpl
           split at h
           · rename_i hlf
             split at h
             · rename_i q hq
               rw [nth_eq] at hq
               rw [cpy_eq] at h
               injection h with h
               subst h
               exact Q_load_leaf hx hm hq hd (hle.trans hlf) hBs hpl ht
             · cases h
           · rename_i hlf
             split at h
             · rename_i hf
               rw [drp_eq,takK_eq] at h
               have hq:mkAgg ((cs.drop off).take i.size)=p:=by
                unfold mkAgg
                split at h
                · rename_i ds hds;rw [hds];injection h
                · rename_i hds;rw [hds];rw [copiesK_eq] at h;injection h
               rw [← hq]
               exact Q_load_agg hx hm hi.size hd (hle.trans hlf) (fits_of _ _ hf) hBs hpl ht
             · cases h
   · rename_i d' hx
     split at h
     · rename_i hlf
       split at h
       · rename_i hlf'
         injection h with h
         subst h
         exact Q_loadp_leaf hx (isLeaf_of hlf') hd (hle.trans hlf) ht
       · cases h
     · rename_i hlf
       split at h
       · rename_i ds
         split at h
         · rename_i hsz
           injection h with h
           subst h
           exact Q_loadp_agg hx (by rw [sizeIs_of _ _ hsz];exact hi.size) hd (hle.trans hlf) ht
         · cases h
       · cases h
   · cases h
theorem struct_of {P:Program} {ty:TypeId} {i:TI} (hi:TOk P ty i) {l:List (Nat×Nat×Bool)} (hk:i.kind=.struct l):∃ fs,P.underlying ty=some (.struct fs)∧fldB P fs.toList l=true:=by
 obtain ⟨d,hd,_,hd2⟩:=hi.und
 rw [hk] at hd2
 cases d<;>first | exact ⟨_,hd,hd2⟩ | cases hd2
theorem qfadr_of {st:TypeId} {x:Operand} {f:Nat} {p:PV} (hT:tabB K.P T=true) (ht:t < K.n) (h:qfadr T st f (s.ev x)=some p):Qy K ⟨some t,.fieldAddr st x f,rt,pos,af,g⟩ s t p:=by
 unfold qfadr at h
 split at h
 · cases h
 · rename_i i hl
   split at h
   · rename_i fs hk
     obtain ⟨fa,hu,hfb⟩:=struct_of (tabB_look hT hl) hk
     split at h
     · rename_i o n l hn
       rw [nth_eq] at hn
       obtain ⟨fl,hf,rfl,hz,td,htd,hlf⟩:=fldB_get hfb hn
       have hf:fa[f]? = some fl:=by rw [← hf];simp
       split at h
       · rename_i b off hx
         injection h with h
         subst h
         exact Q_fieldAddr hx hu hf hz ht
       · rename_i ds hx
         split at h
         · split at h
           · rename_i d hd
             rw [nth_eq] at hd
             split at h
             · rename_i hld
               injection h with h
               subst h
               exact Q_fieldp_leaf hx hu hf hz hd (isLeaf_of hld) ht
             · cases h
           · cases h
         · rw [drp_eq,takK_eq] at h
           injection h with h
           subst h
           exact Q_fieldp_agg hx hu hf hz ht
       · cases h
     · cases h
   · cases h
theorem qfld_of {st:TypeId} {x:Operand} {f:Nat} {p:PV} (hT:tabB K.P T=true) (ht:t < K.n) (h:qfld T st f (s.ev x)=some p):Qy K ⟨some t,.field st x f,rt,pos,af,g⟩ s t p:=by
 unfold qfld at h
 split at h
 · cases h
 · rename_i i hl
   split at h
   · rename_i fs hk
     obtain ⟨fa,hu,hfb⟩:=struct_of (tabB_look hT hl) hk
     split at h
     · rename_i o n l hn
       rw [nth_eq] at hn
       obtain ⟨fl,hf,rfl,hz,td,htd,hlf⟩:=fldB_get hfb hn
       have hf:fa[f]? = some fl:=by rw [← hf];simp
       split at h
       · split at h
         · rename_i ds hx
           split at h
           · rename_i d hd
             rw [nth_eq] at hd
             injection h with h
             subst h
             exact Q_field hx hu hf htd hlf hd ht
           · cases h
         · cases h
       · cases h
     · cases h
   · cases h
theorem qlen_of {ty:TypeId} {x:Operand} {p:PV} (hT:tabB K.P T=true) (ht:t < K.n) (h:qlen T ty (s.ev x)=some p):Qy K ⟨some t,.call ⟨.builtin .len,#[x],#[ty]⟩,rt,pos,af,g⟩ s t p:=by
 unfold qlen at h
 split at h
 · cases h
 · rename_i i hl
   obtain ⟨d,hd,_,hd2⟩:=(tabB_look hT hl).und
   split at h
   · rename_i e n b zs hk
     rw [hk] at hd2
     have hu:∃ e,K.P.underlying ty=some (.slice e):=by cases d<;>first | exact ⟨_,hd⟩ | cases hd2
     obtain ⟨e,hu⟩:=hu
     split at h
     · rename_i xs hx;injection h with h;subst h;exact Q_len (by rw [hx];rfl) hu ht
     · rename_i xs hx;injection h with h;subst h;exact Q_len (by rw [hx];rfl) hu ht
     · rename_i hx;injection h with h;subst h;exact Q_len (xs:=[]) (by rw [hx];rfl) hu ht
     · rename_i hx;injection h with h;subst h;exact Q_rowLen hx hu ht
     · cases h
   · rename_i hk
     rw [hk] at hd2
     have hu:K.P.underlying ty=some .string:=by cases d<;>first | exact hd | cases hd2
     split at h
     · rename_i b hx;injection h with h;subst h;exact Q_lenstr hx hu ht
     · cases h
   · cases h
theorem qconv_of {src dst:TypeId} {x:Operand} {p:PV} (hT:tabB K.P T=true) (ht:t < K.n) (h:qconv T src dst (s.ev x)=some p):Qy K ⟨some t,.convert src dst x,rt,pos,af,g⟩ s t p:=by
 unfold qconv at h
 split at h
 · cases h
 · rename_i i1 hl1
   obtain ⟨d1,hd1,_⟩:=(tabB_look hT hl1).und
   split at h
   · cases h
   · rename_i i hl
     obtain ⟨d,hd,_,hd2⟩:=(tabB_look hT hl).und
     split at h
     · rename_i k' hk
       rw [hk] at hd2
       have hu:K.P.underlying dst=some (.int k'):=by
        cases d with
        | int k=>rw [kndB,decide_eq_true_eq] at hd2;rw [← hd2];exact hd
        | _=>cases hd2
       split at h
       · rename_i k n hx;injection h with h;subst h;exact Q_convert hx hd1 hu rfl ht
       · cases h
     · cases h
theorem bfillK_of (pl:List (Nat×Nat×Bool)):∀ (parts:List (Nat×PV)) (cs cs':List PV),bfillK pl cs parts=some cs'→bfill ((pl.map fun x=>(x.1,x.2.1))[·]?) cs parts=some cs'
 | [],_,_,h=>h
 | (i,p) :: rest,cs,cs',h=>by
  rw [bfillK] at h
  split at h
  · rename_i off size b hn
    rw [nth_eq] at hn
    split at h
    · rename_i hw
      split at h
      · rename_i hs
        split at h
        · rename_i hf
          have hs:=sizeIs_of _ _ hs
          rw [copiesK_eq,splK_eq _ _ _ _ _ (by rw [PV.copies_map,List.length_map];exact hs)] at h
          have hn':(pl.map fun x=>(x.1,x.2.1))[i]? = some (off,size):=by rw [List.getElem?_map,hn];rfl
          rw [bfill]
          rw [hn']
          dsimp only
          rw [if_pos ⟨hw,hs,fits_of _ _ hf⟩]
          exact bfillK_of pl rest _ _ h
        · cases h
      · cases h
    · cases h
  · cases h
theorem qbuild_of {ty:TypeId} {parts:Array (Nat×Operand)} {p:PV} (hT:tabB K.P T=true) (ht:t < K.n) (h:qbuild T s.slots ty parts.toList=some p):Qy K ⟨some t,.build ty parts,rt,pos,af,g⟩ s t p:=by
 unfold qbuild at h
 split at h
 · cases h
 · rename_i i hl
   have hi:=tabB_look hT hl
   split at h
   · rename_i fs hk
     obtain ⟨fa,hu,hfb⟩:=struct_of hi hk
     obtain ⟨z,hz,h1,hzs,_⟩:=hi.zero
     rw [zpvK_eq,prtK_eq] at h
     split at h
     · rename_i cs hb
       have hb:=bfillK_of _ _ _ _ hb
       refine Q_buildS (structPl_of hu hfb) hz h1 hzs (ps:=parts.toList.map fun x=>(x.1,s.ev x.2)) rfl (cs':=cs) ?_ ?_ ht
       · rw [← hb];congr 1;exact List.map_congr_left fun x _=>by rw [evl_eq]
       · unfold mkAgg
         split at h
         · rename_i ds hds;rw [hds];injection h
         · rename_i hds;rw [hds];rw [copiesK_eq] at h;injection h
     · cases h
   · cases h
theorem qpeq_of {op:BinOp} {ty yt:TypeId} {x:Operand} {p:PV} (hT:tabB K.P T=true) (h:qpeq T op ty (s.ev x)=some p):Qy K ⟨some t,.binOp op ty x (.const (.pointer none)) yt,rt,pos,af,g⟩ s t p:=by
 unfold qpeq at h
 split at h
 · cases h
 · rename_i i hl
   obtain ⟨d,hd,_,hd2⟩:=(tabB_look hT hl).und
   split at h
   · rename_i hk
     rw [hk] at hd2
     have hu:∃ e,K.P.underlying ty=some (.pointer e):=by cases d<;>first | exact ⟨_,hd⟩ | cases hd2
     obtain ⟨e,hu⟩:=hu
     split at h
     · rename_i d' hx
       split at h
       · rename_i b hb
         cases op<;>first | (injection h with h;subst h;first | exact Q_ptreql hx hb hu | exact Q_ptrneq hx hb hu) | cases h
       · cases h
     · cases h
   · cases h
theorem qv_of {own:Bool} {op:Op} {p:PV} (hT:tabB K.P T=true) (ht:t < K.n) (hB:own=true→K.Bs=[]) (h:qv T own s.slots s.mem op=some p):Qy K ⟨some t,op,rt,pos,af,g⟩ s t p:=by
 unfold qv at h
 split at h
 · rw [evl_eq,cpy_eq] at h;injection h with h;subst h;exact Q_move rfl ht
 · rw [evl_eq,cpy_eq] at h;injection h with h;subst h;exact Q_assign rfl ht
 · split at h
   · rw [evl_eq] at h;exact qpeq_of hT h
   · rw [evl_eq,evl_eq] at h;exact qbin_of hT ht h
 · split at h
   · split at h
     · rename_i a hx;injection h with h;subst h;rw [evl_eq] at hx;exact Q_not hx ht
     · cases h
   · split at h
     · rename_i k a hx;injection h with h;subst h;rw [evl_eq] at hx;exact Q_neg hx rfl
     · cases h
   · cases h
 · rw [evl_eq] at h;exact qload_of hT ht hB h
 · rw [evl_eq] at h;exact qfadr_of hT ht h
 · rw [evl_eq] at h;exact qfld_of hT ht h
 · split at h
   · split at h
     · rename_i ps hx
       split at h
       · rename_i q hq
         rw [nth_eq] at hq
         rw [cpy_eq] at h;injection h with h;subst h
         exact Q_extract (lk_some hx (by intro h;cases h)) hq ht
       · cases h
     · cases h
   · cases h
 · split at h
   · rename_i d hx;injection h with h;subst h;rw [evl_eq] at hx;exact Q_nilCheck hx ht
   · rename_i b o hx;injection h with h;subst h;rw [evl_eq] at hx;exact q_nilCheckR hx
   · cases h
 · rw [evl_eq] at h;exact qconv_of hT ht h
 · rename_i f xs ys
   rw [evsK_eq,evsK_eq,copiesK_eq,copiesK_eq] at h
   injection h with h
   subst h
   have h1:∀ l:List Operand,l.map (evl s.slots)=l.map s.ev:=fun l=>List.map_congr_left fun x _=>evl_eq s x
   rw [h1,h1]
   exact Q_makeFunc (xs:=xs.toList) (ys:=ys.toList) ht
 · exact qbuild_of hT ht h
 · rename_i c
   obtain ⟨ca,ar,at'⟩:=c
   dsimp only at h
   split at h
   · split at h
     · rename_i x hxs
       split at h
       · rename_i ty htys
         rw [evl_eq] at h
         have e1:ar=#[x]:=by apply Array.toList_inj.1;exact hxs
         have e2:at'=#[ty]:=by apply Array.toList_inj.1;exact htys
         subst e1;subst e2
         exact qlen_of hT ht h
       · cases h
     · cases h
   · split at h
     · rename_i x y hxs
       split at h
       · rename_i ty ty' htys
         rw [evl_eq,evl_eq] at h
         have e1:ar=#[x,y]:=by apply Array.toList_inj.1;exact hxs
         have e2:at'=#[ty,ty']:=by apply Array.toList_inj.1;exact htys
         subst e1;subst e2
         obtain ⟨k,a,b,h1,h2,rfl⟩:=imm_of h
         exact Q_max h1 h2
       · cases h
     · cases h
   · split at h
     · rename_i x y hxs
       split at h
       · rename_i ty ty' htys
         rw [evl_eq,evl_eq] at h
         have e1:ar=#[x,y]:=by apply Array.toList_inj.1;exact hxs
         have e2:at'=#[ty,ty']:=by apply Array.toList_inj.1;exact htys
         subst e1;subst e2
         obtain ⟨k,a,b,h1,h2,rfl⟩:=imm_of h
         exact Q_min h1 h2
       · cases h
     · cases h
   · cases h
 · cases h
end
end Go.Proofs.YtoonleefemkalaaDoor.E
