import Derived.Test.YtoonleefemkalaaDoorM19
import Derived.Test.YtoonleefemkalaaDoorM15
/- Contracts of functions. Conditions: none. -/
set_option linter.unusedSimpArgs false
set_option linter.unusedVariables false
set_option maxRecDepth 20000
namespace Go.Proofs.YtoonleefemkalaaDoor
open Go Go.Proofs.YtoonleefemkalaaDoor.E
section
variable {sl:List (Nat×PV)} {mem:List (List PV)} {t n:Nat}
theorem yCopy {K:Ctx} {b off:Nat} {x y:Operand} {ty sT e rt:TypeId} {pos:String} {af:Array Edge} {g:Option (Nat×Bool)} {cs:List PV} {ys:List D}
 (hx:(GS.mk sl mem).ev x=.rsl b off n 1) (hm:mem[b]? = some cs) (hpl:plainB cs=true) (hy:((GS.mk sl mem).ev y).list? = some ys) (hk:∀ y ∈ ys,y.cells.length=1) (hne:ys ≠ []) (hn:ys.length≤n) (hfit:off + ys.length≤cs.length) (hu:K.P.underlying ty=some (.slice e)) (hz:(K.P.info? e).map (·.size)=some 1) (ht:t < K.n):
 Yld K ⟨some t,.call ⟨.builtin .copy,#[x,y],#[ty,sT]⟩,rt,pos,af,g⟩ ⟨sl,mem⟩ ⟨(t,.d (.int .i64 (ys.length:Int))) :: sl,mem.set b (splice cs off (flat ys))⟩:=Y_copyRow hx hm hpl hy hk hne hn hfit hu hz ht
variable {S0:Reg} {O0:Owns} {w0:World} {m0 Bs:List Nat} {ds:List Deferred} {fr:List Fr} {Q:Exit→GS→Prop} {s:GS} {ob:List (Bool×Bool)}
theorem s_ {fr':List Fr} {c c':Cf} {s':GS} (hg:GF ⟨Tryd.prog,n,S0,O0,w0,m0,Bs,ds⟩ fr' c' Q s') (h:adv tab n fr c s=some (ob,fr',c',s'):=by exact rfl) (ho:Obl ob:=by repeat first | exact Obl.nil | refine Obl.same ?_ | refine Obl.imp (fun h=>by simp_all) ?_):GF ⟨Tryd.prog,n,S0,O0,w0,m0,Bs,ds⟩ fr c Q s:=st h hg ho
variable {ops:Array Oper} {i:Nat} {l:List Nat}
theorem c_ {f:FuncId} {ds':List D} {r:PV} (hc:Pf Tryd.prog f ds' r) (hg:GF ⟨Tryd.prog,n,S0,O0,w0,m0,Bs,ds⟩ fr (.ops ops l) Q ⟨(t,r) :: sl,mem⟩) (h:cls ops.toList n i sl=some (t,none,ob,f,ds'):=by exact rfl) (ho:Obl ob:=by repeat first | exact Obl.nil | refine Obl.same ?_ | refine Obl.imp (fun h=>by simp_all) ?_):GF ⟨Tryd.prog,n,S0,O0,w0,m0,Bs,ds⟩ fr (.ops ops (i :: l)) Q ⟨sl,mem⟩:=cl h hc hg ho
variable {c:Operand} {x y:Code} {b:Bool}
theorem f_ (hy:GF ⟨Tryd.prog,n,S0,O0,w0,m0,Bs,ds⟩ fr (.code y) Q s) (hc:evl s.slots c=.d (.bool b):=by exact rfl) (hb:b=false:=by rfl):GF ⟨Tryd.prog,n,S0,O0,w0,m0,Bs,ds⟩ fr (.code (.cond c x y)) Q s:=cf hc hy hb
theorem t_ (hx:GF ⟨Tryd.prog,n,S0,O0,w0,m0,Bs,ds⟩ fr (.code x) Q s) (hc:evl s.slots c=.d (.bool b):=by exact rfl) (hb:b=true:=by rfl):GF ⟨Tryd.prog,n,S0,O0,w0,m0,Bs,ds⟩ fr (.code (.cond c x y)) Q s:=ct hc hx hb
theorem d_ (hx:b=true→GF ⟨Tryd.prog,n,S0,O0,w0,m0,Bs,ds⟩ fr (.code x) Q s) (hy:b=false→GF ⟨Tryd.prog,n,S0,O0,w0,m0,Bs,ds⟩ fr (.code y) Q s) (hc:evl s.slots c=.d (.bool b):=by exact rfl):GF ⟨Tryd.prog,n,S0,O0,w0,m0,Bs,ds⟩ fr (.code (.cond c x y)) Q s:=cd hc hx hy
theorem e_ {K:Ctx} {rvs:List ResultVar} {e:Exit} {q r:PV} (h:E.endK tab sl mem rvs e=some q:=by exact rfl) (hr:q=r:=by rfl) (hb:PV.refsB 0 q=true:=by rfl):GF K [] (.leave e) (Fin Tryd.prog rvs 0 (fun q m=>q=r∧m=[])) ⟨sl,mem⟩:=en h hr hb
variable {o:Oper} {p:PV}
theorem gq {g:Option Bool} {sl':List (Nat×PV)} (h:gview ops.toList n i sl=some (t,g,ob,o,sl')) (hq:isT g→t < n→Qy ⟨Tryd.prog,n,S0,O0,w0,m0,Bs,ds⟩ o ⟨sl',mem⟩ t p) (hg:GF ⟨Tryd.prog,n,S0,O0,w0,m0,Bs,ds⟩ fr (.ops ops l) Q ⟨(t,whn g p) :: sl,mem⟩) (ho:Obl ob:=by repeat first | exact Obl.nil | refine Obl.same ?_ | refine Obl.imp (fun h=>by simp_all) ?_):GF ⟨Tryd.prog,n,S0,O0,w0,m0,Bs,ds⟩ fr (.ops ops (i :: l)) Q ⟨sl,mem⟩:=gqy h hq hg ho
theorem zz {C:Prop} (h:qzs ops.toList n i sl=some (t,none,ob,C,p)) (hg:GF ⟨Tryd.prog,n,S0,O0,w0,m0,Bs,ds⟩ fr (.ops ops l) Q ⟨(t,p) :: sl,mem⟩) (hc:C:=by decide) (ho:Obl ob:=by repeat first | exact Obl.nil | refine Obl.same ?_ | refine Obl.imp (fun h=>by simp_all) ?_):GF ⟨Tryd.prog,n,S0,O0,w0,m0,Bs,ds⟩ fr (.ops ops (i :: l)) Q ⟨sl,mem⟩:=gQz h (fun _=>hc) ho hg
variable {base pre:List (Nat×PV)} {j:Nat} {es es':List (Nat×Nat×PV)}
theorem oqw {g:Option Bool} {slx:List (Nat×PV)→List (Nat×PV)} (hs:see ops.toList i es base=some pre:=by exact rfl) (hj:nth nums (i + 1)=some j:=by exact rfl) (h:∀ rest,gview ops.toList n i (pre++rest)=some (t,g,ob,o,slx rest):=by exact fun _=>rfl) (hq:∀ rest,isT g→t < n→Qy ⟨Tryd.prog,n,S0,O0,w0,m0,Bs,ds⟩ o ⟨slx rest,mem⟩ t p) (hes:snocK es (i,t,whn g p) some=some es':=by exact rfl) (hc:CO ⟨Tryd.prog,n,S0,O0,w0,m0,Bs,ds⟩ fr ops base mem j es' Q) (ho:Obl ob:=by repeat first | exact Obl.nil | refine Obl.same ?_ | refine Obl.imp (fun h=>by simp_all) ?_):CO ⟨Tryd.prog,n,S0,O0,w0,m0,Bs,ds⟩ fr ops base mem i es Q:=oqy hs hj h hq hes hc ho
theorem ow (ws:List Nat) (ms:List (List (List PV))) {n:Nat} {S0:Reg} {O0:Owns} {w0:World} {m0 Bs:List Nat} {ds:List Deferred} {fr:List Fr} {Q:Exit→GS→Prop} {id:Nat} {ops:Array Oper} {sl base:List (Nat×PV)} {mem:List (List PV)} {tt:List Nat} (hb:baseK ops.toList sl=some (tt,base):=by exact rfl) (hm0:ms.head? = some mem:=by rfl) (hdep:((List.range ops.size).all fun i=>(depsOf ops i).all fun d=>Nat.blt d i)=true:=by kernel_rfl) (hc:COw ⟨Tryd.prog,n,S0,O0,w0,m0,Bs,ds⟩ fr ops base ws ms 0 [] Q):GF ⟨Tryd.prog,n,S0,O0,w0,m0,Bs,ds⟩ fr (.code (.region id ops true)) Q ⟨sl,mem⟩:=gOpenW ws ms hb mixed hm0 hdep hc
variable {ws:List Nat} {ms:List (List (List PV))}
theorem aw (hs:see ops.toList i es base=some pre:=by exact rfl) (hj:nth nums (i + 1)=some j:=by exact rfl) (h:∀ rest X,E.step tab ops.toList n i ⟨pre++rest,X⟩=some (ob,⟨(t,p) :: (pre++rest),X⟩):=by exact fun _ _=>rfl) (hes:snocK es (i,t,p) some=some es':=by exact rfl) (hc:COw ⟨Tryd.prog,n,S0,O0,w0,m0,Bs,ds⟩ fr ops base ws ms j es' Q) (hi:memN i ws=false:=by rfl) (ho:Obl ob:=by repeat first | exact Obl.nil | refine Obl.same ?_ | refine Obl.imp (fun h=>by simp_all) ?_):COw ⟨Tryd.prog,n,S0,O0,w0,m0,Bs,ds⟩ fr ops base ws ms i es Q:=oAnyW hs hj hes hi hc fun rest X _ hg=>toO (gv tabOk (h rest X) (ofO hg) ho)
theorem vw (k:Nat) {n:Nat} {S0:Reg} {O0:Owns} {w0:World} {m0 Bs:List Nat} {ds:List Deferred} {fr:List Fr} {Q:Exit→GS→Prop} {ops:Array Oper} {base pre:List (Nat×PV)} {ws:List Nat} {ms:List (List (List PV))} {i j t:Nat} {es es':List (Nat×Nat×PV)} {mem:List (List PV)} {ob:List (Bool×Bool)} {p:PV} (hmm:ms[k]? = some mem:=by rfl) (hs:see ops.toList i es base=some pre:=by exact rfl) (hj:nth nums (i + 1)=some j:=by exact rfl) (h:∀ rest,E.step tab ops.toList n i ⟨pre++rest,mem⟩=some (ob,⟨(t,p) :: (pre++rest),mem⟩):=by exact fun _=>rfl) (hes:snocK es (i,t,p) some=some es':=by exact rfl) (hc:COw ⟨Tryd.prog,n,S0,O0,w0,m0,Bs,ds⟩ fr ops base ws ms j es' Q) (hi:memN i ws=false:=by rfl) (hch:chained ops ws=true:=by rfl) (hk:k≤ws.length:=by decide) (hb:behindB ops ws k i=true:=by rfl) (ha:aheadB ops ws k i=true:=by rfl) (ho:Obl ob:=by repeat first | exact Obl.nil | refine Obl.same ?_ | refine Obl.imp (fun h=>by simp_all) ?_):COw ⟨Tryd.prog,n,S0,O0,w0,m0,Bs,ds⟩ fr ops base ws ms i es Q:=
 oAtW k hs hj hes hi hch hk hmm hb ha hc fun rest _ hg=>toO (gv tabOk (h rest) (ofO hg) ho)
theorem qw (k:Nat) {n:Nat} {S0:Reg} {O0:Owns} {w0:World} {m0 Bs:List Nat} {ds:List Deferred} {fr:List Fr} {Q:Exit→GS→Prop} {ops:Array Oper} {base pre:List (Nat×PV)} {ws:List Nat} {ms:List (List (List PV))} {i j t:Nat} {es es':List (Nat×Nat×PV)} {mem:List (List PV)} {g:Option Bool} {ob:List (Bool×Bool)} {o:Oper} {p:PV} {slx:List (Nat×PV)→List (Nat×PV)} (hmm:ms[k]? = some mem:=by rfl) (hs:see ops.toList i es base=some pre:=by exact rfl) (hj:nth nums (i + 1)=some j:=by exact rfl) (h:∀ rest,gview ops.toList n i (pre++rest)=some (t,g,ob,o,slx rest):=by exact fun _=>rfl) (hq:∀ rest,isT g→t < n→Qy ⟨Tryd.prog,n,S0,O0,w0,m0,Bs,ds⟩ o ⟨slx rest,mem⟩ t p) (hes:snocK es (i,t,whn g p) some=some es':=by exact rfl) (hc:COw ⟨Tryd.prog,n,S0,O0,w0,m0,Bs,ds⟩ fr ops base ws ms j es' Q) (hi:memN i ws=false:=by rfl) (hch:chained ops ws=true:=by rfl) (hk:k≤ws.length:=by decide) (hb:behindB ops ws k i=true:=by rfl) (ha:aheadB ops ws k i=true:=by rfl) (ho:Obl ob:=by repeat first | exact Obl.nil | refine Obl.same ?_ | refine Obl.imp (fun h=>by simp_all) ?_):COw ⟨Tryd.prog,n,S0,O0,w0,m0,Bs,ds⟩ fr ops base ws ms i es Q:=
 oAtW k hs hj hes hi hch hk hmm hb ha hc fun rest _ hg=>gqy (h rest) (hq rest) hg ho
theorem iw (hs:see ops.toList i es base=some pre:=by exact rfl) (hj:nth nums (i + 1)=some j:=by exact rfl) (h:∀ rest,∀ X ∈ ms,E.step tab ops.toList n i ⟨pre++rest,X⟩=some (ob,⟨(t,p) :: (pre++rest),X⟩)) (hes:snocK es (i,t,p) some=some es':=by exact rfl) (hc:COw ⟨Tryd.prog,n,S0,O0,w0,m0,Bs,ds⟩ fr ops base ws ms j es' Q) (hi:memN i ws=false:=by rfl) (hl:Nat.blt ws.length ms.length=true:=by rfl) (ho:Obl ob:=by repeat first | exact Obl.nil | refine Obl.same ?_ | refine Obl.imp (fun h=>by simp_all) ?_):COw ⟨Tryd.prog,n,S0,O0,w0,m0,Bs,ds⟩ fr ops base ws ms i es Q:=oInW hs hj hes hi hl hc fun rest X hX _ hg=>toO (gv tabOk (h rest X hX) (ofO hg) ho)
theorem qiw {g:Option Bool} {slx:List (Nat×PV)→List (Nat×PV)} (hs:see ops.toList i es base=some pre:=by exact rfl) (hj:nth nums (i + 1)=some j:=by exact rfl) (h:∀ rest,gview ops.toList n i (pre++rest)=some (t,g,ob,o,slx rest):=by exact fun _=>rfl) (hq:∀ rest,∀ X ∈ ms,isT g→t < n→Qy ⟨Tryd.prog,n,S0,O0,w0,m0,Bs,ds⟩ o ⟨slx rest,X⟩ t p) (hes:snocK es (i,t,whn g p) some=some es':=by exact rfl) (hc:COw ⟨Tryd.prog,n,S0,O0,w0,m0,Bs,ds⟩ fr ops base ws ms j es' Q) (hi:memN i ws=false:=by rfl) (hl:Nat.blt ws.length ms.length=true:=by rfl) (ho:Obl ob:=by repeat first | exact Obl.nil | refine Obl.same ?_ | refine Obl.imp (fun h=>by simp_all) ?_):COw ⟨Tryd.prog,n,S0,O0,w0,m0,Bs,ds⟩ fr ops base ws ms i es Q:=oInW hs hj hes hi hl hc fun rest X hX _ hg=>gqy (h rest) (hq rest X hX) hg ho
theorem bw {C:Prop} (hs:see ops.toList i es base=some pre:=by exact rfl) (hj:nth nums (i + 1)=some j:=by exact rfl) (h:∀ rest,qcs tab ops.toList n i (pre++rest)=some (t,none,ob,C,p):=by exact fun _=>rfl) (hcc:C) (hes:snocK es (i,t,p) some=some es':=by exact rfl) (hc:COw ⟨Tryd.prog,n,S0,O0,w0,m0,Bs,ds⟩ fr ops base ws ms j es' Q) (hi:memN i ws=false:=by rfl) (ho:Obl ob:=by repeat first | exact Obl.nil | refine Obl.same ?_ | refine Obl.imp (fun h=>by simp_all) ?_):COw ⟨Tryd.prog,n,S0,O0,w0,m0,Bs,ds⟩ fr ops base ws ms i es Q:=oAnyW hs hj hes hi hc fun rest X _ hg=>gQ tabOk (h rest) (fun _=>hcc) ho hg
theorem cw {f:FuncId} {ds':List D} (hs:see ops.toList i es base=some pre:=by exact rfl) (hj:nth nums (i + 1)=some j:=by exact rfl) (h:∀ rest,cls ops.toList n i (pre++rest)=some (t,none,ob,f,ds'):=by exact fun _=>rfl) (hcl:Pf Tryd.prog f ds' p) (hes:snocK es (i,t,p) some=some es':=by exact rfl) (hc:COw ⟨Tryd.prog,n,S0,O0,w0,m0,Bs,ds⟩ fr ops base ws ms j es' Q) (hi:memN i ws=false:=by rfl) (ho:Obl ob:=by repeat first | exact Obl.nil | refine Obl.same ?_ | refine Obl.imp (fun h=>by simp_all) ?_):COw ⟨Tryd.prog,n,S0,O0,w0,m0,Bs,ds⟩ fr ops base ws ms i es Q:=oAnyW hs hj hes hi hc fun rest X _ hg=>gC (h rest) (fun _=>hcl) ho hg
theorem pw (k:Nat) {n:Nat} {S0:Reg} {O0:Owns} {w0:World} {m0 Bs:List Nat} {ds:List Deferred} {fr:List Fr} {Q:Exit→GS→Prop} {ops:Array Oper} {base pre:List (Nat×PV)} {ws:List Nat} {ms:List (List (List PV))} {i j t:Nat} {es es':List (Nat×Nat×PV)} {mem mem':List (List PV)} {p:PV} {o:Oper} (hm1:ms[k]? = some mem:=by rfl) (hm2:ms[k + 1]? = some mem':=by rfl) (hs:see ops.toList i es base=some pre:=by exact rfl) (hj:nth nums (i + 1)=some j:=by exact rfl) (hop:ops[i]? = some o:=by exact rfl) (hg0:o.guard=none:=by exact rfl) {memx:List (List PV)} (hy:∀ rest,Yld ⟨Tryd.prog,n,S0,O0,w0,m0,Bs,ds⟩ o ⟨pre++rest,mem⟩ ⟨(t,p) :: (pre++rest),memx⟩) (hmx:memx=mem':=by rfl) (hes:snocK es (i,t,p) some=some es':=by exact rfl) (hc:COw ⟨Tryd.prog,n,S0,O0,w0,m0,Bs,ds⟩ fr ops base ws ms j es' Q) (hw:ws[k]? = some i:=by rfl) (hch:chained ops ws=true:=by rfl) (hnd:nodupB ws=true:=by rfl):COw ⟨Tryd.prog,n,S0,O0,w0,m0,Bs,ds⟩ fr ops base ws ms i es Q:=
 oPutW k hs hj hes hw hch hnd hm1 hm2 hc fun rest _ hg=>gyl hop hg0 (hmx▸hy rest) hg
theorem mw (k:Nat) {n:Nat} {S0:Reg} {O0:Owns} {w0:World} {m0 Bs:List Nat} {ds:List Deferred} {fr:List Fr} {Q:Exit→GS→Prop} {ops:Array Oper} {base pre:List (Nat×PV)} {ws:List Nat} {ms:List (List (List PV))} {i j t:Nat} {es es':List (Nat×Nat×PV)} {mem mem':List (List PV)} {ob:List (Bool×Bool)} {p:PV} (hm1:ms[k]? = some mem:=by rfl) (hm2:ms[k + 1]? = some mem':=by rfl) (hs:see ops.toList i es base=some pre:=by exact rfl) (hj:nth nums (i + 1)=some j:=by exact rfl) (h:∀ rest,E.step tab ops.toList n i ⟨pre++rest,mem⟩=some (ob,⟨(t,p) :: (pre++rest),mem'⟩):=by exact fun _=>rfl) (hes:snocK es (i,t,p) some=some es':=by exact rfl) (hc:COw ⟨Tryd.prog,n,S0,O0,w0,m0,Bs,ds⟩ fr ops base ws ms j es' Q) (hw:ws[k]? = some i:=by rfl) (hch:chained ops ws=true:=by rfl) (hnd:nodupB ws=true:=by rfl) (ho:Obl ob:=by repeat first | exact Obl.nil | refine Obl.same ?_ | refine Obl.imp (fun h=>by simp_all) ?_):COw ⟨Tryd.prog,n,S0,O0,w0,m0,Bs,ds⟩ fr ops base ws ms i es Q:=
 oPutW k hs hj hes hw hch hnd hm1 hm2 hc fun rest _ hg=>toO (gv tabOk (h rest) (ofO hg) ho)
theorem sw (k:Nat) {n:Nat} {S0:Reg} {O0:Owns} {w0:World} {m0 Bs:List Nat} {ds:List Deferred} {fr:List Fr} {Q:Exit→GS→Prop} {ops:Array Oper} {base pre:List (Nat×PV)} {ws:List Nat} {ms:List (List (List PV))} {i j:Nat} {es:List (Nat×Nat×PV)} {mem mem':List (List PV)} {ob:List (Bool×Bool)} (hm1:ms[k]? = some mem:=by rfl) (hm2:ms[k + 1]? = some mem':=by rfl) (hs:see ops.toList i es base=some pre:=by exact rfl) (hj:nth nums (i + 1)=some j:=by exact rfl) (h:∀ rest,E.step tab ops.toList n i ⟨pre++rest,mem⟩=some (ob,⟨pre++rest,mem'⟩):=by exact fun _=>rfl) (hc:COw ⟨Tryd.prog,n,S0,O0,w0,m0,Bs,ds⟩ fr ops base ws ms j es Q) (hw:ws[k]? = some i:=by rfl) (hch:chained ops ws=true:=by rfl) (hnd:nodupB ws=true:=by rfl) (ho:Obl ob:=by repeat first | exact Obl.nil | refine Obl.same ?_ | refine Obl.imp (fun h=>by simp_all) ?_):COw ⟨Tryd.prog,n,S0,O0,w0,m0,Bs,ds⟩ fr ops base ws ms i es Q:=
 oActW k hs hj hw hch hnd hm1 hm2 hc fun rest _ hg=>toO (gv tabOk (h rest) (ofO hg) ho)
theorem ew (hi:sizeIs ops.toList i=true:=by exact rfl) (hp:putK es base some=some sl:=by exact rfl) (hm:ms[ws.length]? = some mem:=by rfl) (hc:GF ⟨Tryd.prog,n,S0,O0,w0,m0,Bs,ds⟩ fr (.leave .normal) Q ⟨sl,mem⟩) (hS:ws.all (fun w=>Nat.blt w ops.size)=true:=by rfl) (hn:nodupB (es.map (·.2.1))=true:=by rfl) (hb:base.all (fun x=>!(es.map (·.2.1)).contains x.1)=true:=by rfl) (hf:es.all (fun x=>Nat.blt x.1 ops.size)=true:=by rfl):COw ⟨Tryd.prog,n,S0,O0,w0,m0,Bs,ds⟩ fr ops base ws ms i es Q:=oEndW hi hp hS hm hc hn hb hf
end
section
structure Pk where
 kd:Int
 nu:Int
 bo:ByteArray
def Pk.d (p:Pk):D:=.agg [.int .i64 p.kd,.int .i64 p.nu,.str p.bo]
def Pk.right (p:Pk):Bool:=!(decide (p.nu < 0) || decide (p.nu > 1000000000)) && (cond (p.kd == 1) (decide ((p.bo.size:Int)≤200)) (p.kd == 2 && decide (p.bo=ByteArray.empty)))
theorem c33 (p:Pk):Pf Tryd.prog 33 [p.d] (.d (.bool p.right)):=by
 unfold Pk.d Pk.right
 refine pfb Tryd.func33 Tryd.ntmps33 Tryd.results33 (fun S0 O0 w0 m0 hm0=>?_)
 repeat' first | refine fz true (s:=⟨_,[_]⟩) (by exact rfl) ?_ | refine s_ ?_ | fail
 refine d_ (fun hb=>?_) (fun hb=>?_)
 · repeat' first | refine s_ ?_ | fail
   exact en (by exact rfl) (by simp only [hb];rfl)
 · repeat' first | refine s_ ?_ | fail
   refine d_ (fun hb2=>?_) (fun hb2=>?_)
   · repeat' first | refine s_ ?_ | fail
     exact en (by exact rfl) (by rw [hb];simp only [hb2];rfl)
   · repeat' first | refine s_ ?_ | fail
     exact en (by exact rfl) (by rw [hb];simp only [hb2];rfl)
def be4 (n:Int):List Int:=[n / 16777216 % 256,n / 65536 % 256,n / 256 % 256,n % 256]
theorem u8_wrap (n:Int):IntKind.u8.wrap n=n % 256:=by
 simp [IntKind.wrap,IntKind.signed,IntKind.bits]
theorem c34 (n:Int):Pf Tryd.prog 34 [.int .i64 n] (.osl 1 ((be4 n).map fun v=>.int .u8 v)):=by
 refine pfb Tryd.func34 Tryd.ntmps34 Tryd.results34 (fun S0 O0 w0 m0 hm0=>?_)
 repeat' first | refine zz (by exact rfl) ?_ | refine bs (by exact rfl) ?_ | refine s_ ?_ | fail
 refine gEndO (by rfl) (by rfl) ?_
 rw [show (2:Int) ^ min (Int.toNat 24) IntKind.i64.bits=16777216 by decide,show (2:Int) ^ min (Int.toNat 16) IntKind.i64.bits=65536 by decide,show (2:Int) ^ min (Int.toNat 8) IntKind.i64.bits=256 by decide,
  Int.fdiv_eq_ediv_of_nonneg _ (by decide),Int.fdiv_eq_ediv_of_nonneg _ (by decide),Int.fdiv_eq_ediv_of_nonneg _ (by decide)]
 simp only [u8_wrap]
 rfl
theorem Q_listStrO {K:Ctx} {sl:List (Nat×PV)} {mem:List (List PV)} {t u:Nat} {src dst e rt:TypeId} {pos:String} {af:Array Edge} {g:Option (Nat×Bool)} {ns:List Int}
 (hx:lst (lk sl u)=some (ns.map fun v=>D.int .u8 v)) (hn0:ns ≠ []) (hs:K.P.underlying src=some (.slice e)) (he:K.P.underlying e=some (.int .u8)) (hd:K.P.underlying dst=some .string):
 Qy K ⟨some t,.convert src dst (.tmp u),rt,pos,af,g⟩ ⟨sl,mem⟩ t (.d (.str (strOfNums ns))):=
 Qy_low hx (Q_listStr (by simp [GS.ev,GS.get,List.lookup_cons]) hn0 hs he hd)
theorem wrap_small {n:Int} (h0:0≤n) (h1:n≤1000000000000):IntKind.i64.wrap n=n:=wrap_i64 (by omega) (by omega)
theorem c35 (n:Int) (h0:0≤n) (h1:n≤1000000000):Pf Tryd.prog 35 [.int .i64 n] (.d (.str (strOfNums (be4 n)))):=by
 have e1:IntKind.u8.wrap (IntKind.i64.wrap (n.tdiv 16777216))=n / 16777216 % 256:=by
  rw [Int.tdiv_eq_ediv_of_nonneg h0,wrap_small (by omega) (by omega),u8_wrap]
 have e2:IntKind.u8.wrap ((IntKind.i64.wrap (n.tdiv 65536)).tmod 256)=n / 65536 % 256:=by
  rw [Int.tdiv_eq_ediv_of_nonneg h0,wrap_small (by omega) (by omega),Int.tmod_eq_emod_of_nonneg (by omega),u8_wrap];omega
 have e3:IntKind.u8.wrap ((IntKind.i64.wrap (n.tdiv 256)).tmod 256)=n / 256 % 256:=by
  rw [Int.tdiv_eq_ediv_of_nonneg h0,wrap_small (by omega) (by omega),Int.tmod_eq_emod_of_nonneg (by omega),u8_wrap];omega
 have e4:IntKind.u8.wrap (n.tmod 256)=n % 256:=by
  rw [Int.tmod_eq_emod_of_nonneg h0,u8_wrap];omega
 refine pfb Tryd.func35 Tryd.ntmps35 Tryd.results35 (fun S0 O0 w0 m0 hm0=>?_)
 repeat' first | refine qu (by exact rfl) (by decide) ?_ | refine bs (by exact rfl) ?_ | refine s_ ?_ | fail
 refine gq (by exact rfl) (fun _ _=>Q_listStrO (ns:=be4 n) (by rw [e1,e2,e3,e4];rfl) (by simp [be4]) u76 u5 u9) ?_
 repeat' first | refine s_ ?_ | fail
 exact e_
def nb4 (a b c d:Int):Int:=((a * 256 + b) * 256 + c) * 256 + d
def byt (s:ByteArray) (i:Nat):Int:=((s[i]!).toNat:Int)
theorem byt_lt (s:ByteArray) (i:Nat):0≤byt s i∧byt s i < 256:=⟨Int.natCast_nonneg _,by have:=(s[i]!).toNat_lt;unfold byt;omega⟩
theorem c37 (s:ByteArray) (h:4≤s.size):Pf Tryd.prog 37 [.str s] (.d (.int .i64 (nb4 (byt s 0) (byt s 1) (byt s 2) (byt s 3)))):=by
 have hb0:=byt_lt s 0
 have hb1:=byt_lt s 1
 have hb2:=byt_lt s 2
 have hb3:=byt_lt s 3
 refine pfb Tryd.func37 Tryd.ntmps37 Tryd.results37 (fun S0 O0 w0 m0 hm0=>?_)
 repeat' first | refine s_ ?_ | fail
 refine Z9 ?_
 repeat' first | refine ov (hc:=?_) | refine oq (hcc:=by constructor<;>first | decide | omega) (hc:=?_) | fail
 refine Z7 ?_
 repeat' first | refine s_ ?_ | fail
 refine Z35 ?_
 show PV.d (D.int .i64 (IntKind.i64.wrap (IntKind.i64.wrap (IntKind.i64.wrap (IntKind.i64.wrap (IntKind.i64.wrap (byt s 0) * 16777216) + IntKind.i64.wrap (IntKind.i64.wrap (byt s 1) * 65536)) + IntKind.i64.wrap (IntKind.i64.wrap (byt s 2) * 256)) + IntKind.i64.wrap (byt s 3))))=_
 generalize byt s 0=a at *
 generalize byt s 1=b at *
 generalize byt s 2=c at *
 generalize byt s 3=d at *
 rw [wrap_small (n:=a) (by omega) (by omega),wrap_small (n:=b) (by omega) (by omega),wrap_small (n:=c) (by omega) (by omega),wrap_small (n:=d) (by omega) (by omega),
  wrap_small (n:=a * 16777216) (by omega) (by omega),wrap_small (n:=b * 65536) (by omega) (by omega),wrap_small (n:=c * 256) (by omega) (by omega),wrap_small (n:=a * 16777216 + b * 65536) (by omega) (by omega),wrap_small (n:=a * 16777216 + b * 65536 + c * 256) (by omega) (by omega),wrap_small (n:=a * 16777216 + b * 65536 + c * 256 + d) (by omega) (by omega)]
 unfold nb4
 rw [show a * 16777216 + b * 65536 + c * 256 + d=((a * 256 + b) * 256 + c) * 256 + d by omega]
theorem or_byte {x y:Int} (h0:0≤x) (h1:x≤1000000000) (h2:0≤y) (h3:y < 256):orI (x * 256) y=x * 256 + y:=by
 obtain ⟨m,rfl⟩:=Int.eq_ofNat_of_zero_le h0
 obtain ⟨k,rfl⟩:=Int.eq_ofNat_of_zero_le h2
 have hk:k < 2 ^ 8:=by omega
 have e:(BitVec.ofInt 64 ((m:Int) * 256) ||| BitVec.ofInt 64 (k:Int)).toNat=m * 256 + k:=by
  have e1:BitVec.ofInt 64 ((m:Int) * 256)=BitVec.ofNat 64 (m * 256):=by
   rw [show (m:Int) * 256=((m * 256:Nat):Int) by omega,BitVec.ofInt_natCast]
  rw [e1,BitVec.ofInt_natCast,BitVec.toNat_or,BitVec.toNat_ofNat,BitVec.toNat_ofNat,Nat.mod_eq_of_lt (by omega),Nat.mod_eq_of_lt (by omega)]
  have:=Nat.shiftLeft_add_eq_or_of_lt hk m
  rw [Nat.shiftLeft_eq] at this
  exact this.symm
 show IntKind.i64.wrap ((BitVec.ofInt 64 ((m:Int) * 256) ||| BitVec.ofInt 64 (k:Int)).toNat:Int)=_
 rw [e,wrap_small (by omega) (by omega)];omega
theorem c36 (a b c d:Int) (ha:0≤a∧a < 256) (hb:0≤b∧b < 256) (hc:0≤c∧c < 256) (hd:0≤d∧d < 256):Pf Tryd.prog 36 [.agg [.int .u8 a,.int .u8 b,.int .u8 c,.int .u8 d]] (.d (.int .i64 (nb4 a b c d))):=by
 refine pfb Tryd.func36 Tryd.ntmps36 Tryd.results36 (fun S0 O0 w0 m0 hm0=>?_)
 repeat' first | refine fz true (s:=⟨_,[_]⟩) (by exact rfl) ?_ | refine s_ ?_ | refine gRn 5 ?_ | refine ct (by exact rfl) ?_ (by decide) | refine cf (by exact rfl) ?_ (by decide) | refine ixr (by exact rfl) u80 u5 ?_ | refine zz (by exact rfl) ?_ | fail
 refine Z35 ?_
 show PV.d (D.int .i64 (orI (IntKind.i64.wrap (orI (IntKind.i64.wrap (orI (IntKind.i64.wrap (orI 0 (IntKind.i64.wrap a) * 256)) (IntKind.i64.wrap b) * 256)) (IntKind.i64.wrap c) * 256)) (IntKind.i64.wrap d)))=_
 rw [wrap_small (n:=a) (by omega) (by omega),wrap_small (n:=b) (by omega) (by omega),wrap_small (n:=c) (by omega) (by omega),wrap_small (n:=d) (by omega) (by omega)]
 have e1:=or_byte (x:=0) (y:=a) (by omega) (by omega) ha.1 ha.2
 have e2:=or_byte (x:=a) (y:=b) (by omega) (by omega) hb.1 hb.2
 have e3:=or_byte (x:=a * 256 + b) (y:=c) (by omega) (by omega) hc.1 hc.2
 have e4:=or_byte (x:=(a * 256 + b) * 256 + c) (y:=d) (by omega) (by omega) hd.1 hd.2
 rw [Int.zero_mul,Int.zero_add] at e1
 rw [e1,wrap_small (n:=a * 256) (by omega) (by omega),e2,wrap_small (n:=(a * 256 + b) * 256) (by omega) (by omega),e3,wrap_small (n:=((a * 256 + b) * 256 + c) * 256) (by omega) (by omega),e4]
 rfl
end
section
def enB (p:Pk):ByteArray:=strOfNums ([114,100,p.kd % 256]++be4 p.nu++be4 p.bo.size++[58])++p.bo
def enC (p:Pk):ByteArray:=if p.right=true then enB p else ByteArray.empty
def enE (p:Pk):Int:=if p.right=true then 0 else 330
def u8s (l:List Int):List PV:=l.map fun v=>.d (.int .u8 v)
theorem right_size {p:Pk} (h:p.right=true):p.bo.size≤200:=by
 unfold Pk.right at h
 rw [Bool.and_eq_true] at h
 have h2:=h.2
 cases hk:(p.kd == 1) with
 | true=>rw [hk] at h2;simp at h2;omega
 | false=>
  rw [hk] at h2
  simp only [cond_false,Bool.and_eq_true,decide_eq_true_eq] at h2
  rw [h2.2];decide
theorem c10 (p:Pk):Pf Tryd.prog 10 [p.d] (.tup [.d (.str (enC p)),.d (.int .i64 (enE p))]):=by
 have q33:=c33 p
 have q34:=c34 p.nu
 have q34':=c34 (p.bo.size:Int)
 unfold Pk.d at q33 ⊢
 unfold enC enE
 refine pfb Tryd.func10 Tryd.ntmps10 Tryd.results10 (fun S0 O0 w0 m0 hm0=>?_)
 repeat' (fail_if_success refine fz true (s:=⟨_,[_]⟩) (by exact rfl) ?_);first | refine s_ ?_ | fail
 refine Z8 ?_
 repeat' first | refine s_ ?_ | refine c_ q33 ?_ | fail
 refine d_ (fun hb=>?_) (fun hb=>?_)
 · have hr:p.right=false:=by simpa using hb
   repeat' first | refine s_ ?_ | fail
   exact en (by exact rfl) (by rw [hr];rfl)
 · have hr:p.right=true:=by simpa using hb
   have hsz:p.bo.size≤200:=right_size hr
   repeat' first | refine s_ ?_ | fail
   refine ow [4] [[u8s [114,100,IntKind.u8.wrap p.kd,0,0,0,0,0,0,0,0,58]],[u8s ([114,100,IntKind.u8.wrap p.kd]++be4 p.nu++[0,0,0,0,58])]] (hc:=?_)
   refine qw 0 (hmm:=rfl) (hs:=rfl) (hj:=rfl) (h:=fun _=>rfl) (hq:=fun rest _ _=>Q_sliceArr rfl rfl rfl rfl rfl u75 sz5 (by exact (by decide:12≤12)) (by decide) (by decide) (by decide) (by decide)) (hc:=?_)
   refine Z12 ?_;refine Z12 ?_
   refine cw (hcl:=q34) (hc:=?_)
   refine pw 0 (hm1:=rfl) (hm2:=rfl) (hs:=rfl) (hj:=rfl) (hop:=rfl) (hy:=fun rest=>yCopy (ys:=(be4 p.nu).map fun v=>.int .u8 v) rfl rfl rfl rfl (by simp [D.cells]) (by simp [be4]) (by exact (by decide:4≤4)) (by exact (by decide:7≤12)) u76 sz5 (Nat.le_of_ble_eq_true rfl)) (hc:=?_)
   refine Z25 ?_
   repeat' first | refine s_ ?_ | fail
   refine ow [5] [[u8s ([114,100,IntKind.u8.wrap p.kd]++be4 p.nu++[0,0,0,0,58])],[u8s ([114,100,IntKind.u8.wrap p.kd]++be4 p.nu++be4 p.bo.size++[58])]] (hc:=?_)
   refine qw 0 (hmm:=rfl) (hs:=rfl) (hj:=rfl) (h:=fun _=>rfl) (hq:=fun rest _ _=>Q_sliceArr rfl rfl rfl rfl rfl u75 sz5 (by exact (by decide:12≤12)) (by decide) (by decide) (by decide) (by decide)) (hc:=?_)
   refine Z12 ?_;refine Z12 ?_;refine Z12 ?_
   refine cw (hcl:=q34') (hc:=?_)
   refine pw 0 (hm1:=rfl) (hm2:=rfl) (hs:=rfl) (hj:=rfl) (hop:=rfl) (hy:=fun rest=>yCopy (ys:=(be4 p.bo.size).map fun v=>.int .u8 v) rfl rfl rfl rfl (by simp [D.cells]) (by simp [be4]) (by exact (by decide:4≤4)) (by exact (by decide:11≤12)) u76 sz5 (Nat.le_of_ble_eq_true rfl)) (hc:=?_)
   refine Z25 ?_
   repeat' first | refine s_ ?_ | fail
   refine Z9 ?_
   refine oqw (hs:=rfl) (hj:=rfl) (h:=fun _=>rfl) (hq:=fun rest _ _=>Q_sliceArrAll rfl rfl rfl u75 sz5 (by exact (by decide:12≤12)) (by decide) (by decide)) (hc:=?_)
   refine oqw (hs:=rfl) (hj:=rfl) (h:=fun _=>rfl) (hq:=fun rest _ _=>Q_rowStr (ns:=[114,100,IntKind.u8.wrap p.kd]++be4 p.nu++be4 p.bo.size++[58]) rfl rfl rfl rfl (by decide) rfl u76 u5 u9 rfl) (hc:=?_)
   iterate 2 refine ov (hc:=?_)
   refine oq (hcc:=?_) (hc:=?_)
   · show (strOfNums ([114,100,IntKind.u8.wrap p.kd]++be4 p.nu++be4 p.bo.size++[58])).size + p.bo.size≤lim
     rw [strOfNums_size]
     show 12 + p.bo.size≤lim
     unfold lim
     omega
   iterate 2 refine ov (hc:=?_)
   refine Z7 ?_
   repeat' first | refine s_ ?_ | fail
   refine Z35 ?_
   rw [if_pos hr,if_pos hr]
   unfold enB
   rw [u8_wrap]
end
section
theorem strOfNums_append (a b:List Int):strOfNums (a++b)=strOfNums a++strOfNums b:=by
 apply ByteArray.ext
 simp [strOfNums,ByteArray.data_append]
def Pk.wrong (p:Pk):Bool:=(!(p.kd == 1) && !(p.kd == 2)) || decide (p.nu < 0) || decide (p.nu > 1000000000) || decide ((p.bo.size:Int) > 200) || (p.kd == 2 && !decide (p.bo=ByteArray.empty))
theorem wrong_eq (p:Pk):p.wrong=!p.right:=by
 have hs:decide (p.bo=ByteArray.empty)=true→decide ((p.bo.size:Int) > 200)=false:=fun h=>by rw [oR h];decide
 have hz:decide ((p.bo.size:Int)≤200)=!decide ((p.bo.size:Int) > 200):=by
  by_cases h:(p.bo.size:Int)≤200
  · rw [decide_eq_true h,decide_eq_false (by omega)];rfl
  · rw [decide_eq_false h,decide_eq_true (by omega)];rfl
 have hk:(p.kd == 1)=true→(p.kd == 2)=false:=fun h=>by rw [eq_of_beq h];decide
 unfold Pk.wrong Pk.right
 rw [hz]
 generalize (p.kd == 1)=a at *
 generalize (p.kd == 2)=b at *
 generalize decide (p.bo=ByteArray.empty)=e at *
 generalize decide ((p.bo.size:Int) > 200)=z at *
 generalize decide (p.nu < 0)=x
 generalize decide (p.nu > 1000000000)=y
 cases a<;>cases b<;>cases e<;>cases z<;>cases x<;>cases y<;>simp_all
theorem c11 (p:Pk):Pf Tryd.prog 11 [p.d] (.tup [.d (.str (enC p)),.d (.int .i64 (enE p))]):=by
 have hwe:=wrong_eq p
 unfold Pk.wrong at hwe
 unfold Pk.d enC enE
 refine pfb Tryd.func11 Tryd.ntmps11 Tryd.results11 (fun S0 O0 w0 m0 hm0=>?_)
 repeat' (fail_if_success refine fz true (s:=⟨_,[_]⟩) (by exact rfl) ?_);first | refine s_ ?_ | fail
 refine Z8 ?_
 repeat' first | refine s_ ?_ | fail
 refine d_ (fun hb=>?_) (fun hb=>?_)
 · have hr:p.right=false:=by
    have:(!p.right)=true:=hwe.symm.trans hb
    simpa using this
   repeat' first | refine s_ ?_ | fail
   exact en (by exact rfl) (by rw [hr];rfl)
 · have hr:p.right=true:=by
    have:(!p.right)=false:=hwe.symm.trans hb
    simpa using this
   have hsz:=right_size hr
   have hnu:0≤p.nu∧p.nu≤1000000000:=by
    unfold Pk.right at hr
    rw [Bool.and_eq_true] at hr
    have:=hr.1
    simp only [Bool.not_eq_true',Bool.or_eq_false_iff,decide_eq_false_iff_not] at this
    omega
   have q35:=c35 p.nu hnu.1 hnu.2
   have q35':=c35 (p.bo.size:Int) (by omega) (by omega)
   repeat' first | refine s_ ?_ | fail
   refine Z9 ?_
   iterate 3 refine ov (hc:=?_)
   refine onl (hc:=?_)
   refine oqw (hs:=rfl) (hj:=rfl) (h:=fun _=>rfl) (hq:=fun rest _ _=>Q_listStrO (ns:=[IntKind.u8.wrap p.kd]) rfl (List.cons_ne_nil _ _) u76 u5 u9) (hc:=?_)
   refine oq (hcc:=?_) (hc:=?_)
   · rw [strOfNums_size];exact (by decide:2 + 1≤lim)
   iterate 2 refine ov (hc:=?_)
   refine oc (hcl:=q35) (hc:=?_)
   refine oq (hcc:=?_) (hc:=?_)
   · rw [ByteArray.size_append,strOfNums_size,strOfNums_size];exact (by decide:2 + 1 + 4≤lim)
   iterate 3 refine ov (hc:=?_)
   refine oc (hcl:=q35') (hc:=?_)
   refine oq (hcc:=?_) (hc:=?_)
   · rw [ByteArray.size_append,ByteArray.size_append,strOfNums_size,strOfNums_size,strOfNums_size];exact (by decide:2 + 1 + 4 + 4≤lim)
   refine oq (hcc:=?_) (hc:=?_)
   · rw [ByteArray.size_append,ByteArray.size_append,ByteArray.size_append,strOfNums_size,strOfNums_size,strOfNums_size];exact (by decide:2 + 1 + 4 + 4 + 1≤lim)
   iterate 2 refine ov (hc:=?_)
   refine oq (hcc:=?_) (hc:=?_)
   · rw [ByteArray.size_append,ByteArray.size_append,ByteArray.size_append,ByteArray.size_append,strOfNums_size,strOfNums_size,strOfNums_size]
     show 2 + 1 + 4 + 4 + 1 + p.bo.size≤lim
     unfold lim
     omega
   iterate 2 refine ov (hc:=?_)
   refine Z7 ?_
   repeat' first | refine s_ ?_ | fail
   refine Z35 ?_
   rw [if_pos hr,if_pos hr]
   unfold enB
   rw [strOfNums_append,strOfNums_append,strOfNums_append,show ([114,100,p.kd % 256]:List Int)=[114,100]++[p.kd % 256] from rfl,strOfNums_append,u8_wrap]
   rfl
end
section
theorem bytes_head (s:ByteArray) (h:12≤s.size):bytesD (s.extract 0 12)=[.int .u8 (byt s 0),.int .u8 (byt s 1),.int .u8 (byt s 2),.int .u8 (byt s 3),.int .u8 (byt s 4),.int .u8 (byt s 5),.int .u8 (byt s 6),.int .u8 (byt s 7),.int .u8 (byt s 8),.int .u8 (byt s 9),.int .u8 (byt s 10),.int .u8 (byt s 11)]:=by
 refine List.ext_getElem? fun i=>?_
 by_cases hi:i < 12
 · have hl:(s.extract 0 12).size=12:=by simp [ByteArray.size_extract];omega
   have hil:i < (bytesD (s.extract 0 12)).length:=by rw [bytesD_length,hl];exact hi
   rw [gE hil]
   have e:(bytesD (s.extract 0 12))[i]=.int .u8 (byt s i):=by
    have hd:i < (s.extract 0 12).data.toList.length:=by rw [bytes_len,hl];exact hi
    have h0:(bytesD (s.extract 0 12))[i]? = some (.int .u8 (((s.extract 0 12).data.toList[i]'hd).toNat:Int)):=by
     unfold bytesD
     rw [List.getElem?_map,gE hd];rfl
    have h1:=gE hil
    rw [h0] at h1
    injection h1 with h1
    rw [← h1]
    unfold byt
    have h2:s[i]! = s[i]'(by omega):=getElem!_pos s i (by omega)
    rw [h2]
    congr 3
    simp [ByteArray.data_extract]
    rfl
   rw [e]
   match i,hi with
   | 0,_=>rfl
   | 1,_=>rfl
   | 2,_=>rfl
   | 3,_=>rfl
   | 4,_=>rfl
   | 5,_=>rfl
   | 6,_=>rfl
   | 7,_=>rfl
   | 8,_=>rfl
   | 9,_=>rfl
   | 10,_=>rfl
   | 11,_=>rfl
   | n + 12,h=>omega
 · rw [List.getElem?_eq_none (by rw [bytesD_length];simp [ByteArray.size_extract];omega),List.getElem?_eq_none (by simp;omega)]
def hdP (s:ByteArray):Pk:=⟨byt s 2,nb4 (byt s 3) (byt s 4) (byt s 5) (byt s 6),s.extract 12 s.size⟩
def zeroP:Pk:=⟨0,0,ByteArray.empty⟩
def deW (s:ByteArray):Bool:=byt s 0 != 114 || byt s 1 != 100 || byt s 11 != 58 || nb4 (byt s 7) (byt s 8) (byt s 9) (byt s 10) != ((s.extract 12 s.size).size:Int) || !(hdP s).right
def deP (s:ByteArray):Pk:=if s.size < 12 then zeroP else if deW s=true then zeroP else hdP s
def deE (s:ByteArray):Int:=if s.size < 12 then 330 else if deW s=true then 330 else 0
theorem c12 (s:ByteArray):Pf Tryd.prog 12 [.str s] (.tup [.d (deP s).d,.d (.int .i64 (deE s))]):=by
 unfold deP deE
 refine pfb Tryd.func12 Tryd.ntmps12 Tryd.results12 (fun S0 O0 w0 m0 hm0=>?_)
 repeat' first | refine s_ ?_ | fail
 refine d_ (fun hb=>?_) (fun hb=>?_)
 · have hlt:s.size < 12:=by have:=oR hb;omega
   repeat' first | refine s_ ?_ | fail
   exact en (by exact rfl) (by rw [if_pos hlt,if_pos hlt];rfl)
 · have hge:12≤s.size:=by have:=of_decide_eq_false hb;omega
   have hn:¬ s.size < 12:=by omega
   have hbd:=bytes_head s hge
   have q36:=c36 _ _ _ _ (byt_lt s 3) (byt_lt s 4) (byt_lt s 5) (byt_lt s 6)
   have q36':=c36 _ _ _ _ (byt_lt s 7) (byt_lt s 8) (byt_lt s 9) (byt_lt s 10)
   have hw2:IntKind.i64.wrap (byt s 2)=byt s 2:=wrap_small (byt_lt s 2).1 (by have:=(byt_lt s 2).2;omega)
   have q33:=c33 (hdP s)
   unfold Pk.d at q33
   have e1:(hdP s).kd=IntKind.i64.wrap (byt s 2):=hw2.symm
   rw [e1] at q33
   repeat' first | refine s_ ?_ | fail
   refine qu (by exact rfl) (show _∧_ from ⟨by decide,by omega⟩) ?_
   refine gyl rfl rfl (Y_strbytes (b:=s.extract 0 12) rfl u9 u76 u5 (by rw [ByteArray.size_extract];unfold lim;omega) (Nat.le_of_ble_eq_true rfl)) ?_
   rw [hbd]
   dsimp only [GS.set]
   refine gq (by exact rfl) (fun _ _=>Q_listArr (xs:=[.int .u8 (byt s 0),.int .u8 (byt s 1),.int .u8 (byt s 2),.int .u8 (byt s 3),.int .u8 (byt s 4),.int .u8 (byt s 5),.int .u8 (byt s 6),.int .u8 (byt s 7),.int .u8 (byt s 8),.int .u8 (byt s 9),.int .u8 (byt s 10),.int .u8 (byt s 11)]) rfl u75 rfl (List.cons_ne_nil _ _) (fun x hx=>by
    simp only [List.mem_cons,List.not_mem_nil,or_false] at hx
    rcases hx with rfl | rfl | rfl | rfl | rfl | rfl | rfl | rfl | rfl | rfl | rfl | rfl<;>exact ⟨_,_,rfl⟩)) ?_
   repeat' first | refine s_ ?_ | fail
   refine ow [10,11] [[[.d (.int .i64 0),.d (.int .i64 0),.d (.str ByteArray.empty)],[.d (.int .u8 (byt s 0)),.d (.int .u8 (byt s 1)),.d (.int .u8 (byt s 2)),.d (.int .u8 (byt s 3)),.d (.int .u8 (byt s 4)),.d (.int .u8 (byt s 5)),.d (.int .u8 (byt s 6)),.d (.int .u8 (byt s 7)),.d (.int .u8 (byt s 8)),.d (.int .u8 (byt s 9)),.d (.int .u8 (byt s 10)),.d (.int .u8 (byt s 11))]],[[.d (.int .i64 0),.d (.int .i64 0),.d (.str ByteArray.empty)],[.d (.int .u8 (byt s 0)),.d (.int .u8 (byt s 1)),.d (.int .u8 (byt s 2)),.d (.int .u8 (byt s 3)),.d (.int .u8 (byt s 4)),.d (.int .u8 (byt s 5)),.d (.int .u8 (byt s 6)),.d (.int .u8 (byt s 7)),.d (.int .u8 (byt s 8)),.d (.int .u8 (byt s 9)),.d (.int .u8 (byt s 10)),.d (.int .u8 (byt s 11))],[.d (.int .i64 0),.d (.int .i64 0),.d (.str ByteArray.empty)]],[[.d (.int .i64 0),.d (.int .i64 0),.d (.str ByteArray.empty)],[.d (.int .u8 (byt s 0)),.d (.int .u8 (byt s 1)),.d (.int .u8 (byt s 2)),.d (.int .u8 (byt s 3)),.d (.int .u8 (byt s 4)),.d (.int .u8 (byt s 5)),.d (.int .u8 (byt s 6)),.d (.int .u8 (byt s 7)),.d (.int .u8 (byt s 8)),.d (.int .u8 (byt s 9)),.d (.int .u8 (byt s 10)),.d (.int .u8 (byt s 11))],[.d (.int .i64 (IntKind.i64.wrap (byt s 2))),.d (.int .i64 (nb4 (byt s 3) (byt s 4) (byt s 5) (byt s 6))),.d (.str (s.extract 12 s.size))]]] (hc:=?_)
   refine qiw (hs:=rfl) (hj:=rfl) (h:=fun _=>rfl) (p:=.ref 1 (0 + Int.toNat 2 * 1)) (hq:=fun rest X hX _ _=>Q_arrAddr (o:=0) (i:=2) (m:=1) rfl rfl u75 sz5 (by decide) (by decide)) (hc:=?_)
   refine iw (ob:=[]) (p:=.d (.int .u8 (byt s 2))) (h:=fun rest X hX=>by (simp only [List.mem_cons,List.not_mem_nil,or_false] at hX;rcases hX with rfl | rfl | rfl<;>rfl)) (hc:=?_)
   refine Z12 ?_
   refine qiw (hs:=rfl) (hj:=rfl) (h:=fun _=>rfl) (p:=.rsl 1 (Int.toNat 3) (Int.toNat 7 - Int.toNat 3) 1) (hq:=fun rest X hX _ _=>by (simp only [List.mem_cons,List.not_mem_nil,or_false] at hX;rcases hX with rfl | rfl | rfl<;>exact Q_sliceArr (i:=3) (j:=7) rfl rfl rfl rfl rfl u75 sz5 (by exact (by decide:12≤12)) (by decide) (by decide) (by decide) (by decide))) (hc:=?_)
   refine qiw (hs:=rfl) (hj:=rfl) (h:=fun _=>rfl) (p:=.ref 1 3) (hq:=fun rest X hX _ _=>Q_rowArr (n:=4) rfl u80 (by decide) (by decide)) (hc:=?_)
   refine iw (ob:=[]) (p:=.d (.agg [.int .u8 (byt s 3),.int .u8 (byt s 4),.int .u8 (byt s 5),.int .u8 (byt s 6)])) (h:=fun rest X hX=>by (simp only [List.mem_cons,List.not_mem_nil,or_false] at hX;rcases hX with rfl | rfl | rfl<;>rfl)) (hc:=?_)
   refine cw (hcl:=q36) (hc:=?_)
   refine Z12 ?_
   refine bw (hcc:=show _∧_ from ⟨by decide,by omega⟩) (hc:=?_)
   refine Z12 ?_
   refine mw 0 (hc:=?_)
   refine sw 1 (hc:=?_)
   refine Z25 ?_
   repeat' first | refine s_ ?_ | fail
   refine Z9 ?_;refine Z21 ?_
   iterate 3 refine ov (hc:=?_)
   refine Z21 ?_
   iterate 4 refine ov (hc:=?_)
   refine Z21 ?_
   iterate 4 refine ov (hc:=?_)
   refine oqw (hs:=rfl) (hj:=rfl) (h:=fun _=>rfl) (hq:=fun rest _ _=>Q_sliceArr rfl rfl rfl rfl rfl u75 sz5 (by exact (by decide:12≤12)) (by decide) (by decide) (by decide) (by decide)) (hc:=?_)
   refine oqw (hs:=rfl) (hj:=rfl) (h:=fun _=>rfl) (hq:=fun rest _ _=>Q_rowArr rfl u80 (by decide) (by decide)) (hc:=?_)
   refine Z6 ?_
   refine ocg (hcl:=fun _=>q36') (hc:=?_)
   iterate 7 refine ov (hc:=?_)
   refine ocg (hcl:=fun _=>q33) (hc:=?_)
   iterate 2 refine ov (hc:=?_)
   refine Z7 ?_
   repeat' first | refine s_ ?_ | fail
   refine d_ (fun hb2=>?_) (fun hb2=>?_)
   · have hr:deW s=true:=hb2
     repeat' first | refine s_ ?_ | fail
     exact en (by exact rfl) (by rw [if_neg hn,if_neg hn,if_pos hr,if_pos hr];rfl)
   · have hr:¬ deW s=true:=fun h=>by
      have:deW s=false:=hb2
      rw [h] at this;cases this
     repeat' first | refine s_ ?_ | fail
     refine Z35 ?_
     rw [if_neg hn,if_neg hn,if_neg hr,if_neg hr]
     show PV.tup [.d (.agg [.int .i64 (IntKind.i64.wrap (byt s 2)),_,_]),_]=_
     rw [hw2]
     rfl
end
section
theorem byt_part (s:ByteArray) (i:Nat) (hi:i < 4) (h:12≤s.size):byt (s.extract 3 7) i=byt s (3 + i):=by
 have h1:i < (s.extract 3 7).size:=by simp [ByteArray.size_extract];omega
 unfold byt
 rw [getElem!_pos (s.extract 3 7) i h1,getElem!_pos s (3 + i) (by omega)]
 congr 2
 simp [ByteArray.getElem_extract]
def deWR (s:ByteArray):Bool:=enE (hdP s) != 0 || !decide (enC (hdP s)=s)
def deRP (s:ByteArray):Pk:=if s.size < 12 then zeroP else if deWR s=true then zeroP else hdP s
def deRE (s:ByteArray):Int:=if s.size < 12 then 330 else if deWR s=true then 330 else 0
theorem c13 (s:ByteArray):Pf Tryd.prog 13 [.str s] (.tup [.d (deRP s).d,.d (.int .i64 (deRE s))]):=by
 unfold deRP deRE
 refine pfb Tryd.func13 Tryd.ntmps13 Tryd.results13 (fun S0 O0 w0 m0 hm0=>?_)
 repeat' first | refine s_ ?_ | fail
 refine d_ (fun hb=>?_) (fun hb=>?_)
 · have hlt:s.size < 12:=by have:=oR hb;omega
   repeat' first | refine s_ ?_ | fail
   exact en (by exact rfl) (by rw [if_pos hlt,if_pos hlt];rfl)
 · have hge:12≤s.size:=by have:=of_decide_eq_false hb;omega
   have hn:¬ s.size < 12:=by omega
   have q37:=c37 (s.extract 3 7) (by simp [ByteArray.size_extract];omega)
   rw [byt_part s 0 (by decide) hge,byt_part s 1 (by decide) hge,byt_part s 2 (by decide) hge,byt_part s 3 (by decide) hge] at q37
   have hw2:IntKind.i64.wrap (byt s 2)=byt s 2:=wrap_small (byt_lt s 2).1 (by have:=(byt_lt s 2).2;omega)
   have q11:=c11 (hdP s)
   unfold Pk.d at q11
   have e1:(hdP s).kd=IntKind.i64.wrap (byt s 2):=hw2.symm
   rw [e1] at q11
   repeat' first | refine s_ ?_ | fail
   refine ow [9,10] [[[.d (.int .i64 0),.d (.int .i64 0),.d (.str ByteArray.empty)]],[[.d (.int .i64 0),.d (.int .i64 0),.d (.str ByteArray.empty)],[.d (.int .i64 0),.d (.int .i64 0),.d (.str ByteArray.empty)]],[[.d (.int .i64 0),.d (.int .i64 0),.d (.str ByteArray.empty)],[.d (.int .i64 (IntKind.i64.wrap (byt s 2))),.d (.int .i64 (nb4 (byt s 3) (byt s 4) (byt s 5) (byt s 6))),.d (.str (s.extract 12 s.size))]]] (hc:=?_)
   refine Z12 ?_
   refine bw (hcc:=show _∧_ from ⟨by decide,by omega⟩) (hc:=?_)
   refine Z12 ?_;refine Z12 ?_
   refine qiw (hs:=rfl) (hj:=rfl) (h:=fun _=>rfl) (p:=.d (.str (s.extract 3 7))) (hq:=fun rest X hX _ _=>Q_strlh (i:=3) (j:=7) rfl rfl rfl u9 (by decide) (by decide) (by omega)) (hc:=?_)
   refine cw (hcl:=q37) (hc:=?_)
   refine Z12 ?_
   refine bw (hcc:=show _∧_ from ⟨by decide,by omega⟩) (hc:=?_)
   refine Z12 ?_
   refine mw 0 (hc:=?_)
   refine sw 1 (hc:=?_)
   refine Z25 ?_
   repeat' first | refine s_ ?_ | refine c_ q11 ?_ | fail
   refine d_ (fun hb2=>?_) (fun hb2=>?_)
   · have hr:deWR s=true:=hb2
     repeat' first | refine s_ ?_ | fail
     exact en (by exact rfl) (by rw [if_neg hn,if_neg hn,if_pos hr,if_pos hr];rfl)
   · have hr:¬ deWR s=true:=fun h=>by
      have:deWR s=false:=hb2
      rw [h] at this;cases this
     repeat' first | refine s_ ?_ | fail
     refine Z35 ?_
     rw [if_neg hn,if_neg hn,if_neg hr,if_neg hr]
     show PV.tup [.d (.agg [.int .i64 (IntKind.i64.wrap (byt s 2)),_,_]),_]=_
     rw [hw2]
     rfl
end
section
def decD:D→UInt8
 | .int _ n=>UInt8.ofNat n.toNat
 | _=>0
theorem head_eq (s:ByteArray) (h:12≤s.size):s.extract 0 12=strOfNums [byt s 0,byt s 1,byt s 2,byt s 3,byt s 4,byt s 5,byt s 6,byt s 7,byt s 8,byt s 9,byt s 10,byt s 11]:=by
 have h1:=congrArg (List.map decD) (bytes_head s h)
 unfold bytesD at h1
 rw [List.map_map,show (decD ∘ fun c:UInt8=>D.int .u8 (c.toNat:Int))=id from funext fun c=>by simp [decD],List.map_id] at h1
 apply ByteArray.ext
 apply Array.toList_inj.1
 rw [h1,strOfNums_data]
 rfl
theorem strOfNums_inj:∀ (a b:List Int),(∀ x ∈ a,0≤x∧x < 256)→(∀ x ∈ b,0≤x∧x < 256)→(strOfNums a).data.toList=(strOfNums b).data.toList→a=b:=by
 intro a b ha hb h
 rw [strOfNums_data,strOfNums_data] at h
 have hl:a.length=b.length:=by have:=congrArg List.length h;simpa using this
 refine List.ext_getElem hl fun i h1 h2=>?_
 have h3:=congrArg (fun l=>l[i]?) h
 simp only [List.getElem?_map,gE h1,gE h2,Option.map_some,Option.some.injEq] at h3
 have h4:=congrArg UInt8.toNat h3
 have ha':=ha _ (List.getElem_mem h1)
 have hb':=hb _ (List.getElem_mem h2)
 rw [UInt8.toNat_ofNat',UInt8.toNat_ofNat'] at h4
 omega
theorem be4_nb4 (a b c d:Int) (ha:0≤a∧a < 256) (hb:0≤b∧b < 256) (hc:0≤c∧c < 256) (hd:0≤d∧d < 256):be4 (nb4 a b c d)=[a,b,c,d]:=by
 unfold be4 nb4
 rw [show (((a * 256 + b) * 256 + c) * 256 + d) / 16777216 % 256=a by omega,show (((a * 256 + b) * 256 + c) * 256 + d) / 65536 % 256=b by omega,show (((a * 256 + b) * 256 + c) * 256 + d) / 256 % 256=c by omega,show (((a * 256 + b) * 256 + c) * 256 + d) % 256=d by omega]
theorem nb4_be4 {n a b c d:Int} (h0:0≤n) (h1:n < 4294967296) (h:be4 n=[a,b,c,d]):nb4 a b c d=n:=by
 unfold be4 at h
 simp only [List.cons.injEq,and_true] at h
 obtain ⟨rfl,rfl,rfl,rfl⟩:=h
 unfold nb4;omega
theorem be4_lt (n:Int):∀ x ∈ be4 n,0≤x∧x < 256:=fun x hx=>by
 unfold be4 at hx
 simp only [List.mem_cons,List.not_mem_nil,or_false] at hx
 rcases hx with rfl | rfl | rfl | rfl<;>omega
theorem de_eq (s:ByteArray) (h:12≤s.size):deWR s=deW s:=by
 have hs:s=strOfNums [byt s 0,byt s 1,byt s 2,byt s 3,byt s 4,byt s 5,byt s 6,byt s 7,byt s 8,byt s 9,byt s 10,byt s 11]++s.extract 12 s.size:=by
  rw [← head_eq s h,ByteArray.extract_append_extract];simp
 unfold deWR deW
 by_cases hr:(hdP s).right=true
 · have hE:enE (hdP s)=0:=by unfold enE;rw [if_pos hr]
   have hC:enC (hdP s)=enB (hdP s):=by unfold enC;rw [if_pos hr]
   have hsz:=right_size hr
   have hbo:(hdP s).bo=s.extract 12 s.size:=rfl
   have hk2:=byt_lt s 2
   have iff1:enB (hdP s)=s ↔ (byt s 0=114∧byt s 1=100∧byt s 11=58∧nb4 (byt s 7) (byt s 8) (byt s 9) (byt s 10)=((s.extract 12 s.size).size:Int)):=by
    have hX:enB (hdP s)=strOfNums ([114,100,byt s 2]++be4 (nb4 (byt s 3) (byt s 4) (byt s 5) (byt s 6))++be4 (s.extract 12 s.size).size++[58])++s.extract 12 s.size:=by
     unfold enB
     show strOfNums ([114,100,byt s 2 % 256]++_++_++_)++_=_
     rw [show byt s 2 % 256=byt s 2 by omega];rfl
    rw [be4_nb4 _ _ _ _ (byt_lt s 3) (byt_lt s 4) (byt_lt s 5) (byt_lt s 6)] at hX
    rw [hX]
    constructor
    · intro he
      have he2:=he.trans hs
      have he3:=congrArg (fun b:ByteArray=>b.data.toList) he2
      simp only [ByteArray.data_append,Array.toList_append,List.append_left_inj] at he3
      have he4:=strOfNums_inj _ _ (fun x hx=>by
       simp only [List.mem_append,List.mem_cons,List.not_mem_nil,or_false] at hx
       rcases hx with (((rfl | rfl | rfl) | rfl | rfl | rfl | rfl) | hx) | rfl
       · decide
       · decide
       · exact hk2
       · exact byt_lt s 3
       · exact byt_lt s 4
       · exact byt_lt s 5
       · exact byt_lt s 6
       · exact be4_lt _ x hx
       · decide) (fun x hx=>by
       simp only [List.mem_cons,List.not_mem_nil,or_false] at hx
       rcases hx with rfl | rfl | rfl | rfl | rfl | rfl | rfl | rfl | rfl | rfl | rfl | rfl<;>exact byt_lt s _) he3
      have he5:be4 (s.extract 12 s.size).size=[byt s 7,byt s 8,byt s 9,byt s 10]:=by
       have:=congrArg (fun l=>(l.drop 7).take 4) he4
       exact this
      have h0:=congrArg (fun l=>l[0]?) he4
      have h1:=congrArg (fun l=>l[1]?) he4
      have h2:=congrArg (fun l=>l[11]?) he4
      refine ⟨(Option.some.inj h0).symm,(Option.some.inj h1).symm,(Option.some.inj (show some (58:Int)=some (byt s 11) from h2)).symm,nb4_be4 (by omega) (by rw [← hbo];omega) he5⟩
    · rintro ⟨h0,h1,h2,h3⟩
      rw [← h3,be4_nb4 _ _ _ _ (byt_lt s 7) (byt_lt s 8) (byt_lt s 9) (byt_lt s 10)]
      conv=>rhs;rw [hs]
      rw [h0,h1,h2]
      rfl
   rw [hE,hC,hr]
   by_cases he:enB (hdP s)=s
   · obtain ⟨h0,h1,h2,h3⟩:=iff1.1 he
     rw [decide_eq_true he,h0,h1,h2,h3];simp
   · rw [decide_eq_false he]
     have hne:¬ (byt s 0=114∧byt s 1=100∧byt s 11=58∧nb4 (byt s 7) (byt s 8) (byt s 9) (byt s 10)=((s.extract 12 s.size).size:Int)):=fun h=>he (iff1.2 h)
     simp only [Bool.not_false,Bool.or_true,Bool.not_true,Bool.or_false]
     refine (eq_true_of_ne_false fun hf=>?_).symm
     simp only [Bool.or_eq_false_iff,bne_eq_false_iff_eq] at hf
     exact hne ⟨hf.1.1.1,hf.1.1.2,hf.1.2,hf.2⟩
 · have hr':(hdP s).right=false:=by simpa using hr
   have hE:enE (hdP s)=330:=by unfold enE;rw [if_neg hr]
   rw [hE,hr'];simp
theorem deRP_eq (s:ByteArray):deRP s=deP s:=by
 unfold deRP deP
 by_cases h:s.size < 12
 · rw [if_pos h,if_pos h]
 · rw [if_neg h,if_neg h,de_eq s (by omega)]
theorem deRE_eq (s:ByteArray):deRE s=deE s:=by
 unfold deRE deE
 by_cases h:s.size < 12
 · rw [if_pos h,if_pos h]
 · rw [if_neg h,if_neg h,de_eq s (by omega)]
end
section
theorem c56 (xs:List D) (hk:∀ x ∈ xs,x.cells.length=1) (hl:xs.length≤1000000):Gm Tryd.prog 56 [.d (.sl xs)] [] (.rsl 0 0 xs.length 1) [flat xs]:=by
 cases xs with
 | nil=>
  refine gmB 0 Tryd.func56 Tryd.ntmps56 Tryd.results56 (fun S0 O0 w0 m0 hm0=>?_)
  repeat' first | refine s_ ?_ | fail
  refine toO (g_sleqU u35 rfl (fun b=>ofO ?_))
  repeat' first | refine s_ ?_ | fail
  refine d_ (fun hb=>?_) (fun hb=>?_)
  · repeat' (fail_if_success refine gLe (c:=.ops _ []) (Le_nilrowA 2 1 rfl) ?_ rfl);first | refine s_ ?_ | fail
    refine gLe (c:=.ops _ []) (Le_nilrowA 2 1 rfl) ?_ rfl
    repeat' first | refine s_ ?_ | fail
    refine Z32 ?_
    exact .cons .nil .nil
  · repeat' first | refine s_ ?_ | fail
    refine Z22 ?_
    dsimp only [GS.set]
    refine Z17 ?_
    refine gyl rfl rfl (Y_appendN (ys:=[]) rfl rfl hk (by decide) u35 inf9 (by rfl) (by simp [Value.cells,Value.oneCell']) (by unfold lim;simp only [List.length_cons,List.length_nil];omega) (by unfold lim;simp only [List.length_cons,List.length_nil];omega) (Nat.le_of_ble_eq_true rfl)) ?_
    dsimp only [List.length_nil,List.nil_append,List.map_nil]
    repeat' first | refine s_ ?_ | fail
    refine Z32 ?_
    exact .cons .nil .nil
 | cons c r=>
  simp only [List.length_cons] at hl
  refine gmB 0 Tryd.func56 Tryd.ntmps56 Tryd.results56 (fun S0 O0 w0 m0 hm0=>?_)
  repeat' first | refine s_ ?_ | fail
  refine toO (vq rfl ((q_sleql u35)) (ofO ?_))
  repeat' first | refine cf (by exact rfl) ?_ rfl | refine s_ ?_ | fail
  refine Z22 ?_
  dsimp only [GS.set]
  refine Z17 ?_
  refine gyl rfl rfl (Y_appendN (ys:=(c :: r)) rfl rfl hk (by decide) u35 inf9 (by rfl) (by simp [Value.cells,Value.oneCell']) (by unfold lim;simp only [List.length_cons,List.length_nil];omega) (by unfold lim;simp only [List.length_cons,List.length_nil];omega) (Nat.le_of_ble_eq_true rfl)) ?_
  dsimp only [List.length_nil,List.nil_append,List.map_nil]
  repeat' first | refine s_ ?_ | fail
  refine enm (mem':=[flat (c :: r)]) (by exact rfl) rfl ?_
  exact .cons (CSub_flat _ _) .nil
theorem c57 (xs:List D) (hk:∀ x ∈ xs,x.cells.length=3) (hl:xs.length≤1000000):Gm Tryd.prog 57 [.d (.sl xs)] [] (.rsl 0 0 xs.length 3) [flat xs]:=by
 cases xs with
 | nil=>
  refine gmB 0 Tryd.func57 Tryd.ntmps57 Tryd.results57 (fun S0 O0 w0 m0 hm0=>?_)
  repeat' first | refine s_ ?_ | fail
  refine toO (g_sleqU u42 rfl (fun b=>ofO ?_))
  repeat' first | refine s_ ?_ | fail
  refine d_ (fun hb=>?_) (fun hb=>?_)
  · repeat' (fail_if_success refine gLe (c:=.ops _ []) (Le_nilrowA 2 3 rfl) ?_ rfl);first | refine s_ ?_ | fail
    refine gLe (c:=.ops _ []) (Le_nilrowA 2 3 rfl) ?_ rfl
    repeat' first | refine s_ ?_ | fail
    refine Z32 ?_
    exact .cons .nil .nil
  · repeat' first | refine s_ ?_ | fail
    refine gyl rfl rfl (y_buildSlice0 u42 inf28) ?_
    dsimp only [GS.set]
    refine Z17 ?_
    refine gyl rfl rfl (Y_appendN (ys:=[]) rfl rfl hk (by decide) u42 inf28 (by rfl) (by simp [Value.cells,Value.oneCell']) (by unfold lim;simp only [List.length_cons,List.length_nil];omega) (by unfold lim;simp only [List.length_cons,List.length_nil];omega) (Nat.le_of_ble_eq_true rfl)) ?_
    dsimp only [List.length_nil,List.nil_append,List.map_nil]
    repeat' first | refine s_ ?_ | fail
    refine Z32 ?_
    exact .cons .nil .nil
 | cons c r=>
  simp only [List.length_cons] at hl
  refine gmB 0 Tryd.func57 Tryd.ntmps57 Tryd.results57 (fun S0 O0 w0 m0 hm0=>?_)
  repeat' first | refine s_ ?_ | fail
  refine toO (vq rfl ((q_sleql u42)) (ofO ?_))
  repeat' first | refine cf (by exact rfl) ?_ rfl | refine s_ ?_ | fail
  refine gyl rfl rfl (y_buildSlice0 u42 inf28) ?_
  dsimp only [GS.set]
  refine Z17 ?_
  refine gyl rfl rfl (Y_appendN (ys:=(c :: r)) rfl rfl hk (by decide) u42 inf28 (by rfl) (by simp [Value.cells,Value.oneCell']) (by unfold lim;simp only [List.length_cons,List.length_nil];omega) (by unfold lim;simp only [List.length_cons,List.length_nil];omega) (Nat.le_of_ble_eq_true rfl)) ?_
  dsimp only [List.length_nil,List.nil_append,List.map_nil]
  repeat' first | refine s_ ?_ | fail
  refine enm (mem':=[flat (c :: r)]) (by exact rfl) rfl ?_
  exact .cons (CSub_flat _ _) .nil
end
end Go.Proofs.YtoonleefemkalaaDoor
