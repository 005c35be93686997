import Derived.Test.YtoonleefemkalaaDoorM11
import Derived.Test.YtoonleefemkalaaDoorM9
/- Contracts of functions. Conditions: none. -/
set_option linter.unusedSimpArgs false
set_option linter.unusedVariables false
namespace Go.Proofs.YtoonleefemkalaaDoor.E
open Go
section
def lookP (k:D) (z:PV):List D→List PV→PV
 | x :: r,v :: vs=>match x.keyQ k with
  | true=>v
  | false=>lookP k z r vs
 | _,_=>z
theorem lookP_no {k:D} {z:PV}:∀ {ks:List D} {vs:List PV},(∀ x ∈ ks,x.keyQ k=false)→lookP k z ks vs=z
 | [],_,_=>by unfold lookP;rfl
 | _ :: _,[],_=>by unfold lookP;rfl
 | x :: r,v :: vs,h=>by rw [lookP,h x (by simp)];exact lookP_no fun y hy=>h y (by simp [hy])
theorem lookP_has {k:D} {z:PV}:∀ {ks:List D} {vs:List PV},ks.length=vs.length→(∃ x ∈ ks,x.keyQ k=true)→∃ (j:Nat) (x:D),ks[j]? = some x∧x.keyQ k=true∧vs[j]? = some (lookP k z ks vs)
 | [],_,_,⟨_,h,_⟩=>by cases h
 | x :: r,[],h,_=>by cases h
 | x :: r,v :: vs,hl,⟨y,hy,hq⟩=>by
  rw [lookP]
  cases hx:x.keyQ k with
  | true=>exact ⟨0,x,rfl,hx,rfl⟩
  | false=>
   rcases List.mem_cons.1 hy with rfl | hy
   · rw [hx] at hq;cases hq
   · obtain ⟨j,x',h1,h2,h3⟩:=lookP_has (z:=z) (ks:=r) (vs:=vs) (by simpa using hl) ⟨y,hy,hq⟩
     exact ⟨j + 1,x',by simpa using h1,h2,by simpa using h3⟩
theorem hasK_no {k:D}:∀ {ks:List D},(∀ x ∈ ks,x.keyQ k=false)→hasK k ks=false
 | [],_=>rfl
 | x :: r,h=>by rw [hasK,h x (by simp)];exact hasK_no fun y hy=>h y (by simp [hy])
variable {et:TypeId} {z:Value}
theorem run_zero {P:Program} (hz:(P.info? et).map (·.zero)=some (some z)) (w:World):(zeroValue et).run P w=.ok z w:=by
 cases hq:P.info? et with
 | none=>simp [hq] at hz
 | some i=>
  have hs:i.zero=some z:=by simpa [hq] using hz
  simp [zeroValue,typeInfo,hq,hs]
def orZ (f:Option (Nat×Value)) (z:Value):Value:=match f with
 | some x=>x.2
 | none=>z
theorem run_lookG {P:Program} {ty kt:TypeId} {w:World} {r c:Nat} {es:Array MapEntry} {kv:Value} {f:Option (Nat×Value)} (hu:P.underlying ty=some (.map kt et)) (hz:(P.info? et).map (·.zero)=some (some z)) (hh:w.heap[r]? = some (.map es c))
 (h1:(Instr.checkKey es.isEmpty 10000 kt kv).run P w=.ok () w) (h2:(Instr.findKey kt kv es.toList).run P w=.ok f w) (ok:Bool):
 (Instr.lookup ty (.map (some r)) kv ok).run P w=.ok (if ok=true then .tuple #[(orZ f z),.bool f.isSome] else (orZ f z)) w:=by
 cases f with
 | none=>cases ok<;>simp [Instr.lookup,run_underlying hu,MapKept.run_getObj_map hh,h1,h2,run_zero hz,Result.andThen,orZ]
 | some x=>
  obtain ⟨i,v⟩:=x
  cases ok<;>simp [Instr.lookup,run_underlying hu,MapKept.run_getObj_map hh,h1,h2,Result.andThen,orZ]
theorem Yld_now {K:Ctx} {o:Oper} {s:GS} {t:Nat} {p:PV} (hd:o.dst=some t) (ht:t < K.n) (h:∀ S O m a w,Rep K S O m s a w→∃ v,(execOp a.eval o).run K.P w=.ok (.value v) w∧RP w S O m [t,0] p v):Yld K o s (s.set t p):=by
 rintro a w ⟨S,O,m,hr⟩
 obtain ⟨v,h1,h2⟩:=h S O m a w hr
 exact ⟨v,w,h1,by rw [hd];exact ⟨S,O,m,hr.put ht h2⟩⟩
theorem Y_lookP {K:Ctx} {s:GS} {t:Nat} {mx kx:Operand} {ty rt kt:TypeId} {pos:String} {af:Array Edge} {g:Option (Nat×Bool)} {b:Nat} {ks:List D} {vs:List PV} {k:D} {zp:PV} (ok:Bool) (L:WideMaps.KeyLaw K.P kt)
 (hu:K.P.underlying ty=some (.map kt et)) (hz:(K.P.info? et).map (·.zero)=some (some z)) (hzp:∀ (w:World) (S:Reg) (O:Owns) (m l:List Nat),RP w S O m l zp z) (hmx:s.ev mx=.mref b) (hm:s.mem[b]? = some (mpc ks vs)) (hl:vs.length=ks.length) (hit:∀ k ∈ ks,k ≠ .nilF)
 (hks:∀ k ∈ ks,KG K.P kt k) (hno:PV.noowns vs=true) (hkx:s.ev kx=.d k) (hk:KG K.P kt k) (ht:t < K.n):Yld K ⟨some t,.lookup ty mx kx ok,rt,pos,af,g⟩ s (s.set t (match ok with | true=>.tup [lookP k zp ks vs,.d (.bool (hasK k ks))] | false=>lookP k zp ks vs)):=by
 refine Yld_now rfl ht fun S O m a w h=>?_
 obtain ⟨r,es,c,hr,hO,hh,hrel,hval⟩:=h.mapP hm hl hit
 obtain ⟨l,hrm⟩:=h.ev mx
 rw [hmx] at hrm
 generalize hmv:a.eval mx=mv at hrm
 cases hrm with
 | mref _ _ r' hr'=>
  rw [hr] at hr';injection hr' with hr';subst hr'
  obtain ⟨kv,h1,_,h3,_,h5⟩:=findG L hrel hks hk w
  have hke:=rd_keyV h1 (h.evd hkx)
  have fin:∀ f:Option (Nat×Value),(Instr.findKey kt kv es.toList).run K.P w=.ok f w→f.isSome=hasK k ks→(∀ l,RP w S O m l (lookP k zp ks vs) (orZ f z))→
   ∃ v,(execOp a.eval ⟨some t,.lookup ty mx kx ok,rt,pos,af,g⟩).run K.P w=.ok (.value v) w∧RP w S O m [t,0] (match ok with | true=>.tup [lookP k zp ks vs,.d (.bool (hasK k ks))] | false=>lookP k zp ks vs) v:=by
   intro f hf hfs hfr
   refine ⟨_,by simp only [execOp,hmv,hke];simp only [Sem.run_bind,run_lookG hu hz hh h3 hf ok,Result.andThen_ok];rfl,?_⟩
   cases ok with
   | true=>
    simp only [if_true]
    refine .tup _ _ _ (by simp) (fun i p u hi hu'=>?_)
    match i with
    | 0=>simp at hi hu';subst hi;subst hu';exact hfr _
    | 1=>simp at hi hu';subst hi;subst hu';rw [hfs];exact .d _ _ _ (.bool _)
    | i + 2=>simp at hi
   | false=>exact hfr [t,0]
  rcases h5 with ⟨f1,f2⟩ | ⟨i,e,j,k',f1,g2,g3,g4,g5⟩
  · exact fin none f1 (hasK_no f2).symm fun l=>by rw [lookP_no f2];exact hzp _ _ _ _ _
  · refine fin _ f1 (hasK_true (mG g4) g5).symm fun l=>?_
    obtain ⟨j',x,q1,q2,q3⟩:=lookP_has (z:=zp) (k:=k) hl.symm ⟨k',mG g4,g5⟩
    obtain ⟨vx,_,hvx,_⟩:=hks x (mG q1)
    have hxv:x.keyV=some e.key:=by rw [hvx,(keyQ_iff hvx h1).1 q2,g3]
    exact (hval i e j' x _ g2 q1 hxv q3).any (PV.noowns_get hno q3) _ _
end
section
variable {P:Program}
theorem map_of {ty:TypeId} {i:TI} (hi:TOk P ty i) {k e:TypeId} (hk:i.kind=.map k e):P.underlying ty=some (.map k e):=by
 obtain ⟨d,hd,_,hd2⟩:=hi.und
 rw [hk] at hd2
 cases d with
 | map k' e'=>
  rw [kndB,Bool.and_eq_true] at hd2
  rw [← Nat.eq_of_beq_eq_true hd2.1,← Nat.eq_of_beq_eq_true hd2.2]
  exact hd
 | _=>cases hd2
def mus (T:List (Nat×TI)) (ops:List Oper) (i:Nat) (sl:List (Nat×PV)):Option (Nat×TypeId×D×PV):=opK ops i fun o=>match o.dst with
 | some _=>none
 | none=>match o.guard with
  | some _=>none
  | none=>match o.op with
   | .mapUpdate ty mx kx vx=>match look T ty with
    | none=>none
    | some ti=>match ti.kind with
     | .map kt _=>match evl sl mx with
      | .mref b=>match evl sl kx with
       | .d k=>frc (evl sl vx) fun p=>some (b,kt,k,p)
       | _=>none
      | _=>none
     | _=>none
   | _=>none
variable {K:Ctx} {T:List (Nat×TI)} {ops:Array Oper} {i:Nat} {kt:TypeId} {mem:List (List PV)} {p:PV}
theorem gMu {fr:List Fr} {Q:Exit→GS→Prop} {b:Nat} {l:List Nat} {sl:List (Nat×PV)} {mem':List (List PV)} {ks:List D} {vs:List PV} {k:D} (hT:tabB K.P T=true)
 (h:mus T ops.toList i sl=some (b,kt,k,p)) (hm:nth mem b=some (mpc ks vs)) (L:WideMaps.KeyLaw K.P kt) (hl:vs.length=ks.length) (hit:∀ k ∈ ks,k ≠ .nilF) (hks:∀ k ∈ ks,KG K.P kt k) (hk:KG K.P kt k) (hno:p.noown=true)
 (hmem:mem.set b (mpc (putKs ks k) (putVs ks k vs p))=mem') (hg:GF K fr (.ops ops l) Q ⟨sl,mem'⟩):GF K fr (.ops ops (i :: l)) Q ⟨sl,mem⟩:=by
 obtain ⟨o,ho1,h⟩:=opK_of h
 have hoi:ops[i]? = some o:=by rw [nth_eq] at ho1;rw [← ho1];simp
 obtain ⟨dd,op,rt,pos,af,gg⟩:=o
 dsimp only at h
 split at h
 · cases h
 · split at h
   · cases h
   · split at h
     · rename_i ty mx kx vx
       split at h
       · cases h
       · rename_i ti hlk
         split at h
         · rename_i kt' et hkd
           have hu:=map_of (tabB_look hT hlk) hkd
           split at h
           · rename_i b' hb'
             split at h
             · rename_i k' hk'
               rw [frc_eq] at h
               injection h with h;injection h with e1 h;injection h with e2 h;injection h with e3 e4
               subst e1;subst e2;subst e3;subst e4;subst hmem
               rw [evl_eq' sl mem] at hb' hk'
               rw [nth_eq] at hm
               rw [evl_eq' sl mem] at hno hg
               exact GOps_act hoi rfl (D_mapUp L hu hb' hm hl hit hks hk' hk rfl hno) hg
             · cases h
           · cases h
         · cases h
     · cases h
def lks (T:List (Nat×TI)) (ops:List Oper) (n i:Nat) (sl:List (Nat×PV)):Option (Nat×Bool×PV×TypeId×TypeId×D):=opK ops i fun o=>dstK n o fun t=>match o.guard with
 | some _=>none
 | none=>match o.op with
  | .lookup ty mx kx ok=>match look T ty with
   | none=>none
   | some ti=>match ti.kind with
    | .map kt et=>match evl sl kx with
     | .d k=>frc (evl sl mx) fun p=>some (t,ok,p,kt,et,k)
     | _=>none
    | _=>none
  | _=>none
def zvK (ti:TI):Option PV:=match ti.leaf with
 | true=>match ti.zs with
  | [z]=>frc z.pv some
  | _=>none
 | false=>zpvK ti.zs fun ps=>match PV.toDs ps with
  | some ds=>some (.d (.agg ds))
  | none=>none
variable {et:TypeId}
theorem zvK_of {ti:TI} (hT:tabB P T=true) (hl:look T et=some ti) (h:zvK ti=some p):∃ z,(P.info? et).map (·.zero)=some (some z)∧∀ (w:World) (S:Reg) (O:Owns) (m l:List Nat),RP w S O m l p z:=by
 obtain ⟨z,h1,h2,h3,h4,h5⟩:=(tabB_look hT hl).zero
 refine ⟨z,h1,fun w S O m l=>?_⟩
 unfold zvK at h
 split at h
 · rename_i hlf
   rw [hlf] at h5
   split at h
   · rename_i zk hz
     rw [frc_eq] at h
     injection h with h
     subst h
     rw [hz] at h4
     have hz1:z.cells=#[z]:=by cases z<;>first | rfl | cases h5
     rw [hz1] at h4
     have hzv:z=zk.val:=by simpa using h4
     rw [hzv,← zk.of]
     exact ofConst_rp _ _ _ _ _ _
   · cases h
 · rename_i hlf
   rw [hlf] at h5
   rw [zpvK_eq] at h
   split at h
   · rename_i ds hds
     injection h with h
     subst h
     cases z with
     | agg cs=>exact .d _ _ _ (zeroD_rd (by unfold zeroD;dsimp only;rw [h3,hds];rfl) h2 w S)
     | _=>cases h5
   · cases h
def zvT (T:List (Nat×TI)) (et:TypeId):Option PV:=match look T et with
 | some ti=>zvK ti
 | none=>none
theorem zvT_of (hT:tabB P T=true) (h:zvT T et=some p):∃ z,(P.info? et).map (·.zero)=some (some z)∧∀ (w:World) (S:Reg) (O:Owns) (m l:List Nat),RP w S O m l p z:=by
 unfold zvT at h
 split at h
 · rename_i ti hl;exact zvK_of hT hl h
 · cases h
def lkR (ok:Bool) (p:PV) (b:Bool):PV:=match ok with
 | true=>.tup [p,.d (.bool b)]
 | false=>p
theorem lks_of {t:Nat} {sl:List (Nat×PV)} {ok:Bool} {k:D} (hT:tabB K.P T=true) (h:lks T ops.toList K.n i sl=some (t,ok,p,kt,et,k)):
 ∃ ty mx kx rt pos af,ops[i]? = some ⟨some t,.lookup ty mx kx ok,rt,pos,af,none⟩∧t < K.n∧K.P.underlying ty=some (.map kt et)∧GS.ev ⟨sl,mem⟩ mx=p∧GS.ev ⟨sl,mem⟩ kx=.d k:=by
 obtain ⟨o,ho1,h1⟩:=opK_of h
 obtain ⟨t',hdt,ht,h2⟩:=dstK_of h1
 clear h h1
 have hoi:ops[i]? = some o:=by rw [nth_eq] at ho1;rw [← ho1];simp
 obtain ⟨dd,op,rt,pos,af,gg⟩:=o
 dsimp only at h2 hdt
 subst hdt
 split at h2
 · cases h2
 · split at h2
   · rename_i ty mx kx ok'
     split at h2
     · cases h2
     · rename_i ti hlk
       split at h2
       · rename_i kt' et' hkd
         split at h2
         · rename_i k' hk'
           rw [frc_eq] at h2
           injection h2 with h;injection h with e1 h;injection h with e2 h;injection h with e3 h;injection h with e4 h;injection h with e5 e6
           subst e1;subst e2;subst e3;subst e4;subst e5;subst e6
           exact ⟨ty,mx,kx,rt,pos,af,hoi,ht,map_of (tabB_look hT hlk) hkd,(evl_eq' sl mem mx).symm,by rw [← evl_eq' sl mem];exact hk'⟩
         · cases h2
       · cases h2
   · cases h2
theorem gLk {fr:List Fr} {Q:Exit→GS→Prop} {t b:Nat} {l:List Nat} {sl:List (Nat×PV)} {ok:Bool} {k:D} {ks:List D} {vs:List PV} {zp r:PV} (hT:tabB K.P T=true)
 (h:lks T ops.toList K.n i sl=some (t,ok,.mref b,kt,et,k)) (hz:zvT T et=some zp) (hm:nth mem b=some (mpc ks vs)) (L:WideMaps.KeyLaw K.P kt) (hl:vs.length=ks.length) (hit:∀ k ∈ ks,k ≠ .nilF) (hks:∀ k ∈ ks,KG K.P kt k) (hk:KG K.P kt k) (hno:PV.noowns vs=true)
 (hr:lkR ok (lookP k zp ks vs) (hasK k ks)=r) (hg:GF K fr (.ops ops l) Q ⟨(t,r) :: sl,mem⟩):GF K fr (.ops ops (i :: l)) Q ⟨sl,mem⟩:=by
 obtain ⟨ty,mx,kx,rt,pos,af,h1,h2,h3,h4,h5⟩:=lks_of (mem:=mem) hT h
 obtain ⟨z,h6,h7⟩:=zvT_of hT hz
 subst hr
 rw [nth_eq] at hm
 refine toO (GOps_val h1 rfl (Y_lookP ok L h3 h6 h7 h4 hm hl hit hks hno h5 hk h2) ?_)
 cases ok<;>exact ofO hg
end
section
def cms (ops:List Oper) (n i:Nat) (sl:List (Nat×PV)):Option (Nat×FuncId×List PV):=opK ops i fun o=>dstK n o fun t=>match o.guard with
 | some _=>none
 | none=>match o.op with
  | .call c=>match c.callee with
   | .value fx=>evsK sl c.args.toList fun ps=>match evl sl fx with
    | .fn (.func f) a b=>appK a ps fun ap=>appK ap b fun all=>copiesK all fun all=>some (t,f,all)
    | .d (.fn (.func f) a b)=>appK (a.map .d) ps fun ap=>appK ap (b.map .d) fun all=>copiesK all fun all=>some (t,f,all)
    | _=>none
   | _=>none
  | _=>none
theorem gmB {P:Program} {f:FuncId} {fn:Func} {c:Code} {args:List PV} {mem mem':List (List PV)} {r:PV} {n:Nat} {rvs:List ResultVar} {slots:List (Nat×PV)} (k:Nat) (hf:P.funcs[f]? = some fn) (hn:fn.ntmps=n) (hres:fn.results=rvs.toArray)
 (h:∀ S0 O0 w0 m0,m0.length=k→GF ⟨P,n,S0,O0,w0,m0,[],[]⟩ [] (.code c) (Fin P rvs k (fun q m=>q=r∧m=mem')) ⟨slots,mem⟩)
 (hb:fn.body=some c:=by rfl) (hnm:(fn.name == "runtime.NumGoroutine")=false:=by rfl) (hal:args.length≤n:=by exact oR rfl) (hsl:(List.range args.length).zip args=slots:=by rfl) (hk:mem.length=k:=by rfl):Gm P f args mem r mem':=
 gm_body k slots hf hn hres h hb hnm hal hsl hk
end
section
structure KC (P:Program) (kt:TypeId) (kb:D→Bool):Prop where
 law:WideMaps.KeyLaw P kt
 ok:∀ k,kb k=true→KG P kt k∧k ≠ .nilF
def repKK {β:Sort _} (k:D) (p:PV):List D→List PV→(List PV→Option β)→Option β
 | x :: r,v :: vs,c=>match x.keyQ k with
  | true=>repKK k p r vs fun l=>c (p :: l)
  | false=>repKK k p r vs fun l=>c (v :: l)
 | _,vs,c=>c vs
theorem repKK_eq {β:Sort _} (k:D) (p:PV):∀ (ks:List D) (vs:List PV) (c:List PV→Option β),repKK k p ks vs c=c (repK k p ks vs)
 | [],vs,c=>by cases vs<;>rfl
 | x :: r,[],c=>by rw [repKK,repK]<;>simp
 | x :: r,v :: vs,c=>by
  rw [repKK,repK]
  cases x.keyQ k with
  | true=>exact repKK_eq k p r vs _
  | false=>exact repKK_eq k p r vs _
def putMK (mem:List (List PV)) (b:Nat) (ks:List D) (vs:List PV) (k:D) (p:PV):Option (List (List PV)):=match hasK k ks with
 | true=>repKK k p ks vs fun vs'=>setK mem b (mpc ks vs') some
 | false=>snocK ks k fun ks'=>snocK vs p fun vs'=>setK mem b (mpc ks' vs') some
variable {mem:List (List PV)} {b:Nat} {vs:List PV}
theorem putMK_of {mem':List (List PV)} {ks:List D} {k:D} {p:PV} (h:putMK mem b ks vs k p=some mem'):mem.set b (mpc (putKs ks k) (putVs ks k vs p))=mem':=by
 unfold putMK at h
 unfold putKs putVs
 split at h
 · rename_i hh
   rw [repKK_eq,setK_eq] at h
   injection h with h
   rw [hh];exact h
 · rename_i hh
   rw [snocK_eq,snocK_eq,setK_eq] at h
   injection h with h
   rw [hh];exact h
def lkK (ok:Bool) (k:D) (zp:PV) (ks:List D) (vs:List PV):Option PV:=match ok with
 | true=>frc (lookP k zp ks vs) fun p=>match hasK k ks with
  | true=>some (.tup [p,.d (.bool true)])
  | false=>some (.tup [p,.d (.bool false)])
 | false=>frc (lookP k zp ks vs) some
theorem lkK_of {ok:Bool} {k:D} {zp r:PV} {ks:List D} (h:lkK ok k zp ks vs=some r):lkR ok (lookP k zp ks vs) (hasK k ks)=r:=by
 unfold lkK at h
 split at h
 · rw [frc_eq] at h
   split at h
   · rename_i hh;injection h with h;rw [hh];exact h
   · rename_i hh;injection h with h;rw [hh];exact h
 · rw [frc_eq] at h;injection h
variable {K:Ctx} {fr:List Fr}
theorem gMuC {T:List (Nat×TI)} {ops:Array Oper} {Q:Exit→GS→Prop} {i:Nat} {kt:TypeId} {l:List Nat} {sl:List (Nat×PV)} {mem':List (List PV)} {ks:List D} {k:D} {p:PV} {kb:D→Bool} (hT:tabB K.P T=true)
 (h:mus T ops.toList i sl=some (b,kt,k,p)) (hm:nth mem b=some (mpc ks vs)) (C:KC K.P kt kb) (hl:vs.length=ks.length) (hks:ks.all kb=true) (hk:kb k=true) (hno:p.noown=true)
 (hmem:putMK mem b ks vs k p=some mem') (hg:GF K fr (.ops ops l) Q ⟨sl,mem'⟩):GF K fr (.ops ops (i :: l)) Q ⟨sl,mem⟩:=
 gMu hT h hm C.law hl (fun k hk=>(C.ok k (List.all_eq_true.1 hks k hk)).2) (fun k hk=>(C.ok k (List.all_eq_true.1 hks k hk)).1) (C.ok k hk).1 hno (putMK_of hmem) hg
theorem gLkC {T:List (Nat×TI)} {ops:Array Oper} {Q:Exit→GS→Prop} {i t:Nat} {l:List Nat} {sl:List (Nat×PV)} {ok:Bool} {kt et:TypeId} {k:D} {ks:List D} {zp r:PV} {kb:D→Bool} (hT:tabB K.P T=true)
 (h:lks T ops.toList K.n i sl=some (t,ok,.mref b,kt,et,k)) (hz:zvT T et=some zp) (hm:nth mem b=some (mpc ks vs)) (C:KC K.P kt kb) (hl:vs.length=ks.length) (hks:ks.all kb=true) (hk:kb k=true) (hno:PV.noowns vs=true)
 (hr:lkK ok k zp ks vs=some r) (hg:GF K fr (.ops ops l) Q ⟨(t,r) :: sl,mem⟩):GF K fr (.ops ops (i :: l)) Q ⟨sl,mem⟩:=
 gLk hT h hz hm C.law hl (fun k hk=>(C.ok k (List.all_eq_true.1 hks k hk)).2) (fun k hk=>(C.ok k (List.all_eq_true.1 hks k hk)).1) (C.ok k hk).1 hno (lkK_of hr) hg
theorem gct {Q:Exit→GS→Prop} {c:Operand} {x y:Code} {s:GS} {b:Bool} (hc:evl s.slots c=.d (.bool b)) (hb:b=true) (hx:GF K fr (.code x) Q s):GF K fr (.code (.cond c x y)) Q s:=gcd hc (fun _=>hx) (fun h=>by rw [h] at hb;cases hb)
theorem gcf {Q:Exit→GS→Prop} {c:Operand} {x y:Code} {s:GS} {b:Bool} (hc:evl s.slots c=.d (.bool b)) (hb:b=false) (hy:GF K fr (.code y) Q s):GF K fr (.code (.cond c x y)) Q s:=gcd hc (fun h=>by rw [h] at hb;cases hb) (fun _=>hy)
end
section
def fgS (s:GS):Option (Nat×GS):=popK s.mem fun keep _=>lenK keep fun n=>frzK n noF s.slots fun sl=>some (n,⟨sl,keep⟩)
theorem gFg {K:Ctx} {fr:List Fr} {c:Cf} {Q:Exit→GS→Prop} {s s':GS} {n:Nat} (h:fgS s=some (n,s')) (hk:K.m0.length≤n) (hrf:s'.mem.all (PV.refsBs n)=true) (hc:goes c=true) (hg:GF K fr c Q s'):GF K fr c Q s:=by
 obtain ⟨keep,cs,hm,h⟩:=popK_of h
 rw [lenK_eq,frzK_eq] at h
 injection h with h;injection h with e1 e2
 subst e1;subst e2
 exact gLe (Le_forget keep.length hm rfl hk hrf) hg hc
def gsk (ops:List Oper) (n i:Nat) (sl:List (Nat×PV)):Option (Nat×Bool):=opK ops i fun o=>dstK n o fun t=>gdK ops n o sl fun g=>match g with
 | some g=>some (t,g)
 | none=>none
theorem gSk (p:PV) {K:Ctx} {fr:List Fr} {ops:Array Oper} {Q:Exit→GS→Prop} {i t:Nat} {l:List Nat} {sl:List (Nat×PV)} {mem:List (List PV)} {g:Bool} (h:gsk ops.toList K.n i sl=some (t,g)) (hgf:g=false) (hg:GF K fr (.ops ops l) Q ⟨(t,.when g p) :: sl,mem⟩):GF K fr (.ops ops (i :: l)) Q ⟨sl,mem⟩:=by
 obtain ⟨o,ho1,h⟩:=opK_of h
 obtain ⟨t',hdt,ht,h⟩:=dstK_of h
 obtain ⟨g',h,hq⟩:=quiet_of (mem:=mem) ho1 hdt ht h
 split at h
 · injection h with h;injection h with e1 e2
   subst e1;subst e2
   exact hq p _ _ (fun h=>absurd (show _=true from h) (by rw [hgf];decide)) hg
 · cases h
end
section
mutual
/-- Data without an address. -/
def flatB:D→Bool
 | .int _ _=>true
 | .bool _=>true
 | .str _=>true
 | .agg cs=>flatsB cs
 | .sl []=>true
 | _=>false
def flatsB:List D→Bool
 | []=>true
 | d :: r=>flatB d && flatsB r
end
theorem flatsB_get:∀ {cs:List D},flatsB cs=true→∀ {i:Nat} {d:D},cs[i]? = some d→flatB d=true
 | [],_,i,d,hd=>by simp at hd
 | c :: r,h,i,d,hd=>by
  rw [flatsB,Bool.and_eq_true] at h
  cases i with
  | zero=>simp at hd;subst hd;exact h.1
  | succ i=>exact flatsB_get h.2 (by simpa using hd)
theorem Rd.flat {w w':World} {S S':Reg} {d:D} {v:Value} (h:Rd w S d v):flatB d=true→Rd w' S' d v:=by
 induction h with
 | int k n=>exact fun _=>.int k n
 | bool b=>exact fun _=>.bool b
 | str s=>exact fun _=>.str s
 | agg cs vs hl ho h ih=>intro hf;rw [flatB] at hf;exact .agg cs vs hl ho fun i d v hd hv=>ih i d v hd hv (flatsB_get hf hd)
 | sl xs a cap k hcap hlim hk hn _ _ _=>
  intro hf
  cases xs with
  | nil=>exact .sl [] a cap k hcap hlim hk hn (fun _ _ i x j y hx=>by simp at hx) (fun _ i x j y v _ hx=>by simp at hx)
  | cons x r=>simp [flatB] at hf
 | _=>intro hf;simp [flatB] at hf
end
section
def ixv (ops:List Oper) (n i:Nat) (sl:List (Nat×PV)):Option (Nat×TypeId×List D×Int):=opK ops i fun o=>dstK n o fun t=>match o.guard with
 | some _=>none
 | none=>match o.op with
  | .index ty x ix=>match evl sl x with
   | .d (.agg ds)=>match evl sl ix with
    | .d (.int _ j)=>some (t,ty,ds,j)
    | _=>none
   | _=>none
  | _=>none
theorem gIx {K:Ctx} {fr:List Fr} {ops:Array Oper} {Q:Exit→GS→Prop} {i t len:Nat} {ty e:TypeId} {td:TypeDesc} {l:List Nat} {sl:List (Nat×PV)} {mem:List (List PV)} {ds:List D} {j:Int} {d:D}
 (h:ixv ops.toList K.n i sl=some (t,ty,ds,j)) (hu:K.P.underlying ty=some (.array len e)) (hz:(K.P.info? e).map (·.size)=some 1) (he:K.P.underlying e=some td) (hl:leafT td=true) (h0:0≤j) (h1:j < len) (hd:ds[j.toNat]? = some d)
 (hg:GF K fr (.ops ops l) Q ⟨(t,.d d) :: sl,mem⟩):GF K fr (.ops ops (i :: l)) Q ⟨sl,mem⟩:=by
 obtain ⟨o,ho1,h⟩:=opK_of h
 obtain ⟨t',hdt,ht,h⟩:=dstK_of h
 have hoi:ops[i]? = some o:=by rw [nth_eq] at ho1;rw [← ho1];simp
 split at h
 · cases h
 · rename_i hgd
   split at h
   · rename_i ty' x ix hop
     split at h
     · rename_i ds' hx
       split at h
       · rename_i k j' hj
         injection h with h;injection h with e1 h;injection h with e2 h;injection h with e3 e4
         subst e1;subst e2;subst e3;subst e4
         have hx':(GS.mk sl mem).ev x=.d (.agg ds'):=by rw [← hx];exact (evl_eq' sl mem x).symm
         have hj':(GS.mk sl mem).ev ix=.d (.int k j'):=by rw [← hj];exact (evl_eq' sl mem ix).symm
         refine toO (GOps_val hoi hgd (Yld_now hdt ht (p:=.d d) fun S O m a w hr=>?_) (ofO hg))
         have hri:=rd_int (hr.evd hj')
         have hrx:=hr.evd hx'
         generalize hv:a.eval x=v at hrx
         cases hrx with
         | agg _ vs hsz ho hh=>
          have hlt:j'.toNat < vs.size:=by rw [hsz];exact (lG hd)
          refine ⟨vs[j'.toNat],?_,.d _ _ _ (hh _ _ _ hd (Array.getElem?_eq_getElem hlt))⟩
          obtain ⟨ti,hti,hts⟩:∃ ti,K.P.info? e=some ti∧ti.size=1:=by
           cases hq:K.P.info? e with
           | none=>simp [hq] at hz
           | some ti=>exact ⟨ti,rfl,by simpa [hq] using hz⟩
          simp only [execOp,hop,hv,hri]
          simp [Instr.index,asIntOf,run_underlying hu,h0,h1,sizeOf,typeInfo,hti,hts,part,run_isAgg he,hl,Array.getElem?_eq_getElem hlt]
       · cases h
     · cases h
   · cases h
end
section
section
variable {K:Ctx} {fr:List Fr} {ops:Array Oper} {base pre:List (Nat×PV)} {iA iS:Nat} {mem mem1 mem2:List (List PV)} {i j t:Nat} {es es':List (Nat×Nat×PV)} {Q:Exit→GS→Prop} {p:PV}
theorem numj (hj:nth nums (i + 1)=some j):i + 1=j:=by
 rw [nth_eq,nums_eq] at hj
 obtain ⟨_,h⟩:=List.getElem?_eq_some_iff.1 hj
 simpa using h
theorem see_ds {ds:List Nat}:(ds.all fun d=>ds.contains d && (match ([]:List (Nat×Nat)).lookup d with | none=>true | some m=>Nat.beq m i))=true:=by
 rw [List.all_eq_true]
 intro d hd
 rw [Bool.and_eq_true]
 exact ⟨by simpa using hd,rfl⟩
end
end
section
inductive ConfP (p0:Nat) (kl:List (Nat×Nat)) (K:Ctx) (ops:Array Oper) (M:(Nat→Bool)→List (List PV)) (base:List (Nat×PV)):Nat→List (Nat×Nat×PV)→List (Nat×Nat×PV)→Prop
 | done {i:Nat} {es:List (Nat×Nat×PV)}:i=p0→ConfP p0 kl K ops M base i es es
 | step {i:Nat} {es fs:List (Nat×Nat×PV)} {sl r xt:List (Nat×PV)} (hs:StpK K ops M base i sl r xt) (hsl:∀ x ∈ sl,∃ d ∈ depsOf ops i,(d,x) ∈ es∧(kl.lookup d=none∨kl.lookup d=some i)) (hx:∀ x ∈ xt,∃ d q,(d,x.1,q) ∈ es∧kl.lookup d=some i) (hc:ConfP p0 kl K ops M base (i + 1) (es++r.map fun x=>(i,x)) fs):ConfP p0 kl K ops M base i es fs
variable {p0:Nat} {K:Ctx} {ops:Array Oper} {base:List (Nat×PV)}
theorem ConfP.le {kl:List (Nat×Nat)} {M:(Nat→Bool)→List (List PV)} {i:Nat} {es fs:List (Nat×Nat×PV)} (h:ConfP p0 kl K ops M base i es fs):∃ later,fs=es++later:=by
 induction h with
 | done _=>exact ⟨[],by simp⟩
 | step _ _ _ _ ih=>obtain ⟨l,h⟩:=ih;exact ⟨_,by rw [h,List.append_assoc]⟩
theorem ConfP.idx {kl:List (Nat×Nat)} {M:(Nat→Bool)→List (List PV)} {i0:Nat} {es fs:List (Nat×Nat×PV)} (h:ConfP p0 kl K ops M base i0 es fs):∀ x ∈ fs,x ∈ es∨i0≤x.1:=by
 induction h with
 | done _=>exact fun x hx=>.inl hx
 | @step j es fs sl r xt hs hsl hx hc ih=>
  intro x hx
  rcases ih x hx with h | h
  · rcases List.mem_append.1 h with h | h
    · exact .inl h
    · obtain ⟨y,_,rfl⟩:=List.mem_map.1 h;exact .inr (Nat.le_refl _)
  · exact .inr (by omega)
theorem ConfP.at {kl:List (Nat×Nat)} {M:(Nat→Bool)→List (List PV)} {i0:Nat} {es fs:List (Nat×Nat×PV)} (h:ConfP p0 kl K ops M base i0 es fs) (hes:∀ x ∈ es,x.1 < i0):
 ∀ i,i0≤i→i < p0→∃ sl r xt,StpK K ops M base i sl r xt∧(∀ x ∈ r,(i,x) ∈ fs)∧(∀ x,(i,x) ∈ fs→x ∈ r)∧(∀ x ∈ sl,∃ d ∈ depsOf ops i,(d,x) ∈ fs∧(kl.lookup d=none∨kl.lookup d=some i))∧∀ x ∈ xt,∃ d q,(d,x.1,q) ∈ fs∧kl.lookup d=some i:=by
 induction h with
 | done h=>intro i h1 h2;omega
 | @step j es fs sl r xt hs hsl hx hc ih=>
  intro i h1 h2
  have hes':∀ x ∈ es++r.map (fun x=>(j,x)),x.1 < j + 1:=fun x hx=>by
   rcases List.mem_append.1 hx with hx | hx
   · have:=hes x hx;omega
   · obtain ⟨y,_,rfl⟩:=List.mem_map.1 hx;exact Nat.lt_succ_self _
  by_cases hij:i=j
  · subst hij
    obtain ⟨l,hl⟩:=hc.le
    refine ⟨sl,r,xt,hs,fun x hx=>?_,fun x hx=>?_,fun x hx=>?_,fun x hx'=>?_⟩
    · rw [hl];simp only [List.mem_append,List.mem_map];exact .inl (.inr ⟨x,hx,rfl⟩)
    · rcases hc.idx _ hx with h | h
      · rcases List.mem_append.1 h with h | h
        · have:=hes _ h;simp at this
        · obtain ⟨y,hy,he⟩:=List.mem_map.1 h
          injection he with _ he
          exact he▸hy
      · simp at h;omega
    · obtain ⟨d,hd,hm,hk⟩:=hsl x hx
      exact ⟨d,hd,by rw [hl];simp only [List.mem_append];exact .inl (.inl hm),hk⟩
    · obtain ⟨d,q,hm,hk⟩:=hx x hx'
      exact ⟨d,q,by rw [hl];simp only [List.mem_append];exact .inl (.inl hm),hk⟩
  · exact ih hes' i (by omega) h2
end
section
variable {ops:Array Oper} {i t:Nat} {f:FuncId} {args:List PV}
theorem cms_of {n:Nat} {sl:List (Nat×PV)} (h:cms ops.toList n i sl=some (t,f,args)):
 ∃ (o:Oper) (ar:Array Operand) (tys:Array TypeId) (fx:Operand) (a b:List PV),ops[i]? = some o∧o.dst=some t∧t < n∧o.guard=none∧o.op=.call ⟨.value fx,ar,tys⟩∧∀ mem:List (List PV),(GS.ev ⟨sl,mem⟩ fx).callee'=some (f,a,b)∧PV.copies (a++ar.toList.map (GS.ev ⟨sl,mem⟩)++b)=args:=by
 obtain ⟨o,ho1,h1⟩:=opK_of h
 obtain ⟨t',hdt,ht,h2⟩:=dstK_of h1
 clear h h1
 have hoi:ops[i]? = some o:=by rw [nth_eq] at ho1;rw [← ho1];simp
 split at h2
 · cases h2
 · rename_i hgd
   split at h2
   · rename_i c hop
     split at h2
     · rename_i fx hcal
       rw [evsK_eq] at h2
       obtain ⟨ca,ar,tys⟩:=c
       dsimp only at hcal h2
       subst hcal
       have hm:∀ mem:List (List PV),ar.toList.map (evl sl)=ar.toList.map (GS.ev ⟨sl,mem⟩):=fun mem=>List.map_congr_left fun x _=>evl_eq' sl mem x
       split at h2
       · rename_i f' a b hfx
         rw [appK_eq,appK_eq,copiesK_eq] at h2
         injection h2 with h2;injection h2 with e1 h2;injection h2 with e2 e3
         subst e2;subst e1
         refine ⟨o,ar,tys,fx,a,b,hoi,hdt,ht,hgd,hop,fun mem=>?_⟩
         rw [evl_eq' sl mem] at hfx
         exact ⟨by rw [hfx];rfl,by rw [← hm];exact e3⟩
       · rename_i f' a b hfx
         rw [appK_eq,appK_eq,copiesK_eq] at h2
         injection h2 with h2;injection h2 with e1 h2;injection h2 with e2 e3
         subst e2;subst e1
         refine ⟨o,ar,tys,fx,a.map .d,b.map .d,hoi,hdt,ht,hgd,hop,fun mem=>?_⟩
         rw [evl_eq' sl mem] at hfx
         exact ⟨by rw [hfx];rfl,by rw [← hm];exact e3⟩
       · cases h2
     · cases h2
   · cases h2
theorem gMs {K:Ctx} {fr:List Fr} {Q:Exit→GS→Prop} {l:List Nat} {sl:List (Nat×PV)} {mem mem0 mem1 mem':List (List PV)} {args0:List PV} {r r':PV} (sel:List Nat)
 (h:cms ops.toList K.n i sl=some (t,f,args)) (hc:Gm K.P f args0 mem0 r mem1) (hargs:args=PV.rens (fun b=>sel.getD b 0) args0) (hnd:sel.Nodup) (hsel:∀ b ∈ sel,b < mem.length)
 (hmem:sel.map (fun b=>mem.getD b [])=mem0.map (PV.rens (fun b=>sel.getD b 0))) (hra:PV.refsBs sel.length args0=true) (hrm:mem0.all (PV.refsBs sel.length)=true) (hl:mem1.length=sel.length)
 (hr:r.ren (fun b=>sel.getD b 0)=r') (hm:setAll mem sel (mem1.map (PV.rens (fun b=>sel.getD b 0)))=mem') (hg:GF K fr (.ops ops l) Q ⟨(t,r') :: sl,mem'⟩):GF K fr (.ops ops (i :: l)) Q ⟨sl,mem⟩:=by
 subst hr;subst hm
 refine toO ?_
 have hg:=ofO hg
 obtain ⟨o,ar,tys,fx,a,b,hoi,hdt,ht,hgd,hop,hcal⟩:=cms_of h
 obtain ⟨h1,h2⟩:=hcal mem
 obtain ⟨⟨fn,hf,hb,hn⟩,hp⟩:=hc
 exact GOps_callm (xs:=ar.toList) sel args0 mem0 hoi (by simpa using hop) hdt hgd h1 (h2.trans hargs) hnd hsel hmem hra hrm hf hb hn ht hp (fun r' m' hr=>by obtain ⟨rfl,rfl⟩:=hr;exact ⟨hl,hg⟩)
theorem gXs {K:Ctx} {fr:List Fr} {Q:Exit→GS→Prop} {l:List Nat} {sl:List (Nat×PV)} {mem mem0 mem1 mem':List (List PV)} {args0:List PV} {r r':PV} (sel:List Nat)
 (h:cms ops.toList K.n i sl=some (t,f,args)) (hc:Xm K.P f args0 mem0 (.inl r) mem1) (hargs:args=PV.rens (fun b=>sel.getD b 0) args0) (hnd:sel.Nodup) (hsel:∀ b ∈ sel,b < mem.length)
 (hmem:sel.map (fun b=>mem.getD b [])=mem0.map (PV.rens (fun b=>sel.getD b 0))) (hra:PV.refsBs sel.length args0=true) (hrm:mem0.all (PV.refsBs sel.length)=true) (hl:mem1.length=sel.length)
 (hr:r.ren (fun b=>sel.getD b 0)=r') (hm:setAll mem sel (mem1.map (PV.rens (fun b=>sel.getD b 0)))=mem') (hg:GF K fr (.ops ops l) Q ⟨(t,r') :: sl,mem'⟩):GF K fr (.ops ops (i :: l)) Q ⟨sl,mem⟩:=by
 subst hr;subst hm
 refine toO ?_
 have hg:=ofO hg
 obtain ⟨o,ar,tys,fx,a,b,hoi,hdt,ht,hgd,hop,hcal⟩:=cms_of h
 obtain ⟨h1,h2⟩:=hcal mem
 obtain ⟨⟨fn,hf,hb,hn⟩,hp⟩:=hc
 refine GOps_callx (xs:=ar.toList) sel args0 mem0 hoi (by simpa using hop) hdt hgd h1 (h2.trans hargs) hnd hsel hmem hra hrm hf hb hn ht hp (fun r' m' hr=>?_) (fun v m' hv=>?_)
 · obtain ⟨hr,rfl⟩:=hr
   injection hr with hr;subst hr
   exact ⟨hl,hg⟩
 · obtain ⟨hv,_⟩:=hv;cases hv
end
section
theorem gCutF {K:Ctx} {fr:List Fr} {x y:Code} {Q:Exit→GS→Prop} {s:GS} {α:Type} (St:α→GS) (I:α→Prop)
 (hx:∀ Q':Exit→GS→Prop,(∀ s' z,I z→Le K s' (St z)→Q' .normal s')→(∀ id s',GF K fr (.leave (.exit id)) Q s'→Q' (.exit id) s')→(∀ s',GF K fr (.leave .ret) Q s'→Q' .ret s')→(∀ ch s',GF K fr (.leave (.panic ch)) Q s'→Q' (.panic ch) s')→GF K [] (.code x) Q' s)
 (hy:∀ z,I z→GF K fr (.code y) Q (St z)):GF K (.thn y :: fr) (.code x) Q s:=
 hx (thn K y (unf K Q fr)) (fun _ z hz hl=>G_le hl (hy z hz)) (fun _ _ h=>h) (fun _ h=>h) (fun _ _ h=>h)
end
section
section
variable {K:Ctx} {fr:List Fr} {ops:Array Oper} {base pre:List (Nat×PV)} {iS:Nat} {c1 c2:List PV} {tl:List (List PV)} {i j t:Nat} {es es':List (Nat×Nat×PV)} {Q:Exit→GS→Prop} {p:PV}
end
end
section
def klOk (kl:List (Nat×Nat)) (i d:Nat):Bool:=match kl.lookup d with
 | none=>true
 | some m=>Nat.beq m i
def seeF (kl:List (Nat×Nat)) (ops:List Oper) (i:Nat) (es:List (Nat×Nat×PV)) (base:List (Nat×PV)):Option (List (Nat×PV)):=opK ops i fun o=>dpK o.after.toList fun ds=>pickK (ds.filter (klOk kl i)) es fun l=>appK l base some
theorem seeF_of {kl:List (Nat×Nat)} {ops:Array Oper} {i:Nat} {es:List (Nat×Nat×PV)} {base pre:List (Nat×PV)} (h:seeF kl ops.toList i es base=some pre):pre=pick es ((depsOf ops i).filter (klOk kl i))++base:=by
 obtain ⟨o,ho,h⟩:=opK_of h
 have hoi:ops[i]? = some o:=by rw [nth_eq] at ho;rw [← ho];simp
 have h1:=pickK_of _ (dpK_of h)
 rw [appK_eq] at h1
 injection h1 with h1
 unfold depsOf
 rw [hoi]
 exact h1.symm
theorem klF {kl:List (Nat×Nat)} {ops:Array Oper} {i:Nat}:(((depsOf ops i).filter (klOk kl i)).all fun d=>(depsOf ops i).contains d && (match kl.lookup d with | none=>true | some m=>Nat.beq m i))=true:=by
 rw [List.all_eq_true]
 intro d hd
 obtain ⟨h1,h2⟩:=List.mem_filter.1 hd
 rw [Bool.and_eq_true]
 exact ⟨by simpa using h1,h2⟩
def tkB (kl:List (Nat×Nat)) (es:List (Nat×Nat×PV)) (u i:Nat):Bool:=es.any fun e=>Nat.beq e.2.1 u && (match kl.lookup e.1 with | some m=>Nat.beq m i | none=>false)
theorem tkB_x {kl:List (Nat×Nat)} {es:List (Nat×Nat×PV)} {u i:Nat} {q:PV} (h:tkB kl es u i=true):(([(u,q)]:List (Nat×PV)).all fun y=>es.any fun e=>Nat.beq e.2.1 y.1 && (match kl.lookup e.1 with | some m=>Nat.beq m i | none=>false))=true:=by
 rw [List.all_cons,List.all_nil,Bool.and_true]
 exact h
section
variable {kl:List (Nat×Nat)} {K:Ctx} {fr:List Fr} {ops:Array Oper} {base pre:List (Nat×PV)} {mem:List (List PV)} {i j t u:Nat} {es es':List (Nat×Nat×PV)} {Q:Exit→GS→Prop} {p q:PV}
theorem cg_end {kl:List (Nat×Nat)} {K:Ctx} {fr:List Fr} {ops:Array Oper} {base sl:List (Nat×PV)} {M:(Nat→Bool)→List (List PV)} {mem:List (List PV)} {i:Nat} {es:List (Nat×Nat×PV)} {Q:Exit→GS→Prop} (hi:sizeIs ops.toList i=true) (hM:M (allB ops.size)=mem) (hp:(es.filter fun x=>(kl.lookup x.1).isNone).map (·.2)++base=sl) (h:GF K fr (.leave .normal) Q ⟨sl,mem⟩)
 (hn:nodupB (es.map (·.2.1))=true) (hb:base.all (fun x=>!(es.map (·.2.1)).contains x.1)=true) (hf:es.all (fun x=>Nat.blt x.1 ops.size)=true):CGk kl K ops M base (unf K Q fr) i es:=by
 have hi:=sizeIs_of _ _ hi
 subst hp
 refine ⟨es,.done hi.symm,nodupB_iff hn,fun x hx hm=>?_,fun x hx=>blt_of (List.all_eq_true.1 hf x hx),?_⟩
 · have:=List.all_eq_true.1 hb x hx
   simp only [Bool.not_eq_true',List.contains_eq_mem,decide_eq_false_iff_not] at this
   exact this hm
 · rw [hM]
   exact h
end
section
variable {K:Ctx} {fr:List Fr} {ops:Array Oper} {base pre:List (Nat×PV)} {iL iA iS:Nat} {c0 c1 c2:List PV} {tl:List (List PV)} {i j t u:Nat} {es es':List (Nat×Nat×PV)} {Q:Exit→GS→Prop} {p q:PV}
end
theorem gA0 {K:Ctx} {T:List (Nat×TI)} {fr:List Fr} {ops:Array Oper} {Q:Exit→GS→Prop} {i t u k b:Nat} {l:List Nat} {sl:List (Nat×PV)} {mem:List (List PV)} {xs:List D} (hT:tabB K.P T=true)
 (h:aps T ops.toList K.n i sl=some (t,u,k,b,xs,[])) (hu0:lk sl u=.osl k xs) (htu:t ≠ u) (hg:GF K fr (.ops ops l) Q ⟨(t,.osl k xs) :: (u,.d (.sl xs)) :: sl,mem⟩):GF K fr (.ops ops (i :: l)) Q ⟨sl,mem⟩:=by
 obtain ⟨o,ho1,h1⟩:=opK_of h
 obtain ⟨t',hdt,ht,h2⟩:=dstK_of h1
 clear h h1
 have h:=h2
 clear h2
 have hoi:ops[i]? = some o:=by rw [nth_eq] at ho1;rw [← ho1];simp
 split at h
 · cases h
 · rename_i hgd
   split at h
   · rename_i c hop
     split at h
     · rename_i hcal
       split at h
       · rename_i u' y hargs
         split at h
         · rename_i ty ty' htys
           split at h
           · rename_i hty
             have hty:=Nat.eq_of_beq_eq_true hty
             subst hty
             split at h
             · cases h
             · rename_i ti hlk
               split at h
               · rename_i e k1 b1 zs hkd
                 obtain ⟨hu,z,hz,hz1,hzs⟩:=slice_of (tabB_look hT hlk) hkd
                 split at h
                 · rename_i hsz
                   have hsz:=sizeIs_of _ _ hsz
                   split at h
                   · rename_i ys' hys
                     obtain ⟨ca,ar,tys⟩:=c
                     dsimp only at hcal hargs htys
                     subst hcal
                     have e1:ar=#[.tmp u',y]:=by apply Array.toList_inj.1;exact hargs
                     have e2:tys=#[ty,ty]:=by apply Array.toList_inj.1;exact htys
                     subst e1;subst e2
                     rw [evl_eq' sl mem] at hys
                     obtain ⟨dd,op,rt,pos,af,gg⟩:=o
                     dsimp only at hdt hop hgd
                     subst hdt;subst hop
                     split at h
                     · rename_i k2 xs2 hlku
                       split at h
                       · rename_i hkk
                         have hkk:=Nat.eq_of_beq_eq_true hkk
                         subst hkk
                         injection h with h;injection h with f1 h;injection h with f2 h;injection h with f3 h;injection h with f4 h;injection h with f5 f6
                         subst f1;subst f2;subst f3;subst f4;subst f5;subst f6
                         exact GOps_val hoi hgd (Y_append0 (lk_some hlku (by intro h;cases h)) (lst_eq hys) hu hz htu ht) hg
                       · cases h
                     · rename_i hlku
                       injection h with h;injection h with f1 h;injection h with f2 h;injection h with f3 h
                       rw [f2] at hlku
                       rw [hu0] at hlku;cases hlku
                     · cases h
                   · cases h
                 · cases h
               · cases h
           · cases h
         · cases h
       · cases h
     · cases h
   · cases h
end
end Go.Proofs.YtoonleefemkalaaDoor.E
