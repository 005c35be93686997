import Derived.Test.YtoonleefemkalaaDoorM16
import Derived.RangeFuncIn
import Derived.Laws.IdiomCopy
import Derived.Test.YtoonleefemkalaaDoorM15
import Derived.Test.YtoonleefemkalaaDoorM12
/- Contracts of functions. Conditions: none. -/
set_option linter.unusedSimpArgs false
set_option linter.unusedVariables false
namespace Go.Proofs.YtoonleefemkalaaDoor.E
open Go
section
variable {ops:Array Oper}
theorem wpOpsIn_head {P:Program} (n:Nat) {Q1 Q:Exit→Act→World→Prop} {i:Nat} {rest:List Nat} {a:Act} {w:World} (hQ1:∀ e a w,Q1 e a w→e=.normal) (h:wpOps P ops Q1 [i] a w) (hn:∀ a' w',Q1 .normal a' w'→wpOpsIn Fence.wide n P ops Q rest a' w'):wpOpsIn Fence.wide n P ops Q (i :: rest) a w:=by
 simp only [wpOps] at h
 simp only [wpOpsIn]
 cases ho:ops[i]? with
 | none=>rw [ho] at h;exact hn _ _ h
 | some o=>
  rw [ho] at h
  simp only at h ⊢
  split
  · rename_i hw
    rw [if_pos hw] at h
    rcases h with h | ⟨_,a',w',h⟩
    · refine ⟨fun _ _=>trivial,?_⟩
      rw [show Fence.wide.round=none from rfl,Oper.semAt_none]
      unfold Oper.wp at h
      generalize (execOp a.eval o).run P w=res at h ⊢
      cases res with
      | ok nx w'=>
       cases nx with
       | value v=>exact hn _ _ h
       | skip=>exact hn _ _ h
       | defer d=>exact hn _ _ h
       | enter f args=>
        refine ⟨(fun h=>by cases h),callsIn_wide.2 (Calls.mono h ?_)⟩
        intro e w'' he
        cases e with
        | returned v=>exact hn _ _ he
        | panicked ch=>cases hQ1 _ _ _ he
        | outgrown=>obtain ⟨a',w',he⟩:=he;cases hQ1 _ _ _ he
       | row row args=>exact ⟨(fun h=>by cases h),fun c cs _=>by
        obtain ⟨v,w',hr,hs⟩:=Rows.mono h (fun _ _ he=>hn _ _ he) c cs
        exact ⟨v,w',hr,stepsIn_wide.2 hs⟩⟩
       | _=>exact h.elim
      | halt x w'=>
       cases x<;>first | exact h.elim | (cases hQ1 _ _ _ h)
    · cases hQ1 _ _ _ h
  · rename_i hw
    rw [if_neg hw] at h
    exact ⟨fun _ _=>trivial,hn _ _ h⟩
def GOpsIn (K:Ctx) (ops:Array Oper) (Q:Exit→GS→Prop) (l:List Nat) (s:GS):Prop:=
 ∀ a w,At K s a w→wpOpsIn Fence.wide 2 K.P ops (fun e a' w'=>∃ s',Q e s'∧At K s' a' w') l a w
variable {K:Ctx} {s:GS}
theorem GOpsIn_nil {Q:Exit→GS→Prop} (h:Q .normal s):GOpsIn K ops Q [] s:=fun _ _ ha=>⟨s,h,ha⟩
theorem GOpsIn_one {Q:Exit→GS→Prop} {i:Nat} {rest:List Nat} {s2:GS} (h:∀ Q':Exit→GS→Prop,GF K [] (.ops ops []) Q' s2→GF K [] (.ops ops [i]) Q' s) (hr:GOpsIn K ops Q rest s2):GOpsIn K ops Q (i :: rest) s:=by
 intro a w ha
 have h1:=(h (fun e s'=>e=.normal∧s'=s2) (toO (gN ⟨rfl,rfl⟩))) a w ha
 refine wpOpsIn_head 2 (fun e a w hq=>?_) h1 (fun a' w' hq=>?_)
 · obtain ⟨s',⟨he,_⟩,_⟩:=hq;exact he
 · obtain ⟨s',⟨_,rfl⟩,hat⟩:=hq;exact hr a' w' hat
theorem G_regionIn {id:Nat} {Q:Exit→GS→Prop} (n:Nat) (l:List Nat) (hn:ops.size=n) (hl:List.range n=l) (h:GOpsIn K ops Q l s):G K (.region id ops false) Q s:=fun a w ha=>
 (wpIn_wide (n:=2)).1 (wpIn_region (by rw [hn,hl];exact h a w ha))
theorem GOpsIn_round {Q:Exit→GS→Prop} {i l:Nat} {rest:List Nat} {o:Oper} {fx x:Operand} {tys:Array TypeId} {T:GS→Prop} (ho:ops[i]? = some o) (hop:o.op=.call ⟨.value fx,#[x],tys⟩) (hg:o.guard=none) (hfx:s.ev fx=.fn (.yield l) [] [])
 (hr:∀ S O m a w,Rep K S O m s a w→∃ r:Loop,w.heap[l]? = some (.loop r)∧r.params.size=1∧RoundIn Fence.wide 1 K.P l r.fn ((r.params.zip #[a.eval x]).foldl (fun tmps (t,a)=>tmps.setIfInBounds t a) r.tmps) r.assign r.body w (fun e w'=>∃ v s',e=.returned v∧T s'∧At K s' (a.put o.dst v) w'))
 (h:∀ s',T s'→GOpsIn K ops Q rest s'):GOpsIn K ops Q (i :: rest) s:=by
 rintro a w ⟨S,O,m,hrep⟩
 obtain ⟨r,hl,hps,hround⟩:=hr S O m a w hrep
 obtain ⟨l',hrf⟩:=hrep.ev fx
 rw [hfx] at hrf
 have hev:a.eval fx=.func (.yield l) #[] #[]:=by
  generalize a.eval fx=v at hrf
  cases hrf with
  | fn _ _ _ _ vf vc h1 h2 _ _=>
   have e1:vf=#[]:=Array.eq_empty_of_size_eq_zero h1
   have e2:vc=#[]:=Array.eq_empty_of_size_eq_zero h2
   subst e1;subst e2;rfl
 have hrun:(execOp a.eval o).run K.P w=.ok (.round l r.fn ((r.params.zip #[a.eval x]).foldl (fun tmps (t,a)=>tmps.setIfInBounds t a) r.tmps) r.assign r.body) w:=by
  have hy:=run_yield (P:=K.P) (args:=#[a.eval x]) hl (by simp [hps])
  simp only [execOp,hop]
  simp [resolve,Deferred.ofValue,hev,invoke,hy]
 simp only [wpOpsIn,ho,Region.wanted,hg,if_true]
 refine ⟨fun _ _=>trivial,?_⟩
 rw [show Fence.wide.round=none from rfl,Oper.semAt_none,hrun]
 refine ⟨(fun h=>by cases h),hround.mono ?_⟩
 rintro e w' ⟨v,s',rfl,hT,hat⟩
 exact h s' hT _ _ hat
end
section
theorem fwd_void {sel:List Nat} {O:Owns} {r:Nat} (h:O r=none):fwd sel O r=none:=by
 cases hq:fwd sel O r with
 | none=>rfl
 | some x=>
  obtain ⟨l,t⟩:=x
  obtain ⟨q,x,h1,_⟩:=fwd_some hq
  rw [h] at h1;cases h1
theorem entryJ {K:Ctx} {S:Reg} {O:Owns} {m:List Nat} {s:GS} {a:Act} {w:World} {sel:List Nat} {mem0:List (List PV)} (hr:Rep K S O m s a w) (hnd:sel.Nodup) (hsel:∀ b ∈ sel,b < s.mem.length) (hmem:sel.map (fun b=>s.mem.getD b [])=mem0.map (PV.rens (fun b=>sel.getD b 0))) (hrm:mem0.all (PV.refsBs sel.length)=true):
 Env S (fwd sel O) w S (fwd sel O) (sel.map (fun b=>m.getD b 0)) mem0 w∧(∀ (b r:Nat),b < sel.length→m[sel.getD b 0]? = some r→(sel.map (fun b=>m.getD b 0))[b]? = some r)∧mem0.length=sel.length:=by
 have hmget:∀ (b x:Nat),sel[b]? = some x→(sel.map (fun b=>m.getD b 0))[b]? = m[x]?:=fun b x hb=>by
  have hx:x < m.length:=by rw [hr.env.mlen];exact hsel x (mG hb)
  rw [List.getElem?_map,hb,Option.map_some,List.getD_eq_getElem?_getD,gE hx];rfl
 have hum:∀ (b r:Nat),b < sel.length→m[sel.getD b 0]? = some r→(sel.map (fun b=>m.getD b 0))[b]? = some r:=fun b r hb hm=>by
  have hs:sel[b]? = some sel[b]:=gE hb
  rw [hmget b _ hs]
  rw [List.getD_eq_getElem?_getD,hs] at hm;exact hm
 have hml0:mem0.length=sel.length:=by have:=congrArg List.length hmem;simpa using this.symm
 have he:=hr.env
 refine ⟨⟨Ext.refl S w,fun _ _ _=>rfl,fun _ _ _ _ _ _ _=>rfl,fun _ _ h=>h,fun _ _ h=>.inl h,fun b o l t' hS hO=>?_,he.slt,fun b l t' hO=>?_,fun b l t' hO=>.inr ⟨l,t',hO,Nat.le_refl _⟩,by simp [hml0],fun j cs r' hj hr' hne'=>?_⟩,hum,hml0⟩
 · obtain ⟨q,x,h1,_,_⟩:=fwd_some hO;exact he.sown b o _ t' hS h1
 · obtain ⟨q,x,h1,_,_⟩:=fwd_some hO;exact he.olt b _ t' h1
 · have hjl:j < sel.length:=by rw [← hml0];exact (lG hj)
   have hsj:sel[j]? = some sel[j]:=gE hjl
   have hmx:m[sel[j]]? = some r':=by rw [← hmget j _ hsj];exact hr'
   have hcx:s.mem[sel[j]]? = some (PV.rens (fun b=>sel.getD b 0) cs):=by
    have h1:=congrArg (fun l=>l[j]?) hmem
    simp only [List.getElem?_map,hsj,hj,Option.map_some,Option.some.injEq] at h1
    have hlt:=hsel _ (mG hsj)
    rw [gE hlt,← h1,List.getD_eq_getElem?_getD,gE hlt];rfl
   obtain ⟨k1,k2⟩:=he.mem _ _ r' hcx hmx (by rw [PV.rens_map];simpa using hne')
   have hidx:sel.idxOf sel[j]=j:=hnd.idxOf_getElem j hjl
   refine ⟨?_,k2.to rfl (Ext.refl _ _) (fun _ _ h=>h) (by simp [PV.rens_map]) (fun jj p hp=>?_) PV.rens_bwd⟩
   · have:=fwd_of (sel:=sel) (O:=O) (r:=r') (x:=sel[j]) (t:=0) (q:=[]) (by simpa using k1) (mG hsj)
     simpa [hidx] using this
   · refine ⟨PV.ren (fun b=>sel.getD b 0) p,by rw [PV.rens_get,hp];rfl,fun u h2=>?_⟩
     have hb2:PV.refsB sel.length p=true:=PV.refsBs_get (List.all_eq_true.1 hrm cs (mG hj)) hp
     have h3:=h2.unren (m0:=sel.map (fun b=>m.getD b 0)) (fun b=>sel.getD b 0) sel.length hum p hb2 rfl
     refine h3.frame _ (Ext.refl _ _) (fun _ _ h=>h) (fun b t' q hO=>?_) (fun _ _ h=>h)
     have:=fwd_of (sel:=sel) (O:=O) (r:=b) (x:=sel[j]) (t:=t') (q:=q++[jj]) (by simpa using hO) (mG hsj)
     simpa [hidx] using this
def recX (fn:FuncId) (tmps:Array Value) (ps:Array Tmp) (assign body:Code) (D:Nat):Loop:={ state:=.ready,pending:=none,fn,tmps,params:=ps,assign,body,defers:=D }
def ItX (P:Program) (f:FuncId) (jn nt:Nat) (ps:Array Tmp) (assign body:Code) (b0 t1 b1 o1:Nat) (mem0:List (List PV)) (S0:Reg) (w0:World) (R:List (List PV)→Prop):Prop:=
 ∀ (l fn D:Nat) (tmps:Array Value) (w:World) (S:Reg) (O:Owns) (m l1:List Nat) (v1:Value),Ext S0 w0 w→(∀ b o,S0 b o→S b o)→Env S O w S O m mem0 w→w.heap[l]? = some (.loop (recX fn tmps ps assign body D))→(∀ i,¬ S l i)→O l=none→tmps.size=nt→RP w S O m l1 (.ref b1 o1) (tmps.getD t1 undef)→RP w S O m [1,0] (.ref b0 0) v1→
  Calls P f #[.func (.yield l) #[] #[],v1] w fun e w2=>∃ v S' O' m' mem',e=.returned v∧R mem'∧Env S O w S' O' m' mem' w2∧mem0.length≤mem'.length∧m.take jn <+: m'
theorem rw_rangeX {P:Program} {n:Nat} {S0:Reg} {O0:Owns} {w0:World} {m0:List Nat} {sl:List (Nat×PV)} {mem mem0:List (List PV)} {t f t1 b0 b1 o1:Nat} {ps:Array Tmp} {assign body:Code} {Post:Exit→Act→World→Prop} {fnn:Func} (jn:Nat) (sel:List Nat) (R:List (List PV)→Prop)
 (hg:sl.lookup t=some (.fn (.func f) [] [.ref (sel.getD b0 0) 0])) (hk:sl.lookup t1=some (.ref (sel.getD b1 0) o1)) (hb0:b0 < sel.length) (hb1:b1 < sel.length) (htn:t < n) (hnd:sel.Nodup) (hsel:∀ b ∈ sel,b < mem.length) (hmem:sel.map (fun b=>mem.getD b [])=mem0.map (PV.rens (fun b=>sel.getD b 0))) (hrm:mem0.all (PV.refsBs sel.length)=true) (hjK:∀ b ∈ sel.drop jn,m0.length≤b) (hno:nrefLM (sel.drop jn) sel 0 mem=true)
 (hf:P.funcs[f]? = some fnn) (hb:fnn.body.isSome=true) (hn:(fnn.name == "runtime.NumGoroutine")=false) (hc:ItX P f jn n ps assign body b0 t1 b1 o1 mem0 S0 w0 R)
 (next:∀ (S1:Reg) (O1:Owns) (w1:World) (m1:List Nat) (D:Nat) (a:Act) (mem':List (List PV)),R mem'→sel.length≤mem'.length→Env S0 O0 w0 S1 O1 m1 (setAll mem sel ((mem'.take sel.length).map (PV.rens (renN sel mem.length)))++(mem'.drop sel.length).map (PV.rens (renN sel mem.length))) w1→w0.heap.size≤D→D < w1.heap.size→w1.heap[D]? = some (.deferred (some []))→O1 D=none→(∀ i,¬ S1 D i)→At ⟨P,n,S1,O1,w1,m0,[],markD D⟩ ⟨(t,.undef) :: sansL (sel.drop jn) sl,setAll mem sel ((mem'.take sel.length).map (PV.rens (renN sel mem.length)))++(mem'.drop sel.length).map (PV.rens (renN sel mem.length))⟩ a w1→Post .normal a w1):
 RW ⟨P,n,S0,O0,w0,m0,[],[]⟩ (.rangeFunc (.tmp t) ps assign body) Post ⟨sl,mem⟩:=by
 rintro a w ⟨S,O,m,hr⟩
 rw [← wpIn_wide (n:=3)]
 refine wpIn_rangeFunc fun fnid _=>?_
 have hv:=hr.slots t _ hg
 have hk1:=hr.slots t1 _ hk
 obtain ⟨v1,rr,hval,hv1,hmr⟩:∃ v1 rr,a.tmps.getD t undef=.func (.func f) #[] #[v1]∧v1=.pointer (some ⟨rr,0,none⟩)∧m[sel.getD b0 0]? = some rr:=by
  generalize a.tmps.getD t undef=v at hv
  cases hv with
  | fn _ _ _ _ vf vc h1 h2 g1 g2=>
   have e1:vf=#[]:=Array.eq_empty_of_size_eq_zero h1
   subst e1
   obtain ⟨v1,rfl⟩:∃ v1,vc=#[v1]:=by
    obtain ⟨lv⟩:=vc
    rcases lv with _ | ⟨y,_ | ⟨z,lv⟩⟩
    · cases h2
    · exact ⟨y,rfl⟩
    · simp at h2
   have h3:=g2 0 _ v1 rfl rfl
   cases h3 with
   | ref _ _ _ r h=>exact ⟨_,r,rfl,rfl,h⟩
 have hev:a.eval (.tmp t)=.func (.func f) #[] #[v1]:=hval
 let rec0:=recX fnid a.tmps ps assign body w.heap.size
 let W1:=(w.alloc (.deferred (some []))).alloc (.loop rec0)
 have h1:Rep ⟨P,n,S0,O0,w0,m0,[],[]⟩ S O m ⟨sl,mem⟩ a W1:=(hr.allocd _).allocd _
 have hE1:Ext S w W1:=(ext_alloc S w _ hr.env.slt).trans (ext_alloc S _ _ (hr.allocd _).env.slt) (fun _ _ h=>h)
 have hL1:W1.heap[w.heap.size + 1]? = some (.loop rec0):=by
  have:=heap_alloc_new' (w.alloc (.deferred (some []))) (.loop rec0)
  rwa [show (w.alloc (.deferred (some []))).heap.size=w.heap.size + 1 by simp] at this
 have hK1:W1.heap[w.heap.size]? = some (.deferred (some [])):=by
  rw [show W1.heap[w.heap.size]? = _ from heap_alloc_old' (w.alloc (.deferred (some []))) (.loop rec0) w.heap.size (by simp)]
  exact heap_alloc_new' _ _
 have hnS:∀ q,w.heap.size≤q→(∀ i,¬ S q i)∧O q=none:=fun q hq=>⟨fun i hi=>absurd (hr.env.slt q i hi) (Nat.not_lt_of_le hq),by
  cases hO:O q with
  | none=>rfl
  | some x=>obtain ⟨l',t'⟩:=x;exact absurd (hr.env.olt q l' t' hO) (Nat.not_lt_of_le hq)⟩
 have hr1:Rep ⟨P,n,S,O,W1,m0,[],[]⟩ S O m ⟨sl,mem⟩ a W1:=⟨h1.env.rebase,h1.defers,h1.size,h1.pre,h1.slots⟩
 obtain ⟨hentry,hum,hml0⟩:=entryJ hr1 hnd hsel hmem hrm
 have hz:=hc (w.heap.size + 1) fnid w.heap.size a.tmps W1 S (fwd sel O) (sel.map (fun b=>m.getD b 0)) [t1,0] v1 (h1.env.ext) h1.env.s0 hentry hL1 (hnS _ (by omega)).1 (fwd_void (hnS _ (by omega)).2) hr.size (by
  generalize a.tmps.getD t1 undef=v at hk1
  cases hk1 with
  | ref _ _ _ r h=>exact .ref _ _ _ r (hum b1 r hb1 h)) (by subst hv1;exact .ref _ _ _ rr (hum b0 rr hb0 hmr))
 refine ⟨w.heap.size + 1,[{ target:=.collected w.heap.size,args:=#[] }],W1,{ target:=.fn (.func f) #[v1],args:=#[.func (.yield (w.heap.size + 1)) #[] #[]] },W1,f,#[.func (.yield (w.heap.size + 1)) #[] #[]]++#[v1],W1,?_,?_,fun _ _=>trivial,?_,(fun h=>by cases h),?_⟩
 · exact run_enterLoop_outer _ _ _ _ _
 · simp only [resolve,hev]
   simp [go_sem]
 · simp [invoke,go_sem,run_callFunc hf hb hn]
 · refine callsIn_wide.2 (Calls.mono hz ?_)
   rintro e W2 ⟨v,S',O',m',mem',rfl,hT,henv,hml,hpm⟩
   have hsz:W1.heap.size=w.heap.size + 2:=by show ((w.alloc _).alloc _).heap.size=_;simp
   obtain ⟨S2,O2,m2,hr2⟩:=hr1.afterJ jn hnd hsel hpm hjK hno (by omega) henv htn (r:=.undef) (v:=a.tmps.getD t undef) (.undef _ _)
   have hput:a.put (some t) (a.tmps.getD t undef)=a:=by
    have hts:t < a.tmps.size:=by rw [hr.size];exact htn
    have:a.tmps.setIfInBounds t (a.tmps.getD t undef)=a.tmps:=by
     apply Array.ext
     · simp
     · intro i h1 h2
       rw [Array.getElem_setIfInBounds]
       split
       · rename_i he
         subst he
         first | rfl | simp [Array.getD,hts]
       · rfl
       all_goals simpa using h2
    show { a with tmps:=a.tmps.setIfInBounds t (a.tmps.getD t undef) }=a
    rw [this]
   rw [hput] at hr2
   have hlw1:∀ q,w.heap.size≤q→q < W1.heap.size→(∀ i,¬ S2 q i)∧O2 q=none∧W2.heap[q]? = W1.heap[q]?:=fun q hq hq2=>hr2.env.apart hq2 (hnS q hq).1 (hnS q hq).2
   obtain ⟨hS2,hO2,hl2⟩:=hlw1 (w.heap.size + 1) (by omega) (by omega)
   obtain ⟨hS3,hO3,hD2⟩:=hlw1 w.heap.size (by omega) (by omega)
   have hl2':W2.heap[w.heap.size + 1]? = some (.loop rec0):=hl2.trans hL1
   refine ⟨none,_,run_endLoop hl2' (by show LoopState.ready ≠ .busy;decide),?_⟩
   have hne:w.heap.size ≠ w.heap.size + 1:=by omega
   have henvK:=Env.trans h1.env hr2.env
   have hsz0:w0.heap.size≤w.heap.size:=hr.env.ext.size
   have hda:([{ target:=.collected w.heap.size,args:=#[] }]:List Deferred)++a.defers=markD w.heap.size:=by rw [hr.defers];rfl
   rw [hda]
   have hext:=ext_putObj (S:=S2) (Obj.loop { rec0 with state:=.exhausted }) hl2' (fun _ _ _ h=>by cases h) (fun _ _ _ h=>by cases h) hS2
   have hKp:=henvK.putObj (Obj.loop { rec0 with state:=.exhausted }) (Nat.le_trans hsz0 (Nat.le_succ _)) hl2' (fun _ _ _ h=>by cases h) (fun _ _ _ h=>by cases h) hS2 hO2
   have hD3:(W2.putObj (w.heap.size + 1) (.loop { rec0 with state:=.exhausted })).heap[w.heap.size]? = some (.deferred (some [])):=by rw [World.putObj_heap_other hne,hD2];exact hK1
   refine next S2 O2 _ m2 w.heap.size _ mem' hT (by omega) hKp hsz0 (Array.getElem?_eq_some_iff.1 hD3).1 hD3 hO3 hS3 ⟨S2,O2,m2,hKp.rebase,rfl,hr2.size,hr2.pre,fun i p hp=>?_⟩
   exact (hr2.slots i p hp).ext hext (fun _ _ h=>h) (fun _ _ _ h=>h) (fun _ _ h=>h)
end
section
def GCallP (pls:List Nat) (S0:Reg) (w0:World) (j:Nat) (P:Program) (f:FuncId) (args:List PV) (mem:List (List PV)) (R:PV→List (List PV)→Prop):Prop:=
 ∀ (w:World) (S:Reg) (O:Owns) (m:List Nat) (vals:Array Value),Ext S0 w0 w→(∀ b o,S0 b o→S b o)→Env S O w S O m mem w→vals.size=args.length→
  (∀ (i:Nat) p v,args[i]? = some p→vals[i]? = some v→RP w S O m [i,0] p v)→
  (∀ jj ∈ pls,∀ n ad cap,vals[jj]? = some (.slice (some ad) n cap)→ad.spot=none∧O ad.block=none∧∃ vs el,w.heap[ad.block]? = some (.cells vs el (0,0)))→
  Calls P f vals w (fun e w'=>∃ v r mem' S' O' m',e=.returned v∧R r mem'∧Env S O w S' O' m' mem' w'∧mem.length≤mem'.length∧m.take j <+: m'∧RP w' S' O' m' [2] r v)
theorem GOps_callP {K:Ctx} {ops:Array Oper} {Q:Exit→GS→Prop} {s:GS} {i:Nat} {rest:List Nat} {o:Oper} {t:Nat} {fx:Operand} {xs:List Operand} {tys:Array TypeId} {f:FuncId} {fn:Func} {fa fc:List PV}
 {R:PV→List (List PV)→Prop} (jn:Nat) (sel:List Nat) (pls:List Nat) (args0:List PV) (mem0:List (List PV))
 (ho:ops[i]? = some o) (hop:o.op=.call ⟨.value fx,xs.toArray,tys⟩) (hd:o.dst=some t) (hg:o.guard=none)
 (hfx:(s.ev fx).callee'=some (f,fa,fc)) (hargs:PV.copies (fa++xs.map s.ev++fc)=PV.rens (fun b=>sel.getD b 0) args0)
 (hnd:sel.Nodup) (hsel:∀ b ∈ sel,b < s.mem.length) (hmem:sel.map (fun b=>s.mem.getD b [])=mem0.map (PV.rens (fun b=>sel.getD b 0)))
 (hra:PV.refsBs sel.length args0=true) (hrm:mem0.all (PV.refsBs sel.length)=true)
 (hf:K.P.funcs[f]? = some fn) (hb:fn.body.isSome=true) (hn:(fn.name == "runtime.NumGoroutine")=false) (ht:t < K.n)
 (hc:GCallP pls K.S0 K.w0 jn K.P f args0 mem0 R) (hpl:∀ jj ∈ pls,∃ u k zs,(fa++xs.map s.ev++fc)[jj]? = some (.osl k zs)∧fa=[]∧xs[jj]? = some (.tmp u)∧s.get u=some (.osl k zs)) (hjK:∀ b ∈ sel.drop jn,K.m0.length≤b) (hno:nrefLM (sel.drop jn) sel 0 s.mem=true)
 (h:∀ r mem',R r mem'→sel.length≤mem'.length→GOps K ops Q rest (GS.set ⟨sansL (sel.drop jn) s.slots,setAll s.mem sel ((mem'.take sel.length).map (PV.rens (renN sel s.mem.length)))++(mem'.drop sel.length).map (PV.rens (renN sel s.mem.length))⟩ t (r.ren (renN sel s.mem.length)))):
 GOps K ops Q (i :: rest) s:=by
 rintro a w ⟨S,O,m,hr⟩
 obtain ⟨l,hrf⟩:=hr.ev fx
 obtain ⟨vf,vc,hvf,hs1,hs2,g1,g2⟩:=hrf.callee' hfx
 have hrun:(execOp a.eval o).run K.P w=.ok (.enter f (vf++(xs.map a.eval).toArray++vc)) w:=by
  simp only [execOp,hop]
  simp [resolve,Deferred.ofValue,hvf,invoke,run_callFunc hf hb hn]
 simp only [wpOps,ho,Region.wanted,hg,if_true]
 refine .inl ?_
 simp only [Oper.wp,hrun,Oper.upon_enter]
 have hmget:∀ (b x:Nat),sel[b]? = some x→(sel.map (fun b=>m.getD b 0))[b]? = m[x]?:=fun b x hb=>by
  have hx:x < m.length:=by rw [hr.env.mlen];exact hsel x (mG hb)
  rw [List.getElem?_map,hb,Option.map_some,List.getD_eq_getElem?_getD,gE hx];rfl
 have hum:∀ (b r:Nat),b < sel.length→m[sel.getD b 0]? = some r→(sel.map (fun b=>m.getD b 0))[b]? = some r:=fun b r hb hm=>by
  have hs:sel[b]? = some sel[b]:=gE hb
  rw [hmget b _ hs]
  rw [List.getD_eq_getElem?_getD,hs] at hm;exact hm
 have hml0:mem0.length=sel.length:=by have:=congrArg List.length hmem;simpa using this.symm
 have hentry:Env S (fwd sel O) w S (fwd sel O) (sel.map (fun b=>m.getD b 0)) mem0 w:=by
  have he:=hr.env
  refine ⟨Ext.refl S w,fun _ _ _=>rfl,fun _ _ _ _ _ _ _=>rfl,fun _ _ h=>h,fun _ _ h=>.inl h,fun b o l t' hS hO=>?_,he.slt,fun b l t' hO=>?_,fun b l t' hO=>.inr ⟨l,t',hO,Nat.le_refl _⟩,by simp [hml0],fun j cs r' hj hr' hne'=>?_⟩
  · obtain ⟨q,x,h1,_,_⟩:=fwd_some hO;exact he.sown b o _ t' hS h1
  · obtain ⟨q,x,h1,_,_⟩:=fwd_some hO;exact he.olt b _ t' h1
  · have hjl:j < sel.length:=by rw [← hml0];exact (lG hj)
    have hsj:sel[j]? = some sel[j]:=gE hjl
    have hmx:m[sel[j]]? = some r':=by rw [← hmget j _ hsj];exact hr'
    have hcx:s.mem[sel[j]]? = some (PV.rens (fun b=>sel.getD b 0) cs):=by
     have h1:=congrArg (fun l=>l[j]?) hmem
     simp only [List.getElem?_map,hsj,hj,Option.map_some,Option.some.injEq] at h1
     have hlt:=hsel _ (mG hsj)
     rw [gE hlt,← h1,List.getD_eq_getElem?_getD,gE hlt];rfl
    obtain ⟨k1,k2⟩:=he.mem _ _ r' hcx hmx (by rw [PV.rens_map];simpa using hne')
    have hidx:sel.idxOf sel[j]=j:=hnd.idxOf_getElem j hjl
    refine ⟨?_,k2.to rfl (Ext.refl _ _) (fun _ _ h=>h) (by simp [PV.rens_map]) (fun jj p hp=>?_) PV.rens_bwd⟩
    · have:=fwd_of (sel:=sel) (O:=O) (r:=r') (x:=sel[j]) (t:=0) (q:=[]) (by simpa using k1) (mG hsj)
      simpa [hidx] using this
    · refine ⟨PV.ren (fun b=>sel.getD b 0) p,by rw [PV.rens_get,hp];rfl,fun u h2=>?_⟩
      have hb2:PV.refsB sel.length p=true:=PV.refsBs_get (List.all_eq_true.1 hrm cs (mG hj)) hp
      have h3:=h2.unren (m0:=sel.map (fun b=>m.getD b 0)) (fun b=>sel.getD b 0) sel.length hum p hb2 rfl
      refine h3.frame _ (Ext.refl _ _) (fun _ _ h=>h) (fun b t' q hO=>?_) (fun _ _ h=>h)
      have:=fwd_of (sel:=sel) (O:=O) (r:=b) (x:=sel[j]) (t:=t') (q:=q++[jj]) (by simpa using hO) (mG hsj)
      simpa [hidx] using this
 have hlen:(fa++xs.map s.ev++fc).length=args0.length:=by have:=congrArg List.length hargs;simpa [PV.copies_map,PV.rens_map] using this
 have hcall:=hc w S (fwd sel O) (sel.map (fun b=>m.getD b 0)) (vf++(xs.map a.eval).toArray++vc) hr.env.ext hr.env.s0 hentry (by simp at hlen;simp [hs1,hs2];omega) (fun j p v hp hv=>by
  have hb2:PV.refsB sel.length p=true:=PV.refsBs_get hra hp
  have h1:(PV.copies (fa++xs.map s.ev++fc))[j]? = some (PV.ren (fun b=>sel.getD b 0) p):=by rw [hargs,PV.rens_get,hp];rfl
  obtain ⟨q,hq,hqe⟩:=PV.copies_getElem? _ _ _ h1
  have hex:∃ l',RP w S O m l' q v:=by
   by_cases h1:j < fa.length
   · rw [List.append_assoc,List.getElem?_append_left h1] at hq
     rw [Array.append_assoc,Array.getElem?_append_left (by omega)] at hv
     exact g1 j q v hq hv
   · by_cases h2:j < fa.length + xs.length
     · rw [List.getElem?_append_left (by simp;omega),List.getElem?_append_right (by omega),List.getElem?_map] at hq
       rw [Array.getElem?_append_left (by simp;omega),Array.getElem?_append_right (by omega),hs1] at hv
       cases hx:xs[j - fa.length]? with
       | none=>simp [hx] at hq
       | some x=>simp [hx] at hq hv;subst hq;subst hv;exact hr.ev x
     · rw [List.getElem?_append_right (by simp;omega)] at hq
       rw [Array.getElem?_append_right (by simp;omega)] at hv
       refine g2 _ q v hq ?_
       rw [← hv];congr 1;simp;omega
  obtain ⟨l',hl'⟩:=hex
  have h4:RP w S (fwd sel O) m [j,0] q.copy v:=hl'.copy _ _
  rw [← hqe] at h4
  exact h4.unren (fun b=>sel.getD b 0) sel.length hum p hb2 rfl) (fun jj hjj n ad cap hv=>by
  obtain ⟨u,k,zs,hq,hfa,hx,hgu⟩:=hpl jj hjj
  subst hfa
  have hva:vf=#[]:=Array.eq_empty_of_size_eq_zero (by simpa using hs1)
  subst hva
  have hjx:jj < xs.length:=(lG hx)
  have hv2:a.eval (.tmp u)=.slice (some ad) n cap:=by
   rw [Array.getElem?_append_left (by simp;omega)] at hv
   simpa [hx] using hv
  have hs2':RP w S O m [u,0] (.osl k zs) (a.eval (.tmp u)):=hr.slots u _ hgu
  rw [hv2] at hs2'
  cases hs2' with
  | osl _ _ _ _ _ hr' hk' hn' ht'=>
   obtain ⟨t1,t2,vs,el,t3,t4⟩:=ht' ad rfl
   refine ⟨t1,?_,vs,el,t3⟩
   cases hfo:fwd sel O ad.block with
   | none=>rfl
   | some y=>
    obtain ⟨q,x,h1,_,_⟩:=fwd_some (l:=y.1) (t:=y.2) hfo
    rw [t2] at h1
    injection h1 with h1
    have:=congrArg (fun z=>z.1.getLast?) h1
    simp at this)
 refine Calls.mono hcall ?_
 rintro e w' ⟨v,r,mem',S',O',m',rfl,hR,henv,hlen2,hm,hres⟩
 simp only
 rw [hd]
 exact h r mem' hR (by omega) _ _ (hr.afterJ jn hnd hsel hm hjK hno (by omega) henv ht hres)
theorem gJP {K:Ctx} {fr:List Fr} {ops:Array Oper} {Q:Exit→GS→Prop} {i t jn:Nat} {l:List Nat} {sl:List (Nat×PV)} {mem mem0:List (List PV)} {f:FuncId} {fn:Func} {args0:List PV} {R:PV→List (List PV)→Prop} {o:Oper} {xs:List Operand} {tys:Array TypeId} (sel pls:List Nat)
 (ho:ops[i]? = some o) (hop:o.op=.call ⟨.value (.func f),xs.toArray,tys⟩) (hd:o.dst=some t) (hgd:o.guard=none) (ht:t < K.n) (hargs:PV.copies (xs.map (GS.ev ⟨sl,mem⟩))=PV.rens (fun b=>sel.getD b 0) args0)
 (hpl:∀ jj ∈ pls,∃ u k zs,xs[jj]? = some (.tmp u)∧(GS.mk sl mem).get u=some (.osl k zs))
 (hf:K.P.funcs[f]? = some fn) (hb:fn.body.isSome=true) (hn:(fn.name == "runtime.NumGoroutine")=false) (hc:GCallP pls K.S0 K.w0 jn K.P f args0 mem0 R) (hnd:sel.Nodup) (hsel:∀ b ∈ sel,b < mem.length)
 (hmem:sel.map (fun b=>mem.getD b [])=mem0.map (PV.rens (fun b=>sel.getD b 0))) (hra:PV.refsBs sel.length args0=true) (hrm:mem0.all (PV.refsBs sel.length)=true) (hjK:∀ b ∈ sel.drop jn,K.m0.length≤b) (hno:nrefLM (sel.drop jn) sel 0 mem=true)
 (hg:∀ r mem',R r mem'→sel.length≤mem'.length→GF K fr (.ops ops l) Q (stJ jn sel sl mem t r mem')):GF K fr (.ops ops (i :: l)) Q ⟨sl,mem⟩:=by
 refine toO ?_
 refine GOps_callP (fa:=[]) (fc:=[]) (xs:=xs) jn sel pls args0 mem0 ho hop hd hgd rfl (by simpa using hargs) hnd hsel hmem hra hrm hf hb hn ht hc (fun jj hj=>?_) hjK hno (fun r' m' hr hl=>ofO (hg r' m' hr hl))
 obtain ⟨u,k,zs,h1,h2⟩:=hpl jj hj
 refine ⟨u,k,zs,?_,rfl,h1,h2⟩
 simp [h1,GS.ev,h2]
end
section
def VRow (w:World) (S:Reg) (k:Nat) (vs:List Value) (zs:List D):Prop:=
 ∀ (i:Nat) x (j:Nat) y,zs[i]? = some x→x.cells[j]? = some y→∃ v,vs[i * k + j]? = some v∧Rd w S y v
section
variable {w w':World} {S:Reg} {k:Nat} {vs us:List Value} {zs ys:List D}
theorem VRow.ext (h:VRow w S k vs zs) (he:Ext S w w'):VRow w' S k vs zs:=fun i x j y hi hj=>by
 obtain ⟨v,h1,h2⟩:=h i x j y hi hj
 exact ⟨v,h1,h2.ext he (fun _ _ h=>h)⟩
theorem cell_lt {k i j:Nat} {x y:D} (hk:x.cells.length=k) (hj:x.cells[j]? = some y):i * k + j < (i + 1) * k:=by
 have h1:j < k:=by rw [← hk];exact (lG hj)
 rw [Nat.add_mul,Nat.one_mul];omega
theorem VRow.append (h:VRow w S k vs zs) (hk:∀ x ∈ zs,x.cells.length=k) (hl:vs.length=zs.length * k) (h':VRow w S k us ys):VRow w S k (vs++us) (zs++ys):=fun i x j y hi hj=>by
 by_cases hx:i < zs.length
 · rw [List.getElem?_append_left hx] at hi
   obtain ⟨v,h1,h2⟩:=h i x j y hi hj
   exact ⟨v,by rw [List.getElem?_append_left (lG h1)];exact h1,h2⟩
 · rw [List.getElem?_append_right (by omega)] at hi
   obtain ⟨v,h1,h2⟩:=h' _ x j y hi hj
   have hm:zs.length * k≤i * k:=Nat.mul_le_mul_right _ (by omega)
   have hsub:(i - zs.length) * k=i * k - zs.length * k:=Nat.sub_mul _ _ _
   refine ⟨v,?_,h2⟩
   rw [List.getElem?_append_right (by omega),show i * k + j - vs.length=(i - zs.length) * k + j by omega]
   exact h1
theorem VRow.take (h:VRow w S k vs zs) (hk:∀ x ∈ zs,x.cells.length=k) (n:Nat):VRow w S k (vs.take (n * k)) (zs.take n):=fun i x j y hi hj=>by
 have hin:i < n:=by
  have:=(lG hi)
  rw [List.length_take] at this;omega
 rw [List.getElem?_take_of_lt hin] at hi
 obtain ⟨v,h1,h2⟩:=h i x j y hi hj
 have h3:=cell_lt (i:=i) (hk x (mG hi)) hj
 have h4:(i + 1) * k≤n * k:=Nat.mul_le_mul_right _ hin
 exact ⟨v,by rw [List.getElem?_take_of_lt (by omega)];exact h1,h2⟩
theorem VRow.drop (h:VRow w S k vs zs) (n:Nat):VRow w S k (vs.drop (n * k)) (zs.drop n):=fun i x j y hi hj=>by
 rw [List.getElem?_drop] at hi
 obtain ⟨v,h1,h2⟩:=h _ x j y hi hj
 rw [Nat.add_mul,Nat.add_assoc] at h1
 exact ⟨v,by rw [List.getElem?_drop];exact h1,h2⟩
theorem VRow.more (h:VRow w S k vs zs) (us:List Value):VRow w S k (vs++us) zs:=fun i x j y hi hj=>by
 obtain ⟨v,h1,h2⟩:=h i x j y hi hj
 exact ⟨v,by rw [List.getElem?_append_left (lG h1)];exact h1,h2⟩
theorem VRow.nil:VRow w S k vs []:=fun i x j y hi=>by simp at hi
end
theorem splice_ap {α:Type} (cs:List α) (o:Nat) (a b:List α) (h:o + a.length + b.length≤cs.length):splice (splice cs o a) (o + a.length) b=splice cs o (a++b):=by
 refine List.ext_getElem? fun j=>?_
 rw [splice_get _ _ _ (by rw [splice_length _ _ _ (by omega)];omega),splice_get _ _ _ (by omega),splice_get _ _ _ (by rw [List.length_append];omega),List.length_append]
 by_cases h1:o≤j
 · by_cases h2:j < o + a.length
   · rw [if_neg (by omega),if_pos ⟨h1,h2⟩,if_pos ⟨h1,by omega⟩,List.getElem?_append_left (by omega)]
   · by_cases h3:j < o + a.length + b.length
     · rw [if_pos ⟨by omega,h3⟩,if_pos ⟨h1,by omega⟩,List.getElem?_append_right (by omega)]
       congr 1;omega
     · rw [if_neg (by omega),if_neg (by omega),if_neg (by omega)]
 · rw [if_neg (by omega),if_neg (by omega),if_neg (by omega)]
theorem splice_pa {α:Type} (cs:List α) (o:Nat) (a b:List α) (h:o + a.length + b.length≤cs.length):splice (splice cs (o + a.length) b) o a=splice cs o (a++b):=by
 refine List.ext_getElem? fun j=>?_
 rw [splice_get _ _ _ (by rw [splice_length _ _ _ (by omega)];omega),splice_get _ _ _ (by omega),splice_get _ _ _ (by rw [List.length_append];omega),List.length_append]
 by_cases h1:o≤j
 · by_cases h2:j < o + a.length
   · rw [if_pos ⟨h1,h2⟩,if_pos ⟨h1,by omega⟩,List.getElem?_append_left (by omega)]
   · by_cases h3:j < o + a.length + b.length
     · rw [if_neg (by omega),if_pos ⟨by omega,h3⟩,if_pos ⟨h1,by omega⟩,List.getElem?_append_right (by omega)]
       congr 1;omega
     · rw [if_neg (by omega),if_neg (by omega),if_neg (by omega)]
 · rw [if_neg (by omega),if_neg (by omega),if_neg (by omega)]
theorem setCells_row (P:Program) {w:World} {b o:Nat} {l:List Value} {vs:Array Value} {el:TypeId} (hh:w.heap[b]? = some (.cells vs el (0,0))) (hfit:o + l.length≤vs.size) (h1:∀ v ∈ l,v.oneCell'=true):w.setCells b o l=w.setRow b (splice vs.toList o l).toArray:=by
 have h2:=run_storeCells_at P b o el l 0 vs w hh (by omega) h1
 have h3:=run_storeCells_cells (P:=P) b o l 0 w (fun j hj=>by
  rw [cell_of_row w b _ vs el _ hh,Nat.add_zero,Array.getElem?_eq_getElem (show o + j < vs.size by omega)];rfl) (fun j _=>by simp [World.frozen?,hh]) h1
 rw [h2] at h3
 simp only [Nat.add_zero] at h3
 injection h3 with _ h4
 rw [← h4];rfl
theorem row_end {w:World} {S:Reg} {O:Owns} {m:List Nat} {cs0:List PV} (henv:Env S O w S O m [cs0] w) (hno:nrefM 0 0 [cs0]=true) {w':World} {r' cap':Nat} {el':TypeId} {vs':List Value} {k:Nat} {pre xs post:List D}
 (hkall:∀ x ∈ pre++xs++post,x.cells.length=k) (hne:pre++xs++post ≠ []) (hE:Ext S w w') (hO:r'=w.heap.size∨O r'=some ([0,1],0)) (hsame:∀ q,q < w.heap.size→q ≠ r'→w'.heap[q]? = w.heap[q]?)
 (hh:w'.heap[r']? = some (.cells vs'.toArray el' (0,0))) (hsz:pre.length * k + cap' * k≤vs'.length) (hle:(pre++xs++post).length * k≤vs'.length) (hc:xs.length≤cap') (hcx:cap'≤9223372036854775807) (hl:xs.length≤lim) (hone:∀ v ∈ vs',v.oneCell'=true) (hv:VRow w' S k vs' (pre++xs++post)):
 ∃ v r mem' S' O' m',Ending.returned (.slice (some ⟨r',pre.length * k,none⟩) xs.length cap')=.returned v∧(r=PV.rsl 0 (rlo k pre xs post) xs.length k∧mem'=[flat (pre++xs++post)])∧Env S O w S' O' m' mem' w'∧[cs0].length≤mem'.length∧m.take 0 <+: m'∧RP w' S' O' m' [2] r v:=by
 have hfl:=flat_length _ hkall
 have hblk:Blk w' S (fun q=>if q=r' then some ([0,1],0) else O q) (m.set 0 r') 0 (flat (pre++xs++post)) r':=.inl ⟨vs'.toArray,el',hh,by rw [hfl];simpa using hle,fun j v hj=>hone v (by rw [List.getElem?_toArray] at hj;exact mG hj),fun j p v hp hv2=>by
  obtain ⟨i,j',x,y',h1,h2,rfl,rfl⟩:=flat_inv _ hkall j p hp
  obtain ⟨v',h3,h4⟩:=hv i x j' y' h1 h2
  rw [List.getElem?_toArray,h3] at hv2;injection hv2 with hv2;subst hv2
  exact .d _ _ _ h4⟩
 have hlt:r' < w'.heap.size:=(Array.getElem?_eq_some_iff.1 hh).1
 have henv2:=henv.renew (b:=0) (by simp) hE hO hlt hsame hno hblk
 have hm0:(m.set 0 r')[0]? = some r':=List.getElem?_set_self (by rw [henv.mlen];simp)
 exact ⟨_,_,_,S,_,_,rfl,⟨rfl,rfl⟩,henv2,by simp,List.nil_prefix,row_mk [2] hc hl hm0 hne ⟨vs'.toArray,el',hh,by simpa using hsz⟩⟩
end
section
theorem rw_gf {K:Ctx} {c:Code} {T:GS→Prop} {Post:Exit→Act→World→Prop} {s:GS} (h:GF K [] (.code c) (fun e s'=>e=.normal∧T s') s) (hp:∀ s',T s'→∀ a w,At K s' a w→Post .normal a w):RW K c Post s:=fun a w hat=>
 wp_mono (h a w hat) fun _ a' w' ⟨s',⟨he,hT⟩,hat'⟩=>by subst he;exact hp s' hT a' w' hat'
end
section
theorem flat_d:∀ (zs:List D) (p:PV),p ∈ flat zs→∃ y,p=.d y
 | [],p,h=>by cases h
 | z :: zs,p,h=>by
  rw [flat_cons] at h
  rcases List.mem_append.1 h with h | h
  · obtain ⟨y,_,rfl⟩:=List.mem_map.1 h
    exact ⟨y,rfl⟩
  · exact flat_d zs p h
def mvN (n N b:Nat):Nat:=if b=n then N else b
theorem Le_mvE {K:Ctx} {s:GS} (n:Nat) {zs:List D} (hmem:s.mem[n]? = some (flat zs)) (hn:K.m0.length≤s.mem.length):Le K s ⟨s.slots.map fun x=>(x.1,x.2.ren (mvN n s.mem.length)),(s.mem.set n []).map (PV.rens (mvN n s.mem.length))++[flat zs]⟩:=by
 rintro a w ⟨S,O,m,h⟩
 have he:=h.env
 have hnl:n < s.mem.length:=(lG hmem)
 obtain ⟨r,h1⟩:∃ r,m[n]? = some r:=⟨m[n]'(by rw [he.mlen];exact hnl),List.getElem?_eq_getElem _⟩
 have hown:flat zs ≠ []→O r=some ([n,1],0):=fun hne=>(he.mem n _ r hmem h1 hne).1
 let N:=s.mem.length
 let O':Owns:=fun q=>if q=r∧flat zs ≠ [] then some ([N,1],0) else O q
 have hmm:∀ (b r0:Nat),m[b]? = some r0→(m++[r])[mvN n N b]? = some r0:=fun b r0 hb=>by
  unfold mvN
  by_cases hbn:b=n
  · subst hbn
    rw [if_pos rfl,List.getElem?_append_right (by rw [he.mlen];exact Nat.le_refl _),he.mlen]
    rw [h1] at hb;injection hb with hb;subst hb
    simp [N]
  · rw [if_neg hbn,List.getElem?_append_left (lG hb)];exact hb
 have hOr:∀ (b:Nat) l t,l ≠ [n,1]→O b=some (l,t)→O' b=some (l,t):=fun b l t hl hb=>by
  show (if b=r∧flat zs ≠ [] then _ else _)=_
  rw [if_neg]
  · exact hb
  · rintro ⟨rfl,hne⟩;rw [hown hne] at hb;injection hb with hb;injection hb with hb _;exact hl hb.symm
 have hOo:∀ (b:Nat) l t,O' b=some (l,t)→(∃ l0,O b=some (l0,t)):=fun b l t hO=>by
  by_cases hb:b=r∧flat zs ≠ []
  · have:O' b=some ([N,1],0):=if_pos hb
    rw [this] at hO;injection hO with hO;injection hO with _ hO
    subst hO
    exact ⟨_,by rw [hb.1];exact hown hb.2⟩
  · have:O' b=O b:=if_neg hb
    rw [this] at hO;exact ⟨l,hO⟩
 refine ⟨S,O',m++[r],⟨he.ext,he.old,he.part,he.s0,he.snew,fun b o l t hS hO=>?_,he.slt,fun b l t hO=>?_,fun b l t hO=>?_,by simp [he.mlen],fun i cs' r' hi hr' hne'=>?_⟩,h.defers,h.size,h.pre.trans (List.prefix_append _ _),fun i p hp=>?_⟩
 · obtain ⟨l0,h0⟩:=hOo b l t hO;exact he.sown b o l0 t hS h0
 · obtain ⟨l0,h0⟩:=hOo b l t hO;exact he.olt b l0 t h0
 · obtain ⟨l0,h0⟩:=hOo b l t hO;exact he.onew b l0 t h0
 · have hlen:((s.mem.set n []).map (PV.rens (mvN n s.mem.length))).length=N:=by simp [N]
   by_cases hiN:i < N
   · rw [List.getElem?_append_left (by rw [hlen];exact hiN),List.getElem?_map,List.getElem?_set] at hi
     by_cases hin:n=i
     · rw [if_pos hin,if_pos (by omega)] at hi
       injection hi with hi
       exact absurd (by rw [← hi];rfl) hne'
     · rw [if_neg hin] at hi
       cases hc:s.mem[i]? with
       | none=>rw [hc] at hi;cases hi
       | some cs0=>
        rw [hc] at hi
        injection hi with hi
        subst hi
        have hr2:m[i]? = some r':=by
         rw [List.getElem?_append_left (by rw [he.mlen];exact hiN)] at hr';exact hr'
        obtain ⟨g1,g2⟩:=he.mem i cs0 r' hc hr2 (by rintro rfl;exact hne' rfl)
        refine ⟨hOr _ _ _ (by simp;omega) g1,g2.to rfl (Ext.refl S w) (fun _ _ h=>h) (by simp [PV.rens_map]) (fun j p hp=>?_) (fun p p' h0 h1 hs=>?_)⟩
        · rw [PV.rens_get] at hp
          cases hp0:cs0[j]? with
          | none=>rw [hp0] at hp;cases hp
          | some p0=>
           rw [hp0] at hp
           injection hp with hp
           subst hp
           exact ⟨p0,rfl,fun v hv=>RP.ren _ (hv.ext (Ext.refl S w) (fun _ _ h=>h) (fun b t q hb=>hOr b _ t (by intro hc;have:=congrArg List.length hc;simp at this) hb) (fun _ _ h=>h)) hmm⟩
        · rw [PV.rens_get,h0] at h1
          injection h1 with h1
          subst h1
          exact .inl (by cases p<;>first | rfl | cases hs)
   · have hiN':i=N:=by
      have:=(lG hi)
      rw [List.length_append,hlen,List.length_singleton] at this
      omega
     subst hiN'
     rw [List.getElem?_append_right (by rw [hlen];exact Nat.le_refl _),hlen,Nat.sub_self] at hi
     injection hi with hi
     subst hi
     have hrr:r'=r:=by
      rw [List.getElem?_append_right (by rw [he.mlen];exact Nat.le_refl _),he.mlen] at hr'
      simpa [N] using hr'.symm
     subst hrr
     obtain ⟨g1,g2⟩:=he.mem n _ r' hmem h1 hne'
     refine ⟨if_pos ⟨rfl,hne'⟩,g2.to rfl (Ext.refl S w) (fun _ _ h=>h) rfl (fun j p hp=>⟨p,hp,fun v hv=>?_⟩) (fun p p' h0 h1 _=>.inl (by rw [h0] at h1;injection h1 with h1;exact h1.symm))⟩
     obtain ⟨y,hy⟩:=flat_d zs p (mG hp)
     subst hy
     cases hv with | d _ _ _ hv=>exact .d _ _ _ hv
 · have hp':(s.slots.lookup i).map (fun x=>PV.ren (mvN n s.mem.length) x)=some p:=by rw [← lookup_map];exact hp
   cases hq:s.slots.lookup i with
   | none=>simp [hq] at hp'
   | some q=>
    simp only [hq,Option.map_some,Option.some.injEq] at hp'
    subst hp'
    exact RP.ren _ ((h.slots i q hq).ext (Ext.refl S w) (fun _ _ h=>h) (fun b t q' hb=>hOr b _ t (by intro hc;have:=congrArg List.getLast? hc;simp at this) hb) (fun _ _ h=>h)) hmm
theorem gMvE (n:Nat) {K:Ctx} {fr:List Fr} {c:Cf} {Q:Exit→GS→Prop} {sl sl':List (Nat×PV)} {mem mem':List (List PV)} {zs:List D} (hmem:mem[n]? = some (flat zs)) (hm:K.m0.length≤mem.length) (hsl:(sl.map fun x=>(x.1,x.2.ren (mvN n mem.length)))=sl') (hmm:(mem.set n []).map (PV.rens (mvN n mem.length))++[flat zs]=mem') (hc:goes c=true) (hg:GF K fr c Q ⟨sl',mem'⟩):GF K fr c Q ⟨sl,mem⟩:=by
 subst hsl;subst hmm
 exact gLe (Le_mvE (s:=⟨sl,mem⟩) n hmem hm) hg hc
end
section
def COz (kl:List (Nat×Nat)) (K:Ctx) (fr:List Fr) (ops:Array Oper) (base:List (Nat×PV)) (ws:List Nat) (ms:List (List (List PV))) (i:Nat) (es:List (Nat×Nat×PV)) (Q:Exit→GS→Prop):Prop:=CGk kl K ops (fun b=>ms.getD (ws.countP b) []) base (unf K Q fr) i es
section
variable {kl:List (Nat×Nat)} {K:Ctx} {fr:List Fr} {ops:Array Oper} {base pre:List (Nat×PV)} {ws:List Nat} {ms:List (List (List PV))} {mem mem':List (List PV)} {i j t u:Nat} {es es':List (Nat×Nat×PV)} {Q:Exit→GS→Prop} {p q:PV}
theorem zAny (hs:seeF kl ops.toList i es base=some pre) (hj:nth nums (i + 1)=some j) (hes:snocK es (i,t,p) some=some es') (hi:memN i ws=false)
 (hc:COz kl K fr ops base ws ms j es' Q) (hstep:∀ (rest:List (Nat×PV)) (X:List (List PV)) (Q':Exit→GS→Prop),GF K [] (.ops ops []) Q' ⟨(t,p) :: (pre++rest),X⟩→GF K [] (.ops ops [i]) Q' ⟨pre++rest,X⟩):COz kl K fr ops base ws ms i es Q:=by
 have hpre:=seeF_of hs
 subst hpre
 have hj:=numj hj
 rw [snocK_eq] at hes
 injection hes with hes
 subst hj;subst hes
 have hin:i ∉ ws:=fun h=>by rw [memN_iff.2 h] at hi;cases hi
 have hck:CFk kl K ops (fun b=>ms.getD (ws.countP b) []) base (unf K Q fr) i es (fun rest=>pick es ((depsOf ops i).filter (klOk kl i))++base++rest):=
  ck_st (i + 1) (fun b rest _ _ _=>by rw [countP_upd hin];exact ofO (fr:=[]) (hstep rest _ (fun e s'=>e=.normal∧s'=⟨(t,p) :: (pick es ((depsOf ops i).filter (klOk kl i))++base++rest),ms.getD (ws.countP b) []⟩) (toO (fr:=[]) (gN ⟨rfl,rfl⟩)))) hc rfl rfl
 exact hck ((depsOf ops i).filter (klOk kl i)) (fun _=>rfl) klF
theorem zTake (hs:seeF kl ops.toList i es base=some pre) (hj:nth nums (i + 1)=some j) (hes:snocK es (i,t,p) some=some es') (hi:memN i ws=false) (hx:tkB kl es u i=true)
 (hc:COz kl K fr ops base ws ms j es' Q) (hstep:∀ (rest:List (Nat×PV)) (X:List (List PV)) (Q':Exit→GS→Prop),GF K [] (.ops ops []) Q' ⟨(t,p) :: (u,q) :: (pre++rest),X⟩→GF K [] (.ops ops [i]) Q' ⟨pre++rest,X⟩):COz kl K fr ops base ws ms i es Q:=by
 have hpre:=seeF_of hs
 subst hpre
 have hj:=numj hj
 rw [snocK_eq] at hes
 injection hes with hes
 subst hj;subst hes
 have hin:i ∉ ws:=fun h=>by rw [memN_iff.2 h] at hi;cases hi
 have hck:CFk kl K ops (fun b=>ms.getD (ws.countP b) []) base (unf K Q fr) i es (fun rest=>pick es ((depsOf ops i).filter (klOk kl i))++base++rest):=
  ck_tk (i + 1) u (q:=q) (fun b rest _ _ _=>by rw [countP_upd hin];exact ofO (fr:=[]) (hstep rest _ (fun e s'=>e=.normal∧s'=⟨(t,p) :: (u,q) :: (pick es ((depsOf ops i).filter (klOk kl i))++base++rest),ms.getD (ws.countP b) []⟩) (toO (fr:=[]) (gN ⟨rfl,rfl⟩)))) hc rfl rfl (tkB_x hx)
 exact hck ((depsOf ops i).filter (klOk kl i)) (fun _=>rfl) klF
theorem count_at {b:Nat→Bool} (k:Nat) (hch:chained ops ws=true) (hk:k≤ws.length) (hb:behindB ops ws k i=true) (ha:aheadB ops ws k i=true) (hbi:b i=false) (hd:∀ j ∈ depsOf ops i,b j=true) (hv:Valid ops b):ws.countP b=k:=
 count_of hv hch hk (fun x h0 hx=>by
  cases k with
  | zero=>exact absurd rfl h0
  | succ k=>
   unfold behindB at hb
   rw [show k + 1 - 1=k by omega] at hx
   simp only [hx] at hb;exact hd x (memN_of hb)) (fun x hx=>by
  unfold aheadB at ha
  rw [hx] at ha
  cases hbx:b x with
  | false=>rfl
  | true=>rw [hv x hbx i (memN_of ha)] at hbi;cases hbi)
theorem zAt (k:Nat) (hs:seeF kl ops.toList i es base=some pre) (hj:nth nums (i + 1)=some j) (hes:snocK es (i,t,p) some=some es') (hi:memN i ws=false) (hch:chained ops ws=true) (hk:k≤ws.length) (hmm:ms[k]? = some mem)
 (hb:behindB ops ws k i=true) (ha:aheadB ops ws k i=true)
 (hc:COz kl K fr ops base ws ms j es' Q) (hstep:∀ (rest:List (Nat×PV)) (Q':Exit→GS→Prop),GF K [] (.ops ops []) Q' ⟨(t,p) :: (pre++rest),mem⟩→GF K [] (.ops ops [i]) Q' ⟨pre++rest,mem⟩):COz kl K fr ops base ws ms i es Q:=by
 have hpre:=seeF_of hs
 subst hpre
 have hj:=numj hj
 rw [snocK_eq] at hes
 injection hes with hes
 subst hj;subst hes
 have hin:i ∉ ws:=fun h=>by rw [memN_iff.2 h] at hi;cases hi
 have hck:CFk kl K ops (fun b=>ms.getD (ws.countP b) []) base (unf K Q fr) i es (fun rest=>pick es ((depsOf ops i).filter (klOk kl i))++base++rest):=
  ck_st (i + 1) (fun b rest hbi hd hv=>by
   have hct:ws.countP b=k:=count_at k hch hk hb ha hbi hd hv
   have hg:ms.getD (ws.countP b) []=mem:=by rw [hct,List.getD_eq_getElem?_getD,hmm];rfl
   rw [countP_upd hin,hg]
   exact ofO (fr:=[]) (hstep rest (fun e s'=>e=.normal∧s'=⟨(t,p) :: (pick es ((depsOf ops i).filter (klOk kl i))++base++rest),mem⟩) (toO (fr:=[]) (gN ⟨rfl,rfl⟩)))) hc rfl rfl
 exact hck ((depsOf ops i).filter (klOk kl i)) (fun _=>rfl) klF
theorem zPut (k:Nat) (hs:seeF kl ops.toList i es base=some pre) (hj:nth nums (i + 1)=some j) (hes:snocK es (i,t,p) some=some es') (hw:ws[k]? = some i) (hch:chained ops ws=true) (hnd:nodupB ws=true) (hm1:ms[k]? = some mem) (hm2:ms[k + 1]? = some mem')
 (hc:COz kl K fr ops base ws ms j es' Q) (hstep:∀ (rest:List (Nat×PV)) (Q':Exit→GS→Prop),GF K [] (.ops ops []) Q' ⟨(t,p) :: (pre++rest),mem'⟩→GF K [] (.ops ops [i]) Q' ⟨pre++rest,mem⟩):COz kl K fr ops base ws ms i es Q:=by
 have hpre:=seeF_of hs
 subst hpre
 have hj:=numj hj
 rw [snocK_eq] at hes
 injection hes with hes
 subst hj;subst hes
 have hck:CFk kl K ops (fun b=>ms.getD (ws.countP b) []) base (unf K Q fr) i es (fun rest=>pick es ((depsOf ops i).filter (klOk kl i))++base++rest):=
  ck_st (i + 1) (fun b rest hbi hd hv=>by
   obtain ⟨h1,h2⟩:=writerW k hch (nodupB_iff hnd) hw hv hbi hd
   rw [h2,h1,List.getD_eq_getElem?_getD,List.getD_eq_getElem?_getD,hm1,hm2]
   exact ofO (fr:=[]) (hstep rest (fun e s'=>e=.normal∧s'=⟨(t,p) :: (pick es ((depsOf ops i).filter (klOk kl i))++base++rest),mem'⟩) (toO (fr:=[]) (gN ⟨rfl,rfl⟩)))) hc rfl rfl
 exact hck ((depsOf ops i).filter (klOk kl i)) (fun _=>rfl) klF
theorem zActTake (k:Nat) (hs:seeF kl ops.toList i es base=some pre) (hj:nth nums (i + 1)=some j) (hw:ws[k]? = some i) (hch:chained ops ws=true) (hnd:nodupB ws=true) (hm1:ms[k]? = some mem) (hm2:ms[k + 1]? = some mem') (hx:tkB kl es u i=true)
 (hc:COz kl K fr ops base ws ms j es Q) (hstep:∀ (rest:List (Nat×PV)) (Q':Exit→GS→Prop),GF K [] (.ops ops []) Q' ⟨(u,q) :: (pre++rest),mem'⟩→GF K [] (.ops ops [i]) Q' ⟨pre++rest,mem⟩):COz kl K fr ops base ws ms i es Q:=by
 have hpre:=seeF_of hs
 subst hpre
 have hj:=numj hj
 subst hj
 have hck:CFk kl K ops (fun b=>ms.getD (ws.countP b) []) base (unf K Q fr) i es (fun rest=>pick es ((depsOf ops i).filter (klOk kl i))++base++rest):=
  ck_atk (i + 1) u (q:=q) (fun b rest hbi hd hv=>by
   obtain ⟨h1,h2⟩:=writerW k hch (nodupB_iff hnd) hw hv hbi hd
   rw [h2,h1,List.getD_eq_getElem?_getD,List.getD_eq_getElem?_getD,hm1,hm2]
   exact ofO (fr:=[]) (hstep rest (fun e s'=>e=.normal∧s'=⟨(u,q) :: (pick es ((depsOf ops i).filter (klOk kl i))++base++rest),mem'⟩) (toO (fr:=[]) (gN ⟨rfl,rfl⟩)))) hc rfl (tkB_x hx)
 exact hck ((depsOf ops i).filter (klOk kl i)) (fun _=>rfl) klF
theorem zAct (k:Nat) (hs:seeF kl ops.toList i es base=some pre) (hj:nth nums (i + 1)=some j) (hw:ws[k]? = some i) (hch:chained ops ws=true) (hnd:nodupB ws=true) (hm1:ms[k]? = some mem) (hm2:ms[k + 1]? = some mem')
 (hc:COz kl K fr ops base ws ms j es Q) (hstep:∀ (rest:List (Nat×PV)) (Q':Exit→GS→Prop),GF K [] (.ops ops []) Q' ⟨pre++rest,mem'⟩→GF K [] (.ops ops [i]) Q' ⟨pre++rest,mem⟩):COz kl K fr ops base ws ms i es Q:=by
 have hpre:=seeF_of hs
 subst hpre
 have hj:=numj hj
 subst hj
 have hck:CFk kl K ops (fun b=>ms.getD (ws.countP b) []) base (unf K Q fr) i es (fun rest=>pick es ((depsOf ops i).filter (klOk kl i))++base++rest):=
  ck_act (i + 1) (fun b rest hbi hd hv=>by
   obtain ⟨h1,h2⟩:=writerW k hch (nodupB_iff hnd) hw hv hbi hd
   rw [h2,h1,List.getD_eq_getElem?_getD,List.getD_eq_getElem?_getD,hm1,hm2]
   exact ofO (fr:=[]) (hstep rest (fun e s'=>e=.normal∧s'=⟨pick es ((depsOf ops i).filter (klOk kl i))++base++rest,mem'⟩) (toO (fr:=[]) (gN ⟨rfl,rfl⟩)))) hc rfl
 exact hck ((depsOf ops i).filter (klOk kl i)) (fun _=>rfl) klF
theorem zEnd {sl:List (Nat×PV)} (hi:sizeIs ops.toList i=true) (hp:(es.filter fun x=>(kl.lookup x.1).isNone).map (·.2)++base=sl) (hS:ws.all (fun w=>Nat.blt w ops.size)=true) (hm:ms[ws.length]? = some mem) (h:GF K fr (.leave .normal) Q ⟨sl,mem⟩)
 (hn:nodupB (es.map (·.2.1))=true) (hb:base.all (fun x=>!(es.map (·.2.1)).contains x.1)=true) (hf:es.all (fun x=>Nat.blt x.1 ops.size)=true):COz kl K fr ops base ws ms i es Q:=
 cg_end (mem:=mem) hi (by
  have h2:ws.countP (allB ops.size)=ws.length:=List.countP_eq_length.2 fun w hw=>List.all_eq_true.1 hS w hw
  rw [h2,List.getD_eq_getElem?_getD,hm];rfl) hp h hn hb hf
end
theorem gOpenZ (kl:List (Nat×Nat)) (ws:List Nat) (ms:List (List (List PV))) {K:Ctx} {fr:List Fr} {id:Nat} {ops:Array Oper} {sl base:List (Nat×PV)} {mem:List (List PV)} {ds:List Nat} {Q:Exit→GS→Prop} (hb:baseK ops.toList sl=some (ds,base)) (hm:K.P.follows .mixedOrders=true) (hm0:ms.head? = some mem)
 (hdep:((List.range ops.size).all fun i=>(depsOf ops i).all fun d=>Nat.blt d i)=true) (h:COz kl K fr ops base ws ms 0 [] Q):GF K fr (.code (.region id ops true)) Q ⟨sl,mem⟩:=by
 obtain ⟨ds',h1⟩:=dstsK_any hb
 have h2:=fltK_of ds' h1
 injection h2 with h2;injection h2 with h3 h4
 subst h3
 refine g_ck kl ds' (fun b=>ms.getD (ws.countP b) []) ?_ h h4 hm hdep
 have hz:ws.countP noB=0:=List.countP_eq_zero.2 fun _ _ h=>by cases h
 cases ms with
 | nil=>cases hm0
 | cons a r=>simp at hm0;subst hm0;rw [hz];rfl
end
end Go.Proofs.YtoonleefemkalaaDoor.E
