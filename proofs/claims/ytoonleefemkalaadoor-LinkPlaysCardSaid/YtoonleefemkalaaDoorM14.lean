import Derived.Test.YtoonleefemkalaaDoorM13
/- Contracts of functions. Conditions: none. -/
set_option linter.unusedSimpArgs false
set_option linter.unusedVariables false
namespace Go.Proofs.YtoonleefemkalaaDoor.E
open Go
section
def GCallJ (j:Nat) (P:Program) (f:FuncId) (args:List PV) (mem:List (List PV)) (R:PV→List (List PV)→Prop):Prop:=
 ∀ (w:World) (S:Reg) (O:Owns) (m:List Nat) (vals:Array Value),Env S O w S O m mem w→vals.size=args.length→
  (∀ (i:Nat) p v,args[i]? = some p→vals[i]? = some v→RP w S O m [i,0] p v)→
  Calls P f vals w (fun e w'=>∃ v r mem' S' O' m',e=.returned v∧R r mem'∧Env S O w S' O' m' mem' w'∧mem.length≤mem'.length∧m.take j <+: m'∧RP w' S' O' m' [2] r v)
variable {P:Program} {f:FuncId} {args:List PV} {mem:List (List PV)}
theorem GCall.j {R:PV→List (List PV)→Prop} (j:Nat) (h:GCall P f args mem R):GCallJ j P f args mem R:=fun w S O m vals h1 h2 h3=>
 (h w S O m vals h1 h2 h3).mono fun _ _ ⟨v,r,mem',S',O',m',e,g,he,hm,rest⟩=>⟨v,r,mem',S',O',m',e,g,he,by rw [← h1.mlen,← he.mlen];exact hm.length_le,(List.take_prefix _ _).trans hm,rest⟩
variable {j:Nat}
theorem GCallJ.mono {R R':PV→List (List PV)→Prop} (h:GCallJ j P f args mem R) (hr:∀ r m,R r m→R' r m):GCallJ j P f args mem R':=
 fun w S O m vals h1 h2 h3=>(h w S O m vals h1 h2 h3).mono fun _ _ ⟨v,r,mem',S',O',m',e,g,rest⟩=>⟨v,r,mem',S',O',m',e,hr _ _ g,rest⟩
def GCallX (S0:Reg) (w0:World) (j:Nat) (P:Program) (f:FuncId) (args:List PV) (mem:List (List PV)) (R:PV→List (List PV)→Prop):Prop:=
 ∀ (w:World) (S:Reg) (O:Owns) (m:List Nat) (vals:Array Value),Ext S0 w0 w→(∀ b o,S0 b o→S b o)→Env S O w S O m mem w→vals.size=args.length→
  (∀ (i:Nat) p v,args[i]? = some p→vals[i]? = some v→RP w S O m [i,0] p v)→
  Calls P f vals w (fun e w'=>∃ v r mem' S' O' m',e=.returned v∧R r mem'∧Env S O w S' O' m' mem' w'∧mem.length≤mem'.length∧m.take j <+: m'∧RP w' S' O' m' [2] r v)
theorem GCallJ.x {R:PV→List (List PV)→Prop} (h:GCallJ j P f args mem R) (S0:Reg) (w0:World):GCallX S0 w0 j P f args mem R:=fun w S O m vals _ _=>h w S O m vals
theorem GCallX.mono {S0:Reg} {w0:World} {R R':PV→List (List PV)→Prop} (h:GCallX S0 w0 j P f args mem R) (hr:∀ r m,R r m→R' r m):GCallX S0 w0 j P f args mem R':=
 fun w S O m vals h1 h2 h3 h4 h5=>(h w S O m vals h1 h2 h3 h4 h5).mono fun _ _ ⟨v,r,mem',S',O',m',e,g,rest⟩=>⟨v,r,mem',S',O',m',e,hr _ _ g,rest⟩
theorem gcall_bodyAt (jj:Nat) {P:Program} {f:FuncId} {fn:Func} {c:Code} {args:List PV} {mem:List (List PV)} {R:PV→List (List PV)→Prop} (n:Nat) (rvs:List ResultVar) (slots:List (Nat×PV)) (k:Nat)
 (hf:P.funcs[f]? = some fn) (hb:fn.body=some c) (hn:fn.ntmps=n) (hal:args.length≤n) (hres:fn.results=rvs.toArray) (hsl:(List.range args.length).zip args=slots) (hk:mem.length=k)
 {w:World} {S:Reg} {O:Owns} {m:List Nat} {vals:Array Value} (henv:Env S O w S O m mem w) (hvs:vals.size=args.length) (hargs:∀ (i:Nat) p v,args[i]? = some p→vals[i]? = some v→RP w S O m [i,0] p v)
 (h:(m.take jj).length=min jj k→G ⟨P,n,S,O,w,m.take jj,[],[]⟩ c (Fin P rvs k R) ⟨slots,mem⟩):Calls P f vals w (fun e w'=>∃ v r mem' S' O' m',e=.returned v∧R r mem'∧Env S O w S' O' m' mem' w'∧mem.length≤mem'.length∧m.take jj <+: m'∧RP w' S' O' m' [2] r v):=by
 subst hsl
 subst hk
 refine calls_of_wp hf hb ?_
 have hrep:At ⟨P,n,S,O,w,m.take jj,[],[]⟩ ⟨(List.range args.length).zip args,mem⟩ { tmps:=vals++Array.replicate (fn.ntmps - vals.size) undef,defers:=[] } w:=by
  refine ⟨S,O,m,henv,rfl,by simp [hn];omega,List.take_prefix _ _,fun i p hp=>?_⟩
  have hp':args[i]? = some p:=by rw [← lookup_zip];exact hp
  have hlt:i < args.length:=(lG hp')
  have hlt2:i < vals.size:=by omega
  rw [Array.getD_eq_getD_getElem?,Array.getElem?_append_left hlt2,Array.getElem?_eq_getElem hlt2]
  exact hargs i p _ hp' (Array.getElem?_eq_getElem hlt2)
 refine wp_mono (h (by rw [List.length_take,henv.mlen]) _ _ hrep) ?_
 rintro e a' w' ⟨s',⟨he,hfin⟩,S',O',m',hr'⟩
 have hex:∃ v r mem' O'',(results fn a'.tmps).run P w'=.ok v w'∧R r mem'∧Env S O w S' O'' (m'.take mem'.length) mem' w'∧mem.length≤mem'.length∧m.take jj <+: m'.take mem'.length∧RP w' S' O'' (m'.take mem'.length) [2] r v:=by
  rcases hfin with ⟨ps,mem',hL,hlen,hms,hrf,hR⟩ | ⟨t,k,xs,mem',hrv,hst,hlen,hms,hR⟩
  · obtain ⟨v,hrun,hrp⟩:=hL.run hr' hres O'
    exact ⟨v,_,mem',O',hrun,hR,hr'.env.less hms,hlen,List.prefix_take_iff.2 ⟨hr'.pre,by rw [List.length_take,henv.mlen];omega⟩,hrp.take mem'.length hrf⟩
  · have hsl:=hr'.slots t _ hst
    have hres':fn.results=#[.tmp t]:=by rw [hres,hrv]
    refine ⟨a'.tmps.getD t undef,_,mem',reo O' (renTR t),by simp [results,hres'],hR,(hr'.env.less hms).relab (renTR t) (fun _=>if_neg (by simp)) (fun i j q=>if_neg (end_ne q j i t)),
     hlen,List.prefix_take_iff.2 ⟨hr'.pre,by rw [List.length_take,henv.mlen];omega⟩,(hsl.move (l':=[2]) rfl (renTR t) (by simp [renTR])).take _ rfl⟩
 obtain ⟨v,r,mem',O'',hrun,hR,henv',hlen',hpre,hrp'⟩:=hex
 rcases he with rfl | rfl
 · exact ⟨hr'.defers,v,hrun,v,r,mem',S',O'',_,rfl,hR,henv',hlen',hpre,hrp'⟩
 · exact ⟨hr'.defers,v,hrun,v,r,mem',S',O'',_,rfl,hR,henv',hlen',hpre,hrp'⟩
theorem gcall_bodyJ (jj:Nat) {P:Program} {f:FuncId} {fn:Func} {c:Code} {args:List PV} {mem:List (List PV)} {R:PV→List (List PV)→Prop} (n:Nat) (rvs:List ResultVar) (slots:List (Nat×PV)) (k:Nat)
 (hf:P.funcs[f]? = some fn) (hb:fn.body=some c) (hn:fn.ntmps=n) (hal:args.length≤n) (hres:fn.results=rvs.toArray) (hsl:(List.range args.length).zip args=slots) (hk:mem.length=k)
 (h:∀ S0 O0 w0 m0,m0.length=min jj k→G ⟨P,n,S0,O0,w0,m0,[],[]⟩ c (Fin P rvs k R) ⟨slots,mem⟩):GCallJ jj P f args mem R:=by
 exact fun w S O m vals henv hvs hargs=>gcall_bodyAt jj n rvs slots k hf hb hn hal hres hsl hk henv hvs hargs (h S O w (m.take jj))
theorem gcall_bodyX (S0':Reg) (w0':World) (jj:Nat) {P:Program} {f:FuncId} {fn:Func} {c:Code} {args:List PV} {mem:List (List PV)} {R:PV→List (List PV)→Prop} (n:Nat) (rvs:List ResultVar) (slots:List (Nat×PV)) (k:Nat)
 (hf:P.funcs[f]? = some fn) (hb:fn.body=some c) (hn:fn.ntmps=n) (hal:args.length≤n) (hres:fn.results=rvs.toArray) (hsl:(List.range args.length).zip args=slots) (hk:mem.length=k)
 (h:∀ S0 O0 w0 m0,Ext S0' w0' w0→(∀ b o,S0' b o→S0 b o)→m0.length=min jj k→G ⟨P,n,S0,O0,w0,m0,[],[]⟩ c (Fin P rvs k R) ⟨slots,mem⟩):GCallX S0' w0' jj P f args mem R:=by
 exact fun w S O m vals he hs henv hvs hargs=>gcall_bodyAt jj n rvs slots k hf hb hn hal hres hsl hk henv hvs hargs (h S O w (m.take jj) he hs)
def nrefL (L:List Nat) (p:PV):Bool:=L.all fun b=>PV.nref b p
variable {L:List Nat} {p:PV}
theorem nrefL_of (h:nrefL L p=true) {b:Nat} (hb:b ∈ L):PV.nref b p=true:=List.all_eq_true.1 h b hb
variable {m m':List Nat}
theorem RP.renew {w:World} {S:Reg} {O:Owns} {l:List Nat} {v:Value} (L:List Nat) (h:RP w S O m l p v) (hm:∀ b r,b ∉ L→m[b]? = some r→m'[b]? = some r):nrefL L p=true→RP w S O m' l p v:=by
 have key:∀ {b':Nat},(∀ b ∈ L,(!(b' == b))=true)→b' ∉ L:=fun {b'} hb hin=>by have:=hb b' hin;simp at this
 induction h with
 | d l x v h=>exact fun _=>.d l x v h
 | nils l=>exact fun _=>.nils l
 | osl l k xs a cap hr hk hn ht=>exact fun _=>.osl l k xs a cap hr hk hn ht
 | ref l b off r h=>intro hb;exact .ref l b off r (hm b r (key fun c hc=>by have:=nrefL_of hb hc;simpa only [PV.nref] using this) h)
 | rsl l b off n' k a cap hc hl h0 h=>intro hb;exact .rsl l b off n' k a cap hc hl h0 (fun hn=>by obtain ⟨r,h1,h2⟩:=h hn;exact ⟨r,hm b r (key fun c hc=>by have:=nrefL_of hb hc;simpa only [PV.nref] using this) h1,h2⟩)
 | mref l b r h=>intro hb;exact .mref l b r (hm b r (key fun c hc=>by have:=nrefL_of hb hc;simpa only [PV.nref] using this) h)
 | ifr l t b off r h=>intro hb;exact .ifr l t b off r (hm b r (key fun c hc=>by have:=nrefL_of hb hc;simpa only [PV.nref] using this) h)
 | fn l f first caps vf vc h1 h2 _ _ g1 g2=>
  intro hb
  have hs:∀ b ∈ L,PV.nrefs b first=true∧PV.nrefs b caps=true:=fun b hb'=>by have:=nrefL_of hb hb';simpa only [PV.nref,Bool.and_eq_true] using this
  exact .fn l f first caps vf vc h1 h2 (fun i p v hi hv=>g1 i p v hi hv (List.all_eq_true.2 fun b hb'=>PV.nrefs_get (hs b hb').1 hi)) (fun i p v hi hv=>g2 i p v hi hv (List.all_eq_true.2 fun b hb'=>PV.nrefs_get (hs b hb').2 hi))
 | agg l cs vs hl ho _ ih=>intro hb;exact .agg l cs vs hl ho (fun i p v hi hv=>ih i p v hi hv (List.all_eq_true.2 fun b hb'=>PV.nrefs_get (by have:=nrefL_of hb hb';simpa only [PV.nref] using this) hi))
 | tup l cs vs hl _ ih=>intro hb;exact .tup l cs vs hl (fun i p v hi hv=>ih i p v hi hv (List.all_eq_true.2 fun b hb'=>PV.nrefs_get (by have:=nrefL_of hb hb';simpa only [PV.nref] using this) hi))
 | whenT l b p v hbt _ ih=>intro hb;exact .whenT l b p v hbt (ih (List.all_eq_true.2 fun c hc=>by have:=nrefL_of hb hc;simpa only [PV.nref] using this))
 | whenF l b p hbf=>exact fun _=>.whenF l b p hbf
 | undef l v=>exact fun _=>.undef l v
def sansL (L:List Nat) (l:List (Nat×PV)):List (Nat×PV):=l.map fun x=>(x.1,if nrefL L x.2=true then x.2 else .undef)
variable {i:Nat}
theorem sansL_lookup:∀ {l:List (Nat×PV)},(sansL L l).lookup i=some p→∃ q,l.lookup i=some q∧((nrefL L q=true∧p=q)∨p=.undef)
 | [],h=>by cases h
 | (j,q) :: l,h=>by
  rw [show sansL L ((j,q) :: l)=(j,if nrefL L q=true then q else .undef) :: sansL L l from rfl,List.lookup_cons] at h
  rw [List.lookup_cons]
  cases hij:i == j with
  | true=>
   rw [hij] at h
   injection h with h
   refine ⟨q,rfl,?_⟩
   split at h
   · rename_i h1;exact .inl ⟨h1,h.symm⟩
   · exact .inr h.symm
  | false=>
   rw [hij] at h
   exact sansL_lookup h
def nrefLM (L sel:List Nat):Nat→List (List PV)→Bool
 | _,[]=>true
 | i,c :: r=>(sel.contains i || L.all fun b=>PV.nrefs b c) && nrefLM L sel (i + 1) r
variable {sel:List Nat}
theorem nrefLM_get:∀ {mem:List (List PV)} {k:Nat},nrefLM L sel k mem=true→∀ {i:Nat} {cs:List PV},mem[i]? = some cs→k + i ∉ sel→∀ b ∈ L,PV.nrefs b cs=true
 | [],_,_,i,cs,h,_=>by simp at h
 | c :: r,k,h,i,cs,hi,hne=>by
  simp only [nrefLM,Bool.and_eq_true,Bool.or_eq_true] at h
  cases i with
  | zero=>
   simp at hi
   subst hi
   rcases h.1 with h1 | h1
   · exact absurd (by simpa using h1) hne
   · exact List.all_eq_true.1 h1
  | succ i=>exact nrefLM_get (k:=k + 1) h.2 (by simpa using hi) (by rw [show k + 1 + i=k + (i + 1) by omega];exact hne)
def newM (m sel m':List Nat):List Nat:=((List.range m.length).map fun i=>if i ∈ sel then m'.getD (sel.idxOf i) 0 else m.getD i 0)++m'.drop sel.length
theorem newM_old (h:i < m.length) (hi:i ∉ sel):(newM m sel m')[i]? = m[i]?:=by
 unfold newM
 rw [List.getElem?_append_left (by simpa using h),List.getElem?_map,List.getElem?_range h,Option.map_some,if_neg hi,List.getD_eq_getElem?_getD,gE h];rfl
theorem newM_sel {b:Nat} (hnd:sel.Nodup) (hsel:∀ b ∈ sel,b < m.length) (hb:b < sel.length) (hl:sel.length≤m'.length):(newM m sel m')[sel.getD b 0]? = m'[b]?:=by
 have hs:sel.getD b 0=sel[b]:=by rw [List.getD_eq_getElem?_getD,gE hb];rfl
 have hin:sel[b] ∈ sel:=List.getElem_mem hb
 have hlt:=hsel _ hin
 unfold newM
 rw [hs,List.getElem?_append_left (by simpa using hlt),List.getElem?_map,List.getElem?_range hlt,Option.map_some,if_pos hin,hnd.idxOf_getElem b hb,List.getD_eq_getElem?_getD,gE (by omega)];rfl
theorem newM_new:(newM m sel m')[m.length + i]? = m'[sel.length + i]?:=by
 unfold newM
 rw [List.getElem?_append_right (by simp),List.length_map,List.length_range,Nat.add_sub_cancel_left,List.getElem?_drop]
theorem newM_length:(newM m sel m').length=m.length + (m'.length - sel.length):=by simp [newM]
variable {K:Ctx} {s:GS}
theorem Rep.afterJ {S:Reg} {O:Owns} {a:Act} {w w':World} {S':Reg} {O':Owns} {mem':List (List PV)} (h:Rep K S O m s a w) {sel m':List Nat} (j:Nat) (hnd:sel.Nodup) (hsel:∀ b ∈ sel,b < s.mem.length)
 (hpm:(sel.map (fun b=>m.getD b 0)).take j <+: m') (hjK:∀ b ∈ sel.drop j,K.m0.length≤b) (hno:nrefLM (sel.drop j) sel 0 s.mem=true) (hml0:sel.length≤mem'.length) (he:Env S (fwd sel O) w S' O' m' mem' w')
 {t:Nat} (ht:t < K.n) {r:PV} {v:Value} (hr:RP w' S' O' m' [2] r v):
 At K (GS.set ⟨sansL (sel.drop j) s.slots,setAll s.mem sel ((mem'.take sel.length).map (PV.rens (renN sel s.mem.length)))++(mem'.drop sel.length).map (PV.rens (renN sel s.mem.length))⟩ t (r.ren (renN sel s.mem.length))) (a.put (some t) v) w':=by
 have hml:mem'.length=m'.length:=he.mlen.symm
 have hsm:=h.env.mlen
 have hselm:∀ b ∈ sel,b < m.length:=fun b hb=>by rw [hsm];exact hsel b hb
 have hstab:∀ x,x ∈ sel→x ∉ sel.drop j→(newM m sel m')[x]? = m[x]?:=fun x hx hxd=>by
  have hlt:=List.idxOf_lt_length_of_mem hx
  have hxs:sel[sel.idxOf x]=x:=List.getElem_idxOf hlt
  have hij:sel.idxOf x < j:=by
   refine Nat.lt_of_not_le fun hle=>hxd ?_
   rw [List.mem_iff_getElem?]
   refine ⟨sel.idxOf x - j,?_⟩
   rw [List.getElem?_drop,show j + (sel.idxOf x - j)=sel.idxOf x by omega,gE hlt,hxs]
  have h1:=newM_sel (m:=m) (m':=m') hnd hselm hlt (by omega)
  have hsx:sel.getD (sel.idxOf x) 0=x:=by rw [List.getD_eq_getElem?_getD,gE hlt];exact hxs
  rw [hsx] at h1
  rw [h1]
  obtain ⟨tl,htl⟩:=hpm
  rw [← htl,List.getElem?_append_left (by rw [List.length_take,List.length_map];omega),List.getElem?_take_of_lt hij,List.getElem?_map,gE hlt,Option.map_some,hxs,List.getD_eq_getElem?_getD,gE (hselm x hx)];rfl
 have hm1:∀ (b r:Nat),b ∉ sel.drop j→m[b]? = some r→(newM m sel m')[b]? = some r:=fun b r hbd hb=>by
  by_cases hs:b ∈ sel
  · rw [hstab b hs hbd];exact hb
  · rw [newM_old (lG hb) hs];exact hb
 have hfs:∀ b,b < sel.length→renN sel s.mem.length b=sel.getD b 0:=fun b hb=>if_pos hb
 have hfe:∀ b,¬ b < sel.length→renN sel s.mem.length b=b - sel.length + s.mem.length:=fun b hb=>if_neg hb
 have hfm:∀ (b r:Nat),m'[b]? = some r→(newM m sel m')[renN sel s.mem.length b]? = some r:=fun b r hb=>by
  by_cases hlt:b < sel.length
  · rw [hfs b hlt,newM_sel hnd hselm hlt (by omega)];exact hb
  · rw [hfe b hlt,show b - sel.length + s.mem.length=m.length + (b - sel.length) by omega,newM_new,show sel.length + (b - sel.length)=b by omega];exact hb
 have hE:=he.ext
 let pass:Nat→Prop:=fun b=>(fwd sel O b).isSome=true∨w.heap.size≤b
 have hdec:∀ b,pass b∨¬ pass b:=fun b=>Classical.em _
 let O'':Owns:=fun b=>if (fwd sel O b).isSome=true∨w.heap.size≤b then reo O' (bwd (renN sel s.mem.length) t) b else O b
 have hOp:∀ b,pass b→O'' b=reo O' (bwd (renN sel s.mem.length) t) b:=fun b hb=>if_pos hb
 have hOn:∀ b,¬ pass b→O'' b=O b:=fun b hb=>if_neg hb
 have hO'p:∀ (b:Nat) l t',O' b=some (l,t')→pass b:=fun b l t' hb=>by
  rcases he.onew b l t' hb with h1 | ⟨l0,t0,h1,_⟩
  · exact .inr h1
  · exact .inl (by rw [h1];rfl)
 have hold:∀ b,¬ pass b→w'.heap[b]? = w.heap[b]?:=fun b hb=>by
  refine he.old b (Nat.lt_of_not_le fun h=>hb (.inr h)) ?_
  cases hf:fwd sel O b with
  | none=>rfl
  | some x=>exact absurd (.inl (by rw [hf];rfl)) hb
 have hkeep:∀ (b:Nat) l t' ,O b=some (l,t')→(∀ q x,x ∈ sel→l ≠ q++[x,1])→O'' b=some (l,t'):=fun b l t' hb hl=>by
  rw [hOn b]
  · exact hb
  · rintro (h1 | h1)
    · rw [fwd_none hb hl] at h1;cases h1
    · exact absurd (h.env.olt b l t' hb) (Nat.not_lt_of_le h1)
 have hback:∀ (l:List Nat) (q:PV) (u:Value) (l':List Nat),(∀ q',bwd (renN sel s.mem.length) t (q'++l)=q'++l')→RP w' S' O' m' l q u→RP w' S' O'' (newM m sel m') l' (q.ren (renN sel s.mem.length)) u:=fun l q u l' hb hq=>
  (hq.ren (renN sel s.mem.length) hfm).frame l' (Ext.refl _ _) (fun _ _ h=>h) (fun b t' q' hO=>by rw [hOp b (hO'p b _ t' hO),reo_of hO,hb]) (fun _ _ h=>h)
 have hstay:∀ (l:List Nat) (q:PV) (u:Value),(∀ q' q'' x,x ∈ sel→q'++l ≠ q''++[x,1])→nrefL (sel.drop j) q=true→RP w S O m l q u→RP w' S' O'' (newM m sel m') l q u:=fun l q u hl hnq hq=>
  (hq.ext hE he.s0 (fun b t' q' hO=>hkeep b _ t' hO (fun q'' x hx=>hl q' q'' x hx)) (fun _ _ h=>h)).renew (sel.drop j) hm1 hnq
 have henv:Env K.S0 K.O0 K.w0 S' O'' (newM m sel m') (setAll s.mem sel ((mem'.take sel.length).map (PV.rens (renN sel s.mem.length)))++(mem'.drop sel.length).map (PV.rens (renN sel s.mem.length))) w':=by
  refine ⟨h.env.ext.trans hE h.env.s0,fun b hb hO=>?_,fun b l t' o hb hO hot=>?_,fun b o hb=>he.s0 b o (h.env.s0 b o hb),fun b o hb=>?_,fun b o l t' hS hO=>?_,he.slt,fun b l t' hO=>?_,fun b l t' hO=>?_,by rw [newM_length,List.length_append,setAll_length,List.length_map,List.length_drop,hml,hsm],fun i cs r' hi hr' hne'=>?_⟩
  · rw [hold b,h.env.old b hb hO]
    rintro (h1 | h1)
    · cases hf:fwd sel O b with
      | none=>rw [hf] at h1;cases h1
      | some x=>
       obtain ⟨l',t'⟩:=x
       obtain ⟨q,x,h2,_,_⟩:=fwd_some hf
       rcases h.env.onew b _ _ h2 with h3 | ⟨l0,t0,h3,_⟩
       · omega
       · rw [hO] at h3;cases h3
    · have:=h.env.ext.size;omega
  · have hcell:w'.cell? ⟨b,o,none⟩=w.cell? ⟨b,o,none⟩:=by
     cases hf:fwd sel O b with
     | none=>simp only [World.cell?,hold b (by
      rintro (h1 | h1)
      · rw [hf] at h1;cases h1
      · have:=h.env.ext.size;omega)]
     | some x=>
      obtain ⟨l',t''⟩:=x
      obtain ⟨q,x,h2,_,_⟩:=fwd_some hf
      refine he.part b l' t'' o (Nat.lt_of_lt_of_le hb h.env.ext.size) hf ?_
      rcases h.env.onew b _ _ h2 with h3 | ⟨l0,t0,h3,h4⟩
      · omega
      · rw [hO] at h3;injection h3 with h3;injection h3 with _ h3;omega
    rw [hcell];exact h.env.part b l t' o hb hO hot
  · rcases he.snew b o hb with h1 | h1 | ⟨l,t',h1,h2⟩
    · exact h.env.snew b o h1
    · exact .inr (.inl (Nat.le_trans h.env.ext.size h1))
    · obtain ⟨q,x,h3,_,_⟩:=fwd_some h1
      rcases h.env.onew b _ _ h3 with h4 | ⟨l0,t0,h4,h5⟩
      · exact .inr (.inl h4)
      · exact .inr (.inr ⟨l0,t0,h4,by omega⟩)
  · rcases hdec b with hp | hp
    · rw [hOp b hp] at hO;obtain ⟨l0,h1,_⟩:=reo_some hO;exact he.sown b o l0 t' hS h1
    · rw [hOn b hp] at hO
      rcases he.snew b o hS with h1 | h1 | ⟨l1,t1,h1,_⟩
      · exact h.env.sown b o l t' h1 hO
      · exact absurd (.inr h1) hp
      · exact absurd (.inl (by rw [h1];rfl)) hp
  · rcases hdec b with hp | hp
    · rw [hOp b hp] at hO;obtain ⟨l0,h1,_⟩:=reo_some hO;exact he.olt b l0 t' h1
    · rw [hOn b hp] at hO;exact Nat.lt_of_lt_of_le (h.env.olt b l t' hO) hE.size
  · rcases hdec b with hp | hp
    · rw [hOp b hp] at hO
      obtain ⟨l0,h1,_⟩:=reo_some hO
      rcases he.onew b l0 t' h1 with h2 | ⟨l1,t1,h2,h3⟩
      · exact .inl (Nat.le_trans h.env.ext.size h2)
      · obtain ⟨q,x,h4,_,_⟩:=fwd_some h2
        rcases h.env.onew b _ _ h4 with h5 | ⟨l2,t2,h5,h6⟩
        · exact .inl h5
        · exact .inr ⟨l2,t2,h5,by omega⟩
    · rw [hOn b hp] at hO;exact h.env.onew b l t' hO
  · by_cases hin:i < s.mem.length
    case neg=>
     have hge:s.mem.length≤i:=Nat.le_of_not_lt hin
     rw [List.getElem?_append_right (by rw [setAll_length];exact hge),setAll_length,List.getElem?_map,List.getElem?_drop] at hi
     rw [show i=m.length + (i - s.mem.length) by omega,newM_new] at hr'
     cases hc:mem'[sel.length + (i - s.mem.length)]? with
     | none=>simp [hc] at hi
     | some cs0=>
      simp only [hc,Option.map_some,Option.some.injEq] at hi;subst hi
      have hmi:m'[sel.length + (i - s.mem.length)]? = some r':=hr'
      obtain ⟨g1,g2⟩:=he.mem _ cs0 r' hc hmi (by rintro rfl;exact hne' rfl)
      have hfi:renN sel s.mem.length (sel.length + (i - s.mem.length))=i:=by rw [hfe _ (by omega)];omega
      refine ⟨?_,g2.to rfl (Ext.refl _ _) (fun _ _ h=>h) (by simp [PV.rens_map]) (fun jj p hp=>?_) PV.rens_fwd⟩
      · rw [hOp r' (hO'p r' _ _ g1),reo_of g1]
        have:=bwd_blk (renN sel s.mem.length) t (sel.length + (i - s.mem.length)) []
        simp only [List.nil_append,hfi] at this;rw [this]
      · rw [PV.rens_get] at hp
        cases hq:cs0[jj]? with
        | none=>simp [hq] at hp
        | some q=>
         simp only [hq,Option.map_some,Option.some.injEq] at hp;subst hp
         refine ⟨q,rfl,fun u hu=>hback [jj,sel.length + (i - s.mem.length),1] q u [jj,i,1] (fun q'=>?_) hu⟩
         have:=bwd_blk (renN sel s.mem.length) t (sel.length + (i - s.mem.length)) (q'++[jj])
         simp only [hfi,List.append_assoc,List.cons_append,List.nil_append] at this
         exact this
    case pos=>
    rw [List.getElem?_append_left (by rw [setAll_length];exact hin),setAll_get sel _ s.mem hnd (by simp;omega) hsel] at hi
    by_cases his:i ∈ sel
    · rw [if_pos his,List.getElem?_map,List.getElem?_take_of_lt (List.idxOf_lt_length_of_mem his)] at hi
      have hidx:sel[sel.idxOf i]? = some i:=by
       rw [gE (List.idxOf_lt_length_of_mem his)];simp
      cases hc:mem'[sel.idxOf i]? with
      | none=>simp [hc] at hi
      | some cs0=>
       simp only [hc,Option.map_some,Option.some.injEq] at hi;subst hi
       have hlt:=List.idxOf_lt_length_of_mem his
       have hmi:m'[sel.idxOf i]? = some r':=by
        have h1:=newM_sel (m:=m) (m':=m') hnd hselm hlt (by omega)
        rw [List.getD_eq_getElem?_getD,hidx] at h1
        exact h1.symm.trans hr'
       obtain ⟨g1,g2⟩:=he.mem _ cs0 r' hc hmi (by rintro rfl;exact hne' rfl)
       have hfi:renN sel s.mem.length (sel.idxOf i)=i:=by rw [hfs _ hlt,List.getD_eq_getElem?_getD,hidx];rfl
       refine ⟨?_,g2.to rfl (Ext.refl _ _) (fun _ _ h=>h) (by simp [PV.rens_map]) (fun jj p hp=>?_) PV.rens_fwd⟩
       · rw [hOp r' (hO'p r' _ _ g1),reo_of g1]
         have:=bwd_blk (renN sel s.mem.length) t (sel.idxOf i) []
         simp only [List.nil_append,hfi] at this;rw [this]
       · rw [PV.rens_get] at hp
         cases hq:cs0[jj]? with
         | none=>simp [hq] at hp
         | some q=>
          simp only [hq,Option.map_some,Option.some.injEq] at hp;subst hp
          refine ⟨q,rfl,fun u hu=>hback [jj,sel.idxOf i,1] q u [jj,i,1] (fun q'=>?_) hu⟩
          have:=bwd_blk (renN sel s.mem.length) t (sel.idxOf i) (q'++[jj])
          simp only [hfi,List.append_assoc,List.cons_append,List.nil_append] at this
          exact this
    · rw [if_neg his] at hi
      rw [newM_old (by omega) his] at hr'
      obtain ⟨g1,g2⟩:=h.env.mem i cs r' hi hr' hne'
      have hne:∀ q x,x ∈ sel→[i,1] ≠ q++[x,1]:=fun q x hx heq=>by
       have:=congrArg (fun l=>l.reverse[1]?) heq;simp at this;exact his (this▸hx)
      have hnp:¬ pass r':=by
       rintro (h1 | h1)
       · rw [fwd_none g1 hne] at h1;cases h1
       · exact absurd (h.env.olt _ _ _ g1) (Nat.not_lt_of_le h1)
      refine ⟨hkeep _ _ _ g1 hne,g2.to (hold _ hnp) hE he.s0 rfl (fun jj p hp=>⟨p,hp,fun u hu=>hstay _ p u (fun q' q'' x hx heq=>?_) (List.all_eq_true.2 fun b hb=>PV.nrefs_get (nrefLM_get hno hi (by simpa using his) b hb) hp) hu⟩) (fun p p' h0 h1 _=>.inl (by rw [h0] at h1;injection h1 with h1;exact h1.symm))⟩
      have:=congrArg (fun l=>l.reverse[1]?) heq;simp at this;exact his (this▸hx)
 refine ⟨S',O'',newM m sel m',henv,h.defers,by simp [Act.put,h.size],?_,fun i p hp=>?_⟩
 · have hp:=h.pre
   rw [List.prefix_iff_eq_take]
   refine List.ext_getElem? fun i=>?_
   by_cases hi:i < K.m0.length
   · rw [List.getElem?_take_of_lt hi]
     have h1:K.m0[i]? = m[i]?:=by obtain ⟨tl,htl⟩:=hp;rw [← htl,List.getElem?_append_left hi]
     have him:i < m.length:=Nat.lt_of_lt_of_le hi hp.length_le
     rw [h1,gE him]
     exact (hm1 i _ (fun hd=>by have:=hjK i hd;omega) (gE him)).symm
   · rw [List.getElem?_eq_none (by omega),List.getElem?_take_eq_none (by omega)]
 rw [getD_put _ _ _ _ (by rw [h.size];exact ht)]
 rw [GS.get_set] at hp
 by_cases hi:i=t
 · rw [if_pos hi] at hp ⊢;injection hp with hp;subst hp;subst hi
   exact hback [2] r v [i,0] (bwd_res _ i) hr
 · rw [if_neg hi] at hp ⊢
   obtain ⟨q,hq,⟨hnq,rfl⟩ | rfl⟩:=sansL_lookup (show (sansL (sel.drop j) s.slots).lookup i=some p from hp)
   · refine hstay _ _ _ (fun q' q'' x hx heq=>?_) hnq (h.slots i p hq)
     have:=congrArg List.getLast? heq;simp at this
   · exact .undef _ _
theorem GOps_callX {ops:Array Oper} {Q:Exit→GS→Prop} {rest:List Nat} {o:Oper} {t:Nat} {fx:Operand} {xs:List Operand} {tys:Array TypeId} {fn:Func} {fa fc:List PV}
 {R:PV→List (List PV)→Prop} (jn:Nat) (sel:List Nat) (args0:List PV) (mem0:List (List PV))
 (ho:ops[i]? = some o) (hop:o.op=.call ⟨.value fx,xs.toArray,tys⟩) (hd:o.dst=some t) (hg:o.guard=none)
 (hfx:(s.ev fx).callee'=some (f,fa,fc)) (hargs:PV.copies (fa++xs.map s.ev++fc)=PV.rens (fun b=>sel.getD b 0) args0)
 (hnd:sel.Nodup) (hsel:∀ b ∈ sel,b < s.mem.length) (hmem:sel.map (fun b=>s.mem.getD b [])=mem0.map (PV.rens (fun b=>sel.getD b 0)))
 (hra:PV.refsBs sel.length args0=true) (hrm:mem0.all (PV.refsBs sel.length)=true)
 (hf:K.P.funcs[f]? = some fn) (hb:fn.body.isSome=true) (hn:(fn.name == "runtime.NumGoroutine")=false) (ht:t < K.n)
 (hc:GCallX K.S0 K.w0 jn K.P f args0 mem0 R) (hjK:∀ b ∈ sel.drop jn,K.m0.length≤b) (hno:nrefLM (sel.drop jn) sel 0 s.mem=true)
 (h:∀ r mem',R r mem'→sel.length≤mem'.length→GOps K ops Q rest (GS.set ⟨sansL (sel.drop jn) s.slots,setAll s.mem sel ((mem'.take sel.length).map (PV.rens (renN sel s.mem.length)))++(mem'.drop sel.length).map (PV.rens (renN sel s.mem.length))⟩ t (r.ren (renN sel s.mem.length)))):
 GOps K ops Q (i :: rest) s:=by
 rintro a w ⟨S,O,m,hr⟩
 obtain ⟨l,hrf⟩:=hr.ev fx
 obtain ⟨vf,vc,hvf,hs1,hs2,g1,g2⟩:=hrf.callee' hfx
 have hrun:(execOp a.eval o).run K.P w=.ok (.enter f (vf++(xs.map a.eval).toArray++vc)) w:=by
  simp only [execOp,hop]
  simp [resolve,Deferred.ofValue,hvf,invoke,run_callFunc hf hb hn]
 simp only [wpOps,ho,Region.wanted,hg,if_true]
 refine .inl ?_
 simp only [Oper.wp,hrun,Oper.upon_enter]
 have hmget:∀ (b x:Nat),sel[b]? = some x→(sel.map (fun b=>m.getD b 0))[b]? = m[x]?:=fun b x hb=>by
  have hx:x < m.length:=by rw [hr.env.mlen];exact hsel x (mG hb)
  rw [List.getElem?_map,hb,Option.map_some,List.getD_eq_getElem?_getD,gE hx];rfl
 have hum:∀ (b r:Nat),b < sel.length→m[sel.getD b 0]? = some r→(sel.map (fun b=>m.getD b 0))[b]? = some r:=fun b r hb hm=>by
  have hs:sel[b]? = some sel[b]:=gE hb
  rw [hmget b _ hs]
  rw [List.getD_eq_getElem?_getD,hs] at hm;exact hm
 have hml0:mem0.length=sel.length:=by have:=congrArg List.length hmem;simpa using this.symm
 have hentry:Env S (fwd sel O) w S (fwd sel O) (sel.map (fun b=>m.getD b 0)) mem0 w:=by
  have he:=hr.env
  refine ⟨Ext.refl S w,fun _ _ _=>rfl,fun _ _ _ _ _ _ _=>rfl,fun _ _ h=>h,fun _ _ h=>.inl h,fun b o l t' hS hO=>?_,he.slt,fun b l t' hO=>?_,fun b l t' hO=>.inr ⟨l,t',hO,Nat.le_refl _⟩,by simp [hml0],fun j cs r' hj hr' hne'=>?_⟩
  · obtain ⟨q,x,h1,_,_⟩:=fwd_some hO;exact he.sown b o _ t' hS h1
  · obtain ⟨q,x,h1,_,_⟩:=fwd_some hO;exact he.olt b _ t' h1
  · have hjl:j < sel.length:=by rw [← hml0];exact (lG hj)
    have hsj:sel[j]? = some sel[j]:=gE hjl
    have hmx:m[sel[j]]? = some r':=by rw [← hmget j _ hsj];exact hr'
    have hcx:s.mem[sel[j]]? = some (PV.rens (fun b=>sel.getD b 0) cs):=by
     have h1:=congrArg (fun l=>l[j]?) hmem
     simp only [List.getElem?_map,hsj,hj,Option.map_some,Option.some.injEq] at h1
     have hlt:=hsel _ (mG hsj)
     rw [gE hlt,← h1,List.getD_eq_getElem?_getD,gE hlt];rfl
    obtain ⟨k1,k2⟩:=he.mem _ _ r' hcx hmx (by rw [PV.rens_map];simpa using hne')
    have hidx:sel.idxOf sel[j]=j:=hnd.idxOf_getElem j hjl
    refine ⟨?_,k2.to rfl (Ext.refl _ _) (fun _ _ h=>h) (by simp [PV.rens_map]) (fun jj p hp=>?_) PV.rens_bwd⟩
    · have:=fwd_of (sel:=sel) (O:=O) (r:=r') (x:=sel[j]) (t:=0) (q:=[]) (by simpa using k1) (mG hsj)
      simpa [hidx] using this
    · refine ⟨PV.ren (fun b=>sel.getD b 0) p,by rw [PV.rens_get,hp];rfl,fun u h2=>?_⟩
      have hb2:PV.refsB sel.length p=true:=PV.refsBs_get (List.all_eq_true.1 hrm cs (mG hj)) hp
      have h3:=h2.unren (m0:=sel.map (fun b=>m.getD b 0)) (fun b=>sel.getD b 0) sel.length hum p hb2 rfl
      refine h3.frame _ (Ext.refl _ _) (fun _ _ h=>h) (fun b t' q hO=>?_) (fun _ _ h=>h)
      have:=fwd_of (sel:=sel) (O:=O) (r:=b) (x:=sel[j]) (t:=t') (q:=q++[jj]) (by simpa using hO) (mG hsj)
      simpa [hidx] using this
 have hlen:(fa++xs.map s.ev++fc).length=args0.length:=by have:=congrArg List.length hargs;simpa [PV.copies_map,PV.rens_map] using this
 have hcall:=hc w S (fwd sel O) (sel.map (fun b=>m.getD b 0)) (vf++(xs.map a.eval).toArray++vc) hr.env.ext hr.env.s0 hentry (by simp at hlen;simp [hs1,hs2];omega) (fun j p v hp hv=>by
  have hb2:PV.refsB sel.length p=true:=PV.refsBs_get hra hp
  have h1:(PV.copies (fa++xs.map s.ev++fc))[j]? = some (PV.ren (fun b=>sel.getD b 0) p):=by rw [hargs,PV.rens_get,hp];rfl
  obtain ⟨q,hq,hqe⟩:=PV.copies_getElem? _ _ _ h1
  have hex:∃ l',RP w S O m l' q v:=by
   by_cases h1:j < fa.length
   · rw [List.append_assoc,List.getElem?_append_left h1] at hq
     rw [Array.append_assoc,Array.getElem?_append_left (by omega)] at hv
     exact g1 j q v hq hv
   · by_cases h2:j < fa.length + xs.length
     · rw [List.getElem?_append_left (by simp;omega),List.getElem?_append_right (by omega),List.getElem?_map] at hq
       rw [Array.getElem?_append_left (by simp;omega),Array.getElem?_append_right (by omega),hs1] at hv
       cases hx:xs[j - fa.length]? with
       | none=>simp [hx] at hq
       | some x=>simp [hx] at hq hv;subst hq;subst hv;exact hr.ev x
     · rw [List.getElem?_append_right (by simp;omega)] at hq
       rw [Array.getElem?_append_right (by simp;omega)] at hv
       refine g2 _ q v hq ?_
       rw [← hv];congr 1;simp;omega
  obtain ⟨l',hl'⟩:=hex
  have h4:RP w S (fwd sel O) m [j,0] q.copy v:=hl'.copy _ _
  rw [← hqe] at h4
  exact h4.unren (fun b=>sel.getD b 0) sel.length hum p hb2 rfl)
 refine Calls.mono hcall ?_
 rintro e w' ⟨v,r,mem',S',O',m',rfl,hR,henv,hlen2,hm,hres⟩
 simp only
 rw [hd]
 exact h r mem' hR (by omega) _ _ (hr.afterJ jn hnd hsel hm hjK hno (by omega) henv ht hres)
theorem GOps_callJ {ops:Array Oper} {Q:Exit→GS→Prop} {rest:List Nat} {o:Oper} {t:Nat} {fx:Operand} {xs:List Operand} {tys:Array TypeId} {fn:Func} {fa fc:List PV}
 {R:PV→List (List PV)→Prop} (jn:Nat) (sel:List Nat) (args0:List PV) (mem0:List (List PV))
 (ho:ops[i]? = some o) (hop:o.op=.call ⟨.value fx,xs.toArray,tys⟩) (hd:o.dst=some t) (hg:o.guard=none)
 (hfx:(s.ev fx).callee'=some (f,fa,fc)) (hargs:PV.copies (fa++xs.map s.ev++fc)=PV.rens (fun b=>sel.getD b 0) args0)
 (hnd:sel.Nodup) (hsel:∀ b ∈ sel,b < s.mem.length) (hmem:sel.map (fun b=>s.mem.getD b [])=mem0.map (PV.rens (fun b=>sel.getD b 0)))
 (hra:PV.refsBs sel.length args0=true) (hrm:mem0.all (PV.refsBs sel.length)=true)
 (hf:K.P.funcs[f]? = some fn) (hb:fn.body.isSome=true) (hn:(fn.name == "runtime.NumGoroutine")=false) (ht:t < K.n)
 (hc:GCallJ jn K.P f args0 mem0 R) (hjK:∀ b ∈ sel.drop jn,K.m0.length≤b) (hno:nrefLM (sel.drop jn) sel 0 s.mem=true)
 (h:∀ r mem',R r mem'→sel.length≤mem'.length→GOps K ops Q rest (GS.set ⟨sansL (sel.drop jn) s.slots,setAll s.mem sel ((mem'.take sel.length).map (PV.rens (renN sel s.mem.length)))++(mem'.drop sel.length).map (PV.rens (renN sel s.mem.length))⟩ t (r.ren (renN sel s.mem.length)))):
 GOps K ops Q (i :: rest) s:=
 GOps_callX jn sel args0 mem0 ho hop hd hg hfx hargs hnd hsel hmem hra hrm hf hb hn ht (hc.x _ _) hjK hno h
end
section
variable {k:Nat}
theorem rofs_rlo {pre xs post:List D} (h:pre++xs++post ≠ []):rofs xs.length (rlo k pre xs post)=pre.length * k:=by
 cases xs with
 | nil=>
  have hp:¬ pre++post=[]:=by simpa using h
  simp only [rlo,List.isEmpty_iff,if_neg hp];rfl
 | cons x r0=>exact rofs_pos (by simp)
theorem rlo_eq_zero {pre post:List D} (h:rlo k pre [] post=0):pre++post=[]:=by
 by_cases hp:pre++post=[]
 · exact hp
 · simp only [rlo,List.isEmpty_iff,if_neg hp] at h;omega
variable {K:Ctx} {s:GS} {t b:Nat} {x:Operand} {ty rt:TypeId} {pos:String} {af:Array Edge}
theorem Q_rowSlice {n off:Nat} {lo:Operand} {e:TypeId} {g:Option (Nat×Bool)} {pre xs post:List D} {kk:IntKind} {i:Int}
 (hx:s.ev x=.rsl b off n k) (hn:n=xs.length) (hoff:off=rlo k pre xs post) (hl:s.ev lo=.d (.int kk i)) (hu:K.P.underlying ty=some (.slice e)) (hz:(K.P.info? e).map (·.size)=some k) (h0:0≤i) (h1:i≤(xs.length:Nat)):
 Qy K ⟨some t,.slice ty x (some lo) none none,rt,pos,af,g⟩ s t (.rsl b (rlo k (pre++xs.take i.toNat) (xs.drop i.toNat) post) (n - i.toNat) k):=by
 subst hn;subst hoff
 refine fun S O m ac w h=>?_
 obtain ⟨l,hr⟩:=h.ev x
 rw [hx] at hr
 have hli:=rd_int (h.evd hl)
 generalize hv:ac.eval x=v at hr
 have hlen:(xs.drop i.toNat).length=xs.length - i.toNat:=List.length_drop
 cases hr with
 | rsl _ _ _ _ _ a cap hc hlm hz0 hb=>
  refine ⟨sliced a i.toNat xs.length cap k,fun w _=>?_,?_⟩
  · simp only [execOp,Option.map_some,Option.map_none,hv,hli]
    simp only [Sem.run_bind,run_sliceAt_slice w ty _ _ _ _ (elem_of hu),run_slice_l w ty a xs.length cap (elem_of hu) kk i h0 h1,sizeOf_of hu hz w,Result.andThen_ok]
    rfl
  · unfold sliced
    refine .rsl _ _ _ _ _ _ _ (by omega) (by omega) (fun h2 h3=>?_) (fun h2=>?_)
    · have hd:xs.drop i.toNat=[]:=List.eq_nil_of_length_eq_zero (by omega)
      rw [hd] at h3
      have h4:=rlo_eq_zero h3
      simp only [List.append_eq_nil_iff] at h4
      have hxn:xs=[]:=by rw [← List.take_append_drop i.toNat xs,h4.1.2,hd];rfl
      have:=hz0 (by rw [hxn];rfl) (by rw [hxn,h4.1.1,h4.2];rfl)
      omega
    · obtain ⟨r,g1,g2,g3⟩:=hb (by omega)
      have hne:pre++xs++post ≠ []:=fun hnil=>by
       simp only [List.append_eq_nil_iff] at hnil
       have:=hz0 (by rw [hnil.1.2];rfl) (by rw [hnil.1.2,hnil.1.1,hnil.2];rfl)
       omega
      rw [rofs_rlo hne] at g2 g3
      have hne2:(pre++xs.take i.toNat)++xs.drop i.toNat++post ≠ []:=by rw [List.append_assoc pre,List.take_append_drop];exact hne
      rw [← hlen,rofs_rlo hne2,if_neg (by omega),g2]
      have htl:(pre++xs.take i.toNat).length * k=pre.length * k + i.toNat * k:=by rw [List.length_append,List.length_take,Nat.add_mul,Nat.min_eq_left (by omega)]
      refine ⟨r,g1,by rw [htl,Option.map_some,add_at],?_⟩
      have:pre.length * k + i.toNat * k + (cap - i.toNat) * k=pre.length * k + cap * k:=by rw [Nat.add_assoc,← Nat.add_mul,show i.toNat + (cap - i.toNat)=cap by omega]
      rw [htl,this];exact g3
variable {i:Nat}
theorem row_at {pre xs post:List D} {d:D} (h:xs[i]? = some d):(pre++xs++post)[pre.length + i]? = some d:=by
 have hl:=(lG h)
 rw [List.append_assoc,List.getElem?_append_right (by omega),Nat.add_sub_cancel_left,List.getElem?_append_left hl];exact h
theorem flat_cell {zs:List D} (hk:∀ x ∈ zs,x.cells.length=k) {i f:Nat} {d y:D} (hi:zs[i]? = some d) (hf:d.cells[f]? = some y):(flat zs)[i * k + f]? = some (.d y):=by
 have hd:d.cells.length=k:=hk d (mG hi)
 have hfk:f < k:=by rw [← hd];exact (lG hf)
 have hp:=flat_part zs hk i d hi
 have:(((flat zs).drop (i * k)).take k)[f]? = some (.d y):=by rw [hp,List.getElem?_map,hf];rfl
 rw [List.getElem?_take_of_lt hfk,List.getElem?_drop] at this
 exact this
theorem flat_plain' {zs:List D} {j:Nat} {p:PV} (h:(flat zs)[j]? = some p):plainB (flat zs)=true:=flat_plain (fun hf=>by rw [hf] at h;simp at h)
variable {o:Nat}
theorem Q_rowLeaf {f:Nat} {g:Option (Nat×Bool)} {pre xs post:List D} {d y:D} {td:TypeDesc}
 (hx:s.ev x=.ref b o) (hm:s.mem[b]? = some (flat (pre++xs++post))) (ho:o=pre.length * k + i * k + f) (hi:xs[i]? = some d) (hf:d.cells[f]? = some y) (hk:∀ x ∈ pre++xs++post,x.cells.length=k)
 (hu:K.P.underlying ty=some td) (hl:leafT td=true) (hB:K.Bs.contains b=false) (ht:t < K.n):Qy K ⟨some t,.load ty x,rt,pos,af,g⟩ s t (.d y):=by
 subst ho
 have hc:=flat_cell hk (row_at (pre:=pre) (post:=post) hi) hf
 rw [Nat.add_mul] at hc
 exact Q_load_leaf hx hm hc hu hl hB (flat_plain' hc) ht
theorem Q_rowElem {g:Option (Nat×Bool)} {pre xs post ds:List D} {td:TypeDesc}
 (hx:s.ev x=.ref b o) (hm:s.mem[b]? = some (flat (pre++xs++post))) (ho:o=pre.length * k + i * k) (hi:xs[i]? = some (.agg ds)) (hk:∀ x ∈ pre++xs++post,x.cells.length=k) (hk0:0 < k)
 (hz:(K.P.info? ty).map (·.size)=some k) (hu:K.P.underlying ty=some td) (hl:leafT td=false) (hB:K.Bs.contains b=false) (ht:t < K.n):Qy K ⟨some t,.load ty x,rt,pos,af,g⟩ s t (.d (.agg ds)):=
 Q_rowLoad hx hm (by rw [ho,← Nat.add_mul]) (row_at (pre:=pre) (post:=post) hi) hk hk0 hz hu hl hB ht
theorem D_rowSet {y:Operand} {g:Option (Nat×Bool)} {pre xs post:List D} {d:D}
 (hx:s.ev x=.ref b o) (hm:s.mem[b]? = some (flat (pre++xs++post))) (ho:o=pre.length * k + i * k) (hi:i < xs.length) (hk:∀ x ∈ pre++xs++post,x.cells.length=k) (hk0:0 < k) (hy:s.ev y=.d d) (hd:d.cells.length=k) (hz:(K.P.info? ty).map (·.size)=some k):
 Does K ⟨none,.store ty x y,rt,pos,af,g⟩ s ⟨s.slots,s.mem.set b (flat (pre++xs.set i d++post))⟩:=by
 have h:=D_rowStore (pos:=pos) (af:=af) (g:=g) (rt:=rt) hx hm (show o=(pre.length + i) * k by rw [ho,Nat.add_mul]) (by simp;omega) hk hk0 hy hd hz
 rw [show (pre++xs++post).set (pre.length + i) d=pre++xs.set i d++post by
  rw [List.append_assoc,List.set_append_right _ _ (by omega),Nat.add_sub_cancel_left,List.set_append_left _ _ hi,List.append_assoc]] at h
 exact h
end
section
def orV (k:IntKind) (a b:Int):Int:=k.wrap ((BitVec.ofInt k.bits a ||| BitVec.ofInt k.bits b).toNat)
def qz (sl:List (Nat×PV)) (op:Op):Option (Prop×PV):=match op with
 | .binOp op _ x y _=>match evl sl x with
  | .d (.int k a)=>match evl sl y with
   | .d (.int k' b)=>match op with
    | .shr=>some (0≤b,.d (.int k (a.fdiv (2 ^ (min b.toNat k.bits)))))
    | .shl=>some (0≤b,.d (.int k (k.wrap (a * 2 ^ (min b.toNat k.bits)))))
    | .or=>match decide (k=k') with
     | true=>some (True,.d (.int k (orV k a b)))
     | false=>none
    | _=>none
   | _=>none
  | _=>none
 | _=>none
theorem qz_of {K:Ctx} {sl:List (Nat×PV)} {mem:List (List PV)} {op:Op} {C:Prop} {p:PV} {t:Nat} {rt:TypeId} {pos:String} {af:Array Edge} {g:Option (Nat×Bool)} (ht:t < K.n) (h:qz sl op=some (C,p)) (hc:C):Qy K ⟨some t,op,rt,pos,af,g⟩ ⟨sl,mem⟩ t p:=by
 unfold qz at h
 split at h
 · split at h
   · rename_i k a ha
     split at h
     · rename_i k' b hb
       rw [evl_eq' sl mem] at ha hb
       split at h
       · injection h with h;injection h with h1 h2;subst h1;subst h2
         exact Q_shift ha hb hc rfl (.inr rfl) ht
       · injection h with h;injection h with h1 h2;subst h1;subst h2
         exact Q_shift ha hb hc rfl (.inl rfl) ht
       · split at h
         · rename_i hk
           rw [decide_eq_true_eq] at hk
           subst hk
           injection h with h;injection h with h1 h2;subst h1;subst h2
           exact Q_bits ha hb rfl (.inr (.inl rfl)) ht
         · cases h
       · cases h
     · cases h
   · cases h
 · cases h
def qzs (ops:List Oper) (n i:Nat) (sl:List (Nat×PV)):Option (Nat×Option Bool×List (Bool×Bool)×Prop×PV):=opK ops i fun o=>dstK n o fun t=>gdK ops n o sl fun g=>stpK g o.op.operands.toList sl fun sl' ob=>match qz sl' o.op with
 | some (C,p)=>some (t,g,ob,C,p)
 | none=>none
theorem gQz {K:Ctx} {fr:List Fr} {ops:Array Oper} {Q:Exit→GS→Prop} {i t:Nat} {l:List Nat} {sl:List (Nat×PV)} {mem:List (List PV)} {g:Option Bool} {ob:List (Bool×Bool)} {C:Prop} {p:PV}
 (h:qzs ops.toList K.n i sl=some (t,g,ob,C,p)) (hc:isT g→C) (ho:Obl ob) (hg:GF K fr (.ops ops l) Q ⟨(t,whn g p) :: sl,mem⟩):GF K fr (.ops ops (i :: l)) Q ⟨sl,mem⟩:=by
 obtain ⟨o,ho1,h⟩:=opK_of h
 obtain ⟨t',hdt,ht,h⟩:=dstK_of h
 obtain ⟨g',h,hq⟩:=quiet_of (mem:=mem) ho1 hdt ht h
 obtain ⟨sl',ob',h,hst⟩:=stpK_of mem h
 split at h
 · rename_i C' p' hqc
   injection h with h;injection h with e1 h;injection h with e2 h;injection h with e3 h;injection h with e4 e5
   subst e1;subst e2;subst e3;subst e4;subst e5
   refine hq _ _ _ (fun hgt=>?_) hg
   obtain ⟨dd,op,rt,pos,af,gg⟩:=o
   dsimp only at hdt hqc
   subst hdt
   exact Yld_pure rfl ht (hst hgt ho.get _ _ _ _ (qz_of ht hqc (hc hgt)))
 · cases h
end
end Go.Proofs.YtoonleefemkalaaDoor.E
