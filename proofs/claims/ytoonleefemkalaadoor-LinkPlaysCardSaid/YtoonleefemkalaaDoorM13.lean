import Derived.Test.YtoonleefemkalaaDoorM12
/- Contracts of functions. Conditions: none. -/
set_option linter.unusedSimpArgs false
set_option linter.unusedVariables false
namespace Go.Proofs.YtoonleefemkalaaDoor.E
open Go
def rlo (k:Nat) (pre xs post:List D):Nat:=match xs with
 | []=>if (pre++post).isEmpty then 0 else pre.length * k + 1
 | _ :: _=>pre.length * k
variable {k:Nat}
theorem rlo_ne {pre xs post:List D} (h:xs ≠ []):rlo k pre xs post=pre.length * k:=by
 cases xs with
 | nil=>exact absurd rfl h
 | cons=>rfl
theorem rlo_zero (xs:List D):rlo k [] xs []=0:=by cases xs<;>simp [rlo]
def YldE (K:Ctx) (o:Oper) (s:GS) (T:GS→Prop):Prop:=
 ∀ a w,At K s a w→∃ v w' s',T s'∧(execOp a.eval o).run K.P w=.ok (.value v) w'∧At K s' (a.put o.dst v) w'
variable {K:Ctx} {s:GS}
theorem GOps_valE {ops:Array Oper} {Q:Exit→GS→Prop} {T:GS→Prop} {i:Nat} {rest:List Nat} {o:Oper} (ho:ops[i]? = some o) (hg:o.guard=none)
 (hy:YldE K o s T) (h:∀ s',T s'→GOps K ops Q rest s'):GOps K ops Q (i :: rest) s:=by
 intro a w ha
 obtain ⟨v,w',s',hT,hr,ha'⟩:=hy a w ha
 simp only [wpOps,ho,Region.wanted,hg,if_true]
 exact .inl (by simp only [Oper.wp,hr,Oper.upon_value];exact h s' hT _ _ ha')
variable {S:Reg} {O:Owns} {m:List Nat} {w:World} {b:Nat}
theorem row_cells {a:Act} {r:Nat} {zs:List D} (h:Rep K S O m s a w) (hmem:s.mem[b]? = some (flat zs)) (hr1:m[b]? = some r) (hk:∀ x ∈ zs,x.cells.length=k) (hk0:0 < k) (hz:zs ≠ [])
 {vs0:Array Value} {el0:TypeId} (hh0:w.heap[r]? = some (.cells vs0 el0 (0,0))):O r=some ([b,1],0)∧zs.length * k≤vs0.size∧(∀ (j:Nat) v,vs0[j]? = some v→v.oneCell'=true)∧
  ∀ (i:Nat) x (j:Nat) y,zs[i]? = some x→x.cells[j]? = some y→∃ v,vs0[i * k + j]? = some v∧Rd w S y v:=by
 have hpos:0 < (flat zs).length:=by rw [flat_length zs hk];exact Nat.mul_pos (List.length_pos_iff.2 hz) hk0
 have hfne:flat zs ≠ []:=fun h=>by rw [h] at hpos;simp at hpos
 obtain ⟨g1,g2⟩:=h.env.mem b (flat zs) r hmem hr1 hfne
 have hd0:∃ y,(flat zs)[0]? = some (.d y):=by
  have:=gE hpos
  obtain ⟨i,j,x,y,_,_,_,h4⟩:=flat_inv zs hk 0 _ this
  exact ⟨y,by rw [this,h4]⟩
 obtain ⟨y0,hy0⟩:=hd0
 rcases g2 with ⟨vs,el,h1,h2,h3,h4⟩ | ⟨kvs,es,c,hc,_⟩ | ⟨_,hc⟩ | ⟨c,pos,hc,_⟩ | ⟨_,_,_,_,_,hc,_⟩
 · rw [hh0] at h1;injection h1 with h1;injection h1 with e1 e2 e3
   subst e1;subst e2
   refine ⟨g1,by rw [← flat_length zs hk];exact h2,h3,fun i x j y hi hj=>?_⟩
   have hcl:x.cells.length=k:=hk x (mG hi)
   have hjk:j < k:=by rw [← hcl];exact (lG hj)
   have hp:(flat zs)[i * k + j]? = some (.d y):=by
    have hfp:=flat_part zs hk i x hi
    have:(((flat zs).drop (i * k)).take k)[j]? = some (.d y):=by rw [hfp,List.getElem?_map,hj];rfl
    rw [List.getElem?_take_of_lt hjk,List.getElem?_drop] at this
    exact this
   have hlt:i * k + j < vs0.size:=Nat.lt_of_lt_of_le (lG hp) h2
   have:=h4 _ _ _ hp (Array.getElem?_eq_getElem hlt)
   cases this with | d _ _ _ hrd=>exact ⟨_,Array.getElem?_eq_getElem hlt,hrd⟩
 · rw [hc] at hy0;simp at hy0
 · rw [hc] at hy0;simp at hy0
 · rw [hc] at hy0;simp at hy0
 · rw [hc] at hy0;simp at hy0
theorem row_val {l:List Nat} {off n:Nat} {pre xs post:List D} {v:Value} (h:RP w S O m l (.rsl b off n k) v) (hn:n=xs.length) (hoff:off=rlo k pre xs post):
 ∃ ab cap,v=.slice ab xs.length cap∧xs.length≤cap∧(xs.length≤lim∧cap≤9223372036854775807)∧((xs=[]∧cap=0)∨(cap ≠ 0∧pre++xs++post ≠ []∧∃ r,m[b]? = some r∧ab=some ⟨r,pre.length * k,none⟩∧Room w r (pre.length * k + cap * k))):=by
 subst hn;subst hoff
 cases h with
 | rsl _ _ _ _ _ ab cap hc hl h0 h1=>
  refine ⟨ab,cap,rfl,hc,⟨hl,by assumption⟩,?_⟩
  by_cases hcz:cap=0
  · exact .inl ⟨List.eq_nil_of_length_eq_zero (by omega),hcz⟩
  · right
    obtain ⟨r,g1,g2,g3⟩:=h1 hcz
    have hro:pre++xs++post ≠ []∧rofs xs.length (rlo k pre xs post)=pre.length * k:=by
     cases xs with
     | nil=>
      by_cases hp:pre++post=[]
      · exact absurd (h0 rfl (by simp [rlo,hp])) hcz
      · refine ⟨by simpa using hp,?_⟩
        simp only [rlo,List.isEmpty_iff,if_neg hp];rfl
     | cons x r0=>exact ⟨by simp,rofs_pos (by simp)⟩
    rw [hro.2] at g2 g3
    exact ⟨hcz,hro.1,r,g1,g2,g3⟩
theorem row_mk (l:List Nat) {b k r cap:Nat} {pre xs post:List D} (hc:xs.length≤cap) (hl:xs.length≤lim) (hm:m[b]? = some r) (hne:pre++xs++post ≠ []) (hroom:Room w r (pre.length * k + cap * k)) (hmx:cap≤9223372036854775807:=by assumption):
 RP w S O m l (.rsl b (rlo k pre xs post) xs.length k) (.slice (some ⟨r,pre.length * k,none⟩) xs.length cap):=by
 refine .rsl _ _ _ _ _ _ _ hc hl (fun h h2=>?_) (fun _=>?_)
 · have hx:=List.eq_nil_of_length_eq_zero h
   subst hx
   exfalso
   have hp:¬ pre++post=[]:=by simpa using hne
   simp only [rlo,List.isEmpty_iff,if_neg hp] at h2
   omega
 · have:rofs xs.length (rlo k pre xs post)=pre.length * k:=by
    cases xs with
    | nil=>
     have hp:¬ pre++post=[]:=by simpa using hne
     simp only [rlo,List.isEmpty_iff,if_neg hp];rfl
    | cons x r0=>exact rofs_pos (by simp)
   rw [this]
   exact ⟨r,hm,rfl,hroom⟩
theorem Y_appendG {t u off n:Nat} {y:Operand} {ty e rt:TypeId} {pos:String} {af:Array Edge} {g:Option (Nat×Bool)} {by_:Nat} {pre xs post ys:List D} {z:Value}
 (hu:s.get u=some (.rsl b off n k)) (hn:n=xs.length) (hoff:off=rlo k pre xs post) (hmem:s.mem[b]? = some (flat (pre++xs++post))) (hbm:K.m0.length≤b) (hno:nrefM b 0 s.mem=true) (hy:(s.ev y).list? = some ys) (hne:ys ≠ []) (hkx:∀ x ∈ pre++xs++post,x.cells.length=k) (hk:∀ y ∈ ys,y.cells.length=k) (hk0:0 < k)
 (hun:K.P.underlying ty=some (.slice e)) (hinf:(K.P.info? e).map (fun i=>(i.zero,i.size,i.bytes))=some (some z,k,by_)) (hzs:z.cells.size=k) (hz1:z.cells.all (·.oneCell')=true)
 (hlen:xs.length + ys.length≤lim) (hB:(xs.length + ys.length) * by_≤lim) (ht:t < K.n):
 YldE K ⟨some t,.call ⟨.builtin .append,#[.tmp u,y],#[ty,ty]⟩,rt,pos,af,g⟩ s fun s'=>∃ pre' post',(∀ x ∈ pre'++(xs++ys)++post',x.cells.length=k)∧s'=⟨(t,.rsl b (rlo k pre' (xs++ys) post') (xs.length + ys.length) k) :: sansB b s.slots,s.mem.set b (flat (pre'++(xs++ys)++post'))⟩:=by
 rintro a w ⟨S,O,m,h⟩
 have hru:=h.slots u _ hu
 have hry:=h.evl hy
 obtain ⟨inf,hin,hiz,his,hib⟩:∃ inf,K.P.info? e=some inf∧inf.zero=some z∧inf.size=k∧inf.bytes=by_:=by
  cases hq:K.P.info? e with
  | none=>simp [hq] at hinf
  | some i=>simp [hq] at hinf;exact ⟨i,rfl,hinf.1,hinf.2.1,hinf.2.2⟩
 obtain ⟨ab,cap,hvu,hcap,⟨_,hcapx⟩,hrow⟩:=row_val hru hn hoff
 replace hvu:a.eval (.tmp u)=.slice ab xs.length cap:=hvu
 obtain ⟨ay,capy,hvy⟩:∃ ay capy,a.eval y=.slice (some ay) ys.length capy:=by
  generalize a.eval y=vy at hry
  cases hry with
  | sl _ ay capy _ _ _ _ hn _ _=>
   cases ay with
   | none=>exact absurd (hn rfl) hne
   | some ay=>exact ⟨ay,capy,rfl⟩
 rw [hvy] at hry
 obtain ⟨news,hnl,hnews,hnrd⟩:=hry.news hk
 have hrun0:∀ v w',(Builtin.append_ #[ty,ty] rt #[a.eval (.tmp u),a.eval y]).run K.P w=.ok v w'→(execOp a.eval ⟨some t,.call ⟨.builtin .append,#[.tmp u,y],#[ty,ty]⟩,rt,pos,af,g⟩).run K.P w=.ok (.value v) w':=by
  intro v w' hr
  simp [execOp,resolve,invoke,builtin,hr]
 have hyslen:0 < ys.length:=List.length_pos_iff.2 hne
 have hlimv:lim=140737488355328:=rfl
 have hbl:b < s.mem.length:=(lG hmem)
 have hkp:∀ x ∈ pre,x.cells.length=k:=fun x hx=>hkx x (by simp [hx])
 have hkxs:∀ x ∈ xs,x.cells.length=k:=fun x hx=>hkx x (by simp [hx])
 have hkpo:∀ x ∈ post,x.cells.length=k:=fun x hx=>hkx x (by simp [hx])
 -- what is known of the result, whichever block it lies in
 have fin:∀ (pre' post':List D) (w':World) (r' cap':Nat) (vs':Array Value) (el':TypeId),(∀ x ∈ pre'++(xs++ys)++post',x.cells.length=k)→Ext S w w'→(r'=w.heap.size∨O r'=some ([b,1],0))→(∀ q,q < w.heap.size→q ≠ r'→w'.heap[q]? = w.heap[q]?)→
  w'.heap[r']? = some (.cells vs' el' (0,0))→pre'.length * k + cap' * k≤vs'.size→(pre'++(xs++ys)++post').length * k≤vs'.size→(xs.length + ys.length≤cap'∧cap'≤9223372036854775807)→(∀ (j:Nat) v,vs'[j]? = some v→v.oneCell'=true)→
  (∀ (i:Nat) x (j:Nat) y,(pre'++(xs++ys)++post')[i]? = some x→x.cells[j]? = some y→∃ v,vs'[i * k + j]? = some v∧Rd w' S y v)→
  At K ⟨(t,.rsl b (rlo k pre' (xs++ys) post') (xs.length + ys.length) k) :: sansB b s.slots,s.mem.set b (flat (pre'++(xs++ys)++post'))⟩ (a.put (some t) (.slice (some ⟨r',pre'.length * k,none⟩) (xs.length + ys.length) cap')) w':=by
  intro pre' post' w' r' cap' vs' el' hkall hE hO hsame hh hsz hle ⟨hcap',hcapx'⟩ hone hcells
  have hfl:=flat_length _ hkall
  have hblk:Blk w' S (fun q=>if q=r' then some ([b,1],0) else O q) (m.set b r') b (flat (pre'++(xs++ys)++post')) r':=.inl ⟨vs',el',hh,by rw [hfl];exact hle,hone,fun j p v hp hv=>by
   obtain ⟨i,j',x,y',h1,h2,rfl,rfl⟩:=flat_inv _ hkall j p hp
   obtain ⟨v',h3,h4⟩:=hcells i x j' y' h1 h2
   rw [h3] at hv;injection hv with hv;subst hv
   exact .d _ _ _ h4⟩
  have hlt:r' < w'.heap.size:=(Array.getElem?_eq_some_iff.1 hh).1
  have henv:=h.env.renew hbl hE hO hlt hsame hno hblk
  refine ⟨S,_,_,henv,h.defers,by simp [Act.put,h.size],?_,fun i p hp=>?_⟩
  · obtain ⟨tl,htl⟩:=h.pre
    refine ⟨tl.set (b - K.m0.length) r',?_⟩
    rw [← htl,List.set_append_right _ _ hbm]
  rw [getD_put _ _ _ _ (by rw [h.size];exact ht)]
  have hp':(if i=t then some (PV.rsl b (rlo k pre' (xs++ys) post') (xs.length + ys.length) k) else (sansB b s.slots).lookup i)=some p:=by
   by_cases hi:i=t
   · subst hi;rw [if_pos rfl];simpa [GS.get,List.lookup] using hp
   · rw [if_neg hi]
     have:(i == t)=false:=by simpa using hi
     simpa [GS.get,List.lookup,this] using hp
  by_cases hit:i=t
  · rw [if_pos hit] at hp' ⊢;injection hp' with hp';subst hp'
    have:=row_mk (S:=S) (O:=fun q=>if q=r' then some ([b,1],0) else O q) (m:=m.set b r') [i,0] (b:=b) (k:=k) (r:=r') (cap:=cap') (pre:=pre') (xs:=xs++ys) (post:=post') (w:=w') (by rw [List.length_append];exact hcap') (by rw [List.length_append];exact hlen) (List.getElem?_set_self (by rw [h.env.mlen];exact hbl)) (by simp [hne]) ⟨vs',el',hh,hsz⟩
    rw [List.length_append] at this
    exact this
  · rw [if_neg hit] at hp' ⊢
    obtain ⟨q,hq,⟨hnq,rfl⟩ | rfl⟩:=sansB_lookup hp'
    · refine RP.reset ((h.slots i p hq).ext hE (fun _ _ h=>h) (fun c t' x hx=>?_) (fun _ _ h=>h)) b r' hnq
      rw [if_neg];· exact hx
      rintro rfl
      rcases hO with h1 | h1
      · have:=h.env.olt _ _ _ hx;omega
      · rw [hx] at h1;injection h1 with h1;injection h1 with h1 _
        have:=congrArg List.getLast? h1;simp at this
    · exact .undef _ _
 have hkall0:∀ x ∈ []++(xs++ys)++[],x.cells.length=k:=fun x hx=>by
  simp only [List.nil_append,List.append_nil,List.mem_append] at hx
  rcases hx with hx | hx
  · exact hkxs x hx
  · exact hk x hx
 have hkall:∀ x ∈ xs++ys,x.cells.length=k:=fun x hx=>hkall0 x (by simpa using hx)
 -- a new block
 have grown:∀ (old:Nat) (olds:List Value),olds.length=xs.length * k→(∀ (j:Nat) v,olds[j]? = some v→v.oneCell'=true)→
  (∀ (i:Nat) x (j:Nat) y v,xs[i]? = some x→x.cells[j]? = some y→olds[i * k + j]? = some v→Rd w S y v)→
  At K ⟨(t,.rsl b (rlo k [] (xs++ys) []) (xs.length + ys.length) k) :: sansB b s.slots,s.mem.set b (flat ([]++(xs++ys)++[]))⟩
   (a.put (some t) (.slice (some ⟨w.heap.size,0,none⟩) (xs.length + ys.length) (grownCap w (xs.length + ys.length) old e)))
   (w.drew.alloc (.cells (olds.toArray++news.toArray++Builtin.zeroCells z.cells (grownCap w (xs.length + ys.length) old e - (xs.length + ys.length))) e)):=by
  intro old olds hol ho1 hord
  have hge:=grownCap_ge w (xs.length + ys.length) old e
  have hgx:grownCap w (xs.length + ys.length) old e≤9223372036854775807:=grownCap_le_maxLen w (xs.length + ys.length) old e (by show _≤9223372036854775807;have:lim=140737488355328:=rfl;omega)
  generalize grownCap w (xs.length + ys.length) old e=cp at hge hgx ⊢
  have hE:Ext S w (w.drew.alloc (.cells (olds.toArray++news.toArray++Builtin.zeroCells z.cells (cp - (xs.length + ys.length))) e)):=
   (ext_drew S w).trans (ext_alloc S w.drew _ h.env.slt) (fun _ _ h=>h)
  have hsum:(xs.length + ys.length) * k=olds.length + news.length:=by rw [hol,hnl,Nat.add_mul]
  have hfin:=fin [] [] _ w.heap.size cp _ e hkall0 hE (.inl rfl) (fun q hq _=>heap_alloc_old' w.drew _ q hq) (heap_alloc_new' w.drew _)
  simp only [List.length_nil,Nat.zero_mul,Nat.zero_add] at hfin
  refine hfin ?_ ?_ ⟨hge,hgx⟩ (fun j v hj=>?_) ?_
  · simp only [Array.size_append,List.size_toArray,size_zeroCells,hzs]
    rw [← hsum,← Nat.add_mul]
    exact Nat.mul_le_mul_right _ (by omega)
  · rw [List.nil_append,List.append_nil,List.length_append]
    simp only [Array.size_append,List.size_toArray,size_zeroCells,hzs]
    rw [← hsum,← Nat.add_mul]
    exact Nat.mul_le_mul_right _ (by omega)
  · by_cases h1:j < olds.length
    · rw [Array.append_assoc,Array.getElem?_append_left (by simpa using h1)] at hj
      exact ho1 j v (by simpa using hj)
    · rw [Array.append_assoc,Array.getElem?_append_right (by simpa using Nat.le_of_not_lt h1)] at hj
      simp only [List.size_toArray] at hj
      by_cases h2:j - olds.length < news.length
      · rw [Array.getElem?_append_left (by simpa using h2)] at hj
        exact (hnews _ v (by simpa using hj)).2
      · rw [Array.getElem?_append_right (by simpa using Nat.le_of_not_lt h2)] at hj
        exact zeroCells_one hz1 v (Array.mem_of_getElem? hj)
  · intro i x j y hi hj
    rw [List.nil_append,List.append_nil] at hi
    have hjk:j < k:=by rw [← hkall x (mG hi)];exact (lG hj)
    by_cases hx:i < xs.length
    · rw [List.getElem?_append_left hx] at hi
      have hlt2:i * k + j < olds.length:=by
       rw [hol]
       calc i * k + j < i * k + k:=by omega
        _=(i + 1) * k:=by rw [Nat.add_mul,Nat.one_mul]
        _≤xs.length * k:=Nat.mul_le_mul_right _ hx
      have hg:=gE hlt2
      refine ⟨olds[i * k + j],?_,(hord i x j y _ hi hj hg).ext hE (fun _ _ h=>h)⟩
      rw [Array.append_assoc,Array.getElem?_append_left (by simpa using hlt2)]
      simp [hg]
    · rw [List.getElem?_append_right (by omega)] at hi
      have hil2:i - xs.length < ys.length:=(lG hi)
      have hmul:xs.length * k≤i * k:=Nat.mul_le_mul_right _ (by omega)
      have hsub:i * k + j - olds.length=(i - xs.length) * k + j:=by rw [hol,Nat.sub_mul];omega
      have hge2:olds.length≤i * k + j:=by rw [hol];omega
      have hlt2:(i - xs.length) * k + j < news.length:=by
       rw [hnl]
       calc (i - xs.length) * k + j < (i - xs.length) * k + k:=by omega
        _=(i - xs.length + 1) * k:=by rw [Nat.add_mul,Nat.one_mul]
        _≤ys.length * k:=Nat.mul_le_mul_right _ hil2
      have hg:=gE hlt2
      refine ⟨news[(i - xs.length) * k + j],?_,(hnrd _ x j y _ hi hj hg).ext hE (fun _ _ h=>h)⟩
      rw [Array.append_assoc,Array.getElem?_append_right (by simpa using hge2),Array.getElem?_append_left (by simp;omega)]
      simp only [List.size_toArray,List.getElem?_toArray]
      rw [hsub];exact hg
 rcases hrow with ⟨rfl,rfl⟩ | ⟨_,hzne,r,hmr,rfl,vs,el,hheap,hsz⟩
 · have hgr:=grown 0 [] (by simp) (by simp) (by simp)
   simp only [List.length_nil,Nat.zero_add,Array.empty_append] at hgr hvu hlen hB ⊢
   cases ab with
   | none=>
    have hr:=run_append_nil (P:=K.P) w ty rt e inf z hun hin hiz ay ys.length capy news (by rw [his];exact hnl) (fun j v hj=>(hnews j v hj).1) hyslen (by omega) (by rw [hib];omega)
    exact ⟨_,_,_,⟨[],[],hkall0,rfl⟩,hrun0 _ _ (by rw [hvu,hvy];exact hr),by simpa only [List.length_nil,Nat.zero_add] using hgr⟩
   | some ad=>
    have hr:=run_append_grow (P:=K.P) w ty rt e inf z hun hin hiz ad 0 0 [] (by simp) (by simp) ay ys.length capy news (by rw [his];exact hnl) (fun j v hj=>(hnews j v hj).1) (by omega) (by omega) (growslice_fits (by omega) (by rw [hib,Nat.zero_add];omega))
    simp only [Nat.zero_add,Array.empty_append] at hr
    exact ⟨_,_,_,⟨[],[],hkall0,rfl⟩,hrun0 _ _ (by rw [hvu,hvy];exact hr),by simpa only [List.length_nil,Nat.zero_add] using hgr⟩
 · obtain ⟨hOr,hzl,hone,hcells⟩:=row_cells h hmem hmr hkx hk0 hzne hheap
   have hvl:vs.toList.length=vs.size:=by simp
   have hxc:=Nat.mul_le_mul_right k hcap
   have hin2:∀ (i:Nat) x (j:Nat) y,xs[i]? = some x→x.cells[j]? = some y→∃ v,vs[pre.length * k + (i * k + j)]? = some v∧Rd w S y v:=fun i x j y hi hj=>by
    have hil:=(lG hi)
    obtain ⟨v,h1,h2⟩:=hcells (pre.length + i) x j y (by
     rw [List.append_assoc,List.getElem?_append_right (by omega),Nat.add_sub_cancel_left,List.getElem?_append_left hil];exact hi) hj
    rw [Nat.add_mul,Nat.add_assoc] at h1
    exact ⟨v,h1,h2⟩
   by_cases hroom:xs.length + ys.length≤cap
   · have hfit:pre.length * k + xs.length * inf.size + news.length≤vs.size:=by
      rw [his,hnl,Nat.add_assoc,← Nat.add_mul]
      exact Nat.le_trans (Nat.add_le_add_left (Nat.mul_le_mul_right k hroom) _) hsz
     have hr:=run_append_room_at (P:=K.P) w ty rt e inf hun hin r (pre.length * k) xs.length cap vs el hheap ay ys.length capy news (by rw [his];exact hnl) (fun j v hj=>(hnews j v hj).1)
      (fun v hv=>by obtain ⟨j,hj⟩:=List.getElem?_of_mem hv;exact (hnews j v hj).2) hroom hfit
     rw [his] at hr hfit
     have hkall1:∀ x ∈ pre++(xs++ys)++post.drop ys.length,x.cells.length=k:=fun x hx=>by
      simp only [List.mem_append] at hx
      rcases hx with (hx | hx | hx) | hx
      · exact hkp x hx
      · exact hkxs x hx
      · exact hk x hx
      · exact hkpo x (List.mem_of_mem_drop hx)
     refine ⟨_,_,_,⟨pre,post.drop ys.length,hkall1,rfl⟩,hrun0 _ _ (by rw [hvu,hvy];exact hr),?_⟩
     have hfitL:pre.length * k + xs.length * k + news.length≤vs.toList.length:=by simpa using hfit
     have hsz2:(splice vs.toList (pre.length * k + xs.length * k) news).toArray.size=vs.size:=List.size_toArray.trans ((splice_length _ _ _ hfitL).trans hvl)
     have hget:∀ o,(splice vs.toList (pre.length * k + xs.length * k) news).toArray[o]? = if pre.length * k + xs.length * k≤o∧o < pre.length * k + xs.length * k + news.length then news[o - (pre.length * k + xs.length * k)]? else vs[o]?:=fun o=>by
      rw [List.getElem?_toArray,splice_get _ _ _ hfitL,show vs.toList[o]? = vs[o]? from by simp]
     have hE:Ext S w (w.setRow r (splice vs.toList (pre.length * k + xs.length * k) news).toArray):=ext_setRow hheap hsz2 (fun o hS=>by have:=h.env.sown _ o _ _ hS hOr;omega)
     refine fin pre (post.drop ys.length) _ r cap _ el hkall1 hE (.inr hOr) (fun q _ hq=>setRow_other _ _ _ _ hq) (setRow_heap w r vs _ el (0,0) hheap) (by rw [hsz2];exact hsz) ?_ ⟨hroom,hcapx⟩ (fun j v hj=>?_) ?_
     · rw [hsz2]
       simp only [List.length_append,List.length_drop]
       by_cases hpl:ys.length≤post.length
       · refine Nat.le_trans (Nat.mul_le_mul_right k ?_) hzl
         simp only [List.length_append];omega
       · rw [show post.length - ys.length=0 by omega,Nat.add_zero,Nat.add_mul]
         exact Nat.le_trans (Nat.add_le_add_left (Nat.mul_le_mul_right k hroom) _) hsz
     · rw [hget] at hj
       split at hj
       · exact (hnews _ v hj).2
       · exact hone j v hj
     · intro i x j y hi hj
       have hjk:j < k:=by rw [← hkall1 x (mG hi)];exact (lG hj)
       have hold:∀ i',(pre++xs++post)[i']? = some x→i=i'→¬ (pre.length * k + xs.length * k≤i * k + j∧i * k + j < pre.length * k + xs.length * k + news.length)→∃ v,(splice vs.toList (pre.length * k + xs.length * k) news).toArray[i * k + j]? = some v∧Rd (w.setRow r (splice vs.toList (pre.length * k + xs.length * k) news).toArray) S y v:=fun i' g1 g2 g3=>by
        subst g2
        obtain ⟨v,h1,h2⟩:=hcells i x j y g1 hj
        exact ⟨v,by rw [hget,if_neg g3];exact h1,h2.ext hE (fun _ _ h=>h)⟩
       by_cases hx:i < pre.length + xs.length
       · refine hold i ?_ rfl ?_
         · rw [List.append_assoc,List.append_assoc] at hi
           rw [List.append_assoc]
           by_cases hp1:i < pre.length
           · rw [List.getElem?_append_left hp1] at hi ⊢;exact hi
           · rw [List.getElem?_append_right (by omega)] at hi ⊢
             rw [List.getElem?_append_left (by omega)] at hi ⊢;exact hi
         · have:i * k + j < (pre.length + xs.length) * k:=by
            calc i * k + j < i * k + k:=by omega
             _=(i + 1) * k:=by rw [Nat.add_mul,Nat.one_mul]
             _≤(pre.length + xs.length) * k:=Nat.mul_le_mul_right _ hx
           rw [Nat.add_mul] at this
           omega
       · have hmul:(pre.length + xs.length) * k≤i * k:=Nat.mul_le_mul_right _ (by omega)
         by_cases hy2:i < pre.length + xs.length + ys.length
         · have hi2:ys[i - (pre.length + xs.length)]? = some x:=by
            rw [List.append_assoc,List.append_assoc,List.getElem?_append_right (by omega),List.getElem?_append_right (by omega),List.getElem?_append_left (by omega)] at hi
            rw [show i - (pre.length + xs.length)=i - pre.length - xs.length by omega];exact hi
           have hsub:(i - (pre.length + xs.length)) * k=i * k - (pre.length + xs.length) * k:=Nat.sub_mul _ _ _
           have hlt2:(i - (pre.length + xs.length)) * k + j < news.length:=by
            rw [hnl]
            calc (i - (pre.length + xs.length)) * k + j < (i - (pre.length + xs.length)) * k + k:=by omega
             _=(i - (pre.length + xs.length) + 1) * k:=by rw [Nat.add_mul,Nat.one_mul]
             _≤ys.length * k:=Nat.mul_le_mul_right _ (by omega)
           have hg:=gE hlt2
           rw [Nat.add_mul] at hmul hsub
           refine ⟨news[(i - (pre.length + xs.length)) * k + j],?_,(hnrd _ x j y _ hi2 hj hg).ext hE (fun _ _ h=>h)⟩
           rw [hget,if_pos (by omega),show i * k + j - (pre.length * k + xs.length * k)=(i - (pre.length + xs.length)) * k + j by omega]
           exact hg
         · refine hold i ?_ rfl ?_
           · rw [List.append_assoc,List.append_assoc,List.getElem?_append_right (by omega),List.getElem?_append_right (by omega),List.getElem?_append_right (by omega),List.getElem?_drop] at hi
             rw [List.append_assoc,List.getElem?_append_right (by omega),List.getElem?_append_right (by omega)]
             rw [show i - pre.length - xs.length=ys.length + (i - pre.length - xs.length - ys.length) by omega]
             exact hi
           · have:(pre.length + xs.length + ys.length) * k≤i * k:=Nat.mul_le_mul_right _ (by omega)
             rw [Nat.add_mul,Nat.add_mul,← hnl] at this
             omega
   · have hr:=run_append_grow (P:=K.P) w ty rt e inf z hun hin hiz ⟨r,pre.length * k,none⟩ xs.length cap ((vs.toList.drop (pre.length * k)).take (xs.length * k)) (by
         rw [his,List.length_take,List.length_drop]
         omega) (fun j v hj=>by
         rw [add_at,cell_of_row w r _ vs el _ hheap]
         have hlt:j < xs.length * k:=by
          have:=(lG hj)
          rw [List.length_take] at this;omega
         rw [List.getElem?_take_of_lt hlt,List.getElem?_drop] at hj
         simpa using hj) ay ys.length capy news (by rw [his];exact hnl) (fun j v hj=>(hnews j v hj).1)
      (by omega) (by omega) (growslice_fits (by omega) (by rw [hib];omega))
     refine ⟨_,_,_,⟨[],[],hkall0,rfl⟩,hrun0 _ _ (by rw [hvu,hvy];exact hr),grown cap _ ?_ (fun j v hj=>?_) (fun i x j y v hi hj hv=>?_)⟩
     · rw [List.length_take,List.length_drop]
       omega
     · have:=List.mem_of_mem_drop (List.mem_of_mem_take (mG hj))
       obtain ⟨j',hj'⟩:=List.getElem?_of_mem this
       exact hone j' v (by simpa using hj')
     · obtain ⟨v',h1,h2⟩:=hin2 i x j y hi hj
       have hlt:i * k + j < xs.length * k:=by
        have:=(lG hv)
        rw [List.length_take] at this;omega
       rw [List.getElem?_take_of_lt hlt,List.getElem?_drop] at hv
       have:vs[pre.length * k + (i * k + j)]? = some v:=by simpa using hv
       rw [h1] at this;injection this with this;subst this
       exact h2
end Go.Proofs.YtoonleefemkalaaDoor.E
