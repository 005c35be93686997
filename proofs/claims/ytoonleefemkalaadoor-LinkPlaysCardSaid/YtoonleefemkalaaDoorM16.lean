import Derived.Test.YtoonleefemkalaaDoorM15
import Derived.RangeFuncRecord
import Derived.RangeFuncIn
import Derived.RangeFuncLeaves
import Derived.RangeFuncCalls
/- Contracts of functions. Conditions: none. -/
set_option linter.unusedSimpArgs false
set_option linter.unusedVariables false
namespace Go.Proofs.YtoonleefemkalaaDoor.E
open Go
section
variable {K:Ctx}
theorem Le_cell {s:GS} (b off:Nat) {cs:List PV} (hmem:s.mem[b]? = some cs) (hp:plainB cs=true):Le K s ⟨s.slots,s.mem.set b (cs.set off .undef)⟩:=by
 rintro a w ⟨S,O,m,h⟩
 have he:=h.env
 refine ⟨S,O,m,?_,h.defers,h.size,h.pre,h.slots⟩
 refine ⟨he.ext,he.old,he.part,he.s0,he.snew,he.sown,he.slt,he.olt,he.onew,by simp [he.mlen],fun i cs' r hi hr hne=>?_⟩
 rw [List.getElem?_set] at hi
 by_cases hb:b=i
 · subst hb
   have hlt:b < s.mem.length:=(lG hmem)
   rw [if_pos rfl,if_pos hlt] at hi
   injection hi with hi
   subst hi
   obtain ⟨h1,h2⟩:=he.mem b cs r hmem hr (plainB_ne hp)
   refine ⟨h1,?_⟩
   obtain ⟨vs,el,g1,g2,g3,g4⟩:=h2.cells hp
   refine .inl ⟨vs,el,g1,by simpa using g2,g3,fun j p v hp' hv=>?_⟩
   rw [List.getElem?_set] at hp'
   split at hp'
   · split at hp'
     · injection hp' with hp';subst hp';exact .undef _ _
     · cases hp'
   · exact g4 j p v hp' hv
 · rw [if_neg hb] at hi
   exact he.mem i cs' r hi hr hne
theorem gCell (b off:Nat) {K:Ctx} {fr:List Fr} {c:Cf} {Q:Exit→GS→Prop} {sl:List (Nat×PV)} {mem mem':List (List PV)} {cs:List PV} (hmem:mem[b]? = some cs) (hp:plainB cs=true) (hg:GF K fr c Q ⟨sl,mem'⟩) (hm:mem.set b (cs.set off .undef)=mem') (hc:goes c=true):GF K fr c Q ⟨sl,mem⟩:=by
 subst hm
 exact gLe (Le_cell (s:=⟨sl,mem⟩) b off hmem hp) hg hc
def rowHG (k:Nat) (pre xs post:List D) (off c _k:Nat):PV:=if off=rlo k pre xs post∧c=xs.length then .d (.sl xs) else .undef
theorem Le_freezeG {s:GS} {keep:List (List PV)} {pre xs post:List D} {k:Nat} (n:Nat) (hmem:s.mem=keep++[flat (pre++xs++post)]) (hn:keep.length=n) (hk:∀ x ∈ pre++xs++post,x.cells.length=k) (hk0:0 < k) (hm:K.m0.length≤n):
 Le K s ⟨s.slots.map fun x=>(x.1,PV.frz n noF (rowHG k pre xs post) .undef x.2),keep.map (PV.frzs n noF (rowHG k pre xs post) .undef)⟩:=by
 have hfl:=flat_length _ hk
 refine Le_frz n ((pre++xs++post).length * k) noF (rowHG k pre xs post) .undef hmem hn hm (by omega) (by simp) (fun i cs' hi=>?_) ?_
 · rw [List.getElem?_map] at hi
   cases hc:keep[i]? with
   | none=>simp [hc] at hi
   | some cs0=>
    simp only [hc,Option.map_some,Option.some.injEq] at hi
    subst hi
    refine ⟨cs0,rfl,by simp [PV.frzs_map],fun j p' hp=>?_⟩
    rw [PV.frzs_get] at hp
    cases hq:cs0[j]? with
    | none=>simp [hq] at hp
    | some p0=>simp only [hq,Option.map_some,Option.some.injEq] at hp;exact ⟨p0,rfl,.inr hp.symm⟩
 · intro S O m a w h r hr O'
   have hbn:s.mem[n]? = some (flat (pre++xs++post)):=by rw [hmem,List.getElem?_append_right (by omega)];simp [hn]
   refine ⟨fun off l=>.undef _ _,fun off c k' ad cap l hc hl h0 ha=>?_,fun l=>.undef _ _⟩
   unfold rowHG
   by_cases ho:off=rlo k pre xs post∧c=xs.length
   · obtain ⟨rfl,rfl⟩:=ho
     rw [if_pos ⟨rfl,rfl⟩]
     have hlt:∀ (i j:Nat) x y,xs[i]? = some x→x.cells[j]? = some y→ad=some ⟨r,pre.length * k,none⟩∧pre.length * k + (i * k + j) < (pre++xs++post).length * k∧∃ v,w.cell? ⟨r,pre.length * k + (i * k + j),none⟩=some v∧v.oneCell'=true∧Rd w S y v:=fun i j x y hi hj=>by
      have hne:xs ≠ []:=by rintro rfl;simp at hi
      have hpos:0 < xs.length:=List.length_pos_iff.2 hne
      have hne2:pre++xs++post ≠ []:=by simp [hne]
      have hi2:(pre++xs++post)[pre.length + i]? = some x:=row_at hi
      have hg:=flatD_get _ hk (pre.length + i) j x y hi2 hj
      obtain ⟨gl,_⟩:=PV.toDs_get _ _ (flat_toDs (pre++xs++post))
      have hl2:=(lG hg)
      rw [gl,hfl] at hl2
      have hidx:(pre.length + i) * k + j=pre.length * k + (i * k + j):=by rw [Nat.add_mul];omega
      rw [hidx] at hg hl2
      exact ⟨(ha (by omega)).trans (by rw [rofs_rlo hne2]),hl2,Rd.ofBlock h hbn hr (by intro hc;have:=congrArg List.length hc;rw [hfl,List.length_nil] at this;omega) (flat_toDs _) _ y hg⟩
     have hkx:∀ x ∈ xs,x.cells.length=k:=fun x hx=>hk x (by simp [hx])
     refine .d _ _ _ (.sl xs ad cap k hc hl hkx (fun hn=>?_) (fun ad' had i x j y hi hj=>?_) (fun ad' i x j y v had hi hj hv=>?_))
     · by_cases hx:xs=[]
       · exact hx
       · have:=ha (by have:=List.length_pos_iff.2 hx;omega);rw [hn] at this;cases this
     · obtain ⟨h1,h2,v,h3,h4,_⟩:=hlt i j x y hi hj
       rw [had] at h1;injection h1 with h1;subst h1
       exact ⟨rfl,.inr ⟨rfl,h2⟩,v,h3,h4⟩
     · obtain ⟨h1,h2,v',h3,_,h5⟩:=hlt i j x y hi hj
       rw [had] at h1;injection h1 with h1;subst h1
       rw [h3] at hv;injection hv with hv;subst hv
       exact h5.frame (fun _ _ _=>rfl) (fun _ _ _ _ h=>h) (fun _ _ h=>.inl h)
   · rw [if_neg ho];exact .undef _ _
theorem gFrG (pre xs post:List D) (k:Nat) {K:Ctx} {fr:List Fr} {c:Cf} {Q:Exit→GS→Prop} {sl sl':List (Nat×PV)} {keep keep':List (List PV)} (n:Nat) (hn:keep.length=n) (hk:∀ x ∈ pre++xs++post,x.cells.length=k) (hk0:0 < k) (hm:K.m0.length≤n)
 (hsl:(sl.map fun x=>(x.1,PV.frz n noF (rowHG k pre xs post) .undef x.2))=sl') (hkp:keep.map (PV.frzs n noF (rowHG k pre xs post) .undef)=keep') (hc:goes c=true) (hg:GF K fr c Q ⟨sl',keep'⟩):GF K fr c Q ⟨sl,keep++[flat (pre++xs++post)]⟩:=by
 subst hsl;subst hkp
 exact gLe (Le_freezeG n rfl hn hk hk0 hm) hg hc
def Gj (jn:Nat) (P:Program) (f:FuncId) (args:List PV) (mem:List (List PV)) (R:PV→List (List PV)→Prop):Prop:=Fok P f∧GCallJ jn P f args mem R
variable {f:FuncId} {args:List PV} {mem:List (List PV)}
theorem Gm.j {P:Program} {mem':List (List PV)} {r:PV} (jn:Nat) (h:Gm P f args mem r mem'):Gj jn P f args mem (fun q m=>q=r∧m=mem'):=⟨h.1,h.2.j jn⟩
theorem Gj.mono {jn:Nat} {P:Program} {R R':PV→List (List PV)→Prop} (h:Gj jn P f args mem R) (hr:∀ r m,R r m→R' r m):Gj jn P f args mem R':=⟨h.1,h.2.mono hr⟩
def stJ (jn:Nat) (sel:List Nat) (sl:List (Nat×PV)) (mem:List (List PV)) (t:Nat) (r:PV) (mem':List (List PV)):GS:=
 ⟨(t,r.ren (renN sel mem.length)) :: sansL (sel.drop jn) sl,setAll mem sel ((mem'.take sel.length).map (PV.rens (renN sel mem.length)))++(mem'.drop sel.length).map (PV.rens (renN sel mem.length))⟩
theorem gJ {fr:List Fr} {ops:Array Oper} {Q:Exit→GS→Prop} {i t jn:Nat} {l:List Nat} {sl:List (Nat×PV)} {mem0:List (List PV)} {args0:List PV} {R:PV→List (List PV)→Prop} (sel:List Nat)
 (h:cms ops.toList K.n i sl=some (t,f,args)) (hc:Gj jn K.P f args0 mem0 R) (hargs:args=PV.rens (fun b=>sel.getD b 0) args0) (hnd:sel.Nodup) (hsel:∀ b ∈ sel,b < mem.length)
 (hmem:sel.map (fun b=>mem.getD b [])=mem0.map (PV.rens (fun b=>sel.getD b 0))) (hra:PV.refsBs sel.length args0=true) (hrm:mem0.all (PV.refsBs sel.length)=true) (hjK:∀ b ∈ sel.drop jn,K.m0.length≤b) (hno:nrefLM (sel.drop jn) sel 0 mem=true)
 (hg:∀ r mem',R r mem'→sel.length≤mem'.length→GF K fr (.ops ops l) Q (stJ jn sel sl mem t r mem')):GF K fr (.ops ops (i :: l)) Q ⟨sl,mem⟩:=by
 refine toO ?_
 obtain ⟨o,ar,tys,fx,a,b,hoi,hdt,ht,hgd,hop,hcal⟩:=cms_of h
 obtain ⟨h1,h2⟩:=hcal mem
 obtain ⟨⟨fn,hf,hb,hn⟩,hp⟩:=hc
 exact GOps_callJ (xs:=ar.toList) jn sel args0 mem0 hoi (by simpa using hop) hdt hgd h1 (h2.trans hargs) hnd hsel hmem hra hrm hf hb hn ht hp hjK hno (fun r' m' hr hl=>ofO (hg r' m' hr hl))
theorem gApG {fr:List Fr} {ops:Array Oper} {Q:Exit→GS→Prop} {l:List Nat} {i t u b off n:Nat} {y:Operand} {ty e rt:TypeId} {pos:String} {af:Array Edge} {k by_:Nat} {pre xs post ys:List D} {z:Value} {sl:List (Nat×PV)}
 (ho:ops[i]? = some ⟨some t,.call ⟨.builtin .append,#[.tmp u,y],#[ty,ty]⟩,rt,pos,af,none⟩)
 (hu:(GS.mk sl mem).get u=some (.rsl b off n k)) (hn:n=xs.length) (hoff:off=rlo k pre xs post) (hmem:mem[b]? = some (flat (pre++xs++post))) (hbm:K.m0.length≤b) (hno:nrefM b 0 mem=true) (hy:((GS.mk sl mem).ev y).list? = some ys) (hne:ys ≠ []) (hkx:∀ x ∈ pre++xs++post,x.cells.length=k) (hk:∀ y ∈ ys,y.cells.length=k) (hk0:0 < k)
 (hun:K.P.underlying ty=some (.slice e)) (hinf:(K.P.info? e).map (fun i=>(i.zero,i.size,i.bytes))=some (some z,k,by_)) (hzs:z.cells.size=k) (hz1:z.cells.all (·.oneCell')=true)
 (hlen:xs.length + ys.length≤lim) (hB:(xs.length + ys.length) * by_≤lim) (ht:t < K.n)
 (hg:∀ pre' post',(∀ x ∈ pre'++(xs++ys)++post',x.cells.length=k)→GF K fr (.ops ops l) Q ⟨(t,.rsl b (rlo k pre' (xs++ys) post') (xs.length + ys.length) k) :: sansB b sl,mem.set b (flat (pre'++(xs++ys)++post'))⟩):GF K fr (.ops ops (i :: l)) Q ⟨sl,mem⟩:=
 gylE ho rfl (Y_appendG (s:=⟨sl,mem⟩) hu hn hoff hmem hbm hno hy hne hkx hk hk0 hun hinf hzs hz1 hlen hB ht) fun s' ⟨pre',post',h1,h2⟩=>by subst h2;exact hg pre' post' h1
end
section
def entsOf (i:Nat) (fs:List (Nat×Nat×PV)):List (Nat×PV):=(fs.filter fun x=>Nat.beq x.1 i).map (·.2)
theorem entsOf_mem {i:Nat} {fs:List (Nat×Nat×PV)} {x:Nat×PV}:x ∈ entsOf i fs ↔ (i,x) ∈ fs:=by
 unfold entsOf
 rw [List.mem_map]
 constructor
 · rintro ⟨⟨j,y⟩,hy,rfl⟩
   obtain ⟨h1,h2⟩:=List.mem_filter.1 hy
   have:j=i:=Nat.eq_of_beq_eq_true h2
   subst this;exact h1
 · intro h
   exact ⟨(i,x),List.mem_filter.2 ⟨h,Nat.beq_refl i⟩,rfl⟩
def ancs (ops:Array Oper):Nat→List Nat→List Nat
 | 0,l=>l
 | n + 1,l=>ancs ops n (l++l.flatMap (depsOf ops))
theorem ancs_of {ops:Array Oper} {b:Nat→Bool} (hv:Valid ops b):∀ (n:Nat) (l:List Nat),(∀ x ∈ l,b x=true)→∀ x ∈ ancs ops n l,b x=true
 | 0,_,h,x,hx=>h x hx
 | n + 1,l,h,x,hx=>ancs_of hv n _ (fun y hy=>by
  rcases List.mem_append.1 hy with hy | hy
  · exact h y hy
  · obtain ⟨z,hz,hyz⟩:=List.mem_flatMap.1 hy
    exact hv z (h z hz) y hyz) x hx
def dsK (kl:List (Nat×Nat)) (ops:Array Oper) (i:Nat):List Nat:=(depsOf ops i).filter fun d=>match kl.lookup d with | none=>true | some m=>Nat.beq m i || memN i (ancs ops 7 [m])
theorem dsK_mem {kl:List (Nat×Nat)} {ops:Array Oper} {i d:Nat} (h:d ∈ dsK kl ops i):d ∈ depsOf ops i∧∀ b:Nat→Bool,b i=false→(∀ j ∈ depsOf ops i,b j=true)→Valid ops b→alive kl b d=true:=by
 obtain ⟨h1,h2⟩:=List.mem_filter.1 h
 refine ⟨h1,fun b hbi hd hv=>?_⟩
 unfold alive
 rw [hd d h1]
 cases hk:kl.lookup d with
 | none=>rfl
 | some m=>
  rw [hk] at h2
  dsimp only at h2
  rw [Bool.or_eq_true] at h2
  have hbm:b m=false:=by
   cases hb:b m with
   | false=>rfl
   | true=>
    rcases h2 with h2 | h2
    · rw [Nat.eq_of_beq_eq_true h2,hbi] at hb;cases hb
    · have:=ancs_of hv 7 [m] (fun x hx=>by rw [List.mem_singleton] at hx;subst hx;exact hb) i (memN_of h2)
      rw [this] at hbi;cases hbi
  show (true && !(b m))=true
  rw [hbm];rfl
theorem pick_dsK {kl:List (Nat×Nat)} {ops:Array Oper} {i:Nat} {fs:List (Nat×Nat×PV)} (b:Nat→Bool) (hbi:b i=false) (hd:∀ j ∈ depsOf ops i,b j=true) (hv:Valid ops b):∀ x ∈ pick fs (dsK kl ops i),∃ d ∈ depsOf ops i,(d,x) ∈ fs∧alive kl b d=true:=fun x hx=>by
 obtain ⟨d,h1,h2⟩:=pick_mem hx
 obtain ⟨g1,g2⟩:=dsK_mem h1
 exact ⟨d,g1,h2,g2 b hbi hd hv⟩
def mx (X S:Nat) (m0 m1 m2:List (List PV)) (b:Nat→Bool):List (List PV):=cond (b X) (cond (b S) m2 m1) m0
def TabOp (K:Ctx) (ops:Array Oper) (kl:List (Nat×Nat)) (base:List (Nat×PV)) (fs:List (Nat×Nat×PV)) (X S:Nat) (m0 m1 m2:List (List PV)) (i:Nat):Prop:=
 ∀ (b:Nat→Bool) (rest:List (Nat×PV)),b i=false→(∀ j ∈ depsOf ops i,b j=true)→Valid ops b→
  GOps K ops (fun e s'=>e=.normal∧s'=⟨entsOf i fs++(pick fs (dsK kl ops i)++base++rest),mx X S m0 m1 m2 (upd b i)⟩) [i] ⟨pick fs (dsK kl ops i)++base++rest,mx X S m0 m1 m2 b⟩
section
variable {K:Ctx} {ops:Array Oper} {kl:List (Nat×Nat)} {base pre:List (Nat×PV)} {fs:List (Nat×Nat×PV)} {X S:Nat} {m0 m1 m2:List (List PV)} {i t:Nat} {p:PV}
theorem mx_upd {b:Nat→Bool} (hX:i ≠ X) (hS:i ≠ S):mx X S m0 m1 m2 (upd b i)=mx X S m0 m1 m2 b:=by
 have h:∀ j,i ≠ j→upd b i j=b j:=fun j hj=>by
  unfold upd
  rw [beq_no (fun e=>hj e.symm)];rfl
 unfold mx
 rw [h X hX,h S hS]
theorem tQ (hs:pick fs (dsK kl ops i)++base=pre) (he:entsOf i fs=[(t,p)]) (hX:Nat.beq i X=false) (hS:Nat.beq i S=false)
 (h0:∀ rest (Q':Exit→GS→Prop),GF K [] (.ops ops []) Q' ⟨(t,p) :: (pre++rest),m0⟩→GF K [] (.ops ops [i]) Q' ⟨pre++rest,m0⟩)
 (h1:∀ rest (Q':Exit→GS→Prop),GF K [] (.ops ops []) Q' ⟨(t,p) :: (pre++rest),m1⟩→GF K [] (.ops ops [i]) Q' ⟨pre++rest,m1⟩)
 (h2:∀ rest (Q':Exit→GS→Prop),GF K [] (.ops ops []) Q' ⟨(t,p) :: (pre++rest),m2⟩→GF K [] (.ops ops [i]) Q' ⟨pre++rest,m2⟩):TabOp K ops kl base fs X S m0 m1 m2 i:=by
 subst hs
 intro b rest _ _ _
 have hx:i ≠ X:=fun e=>by rw [e,beq_yes] at hX;cases hX
 have hy:i ≠ S:=fun e=>by rw [e,beq_yes] at hS;cases hS
 rw [mx_upd hx hy,he]
 unfold mx
 cases b X<;>cases b S<;>first
  | exact ofO (fr:=[]) (h0 rest _ (toO (fr:=[]) (gN ⟨rfl,rfl⟩)))
  | exact ofO (fr:=[]) (h1 rest _ (toO (fr:=[]) (gN ⟨rfl,rfl⟩)))
  | exact ofO (fr:=[]) (h2 rest _ (toO (fr:=[]) (gN ⟨rfl,rfl⟩)))
theorem tA (hs:pick fs (dsK kl ops i)++base=pre) (he:entsOf i fs=[(t,p)]) (hX:Nat.beq i X=false) (hS:Nat.beq i S=false) (ha:memN i (ancs ops 7 [X])=true)
 (h0:∀ rest (Q':Exit→GS→Prop),GF K [] (.ops ops []) Q' ⟨(t,p) :: (pre++rest),m0⟩→GF K [] (.ops ops [i]) Q' ⟨pre++rest,m0⟩):TabOp K ops kl base fs X S m0 m1 m2 i:=by
 subst hs
 intro b rest hbi _ hv
 have hx:i ≠ X:=fun e=>by rw [e,beq_yes] at hX;cases hX
 have hy:i ≠ S:=fun e=>by rw [e,beq_yes] at hS;cases hS
 rw [mx_upd hx hy,he]
 have hb:b X=false:=by
  cases hbX:b X with
  | false=>rfl
  | true=>
   have:=ancs_of hv 7 [X] (fun x hx=>by rw [List.mem_singleton] at hx;subst hx;exact hbX) i (memN_of ha)
   rw [this] at hbi;cases hbi
 unfold mx
 rw [hb]
 exact ofO (fr:=[]) (h0 rest _ (toO (fr:=[]) (gN ⟨rfl,rfl⟩)))
theorem tB (hs:pick fs (dsK kl ops i)++base=pre) (he:entsOf i fs=[(t,p)]) (hX:Nat.beq i X=false) (hS:Nat.beq i S=false) (ha:memN X (depsOf ops i)=true) (hb:memN i (ancs ops 5 [S])=true)
 (h1:∀ rest (Q':Exit→GS→Prop),GF K [] (.ops ops []) Q' ⟨(t,p) :: (pre++rest),m1⟩→GF K [] (.ops ops [i]) Q' ⟨pre++rest,m1⟩):TabOp K ops kl base fs X S m0 m1 m2 i:=by
 subst hs
 intro b rest hbi hd hv
 have hx:i ≠ X:=fun e=>by rw [e,beq_yes] at hX;cases hX
 have hy:i ≠ S:=fun e=>by rw [e,beq_yes] at hS;cases hS
 rw [mx_upd hx hy,he]
 have hbS:b S=false:=by
  cases hbS:b S with
  | false=>rfl
  | true=>
   have:=ancs_of hv 5 [S] (fun x hx=>by rw [List.mem_singleton] at hx;subst hx;exact hbS) i (memN_of hb)
   rw [this] at hbi;cases hbi
 unfold mx
 rw [hd X (memN_of ha),hbS]
 exact ofO (fr:=[]) (h1 rest _ (toO (fr:=[]) (gN ⟨rfl,rfl⟩)))
theorem tS (hs:pick fs (dsK kl ops S)++base=pre) (he:entsOf S fs=[]) (hX:Nat.beq S X=false) (ha:memN X (depsOf ops S)=true)
 (h1:∀ rest (Q':Exit→GS→Prop),GF K [] (.ops ops []) Q' ⟨pre++rest,m2⟩→GF K [] (.ops ops [S]) Q' ⟨pre++rest,m1⟩):TabOp K ops kl base fs X S m0 m1 m2 S:=by
 subst hs
 intro b rest hbi hd hv
 have hx:¬ X=S:=fun e=>by rw [e,beq_yes] at hX;cases hX
 have hu:upd b S S=true:=by unfold upd;rw [beq_yes];rfl
 have hu2:upd b S X=true:=by unfold upd;rw [beq_no hx];exact hd X (memN_of ha)
 rw [he]
 unfold mx
 rw [hu,hu2,hd X (memN_of ha),hbi]
 exact ofO (fr:=[]) (h1 rest _ (toO (fr:=[]) (gN ⟨rfl,rfl⟩)))
end
def eachN (P:Nat→Prop):List Nat→Prop
 | []=>True
 | i :: l=>P i∧eachN P l
theorem eachN_mem {P:Nat→Prop}:∀ {l:List Nat},eachN P l→∀ i ∈ l,P i
 | [],_,i,h=>by cases h
 | j :: l,h,i,hi=>by
  rcases List.mem_cons.1 hi with rfl | hi
  · exact h.1
  · exact eachN_mem h.2 i hi
theorem mkK_append (kl:List (Nat×Nat)) (b:Nat→Bool) (a c:List (Nat×Nat×PV)):mkK kl b (a++c)=mkK kl b a++mkK kl b c:=List.map_append
theorem gTab {A:Type} (X S:Nat) (kl:List (Nat×Nat)) (good:PV→Bool) (es1 es2:List (Nat×Nat×PV)) (tX:Nat) (pv:A→PV) (m1 m2:A→List (List PV)) (a0:A) (nums:List Nat) {K:Ctx} {fr:List Fr} {id:Nat} {ops:Array Oper} {sl base:List (Nat×PV)} {m0:List (List PV)} {ds:List Nat} {Q:Exit→GS→Prop}
 (hb:baseK ops.toList sl=some (ds,base)) (hm:K.P.follows .mixedOrders=true) (hdep:((List.range ops.size).all fun i=>(depsOf ops i).all fun d=>Nat.blt d i)=true) (hXn:Nat.blt X ops.size=true) (hnums:((List.range ops.size).all fun i=>Nat.beq i X || memN i nums)=true)
 (hall:((es1++es2).map (·.1)).all (fun i=>!Nat.beq i X)=true) (hnd:nodupB (tX :: (es1++es2).map (·.2.1))=true) (hbase:(base.map (·.1)).all (fun t=>!(tX :: (es1++es2).map (·.2.1)).contains t)=true) (hkX:(kl.lookup X).isNone=true) (hfi:((es1++es2).map (·.1)).all (fun i=>Nat.blt i ops.size)=true)
 (hgd:(es1++es2).all (fun e=>good e.2.2 || (match kl.lookup e.1 with | some m=>Nat.beq m X | none=>false))=true) (hgb:base.all (fun x=>good x.2)=true) {preX:List (Nat×PV)} (hsX:pick (es1++es2) (dsK kl ops X)++base=preX)
 (hX:∀ rest (Q':Exit→GS→Prop),(∀ a,GF K [] (.ops ops []) Q' ⟨(tX,pv a) :: keepG good (preX++rest),m1 a⟩)→GF K [] (.ops ops [X]) Q' ⟨preX++rest,m0⟩)
 (hst:∀ a,eachN (TabOp K ops kl base (es1++(X,tX,pv a) :: es2) X S m0 (m1 a) (m2 a)) nums)
 (hSn:Nat.ble S ops.size=true) (hSX:(Nat.beq S ops.size || memN X (depsOf ops S))=true) (hSm:∀ a,Nat.beq S ops.size=true→m1 a=m2 a)
 (hq:∀ a,GF K fr (.leave .normal) Q ⟨((es1++(X,tX,pv a) :: es2).filter fun x=>(kl.lookup x.1).isNone).map (·.2)++base,m2 a⟩):GF K fr (.code (.region id ops true)) Q ⟨sl,m0⟩:=by
 obtain ⟨ds',h1⟩:=dstsK_any hb
 have h2:=fltK_of ds' h1
 injection h2 with h2;injection h2 with h3 h4
 subst h3
 have hXn':X < ops.size:=blt_of hXn
 have hnd':∀ a,((es1++(X,tX,pv a) :: es2).map (·.2.1)).Nodup:=fun a=>by
  have h:=nodupB_iff hnd
  rw [List.map_append,List.map_cons]
  rw [List.map_append] at h
  exact (List.perm_middle).symm.nodup_iff.1 h |> fun h=>h
 have hnd0:((es1++es2).map (·.2.1)).Nodup:=(List.nodup_cons.1 (nodupB_iff hnd)).2
 have hmemt:∀ a t,t ∈ (es1++(X,tX,pv a) :: es2).map (·.2.1) ↔ t ∈ tX :: (es1++es2).map (·.2.1):=fun a t=>by
  simp only [List.map_append,List.map_cons,List.mem_append,List.mem_cons]
  constructor
  · rintro (h | h | h)
    · exact .inr (.inl h)
    · exact .inl h
    · exact .inr (.inr h)
  · rintro (h | h | h)
    · exact .inr (.inl h)
    · exact .inl h
    · exact .inr (.inr h)
 have hbase':∀ a,∀ x ∈ base,x.1 ∉ (es1++(X,tX,pv a) :: es2).map (·.2.1):=fun a x hx=>by
  rw [hmemt a]
  have:=List.all_eq_true.1 hbase x.1 (List.mem_map_of_mem hx)
  simpa using this
 have hne:∀ e ∈ es1++es2,e.1 ≠ X:=fun e he h=>by
  have:=List.all_eq_true.1 hall e.1 (List.mem_map_of_mem he)
  rw [h,beq_yes] at this;cases this
 have hinX:∀ a,∀ e ∈ es1++(X,tX,pv a) :: es2,e=(X,tX,pv a)∨e ∈ es1++es2:=fun a e he=>by
  rcases List.mem_append.1 he with h | h
  · exact .inr (List.mem_append_left _ h)
  · rcases List.mem_cons.1 h with h | h
    · exact .inl h
    · exact .inr (List.mem_append_right _ h)
 have hinY:∀ a,∀ e ∈ es1++es2,e ∈ es1++(X,tX,pv a) :: es2:=fun a e he=>by
  rcases List.mem_append.1 he with h | h
  · exact List.mem_append_left _ h
  · exact List.mem_append_right _ (List.mem_cons_of_mem _ h)
 have hkX':kl.lookup X=none:=Option.isNone_iff_eq_none.1 hkX
 have hdead:∀ a b,b X=false→mkK kl b (es1++(X,tX,pv a) :: es2)=mkK kl b es1++(tX,.undef) :: mkK kl b es2:=fun a b hb=>by
  rw [mkK_append]
  show _++(tX,cond (alive kl b X) (pv a) .undef) :: mkK kl b es2=_
  have:alive kl b X=false:=by unfold alive;rw [hb];rfl
  rw [this];rfl
 refine G_tab (A:=A) X (fun _=>True) (fun a=>es1++(X,tX,pv a) :: es2) (fun a b=>mx X S m0 (m1 a) (m2 a) b) kl _ a0 hm (fun i hi d hd=>?_) hXn' (Le_slots (by unfold mx noB;rfl) fun t p hp=>.inl ?_) (fun a a' b hb=>⟨by rw [hdead a b hb,hdead a' b hb],by unfold mx;rw [hb];rfl⟩) hnd' hbase' (fun a i hi hiX=>?_) (fun b hbX hbd hbv=>?_) (fun a _=>?_)
 · have h1:=List.all_eq_true.1 hdep i (List.mem_range.2 hi)
   have h2:=List.all_eq_true.1 h1 d hd
   simpa using h2
 · subst h4
   exact filter_lookup (fun k=>!ds'.contains k) _ t p hp
 · have hmem:i ∈ nums:=by
    have:=List.all_eq_true.1 hnums i (List.mem_range.2 hi)
    rw [beq_no hiX] at this
    exact memN_of (by simpa using this)
   exact ⟨_,_,fun b rest g1 g2 g3 _=>eachN_mem (hst a) i hmem b rest g1 g2 g3,fun x hx=>entsOf_mem.1 hx,fun x hx=>entsOf_mem.2 hx,pick_dsK⟩
 · have hbl:∀ {t p},(base.lookup t)=some p→t ∉ (es1++(X,tX,pv a0) :: es2).map (·.2.1):=fun h=>hbase' a0 _ (lookup_mem' _ _ _ h)
   have hpk:pick (es1++es2) (dsK kl ops X)=pick (es1++es2) (dsK kl ops X):=rfl
   have hslX:∀ x ∈ pick (es1++es2) (dsK kl ops X),∃ d ∈ depsOf ops X,(d,x) ∈ es1++(X,tX,pv a0) :: es2∧alive kl b d=true:=fun x hx=>by
    obtain ⟨d,h1,h2,h3⟩:=pick_dsK b hbX hbd hbv x hx
    exact ⟨d,h1,hinY a0 _ h2,h3⟩
   have hin:=tab_in (K:=K) (kl:=kl) (mem:=mx X S m0 (m1 a0) (m2 a0) b) (hnd' a0) hbl hbX hbd hslX
   have hm0:mx X S m0 (m1 a0) (m2 a0) b=m0:=by unfold mx;rw [hbX];rfl
   rw [hm0] at hin ⊢
   refine GOps_le hin ?_
   rw [hsX]
   refine ofO (fr:=[]) (hX (mkK kl b (es1++(X,tX,pv a0) :: es2)) _ fun a=>toO (fr:=[]) (gN ⟨rfl,a,trivial,?_⟩))
   have hu:upd b X X=true:=by unfold upd;rw [beq_yes];rfl
   have hbS:¬ Nat.beq S ops.size=true→mx X S m0 (m1 a) (m2 a) (upd b X)=m1 a:=fun hS=>by
    unfold mx
    rw [hu]
    have hXS:X ∈ depsOf ops S:=memN_of (by rw [Bool.or_eq_true] at hSX;exact hSX.resolve_left hS)
    have hSne:¬ S=X:=fun e=>by
     rw [e] at hXS
     have h1:=List.all_eq_true.1 hdep X (List.mem_range.2 hXn')
     have h2:=List.all_eq_true.1 h1 X hXS
     have h3:X < X:=blt_of h2
     omega
    have hbSf:upd b X S=false:=by
     unfold upd
     rw [beq_no hSne]
     cases hb:b S with
     | false=>rfl
     | true=>exact absurd (hbv S hb X hXS) (by rw [hbX];decide)
    rw [hbSf];rfl
   have hmm:mx X S m0 (m1 a) (m2 a) (upd b X)=m1 a:=by
    by_cases hS:Nat.beq S ops.size=true
    · unfold mx
      rw [hu,← hSm a hS]
      cases upd b X S<;>rfl
    · exact hbS hS
   rw [hmm,← hsX]
   refine tab_kill good (hnd' a0) (hnd' a) (hbase' a0) (hbase' a) hbd hbX hkX' (List.mem_append_right _ List.mem_cons_self) (fun {u q} hu=>?_) (fun e he heX=>?_) (fun x hx=>List.all_eq_true.1 hgb x hx) hslX
   · rcases hinX a _ hu with h | h
     · injection h with _ h;injection h with h _;exact h.symm
     · exact absurd rfl (hne _ h)
   · rcases hinX a _ he with h | h
     · rw [h] at heX;exact absurd rfl heX
     · refine ⟨hinY a0 _ h,?_⟩
       have:=List.all_eq_true.1 hgd e h
       rw [Bool.or_eq_true] at this
       rcases this with h1 | h1
       · exact .inl h1
       · right
         cases hk:kl.lookup e.1 with
         | none=>rw [hk] at h1;cases h1
         | some m=>rw [hk] at h1;rw [Nat.eq_of_beq_eq_true h1]
 · refine ⟨_,Le_slots (s':=⟨((es1++(X,tX,pv a) :: es2).filter fun x=>(kl.lookup x.1).isNone).map (·.2)++base,m2 a⟩) ?_ (fun t p hp=>.inl (alive_end (hnd' a) (fun x hx=>?_) t p hp (hbase' a))),hq a⟩
   · have hX1:allB ops.size X=true:=hXn
     unfold mx
     rw [hX1]
     by_cases hS:Nat.beq S ops.size=true
     · rw [hSm a hS]
       cases allB ops.size S<;>rfl
     · have:allB ops.size S=true:=by
        show Nat.blt S ops.size=true
        rw [Nat.blt_eq]
        have:=Nat.le_of_ble_eq_true hSn
        have h2:S ≠ ops.size:=fun e=>hS (by rw [e];exact beq_yes _)
        omega
       rw [this];rfl
   · rcases hinX a _ hx with h | h
     · rw [h];exact hXn'
     · exact blt_of (List.all_eq_true.1 hfi x.1 (List.mem_map_of_mem h))
end
section
theorem Y_buildSliceR {K:Ctx} {s:GS} {t n:Nat} {ty e rt:TypeId} {parts:Array (Nat×Operand)} {xs:List Operand} {pos:String} {af:Array Edge} {g:Option (Nat×Bool)} {z:Value} {by_:Nat} {ps:List (Nat×Nat)}
 (hu:K.P.underlying ty=some (.slice e)) (hinf:(K.P.info? e).map (fun i=>(i.zero,i.size,i.bytes))=some (some z,1,by_)) (hp:parts.toList=(List.range xs.length).zip xs) (hn:xs.length=n)
 (hzc:z.cells.size=1) (hps:xs.map s.ev=ps.map fun x=>.ref x.1 x.2) (hsz:n≤16777216) (hn0:n ≠ 0) (ht:t < K.n):
 Yld K ⟨some t,.buildSlice ty n parts,rt,pos,af,g⟩ s ⟨(t,.rsl s.mem.length 0 n 1) :: s.slots,s.mem++[ps.map fun x=>.ref x.1 x.2]⟩:=by
 rintro a w ⟨S,O,m,h⟩
 obtain ⟨inf,hin,hiz,his,hib⟩:∃ inf,K.P.info? e=some inf∧inf.zero=some z∧inf.size=1∧inf.bytes=by_:=by
  cases hq:K.P.info? e with
  | none=>simp [hq] at hinf
  | some i=>simp [hq] at hinf;exact ⟨i,rfl,hinf.1,hinf.2.1,hinf.2.2⟩
 have hpl:ps.length=xs.length:=by have:=congrArg List.length hps;simpa using this.symm
 have hval:∀ (i:Nat) x,xs[i]? = some x→∃ b o r,ps[i]? = some (b,o)∧m[b]? = some r∧a.eval x=.pointer (some ⟨r,o,none⟩):=fun i x hi=>by
  have h1:(xs.map s.ev)[i]? = some (s.ev x):=by rw [List.getElem?_map,hi];rfl
  rw [hps,List.getElem?_map] at h1
  cases hq:ps[i]? with
  | none=>rw [hq] at h1;cases h1
  | some q=>
   obtain ⟨b,o⟩:=q
   rw [hq] at h1
   injection h1 with h1
   obtain ⟨l,hr⟩:=h.ev x
   rw [← h1] at hr
   generalize hv:a.eval x=v at hr
   cases hr with
   | ref _ _ _ r hm=>exact ⟨b,o,r,rfl,hm,rfl⟩
 have hvk:∀ v ∈ xs.map a.eval,v.cells.size=1:=fun v hv=>by
  obtain ⟨x,hx,rfl⟩:=List.mem_map.1 hv
  obtain ⟨i,hi⟩:=List.getElem?_of_mem hx
  obtain ⟨b,o,r,_,_,h3⟩:=hval i x hi
  rw [h3];rfl
 have hnk:n * 1=(xs.map a.eval).length * 1:=by simp [hn]
 have hflen:=flat_len (k:=1) (xs.map a.eval) hvk
 have hfill:∀ cells:Array Value,cells.size=n * 1→Instr.fill (fun i=>some (i * 1,1)) cells (parts.toList.map fun x=>(x.1,a.eval x.2))=some ((xs.map a.eval).flatMap fun v=>v.cells.toList).toArray:=fun cells hc=>by
  have h1:(parts.toList.map fun x=>(x.1,a.eval x.2))=(List.range' 0 (xs.map a.eval).length).zip (xs.map a.eval):=by
   rw [hp,List.zip_map_right,List.length_map,List.range_eq_range'];rfl
  rw [h1,fill_seq _ 0 cells hvk (by simp [hc,hn])]
  congr 2
  unfold splice
  rw [Nat.zero_mul,Nat.zero_add,hflen,← hnk,List.take_zero,List.nil_append,List.drop_of_length_le (by simp [hc]),List.append_nil]
 have hzv:(zeroValue e).run K.P w=.ok z w:=by simp [zeroValue,typeInfo,hin,hiz]
 have hrun:(Instr.buildSlice ty n (parts.map fun x=>(x.1,a.eval x.2))).run K.P w=
  .ok (.slice (some ⟨w.heap.size,0,none⟩) n n) (w.alloc (.cells ((xs.map a.eval).flatMap fun v=>v.cells.toList).toArray e)):=by
  unfold Instr.buildSlice
  have hno:¬ (n * 1 > 2 ^ 24):=by simp;omega
  have hpm:(parts.map fun x=>(x.1,a.eval x.2)).toList=parts.toList.map fun x=>(x.1,a.eval x.2):=by simp
  simp only [Sem.run_bind,run_underlying hu,Result.andThen_ok,sizeOf,typeInfo,run_program,hin,Sem.run_pure,his]
  rw [if_neg hno]
  rw [if_neg (by omega)]
  simp only [Sem.run_bind,Sem.run_pure,Result.andThen_ok,hzv,pure_bind]
  rw [hpm,hfill _ (by simp)]
  simp [newRow,World.alloc_eq]
 have hexec:(execOp a.eval ⟨some t,.buildSlice ty n parts,rt,pos,af,g⟩).run K.P w=.ok (.value (.slice (some ⟨w.heap.size,0,none⟩) n n)) (w.alloc (.cells ((xs.map a.eval).flatMap fun v=>v.cells.toList).toArray e)):=by
  simp only [execOp]
  have:(parts.map fun x=>match x with | (i,x)=>(i,a.eval x))=parts.map fun x=>(x.1,a.eval x.2):=by congr 1
  simp [this,hrun]
 have hfl:((xs.map a.eval).flatMap fun v=>v.cells.toList)=xs.map a.eval:=by
  have:∀ l:List Operand,(∀ x ∈ l,(a.eval x).cells.toList=[a.eval x])→((l.map a.eval).flatMap fun v=>v.cells.toList)=l.map a.eval:=by
   intro l
   induction l with
   | nil=>intro _;rfl
   | cons x l ih=>
    intro hl
    rw [List.map_cons,List.flatMap_cons,hl x List.mem_cons_self,ih (fun y hy=>hl y (List.mem_cons_of_mem _ hy))];rfl
  refine this xs fun x hx=>?_
  obtain ⟨i,hi⟩:=List.getElem?_of_mem hx
  obtain ⟨b,o,r,_,_,h3⟩:=hval i x hi
  rw [h3];rfl
 rw [hfl] at hexec
 have hcell:∀ (j:Nat) v,(xs.map a.eval).toArray[j]? = some v→∃ b o r,ps[j]? = some (b,o)∧m[b]? = some r∧v=.pointer (some ⟨r,o,none⟩):=fun j v hj=>by
  rw [List.getElem?_toArray,List.getElem?_map] at hj
  cases hx:xs[j]? with
  | none=>rw [hx] at hj;cases hj
  | some x=>
   rw [hx] at hj
   injection hj with hj
   obtain ⟨b,o,r,h1,h2,h3⟩:=hval j x hx
   exact ⟨b,o,r,h1,h2,by rw [← hj,h3]⟩
 have henv:=h.env.alloc (xs.map a.eval).toArray e (ps.map fun x=>.ref x.1 x.2) (by simp [hpl]) (fun j v hj=>by
  obtain ⟨b,o,r,_,_,rfl⟩:=hcell j v hj;rfl) (fun j p v hp' hv=>by
  obtain ⟨b,o,r,h1,h2,rfl⟩:=hcell j v hv
  rw [List.getElem?_map,h1] at hp'
  injection hp' with hp'
  subst hp'
  exact ⟨O,[],fun _ _=>rfl,.ref _ _ _ r h2⟩) (by rw [PV.copies_map,List.map_map];rfl)
 refine ⟨_,_,hexec,S,_,_,henv,h.defers,by simp [Act.put,h.size],h.pre.trans (List.prefix_append _ _),fun i p hi=>?_⟩
 have hE:Ext S w (w.alloc (.cells (xs.map a.eval).toArray e)):=ext_alloc S w _ h.env.slt
 rw [getD_put _ _ _ _ (by rw [h.size];exact ht)]
 have hi':(s.set t (.rsl s.mem.length 0 n 1)).get i=some p:=hi
 rw [GS.get_set] at hi'
 by_cases hit:i=t
 · rw [if_pos hit] at hi' ⊢;injection hi' with hi';subst hi'
   refine .rsl _ _ _ _ _ _ n (Nat.le_refl _) (by unfold lim;omega) (fun h=>absurd h hn0) (fun _=>⟨w.heap.size,by rw [← h.env.mlen];simp,by rw [rofs_zero],(xs.map a.eval).toArray,e,?_,?_⟩)
   · exact heap_alloc_new' w _
   · rw [rofs_zero];simp [hn]
 · rw [if_neg hit] at hi' ⊢
   exact (h.slots i p hi').ext hE (fun _ _ h=>h) (fun b t q hb=>by rw [if_neg (Nat.ne_of_lt (h.env.olt b _ t hb))];exact hb) (fun b r hb=>by
    rw [List.getElem?_append_left (lG hb)];exact hb)
theorem sansL_nil (l:List (Nat×PV)):sansL [] l=l:=by
 unfold sansL
 induction l with
 | nil=>rfl
 | cons x l ih=>rw [List.map_cons,ih];rfl
theorem gNew {K:Ctx} {fr:List Fr} {ops:Array Oper} {Q:Exit→GS→Prop} {i t:Nat} {l:List Nat} {sl:List (Nat×PV)} {mem mem1 mem':List (List PV)} {f:FuncId} {args:List PV} {r r':PV}
 (h:cms ops.toList K.n i sl=some (t,f,args)) (hc:Gm K.P f args [] r mem1) (hargs:args=PV.rens (fun b=>([]:List Nat).getD b 0) args) (hra:PV.refsBs 0 args=true)
 (hr:r.ren (renN [] mem.length)=r') (hm:mem++mem1.map (PV.rens (renN [] mem.length))=mem') (hno:nrefLM [] [] 0 mem=true) (hg:GF K fr (.ops ops l) Q ⟨(t,r') :: sl,mem'⟩):GF K fr (.ops ops (i :: l)) Q ⟨sl,mem⟩:=by
 refine gJ (jn:=0) (R:=fun q m=>q=r∧m=mem1) [] h (hc.j 0) hargs .nil (fun b hb=>by cases hb) rfl hra rfl (fun b hb=>by cases hb) hno ?_
 rintro q m ⟨rfl,rfl⟩ _
 subst hr;subst hm
 unfold stJ
 rw [show List.drop 0 ([]:List Nat)=[] from rfl,sansL_nil]
 exact hg
theorem nrefLM_nil:∀ (mem:List (List PV)) (k:Nat),nrefLM [] [] k mem=true
 | [],_=>rfl
 | c :: r,k=>by
  simp only [nrefLM,List.all_nil,Bool.or_true,Bool.true_and]
  exact nrefLM_nil r (k + 1)
end
section
variable {w:World}
theorem wpSeqG {K:Ctx} {x y:Code} {Post:Exit→Act→World→Prop} {s:GS} {T:GS→Prop} {a:Act} (hat:At K s a w) (hG:G K x (fun e s'=>e=.normal∧T s') s) (h:∀ s' a' w',T s'→At K s' a' w'→y.wp K.P Post a' w'):(Code.seq x y).wp K.P Post a w:=
 wp_seq (wp_mono (hG a w hat) (by rintro e a' w' ⟨s',⟨rfl,hT⟩,hat'⟩;exact h s' a' w' hT hat'))
theorem At.cond {K:Ctx} {s:GS} {a:Act} {c:Operand} {b:Bool} (h:At K s a w) (hc:s.ev c=.d (.bool b)):a.eval c=.bool b:=by
 obtain ⟨S,O,m,hr⟩:=h
 exact rd_bool (hr.evd hc)
variable {S:Reg}
theorem ext_putObj {l:Nat} {o:Obj} (o':Obj) (ho:w.heap[l]? = some o) (hc:∀ vs el fz,o ≠ .cells vs el fz) (hc':∀ vs el fz,o' ≠ .cells vs el fz) (hS:∀ i,¬ S l i):Ext S w (w.putObj l o') where
 size:=by simp
 shape:=fun b vs el fz hb=>by
  have:b ≠ l:=by rintro rfl;rw [ho] at hb;injection hb with hb;exact hc _ _ _ hb
  exact ⟨vs,(World.putObj_heap_other this).trans hb,rfl⟩
 cell:=fun b i hb=>by
  have:b ≠ l:=by rintro rfl;exact hS i hb
  simp only [World.cell?,World.putObj_heap_other this]
 maps:=fun b es c hb hh=>by
  have:b ≠ l:=by rintro rfl;exact hS 0 hb
  exact (World.putObj_heap_other this).trans hh
variable {S0:Reg} {O0 O:Owns} {w0:World} {m:List Nat} {mem:List (List PV)}
theorem Env.putObj (h:Env S0 O0 w0 S O m mem w) {l:Nat} {o:Obj} (o':Obj) (hl:w0.heap.size≤l) (ho:w.heap[l]? = some o) (hc:∀ vs el fz,o ≠ .cells vs el fz) (hc':∀ vs el fz,o' ≠ .cells vs el fz) (hS:∀ i,¬ S l i) (hO:O l=none):Env S0 O0 w0 S O m mem (w.putObj l o'):=by
 have hE:=ext_putObj o' ho hc hc' hS
 refine ⟨h.ext.trans hE h.s0,fun b hb hob=>?_,fun b l' t i hb hob hi=>?_,h.s0,h.snew,h.sown,fun b i hb=>by simpa using h.slt b i hb,fun b l' t hb=>by simpa using h.olt b l' t hb,h.onew,h.mlen,fun i cs r hi hr hne=>?_⟩
 · rw [World.putObj_heap_other (by omega)];exact h.old b hb hob
 · rw [show (w.putObj l o').cell? ⟨b,i,none⟩=w.cell? ⟨b,i,none⟩ by simp only [World.cell?,World.putObj_heap_other (show b ≠ l by omega)]]
   exact h.part b l' t i hb hob hi
 · obtain ⟨h1,h2⟩:=h.mem i cs r hi hr hne
   have hrl:r ≠ l:=by rintro rfl;rw [hO] at h1;cases h1
   exact ⟨h1,h2.frame (World.putObj_heap_other hrl) hE (fun _ _ h=>h) (fun _ _ _ _ h=>h) (fun _ _ h=>h)⟩
theorem Env.allocd' (h:Env S0 O0 w0 S O m mem w) (o:Obj):Env S0 O0 w0 S O m mem (w.alloc o):=by
 have h1:Rep ⟨(default:Program),0,S0,O0,w0,m,[],[]⟩ S O m ⟨[],mem⟩ { tmps:=#[],defers:=[] } w:=⟨h,rfl,rfl,List.prefix_refl _,fun i p hp=>by cases hp⟩
 exact (h1.allocd o).env
theorem Env.apart (h:Env S0 O0 w0 S O m mem w) {l:Nat} (hl:l < w0.heap.size) (hS:∀ i,¬ S0 l i) (hO:O0 l=none):(∀ i,¬ S l i)∧O l=none∧w.heap[l]? = w0.heap[l]?:=by
 refine ⟨fun i hi=>?_,?_,h.old l hl hO⟩
 · rcases h.snew l i hi with h1 | h1 | ⟨l',t,h1,_⟩
   · exact hS i h1
   · omega
   · rw [hO] at h1;cases h1
 · cases hq:O l with
   | none=>rfl
   | some x=>
    obtain ⟨l',t⟩:=x
    rcases h.onew l l' t hq with h1 | ⟨l0,t0,h1,_⟩
    · omega
    · rw [hO] at h1;cases h1
end
section
variable {s:GS}
theorem fin_end {P:Program} {fn:Func} {n k jj:Nat} {rvs:List ResultVar} {R:PV→List (List PV)→Prop} {S0:Reg} {O0:Owns} {w0:World} {mm m:List Nat} {ds:List Deferred} {S:Reg} {O:Owns} {a:Act} {w:World} {e:Exit} (hres:fn.results=rvs.toArray) (hmm:mm.length=min jj k) (hr':Rep ⟨P,n,S0,O0,w0,mm,[],ds⟩ S O m s a w) (hfin:Fin P rvs k R e s):
 ∃ v r mem' O'',(results fn a.tmps).run P w=.ok v w∧R r mem'∧Env S0 O0 w0 S O'' (m.take mem'.length) mem' w∧k≤mem'.length∧mm <+: m.take mem'.length∧RP w S O'' (m.take mem'.length) [2] r v:=by
 rcases hfin.2 with ⟨ps,mem',hL,hlen,hms,hrf,hR⟩ | ⟨t,k',xs,mem',hrv,hst,hlen,hms,hR⟩
 · obtain ⟨v,hrun,hrp⟩:=hL.run hr' hres O
   exact ⟨v,_,mem',O,hrun,hR,hr'.env.less hms,hlen,List.prefix_take_iff.2 ⟨hr'.pre,by rw [hmm];omega⟩,hrp.take mem'.length hrf⟩
 · have hsl:=hr'.slots t _ hst
   have hres':fn.results=#[.tmp t]:=by rw [hres,hrv]
   refine ⟨a.tmps.getD t undef,_,mem',reo O (renTR t),by simp [results,hres'],hR,(hr'.env.less hms).relab (renTR t) (fun _=>if_neg (by simp)) (fun i j q=>if_neg (end_ne q j i t)),
    hlen,List.prefix_take_iff.2 ⟨hr'.pre,by rw [hmm];omega⟩,(hsl.move (l':=[2]) rfl (renTR t) (by simp [renTR])).take _ rfl⟩
def markD (D:Nat):List Deferred:=[{ target:=.collected D,args:=#[] }]
def EndM (K:Ctx) (rvs:List ResultVar) (k:Nat) (R:PV→List (List PV)→Prop) (e:Exit) (a:Act) (w:World):Prop:=
 (∃ s',Fin K.P rvs k R e s'∧At K s' a w)∨
 ∃ (D:Nat) (S1:Reg) (O1:Owns) (w1:World) (m1:List Nat) (mem1:List (List PV)) (s':GS),Fin K.P rvs k R e s'∧At ⟨K.P,K.n,S1,O1,w1,K.m0,[],markD D⟩ s' a w∧Env K.S0 K.O0 K.w0 S1 O1 m1 mem1 w1∧K.w0.heap.size≤D∧D < w1.heap.size∧w1.heap[D]? = some (.deferred (some []))∧O1 D=none∧∀ i,¬ S1 D i
theorem gcall_marks (jj:Nat) {P:Program} {f:FuncId} {fn:Func} {c:Code} {args:List PV} {mem:List (List PV)} {R:PV→List (List PV)→Prop} (n:Nat) (rvs:List ResultVar) (slots:List (Nat×PV)) (k:Nat)
 (hf:P.funcs[f]? = some fn) (hb:fn.body=some c) (hn:fn.ntmps=n) (hal:args.length≤n) (hres:fn.results=rvs.toArray) (hsl:(List.range args.length).zip args=slots) (hk:mem.length=k)
 (h:∀ S0 O0 w0 m0,m0.length=min jj k→∀ a w,At ⟨P,n,S0,O0,w0,m0,[],[]⟩ ⟨slots,mem⟩ a w→c.wp P (EndM ⟨P,n,S0,O0,w0,m0,[],[]⟩ rvs k R) a w):GCallJ jj P f args mem R:=by
 subst hsl
 subst hk
 intro w S O m vals henv hvs hargs
 refine callsIn_wide.1 (callsIn_of_wp_marks (n:=3) hf hb trivial (wpIn_wide.2 ?_))
 have hrep:At ⟨P,n,S,O,w,m.take jj,[],[]⟩ ⟨(List.range args.length).zip args,mem⟩ { tmps:=vals++Array.replicate (fn.ntmps - vals.size) undef,defers:=[] } w:=by
  refine ⟨S,O,m,henv,rfl,by simp [hn];omega,List.take_prefix _ _,fun i p hp=>?_⟩
  have hp':args[i]? = some p:=by rw [← lookup_zip];exact hp
  have hlt:i < args.length:=(lG hp')
  have hlt2:i < vals.size:=by omega
  rw [Array.getD_eq_getD_getElem?,Array.getElem?_append_left hlt2,Array.getElem?_eq_getElem hlt2]
  exact hargs i p _ hp' (Array.getElem?_eq_getElem hlt2)
 have hmm:(m.take jj).length=min jj mem.length:=by rw [List.length_take,henv.mlen]
 refine wp_mono (h S O w (m.take jj) hmm _ _ hrep) ?_
 rintro e a' w' (⟨s',hfin,S',O',m',hr'⟩ | ⟨D,S1,O1,w1,m1,mem1,s',hfin,⟨S',O',m',hr'⟩,henv1,hD1,hD2,hD3,hD4,hD5⟩)
 · obtain ⟨v,r,mem',O'',hrun,hR,henv',hlen',hpre,hrp'⟩:=fin_end hres hmm hr' hfin
   have hd:a'.defers=[]:=hr'.defers
   have hL:LeavesInM Fence.wide 3 P fn a'.tmps (fun e w'=>∃ v r mem' S' O' m',e=.returned v∧R r mem'∧Env S O w S' O' m' mem' w'∧mem.length≤mem'.length∧m.take jj <+: m'∧RP w' S' O' m' [2] r v) a'.defers .returning w':=by
    rw [hd]
    exact ⟨v,hrun,v,r,mem',S',O'',_,rfl,hR,henv',hlen',hpre,hrp'⟩
   rcases hfin.1 with rfl | rfl
   · exact hL
   · exact hL
 · have hE:=Env.trans henv1 hr'.env
   obtain ⟨hS',hO',hh⟩:=hr'.env.apart hD2 hD5 hD4
   have hh':w'.heap[D]? = some (.deferred (some [])):=hh.trans hD3
   have hext:=ext_putObj (S:=S') (Obj.deferred none) hh' (fun _ _ _ h=>by cases h) (fun _ _ _ h=>by cases h) hS'
   have hrK:Rep ⟨P,n,S,O,w,m.take jj,[],[]⟩ S' O' m' s' { a' with defers:=[] } (w'.putObj D (.deferred none)):=
    ⟨hE.putObj _ hD1 hh' (fun _ _ _ h=>by cases h) (fun _ _ _ h=>by cases h) hS' hO',rfl,hr'.size,hr'.pre,fun i p hp=>(hr'.slots i p hp).ext hext (fun _ _ h=>h) (fun _ _ _ h=>h) (fun _ _ h=>h)⟩
   obtain ⟨v,r,mem',O'',hrun,hR,henv',hlen',hpre,hrp'⟩:=fin_end hres hmm hrK hfin
   have hd:a'.defers=markD D:=hr'.defers
   have hL:LeavesInM Fence.wide 3 P fn a'.tmps (fun e w'=>∃ v r mem' S' O' m',e=.returned v∧R r mem'∧Env S O w S' O' m' mem' w'∧mem.length≤mem'.length∧m.take jj <+: m'∧RP w' S' O' m' [2] r v) a'.defers .returning w':=by
    rw [hd]
    exact ⟨by simp,.inl ⟨D,_,rfl,run_takeDeferred hh',v,hrun,v,r,mem',S',O'',_,rfl,hR,henv',hlen',hpre,hrp'⟩⟩
   rcases hfin.1 with rfl | rfl
   · exact hL
   · exact hL
def RW (K:Ctx) (c:Code) (Post:Exit→Act→World→Prop) (s:GS):Prop:=∀ a w,At K s a w→c.wp K.P Post a w
variable {K:Ctx} {x y:Code} {Post:Exit→Act→World→Prop}
theorem rw_seq (h:GF K [] (.code x) (fun e s'=>e=.normal∧RW K y Post s') s):RW K (.seq x y) Post s:=
 fun _ _ hat=>wpSeqG (T:=fun s'=>RW K y Post s') hat h (fun _ _ _ hT ha=>hT _ _ ha)
theorem rw_cond {c:Operand} (b:Bool) (hc:s.ev c=.d (.bool b)) (h:RW K (if b then x else y) Post s):RW K (.cond c x y) Post s:=
 fun a w hat=>wp_cond (hat.cond hc) (h a w hat)
theorem rw_block {id:Nat} {c:Code} (h:RW K c (Exit.inBlock id Post) s):RW K (.block id c) Post s:=fun a w hat=>wp_block (h a w hat)
theorem rw_seqr (h:RW K x (Exit.then (fun a w=>y.wp K.P Post a w) Post) s):RW K (.seq x y) Post s:=fun a w hat=>wp_seq (h a w hat)
end
section
theorem execOp_bare (ev:Operand→Value) (o:Oper):execOp ev { o with guard:=none }=execOp ev o:=by cases o;rfl
variable {K:Ctx} {ops:Array Oper} {s:GS}
theorem GOps_on {Q:Exit→GS→Prop} {i:Nat} {rest:List Nat} {o oj:Oper} {j u:Nat} {want b:Bool} {q:PV} (ho:ops[i]? = some o) (hb:b=true) (hg:o.guard=some (j,want)) (hj:ops[j]? = some oj) (hjd:oj.dst=some u) (hsu:s.get u=some q) (hgd:q.guard want=some b) (hu:u < K.n)
 (h:GOps K #[{ o with guard:=none }] (fun e s'=>e=.normal∧GOps K ops Q rest s') [0] s):GOps K ops Q (i :: rest) s:=by
 subst hb
 rintro a w ⟨S,O,m,hr⟩
 have hyl:=wanted_of hr hj hjd hsu hu hgd
 have hw:Region.wanted o (yielded ops a.tmps)=true:=by simp only [Region.wanted,hg];exact hyl
 have h1:=h a w ⟨S,O,m,hr⟩
 simp only [wpOps,ho,hw,if_true]
 have h2:Oper.wp K.P { o with guard:=none } a w (fun a' w'=>∃ s',(Exit.normal=.normal∧GOps K ops Q rest s')∧At K s' a' w') (fun e a' w'=>∃ s',(e=.normal∧GOps K ops Q rest s')∧At K s' a' w'):=by
  have h3:(Oper.wp K.P { o with guard:=none } a w (fun a' w'=>∃ s',(Exit.normal=.normal∧GOps K ops Q rest s')∧At K s' a' w') (fun e a' w'=>∃ s',(e=.normal∧GOps K ops Q rest s')∧At K s' a' w'))∨(Oper.asks K.P { o with guard:=none } a w∧LetsOut fun e a' w'=>∃ s',(e=.normal∧GOps K ops Q rest s')∧At K s' a' w'):=h1
  rcases h3 with h3 | ⟨_,a',w',s',⟨h4,_⟩,_⟩
  · exact h3
  · cases h4
 refine .inl ?_
 unfold Oper.wp at h2 ⊢
 rw [execOp_bare] at h2
 generalize (execOp a.eval o).run K.P w=r at h2 ⊢
 cases r with
 | ok nx w'=>
  cases nx<;>simp only [Oper.upon] at h2 ⊢
  · obtain ⟨s',⟨_,hG⟩,hat⟩:=h2;exact hG _ _ hat
  · obtain ⟨s',⟨_,hG⟩,hat⟩:=h2;exact hG _ _ hat
  · refine Calls.mono h2 (fun e w'' he=>?_)
    cases e with
    | returned v=>obtain ⟨s',⟨_,hG⟩,hat⟩:=he;exact hG _ _ hat
    | panicked ch=>obtain ⟨s',⟨h4,_⟩,_⟩:=he;cases h4
    | outgrown=>obtain ⟨a',w',s',⟨h4,_⟩,_⟩:=he;cases h4
  · obtain ⟨s',⟨_,hG⟩,hat⟩:=h2;exact hG _ _ hat
  · exact Rows.mono h2 (fun _ _ he=>by obtain ⟨s',⟨_,hG⟩,hat⟩:=he;exact hG _ _ hat)
 | halt x w'=>
  cases x<;>simp only [Oper.upon] at h2 ⊢
  all_goals first | exact h2 | (obtain ⟨s',⟨h4,_⟩,_⟩:=h2;cases h4)
theorem gOn {fr:List Fr} {Q:Exit→GS→Prop} {i:Nat} {rest:List Nat} {o oj:Oper} {j u:Nat} {want b:Bool} {q:PV} (ho:ops[i]? = some o) (hb:b=true) (hg:o.guard=some (j,want)) (hj:ops[j]? = some oj) (hjd:oj.dst=some u) (hsu:s.get u=some q) (hgd:q.guard want=some b) (hu:u < K.n)
 (h:GF K [] (.ops #[{ o with guard:=none }] [0]) (fun e s'=>e=.normal∧GF K fr (.ops ops rest) Q s') s):GF K fr (.ops ops (i :: rest)) Q s:=GOps_on ho hb hg hj hjd hsu hgd hu h
theorem gOnEnd {T:GS→Prop} (h:T s):GF K [] (.ops ops []) (fun e s'=>e=.normal∧T s') s:=toO (gN ⟨rfl,h⟩)
end
section
theorem gJX {K:Ctx} {fr:List Fr} {ops:Array Oper} {Q:Exit→GS→Prop} {i t jn:Nat} {l:List Nat} {sl:List (Nat×PV)} {mem mem0:List (List PV)} {f:FuncId} {args args0:List PV} {R:PV→List (List PV)→Prop} (sel:List Nat)
 (h:cms ops.toList K.n i sl=some (t,f,args)) (hfk:Fok K.P f) (hc:GCallX K.S0 K.w0 jn K.P f args0 mem0 R) (hargs:args=PV.rens (fun b=>sel.getD b 0) args0) (hnd:sel.Nodup) (hsel:∀ b ∈ sel,b < mem.length)
 (hmem:sel.map (fun b=>mem.getD b [])=mem0.map (PV.rens (fun b=>sel.getD b 0))) (hra:PV.refsBs sel.length args0=true) (hrm:mem0.all (PV.refsBs sel.length)=true) (hjK:∀ b ∈ sel.drop jn,K.m0.length≤b) (hno:nrefLM (sel.drop jn) sel 0 mem=true)
 (hg:∀ r mem',R r mem'→sel.length≤mem'.length→GF K fr (.ops ops l) Q (stJ jn sel sl mem t r mem')):GF K fr (.ops ops (i :: l)) Q ⟨sl,mem⟩:=by
 refine toO ?_
 obtain ⟨o,ar,tys,fx,a,b,hoi,hdt,ht,hgd,hop,hcal⟩:=cms_of h
 obtain ⟨h1,h2⟩:=hcal mem
 obtain ⟨fn,hf,hb,hn⟩:=hfk
 exact GOps_callX (xs:=ar.toList) jn sel args0 mem0 hoi (by simpa using hop) hdt hgd h1 (h2.trans hargs) hnd hsel hmem hra hrm hf hb hn ht hc hjK hno (fun r' m' hr hl=>ofO (hg r' m' hr hl))
theorem gNX {K:Ctx} {fr:List Fr} {ops:Array Oper} {Q:Exit→GS→Prop} {i t:Nat} {l:List Nat} {sl:List (Nat×PV)} {mem:List (List PV)} {f:FuncId} {args:List PV} {r:PV}
 (h:cms ops.toList K.n i sl=some (t,f,args)) (hfk:Fok K.P f) (hc:GCallX K.S0 K.w0 0 K.P f args [] (fun q m=>q=r∧m=[])) (hg:GF K fr (.ops ops l) Q ⟨(t,r) :: sl,mem⟩) (hargs:args=PV.rens (fun b=>([]:List Nat).getD b 0) args) (hra:PV.refsBs 0 args=true)
 (hr:r.ren (renN [] mem.length)=r):GF K fr (.ops ops (i :: l)) Q ⟨sl,mem⟩:=by
 refine gJX (jn:=0) (R:=fun q m=>q=r∧m=[]) [] h hfk hc hargs .nil (fun b hb=>by cases hb) rfl hra rfl (fun b hb=>by cases hb) (nrefLM_nil _ _) ?_
 rintro q m ⟨rfl,rfl⟩ _
 unfold stJ
 rw [show List.drop 0 ([]:List Nat)=[] from rfl,sansL_nil,hr]
 rw [show setAll mem [] ((List.take ([]:List Nat).length ([]:List (List PV))).map (PV.rens (renN [] mem.length)))++(List.drop ([]:List Nat).length ([]:List (List PV))).map (PV.rens (renN [] mem.length))=mem by simp [setAll]]
 exact hg
end
section
variable {w:World}
theorem rowsIn_round {P:Program} {row:String} {args:Array Value} {R:Value→World→Prop} (n r:Nat) (h:Rows P row args w R):RowsIn (Fence.wide.inRound r) n P row args w R:=fun c cs _=>by
 obtain ⟨v,w',hr,hs⟩:=h c cs
 exact ⟨v,w',hr,by rw [fenced_inRound];exact stepsIn_wide.2 hs⟩
theorem wpOps_round {P:Program} {ops:Array Oper} (n r:Nat) {Q:Exit→Act→World→Prop} (hd:∀ (i:Nat) o,ops[i]? = some o→∀ c,o.op ≠ .defer c) (hQ:¬ LetsOut Q):∀ (l:List Nat) (a:Act) (w:World),wpOps P ops Q l a w→wpOpsIn (Fence.wide.inRound r) n P ops Q l a w
 | [],_,_,h=>h
 | i :: l,a,w,h=>by
  simp only [wpOps] at h
  simp only [wpOpsIn]
  cases ho:ops[i]? with
  | none=>rw [ho] at h;exact wpOps_round n r hd hQ l a w h
  | some o=>
   rw [ho] at h
   simp only at h ⊢
   split
   · rename_i hw
     rw [if_pos hw] at h
     rcases h with h | ⟨_,h⟩
     · refine ⟨fun _ _=>trivial,?_⟩
       rw [Oper.semAt_eq _ _ _ (hd i o ho)]
       unfold Oper.wp at h
       have ih:=fun (a:Act) (w:World) (h:wpOps P ops Q l a w)=>wpOps_round n r hd hQ l a w h
       generalize (execOp a.eval o).run P w=res at h ⊢
       cases res with
       | ok nx w'=>
        cases nx with
        | value v=>exact ih _ _ h
        | skip=>exact ih _ _ h
        | defer d=>exact ih _ _ h
        | enter f args=>
         refine ⟨(fun h=>by cases h),CallsIn.inRound r (callsIn_wide.2 (Calls.mono h ?_))⟩
         intro e w'' he
         cases e with
         | returned v=>exact ih _ _ he
         | panicked ch=>exact he
         | outgrown=>exact he
        | row row args=>exact ⟨(fun h=>by cases h),rowsIn_round _ r (Rows.mono h fun _ _ he=>ih _ _ he)⟩
        | _=>exact h.elim
       | halt x w'=>cases x<;>exact h
     · exact absurd h hQ
   · rename_i hw
     rw [if_neg hw] at h
     exact ⟨fun _ _=>trivial,wpOps_round n r hd hQ l _ _ h⟩
variable {m:List Nat} {mem:List (List PV)}
theorem Env.void {S:Reg} {O:Owns} {S0:Reg} {O0:Owns} {w0:World} (h:Env S0 O0 w0 S O m mem w):Env (fun _ _=>False) noOwns { w with heap:=#[] } S O m mem w:=
 ⟨⟨Nat.zero_le _,fun b vs el fz hb=>by simp at hb,fun b i hb=>hb.elim,fun b es c hb=>hb.elim,rfl,rfl,rfl⟩,fun b hb=>absurd hb (Nat.not_lt_zero _),fun b l t o hb=>absurd hb (Nat.not_lt_zero _),fun _ _ h=>h.elim,fun b _ _=>.inr (.inl (Nat.zero_le b)),h.sown,h.slt,h.olt,fun b _ _ _=>.inl (Nat.zero_le b),h.mlen,h.mem⟩
theorem Env.putBase {S:Reg} {O:Owns} {S0:Reg} {O0:Owns} {w0:World} (h:Env S0 O0 w0 S O m mem w) {l:Nat} {o:Obj} (o':Obj) (ho:w.heap[l]? = some o) (hc:∀ vs el fz,o ≠ .cells vs el fz) (hc':∀ vs el fz,o' ≠ .cells vs el fz) (hS:∀ i,¬ S l i) (hO:O l=none):Env S O (w.putObj l o') S O m mem (w.putObj l o'):=
 (h.void.putObj o' (Nat.zero_le _) ho hc hc' hS hO).rebase
theorem Env.swapL {S1 S3:Reg} {O1 O3:Owns} {w1 w3:World} {l:Nat} {o0 o1:Obj} (h:Env S1 O1 (w1.putObj l o1) S3 O3 m mem w3) (ho:w1.heap[l]? = some o0) (hc0:∀ vs el fz,o0 ≠ .cells vs el fz) (hc1:∀ vs el fz,o1 ≠ .cells vs el fz) (hm0:∀ es c,o0 ≠ .map es c) (hS:∀ i,¬ S1 l i) (hO:O1 l=none):Env S1 O1 w1 S3 O3 m mem (w3.putObj l o0):=by
 have hlt:l < w1.heap.size:=(Array.getElem?_eq_some_iff.1 ho).1
 have hsz:(w1.putObj l o1).heap.size=w1.heap.size:=by simp
 obtain ⟨hS3,hO3,hh⟩:=h.apart (l:=l) (by rw [hsz];exact hlt) hS hO
 have hlt3:l < w3.heap.size:=Nat.lt_of_lt_of_le hlt (by have:=h.ext.size;rw [hsz] at this;exact this)
 have hself:(w3.putObj l o0).heap[l]? = some o0:=by simp [World.putObj,hlt3]
 have hoth:∀ b,b ≠ l→(w3.putObj l o0).heap[b]? = w3.heap[b]?:=fun b hb=>World.putObj_heap_other hb
 have hoth1:∀ b,b ≠ l→(w1.putObj l o1).heap[b]? = w1.heap[b]?:=fun b hb=>World.putObj_heap_other hb
 have hcell:∀ b i,b ≠ l→(w3.putObj l o0).cell? ⟨b,i,none⟩=w3.cell? ⟨b,i,none⟩:=fun b i hb=>by simp only [World.cell?,hoth b hb]
 have hcell1:∀ b i,b ≠ l→(w1.putObj l o1).cell? ⟨b,i,none⟩=w1.cell? ⟨b,i,none⟩:=fun b i hb=>by simp only [World.cell?,hoth1 b hb]
 refine ⟨⟨by have:=h.ext.size;rw [hsz] at this;simpa using this,fun b vs el fz hb=>?_,fun b i hb=>?_,fun b es c hb hh=>?_,h.ext.os,h.ext.tape,h.ext.output⟩,fun b hb hob=>?_,fun b l' t i hb hob hi=>?_,h.s0,fun b i hb=>?_,h.sown,fun b i hb=>by simpa using h.slt b i hb,fun b l' t hb=>by simpa using h.olt b l' t hb,fun b l' t hb=>?_,h.mlen,fun i cs r hi hr hne=>?_⟩
 · have hne:b ≠ l:=by rintro rfl;rw [ho] at hb;injection hb with hb;exact hc0 _ _ _ hb
   obtain ⟨vs',h1,h2⟩:=h.ext.shape b vs el fz (by rw [hoth1 b hne];exact hb)
   exact ⟨vs',by rw [hoth b hne];exact h1,h2⟩
 · have hne:b ≠ l:=by rintro rfl;exact hS _ hb
   rw [hcell b i hne,h.ext.cell b i hb,hcell1 b i hne]
 · have hne:b ≠ l:=by rintro rfl;exact hS _ hb
   rw [hoth b hne];exact h.ext.maps b es c hb (by rw [hoth1 b hne];exact hh)
 · by_cases hbl:b=l
   · subst hbl;rw [hself,ho]
   · rw [hoth b hbl,h.old b (by rw [hsz];exact hb) hob,hoth1 b hbl]
 · have hne:b ≠ l:=by rintro rfl;rw [hO] at hob;cases hob
   rw [hcell b i hne,h.part b l' t i (by rw [hsz];exact hb) hob hi,hcell1 b i hne]
 · rcases h.snew b i hb with h1 | h1 | h1
   · exact .inl h1
   · exact .inr (.inl (by rw [hsz] at h1;exact h1))
   · exact .inr (.inr h1)
 · rcases h.onew b l' t hb with h1 | h1
   · exact .inl (by rw [hsz] at h1;exact h1)
   · exact .inr h1
 · obtain ⟨h1,h2⟩:=h.mem i cs r hi hr hne
   have hrl:r ≠ l:=by rintro rfl;rw [hO3] at h1;cases h1
   have hn3:∀ vs el fz,w3.heap[l]? ≠ some (.cells vs el fz):=fun vs el fz hx=>by
    rw [hh] at hx
    have:(w1.putObj l o1).heap[l]? = some o1:=by simp [World.putObj,hlt]
    rw [this] at hx;injection hx with hx;exact hc1 _ _ _ hx
   have hE:=ext_putObj (S:=S3) o0 (hh.trans (show (w1.putObj l o1).heap[l]? = some o1 by simp [World.putObj,hlt])) hc1 hc0 hS3
   exact ⟨h1,h2.frame (hoth r hrl) hE (fun _ _ h=>h) (fun _ _ _ _ h=>h) (fun _ _ h=>h)⟩
end
end Go.Proofs.YtoonleefemkalaaDoor.E
