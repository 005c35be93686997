import Derived.Test.YtoonleefemkalaaDoorM4
/- Contracts of functions. Conditions: none. -/
set_option linter.unusedSimpArgs false
set_option linter.unusedVariables false
namespace Go.Proofs.YtoonleefemkalaaDoor.E
open Go
theorem fold_splice:∀ (l:List Value) (m off:Nat) (cells:Array Value),off + m + l.length≤cells.size→
 (l.zipIdx m).foldl (fun (cs:Array Value) (x:Value×Nat)=>cs.setIfInBounds (off + x.2) x.1) cells=(splice cells.toList (off + m) l).toArray
 | [],m,off,cells,_=>by simp [splice]
 | v :: l,m,off,cells,h=>by
  rw [List.zipIdx_cons,List.foldl_cons,fold_splice l (m + 1) off _ (by simp at h ⊢;omega)]
  congr 1
  apply List.ext_getElem?
  intro j
  simp only [List.length_cons] at h
  rw [splice_get _ _ _ (by simp;omega),splice_get _ _ _ (by simp;omega)]
  simp only [List.length_cons,Array.toList_setIfInBounds,List.getElem?_set]
  by_cases h1:off + m=j
  · subst h1
    rw [if_neg (by omega)]
    have hlt:off + m < cells.toList.length:=by simp;omega
    rw [if_pos hlt,if_pos (by omega)];simp
  · by_cases h2:off + m≤j∧j < off + m + (l.length + 1)
    · rw [if_pos h2,if_pos (by omega),show j - (off + m)=(j - (off + (m + 1))) + 1 by omega,List.getElem?_cons_succ]
    · rw [if_neg h2,if_neg (by omega),if_neg h1]
theorem fold_splice' (v:Value) (off:Nat) (cells:Array Value) (h:off + v.cells.size≤cells.size):
 v.cells.zipIdx.foldl (fun (cs:Array Value) (x:Value×Nat)=>cs.setIfInBounds (off + x.2) x.1) cells=(splice cells.toList off v.cells.toList).toArray:=by
 have:=fold_splice v.cells.toList 0 off cells (by simpa using h)
 simp only [Nat.add_zero] at this
 rw [← this,← Array.foldl_toList,Array.toList_zipIdx]
theorem fill_cons (place:Nat→Option (Nat×Nat)) (cells:Array Value) (i off size:Nat) (v:Value) (rest:List (Nat×Value)) (hp:place i=some (off,size)) (hs:v.cells.size=size)
 (hf:off + size≤cells.size):Instr.fill place cells ((i,v) :: rest)=Instr.fill place (splice cells.toList off v.cells.toList).toArray rest:=by
 rw [Instr.fill]
 simp only [hp]
 have h1:(v.cells.size ≠ size || decide (off + v.cells.size > cells.size))=false:=by simp [hs];omega
 have h2:(fun (cs:Array Value) (x:Value×Nat)=>match x with | (c,j)=>cs.setIfInBounds (off + j) c)=fun cs x=>cs.setIfInBounds (off + x.2) x.1:=by funext cs x;cases x;rfl
 simp only [h1,Bool.false_eq_true,if_false]
 rw [← fold_splice' v off cells (by omega)]
def bfill (place:Nat→Option (Nat×Nat)):List PV→List (Nat×PV)→Option (List PV)
 | cs,[]=>some cs
 | cs,(i,p) :: rest=>match place i with
  | some (off,size)=>if p.whole=true∧p.cellsOf.length=size∧off + size≤cs.length then bfill place (splice cs off (PV.copies p.cellsOf)) rest else none
  | none=>none
variable {w:World} {S:Reg} {m:List Nat}
theorem bfill_run (place:Nat→Option (Nat×Nat)):∀ (parts:List (Nat×PV)) (vs:List (Nat×Value)) (cs cs':List PV) (cells:Array Value),
 parts.map (·.1)=vs.map (·.1)→(∀ (j:Nat) i p v,parts[j]? = some (i,p)→vs[j]? = some (i,v)→∃ O l,RP w S O m l p v)→
 cells.size=cs.length→(∀ (j:Nat) v,cells[j]? = some v→v.oneCell'=true)→(∀ (j:Nat) q v,cs[j]? = some q→cells[j]? = some v→RP w S noOwns m [] q v)→bfill place cs parts=some cs'→
 ∃ cells',Instr.fill place cells vs=some cells'∧cells'.size=cs'.length∧(∀ (j:Nat) v,cells'[j]? = some v→v.oneCell'=true)∧∀ (j:Nat) q v,cs'[j]? = some q→cells'[j]? = some v→RP w S noOwns m [] q v
 | [],vs,cs,cs',cells,hm,_,hs,ho,hc,hb=>by
  have:vs=[]:=by cases vs<;>simp_all
  subst this
  simp only [bfill] at hb;injection hb with hb;subst hb
  exact ⟨cells,rfl,hs,ho,hc⟩
 | (i,p) :: rest,[],cs,cs',cells,hm,_,hs,ho,hc,hb=>by simp at hm
 | (i,p) :: rest,(i',v) :: vs,cs,cs',cells,hm,hr,hs,ho,hc,hb=>by
  simp only [List.map_cons,List.cons.injEq] at hm
  obtain ⟨rfl,hm⟩:=hm
  simp only [bfill] at hb
  split at hb
  · rename_i off size hpl
    split at hb
    · rename_i hcond
      obtain ⟨hw,hl,hfit⟩:=hcond
      obtain ⟨O,l,hrp⟩:=hr 0 i p v rfl rfl
      obtain ⟨g1,g2,g3⟩:=hrp.cellsOf hw
      have hfitv:off + v.cells.toList.length≤cells.toList.length:=by simp;omega
      have hfitp:off + (PV.copies p.cellsOf).length≤cs.length:=by simp [PV.copies_map];omega
      rw [fill_cons place cells i off size v vs hpl (by omega) (by omega)]
      refine bfill_run place rest vs (splice cs off (PV.copies p.cellsOf)) cs' _ hm (fun j i p v hp hv=>hr (j + 1) i p v hp hv) (by simp [splice_length _ _ _ hfitp,splice_length _ _ _ hfitv,hs]) (fun j u hu=>?_) (fun j q u hq hu=>?_) hb
      · rw [List.getElem?_toArray,splice_get _ _ _ hfitv] at hu
        split at hu
        · exact g2 _ u (by simpa using hu)
        · exact ho j u (by simpa using hu)
      · rw [List.getElem?_toArray,splice_get _ _ _ hfitv] at hu
        rw [splice_get _ _ _ hfitp] at hq
        have hle:(PV.copies p.cellsOf).length=v.cells.toList.length:=by simp [PV.copies_map];omega
        by_cases hc1:off≤j∧j < off + v.cells.toList.length
        · rw [if_pos hc1] at hu
          rw [if_pos (by omega)] at hq
          obtain ⟨q',hq',rfl⟩:=PV.copies_getElem? _ _ _ hq
          rcases g3 _ q' u hq' (by simpa using hu) with h4 | h4
          · exact h4.copy _ _
          · exact h4.copy _ _
        · rw [if_neg hc1] at hu
          rw [if_neg (by omega)] at hq
          exact hc j q u hq (by simpa using hu)
    · cases hb
  · cases hb
variable {K:Ctx} {O:Owns} {s:GS}
theorem parts_get {a:Act} (h:Rep K S O m s a w) (parts:List (Nat×Operand)) (j i:Nat) (p:PV) (v:Value)
 (hp:(parts.map fun x=>(x.1,s.ev x.2))[j]? = some (i,p)) (hv:(parts.map fun x=>(x.1,a.eval x.2))[j]? = some (i,v)):∃ O l,RP w S O m l p v:=by
 rw [List.getElem?_map] at hp hv
 cases hx:parts[j]? with
 | none=>simp [hx] at hp
 | some x=>
  simp [hx] at hp hv
  obtain ⟨l,hr⟩:=h.ev x.2
  rw [hp.2,hv.2] at hr
  exact ⟨O,l,hr⟩
theorem zeros_rp (w:World) (S:Reg) (m:List Nat) (z:Value) (j:Nat) (q:PV) (v:Value) (hq:(zeros z)[j]? = some q) (hv:z.cells[j]? = some v):RP w S noOwns m [] q v:=by
 simp only [zeros,List.getElem?_map] at hq
 rw [show z.cells.toList[j]? = some v by simpa using hv] at hq
 simp only [Option.map_some,Option.some.injEq] at hq
 subst hq;exact ofConst_rp _ _ _ _ _ v
def placesOf (P:Program) (fs:Array Field):List (Nat×Nat):=fs.toList.map fun f=>(f.offset,((P.info? f.type).map (·.size)).getD 0)
theorem RP_aggc {O':Owns} (l':List Nat) {ps:List PV} {vs:Array Value} (L:Nat→List Nat) (hl:vs.size=ps.length)
 (ho:∀ (i:Nat) v,vs[i]? = some v→v.oneCell'=true) (h:∀ (i:Nat) p v,ps[i]? = some p→vs[i]? = some v→RP w S O m (L i) p v):RP w S O' m l' (.agg (PV.copies ps)) (.agg vs):=by
 refine .agg _ _ vs (by simp [PV.copies_map,hl]) ho (fun i p v hi hv=>?_)
 obtain ⟨p,hp,rfl⟩:=PV.copies_getElem? _ _ _ hi
 exact (h i p v hp hv).copy _ _
variable {t:Nat} {ty rt:TypeId} {parts:Array (Nat×Operand)} {pos:String} {af:Array Edge} {g:Option (Nat×Bool)} {z:Value}
theorem Q_buildG {fs:Array Field} {zs cs':List PV} {pl:List (Nat×Nat)} {ps:List (Nat×PV)} {r:PV}
 (hu:K.P.underlying ty=some (.struct fs)) (hz:(K.P.info? ty).map (·.zero)=some (some z)) (h1:z.cells.all (·.oneCell')=true) (hall:fs.all (fun f=>(K.P.info? f.type).isSome)=true)
 (hpl:placesOf K.P fs=pl) (hzs:zeros z=zs) (hps:(parts.toList.map fun x=>(x.1,s.ev x.2))=ps) (hb:bfill (pl[·]?) zs ps=some cs') (hr:mkAgg cs'=r∨PV.agg (PV.copies cs')=r) (ht:t < K.n):
 Qy K ⟨some t,.build ty parts,rt,pos,af,g⟩ s t r:=by
 subst hzs;subst hps
 refine fun S O m a w h=>?_
 obtain ⟨cells',g1,g2,g3,g4⟩:=bfill_run (w:=w) (S:=S) (m:=m) (pl[·]?) _ (parts.toList.map fun x=>(x.1,a.eval x.2)) _ cs' z.cells (by simp) (fun j i p v hp hv=>parts_get h _ j i p v hp hv)
  (by simp [zeros]) (fun j v hv=>by have:=Array.all_eq_true_iff_forall_mem.1 h1;exact this v (Array.mem_of_getElem? hv)) (fun j q v hq hv=>zeros_rp w S m z j q v hq hv) hb
 refine ⟨.agg cells',fun w _=>?_,by rcases hr with rfl | rfl;exact RP_mkAgg _ (fun _=>[]) g2 g3 g4;exact RP_aggc _ (fun _=>[]) g2 g3 g4⟩
 have hm:(fs.mapM fun f=>(do pure (f.offset,← sizeOf f.type):Sem (Nat×Nat))).run K.P w=.ok pl.toArray w:=by
  have key:∀ (l:List Field),(∀ f ∈ l,(K.P.info? f.type).isSome=true)→(l.mapM fun f=>(do pure (f.offset,← sizeOf f.type):Sem (Nat×Nat))).run K.P w=.ok (l.map fun f=>(f.offset,((K.P.info? f.type).map (·.size)).getD 0)) w:=by
   intro l
   induction l with
   | nil=>intro _;simp
   | cons f l ih=>
    intro hl
    obtain ⟨i,hi⟩:=Option.isSome_iff_exists.1 (hl f (by simp))
    have hs:(sizeOf f.type).run K.P w=.ok i.size w:=by simp [sizeOf,typeInfo,hi]
    rw [List.mapM_cons,Sem.run_bind,Sem.run_bind,hs]
    simp only [Result.andThen_ok,Sem.run_pure,Sem.run_bind,ih (fun f hf=>hl f (by simp [hf]))]
    simp [hi]
  have h2:=key fs.toList (fun f hf=>by have:=Array.all_eq_true_iff_forall_mem.1 hall;exact this f (by simpa using hf))
  have h3:(fs.mapM fun f=>(do pure (f.offset,← sizeOf f.type):Sem (Nat×Nat)))=List.toArray <$> (fs.toList.mapM fun f=>(do pure (f.offset,← sizeOf f.type):Sem (Nat×Nat))):=by
   have:=List.mapM_toArray (m:=Sem) (l:=fs.toList) (f:=fun f=>(do pure (f.offset,← sizeOf f.type):Sem (Nat×Nat)))
   simpa using this
  rw [h3,Sem.run_map,h2,Result.andThen_ok]
  rw [← hpl];rfl
 have hzv:(zeroValue ty).run K.P w=.ok z w:=by
  cases hq:K.P.info? ty with
  | none=>simp [hq] at hz
  | some i=>
   have hs:i.zero=some z:=by simpa [hq] using hz
   simp [zeroValue,typeInfo,hq,hs]
 have hplace:(fun i:Nat=>pl.toArray[i]?)=(pl[·]?):=by funext i;simp
 have hpm:(parts.map fun x=>(x.1,a.eval x.2)).toList=parts.toList.map fun x=>(x.1,a.eval x.2):=by simp
 have hrun:(Instr.build ty (parts.map fun x=>(x.1,a.eval x.2))).run K.P w=.ok (.agg cells') w:=by
  unfold Instr.build
  rw [Sem.run_bind,hzv]
  simp only [Result.andThen_ok,Sem.run_bind,run_underlying hu,hm,hplace,hpm,g1]
  rfl
 simp only [execOp]
 have:(parts.map fun x=>match x with | (i,x)=>(i,a.eval x))=parts.map fun x=>(x.1,a.eval x.2):=by congr 1
 simp [this,hrun]
theorem Q_build {fs:Array Field} {zs cs':List PV} {pl:List (Nat×Nat)} {ps:List (Nat×PV)} {r:PV}
 (hu:K.P.underlying ty=some (.struct fs)) (hz:(K.P.info? ty).map (·.zero)=some (some z)) (h1:z.cells.all (·.oneCell')=true) (hall:fs.all (fun f=>(K.P.info? f.type).isSome)=true)
 (hpl:placesOf K.P fs=pl) (hzs:zeros z=zs) (hps:(parts.toList.map fun x=>(x.1,s.ev x.2))=ps) (hb:bfill (pl[·]?) zs ps=some cs') (hr:mkAgg cs'=r) (ht:t < K.n):
 Qy K ⟨some t,.build ty parts,rt,pos,af,g⟩ s t r:=Q_buildG hu hz h1 hall hpl hzs hps hb (.inl hr) ht
variable {k:Nat}
theorem fill_seq:∀ (vs:List Value) (i0:Nat) (cells:Array Value),(∀ v ∈ vs,v.cells.size=k)→(i0 + vs.length) * k≤cells.size→
 Instr.fill (fun i=>some (i * k,k)) cells ((List.range' i0 vs.length).zip vs)=some (splice cells.toList (i0 * k) (vs.flatMap fun v=>v.cells.toList)).toArray
 | [],i0,cells,_,_=>by simp [Instr.fill,splice]
 | v :: vs,i0,cells,hk,hf=>by
  have hv:=hk v (by simp)
  simp only [List.length_cons] at hf
  have hmul:(i0 + (vs.length + 1)) * k=i0 * k + k + vs.length * k:=by rw [Nat.add_mul,Nat.add_mul];omega
  have hfl:∀ l:List Value,(∀ v ∈ l,v.cells.size=k)→(l.flatMap fun v=>v.cells.toList).length=l.length * k:=by
   intro l
   induction l with
   | nil=>intro _;simp
   | cons x l ih=>intro h;simp only [List.flatMap_cons,List.length_append,List.length_cons,ih (fun v hv=>h v (by simp [hv])),Nat.add_mul,Nat.one_mul,Array.length_toList,h x (by simp)];omega
  have hlv:=hfl vs (fun x hx=>hk x (by simp [hx]))
  have h1:i0 * k + v.cells.toList.length≤cells.toList.length:=by simp;omega
  rw [List.length_cons,List.range'_succ,List.zip_cons_cons,fill_cons (fun i=>some (i * k,k)) cells i0 (i0 * k) k v _ rfl hv (by omega)]
  rw [fill_seq vs (i0 + 1) _ (fun x hx=>hk x (by simp [hx])) (by simp [splice_length _ _ _ h1];rw [show i0 + 1 + vs.length=i0 + (vs.length + 1) by omega];exact hf)]
  congr 2
  apply List.ext_getElem?
  intro j
  have e1:(i0 + 1) * k=i0 * k + k:=by rw [Nat.add_mul,Nat.one_mul]
  have hL:=splice_get (splice cells.toList (i0 * k) v.cells.toList) ((i0 + 1) * k) (vs.flatMap fun v=>v.cells.toList) (by simp [splice_length _ _ _ h1,hlv,e1];omega) j
  have hR:=splice_get cells.toList (i0 * k) ((v :: vs).flatMap fun v=>v.cells.toList) (by simp [hlv,hv];omega) j
  rw [hR]
  refine hL.trans ?_
  rw [splice_get _ _ _ h1,e1,hlv]
  simp only [List.flatMap_cons,List.length_append,Array.length_toList,hv,hlv]
  by_cases c1:i0 * k + k≤j∧j < i0 * k + k + vs.length * k
  · rw [if_pos c1,if_pos (by omega),List.getElem?_append_right (by simp;omega)]
    congr 1;simp [hv];omega
  · rw [if_neg c1]
    by_cases c2:i0 * k≤j∧j < i0 * k + k
    · rw [if_pos c2,if_pos (by omega),List.getElem?_append_left (by simp;omega)]
    · rw [if_neg c2,if_neg (by omega)]
theorem flat_get:∀ (vs:List Value) (i j:Nat) (v u:Value),(∀ v ∈ vs,v.cells.size=k)→vs[i]? = some v→j < k→(vs.flatMap fun v=>v.cells.toList)[i * k + j]? = some u→v.cells[j]? = some u
 | [],i,j,v,u,_,hi,_,_=>by simp at hi
 | x :: vs,0,j,v,u,hk,hi,hj,hu=>by
  simp at hi;subst hi
  rw [List.flatMap_cons,Nat.zero_mul,Nat.zero_add,List.getElem?_append_left (by simp [hk x (by simp)];exact hj)] at hu
  simpa using hu
 | x :: vs,i + 1,j,v,u,hk,hi,hj,hu=>by
  have hx:=hk x (by simp)
  rw [List.flatMap_cons,List.getElem?_append_right (by simp [hx,Nat.add_mul];omega)] at hu
  refine flat_get vs i j v u (fun y hy=>hk y (by simp [hy])) (by simpa using hi) hj ?_
  rw [← hu];congr 1;simp [hx,Nat.add_mul];omega
theorem flat_len:∀ (vs:List Value),(∀ v ∈ vs,v.cells.size=k)→(vs.flatMap fun v=>v.cells.toList).length=vs.length * k
 | [],_=>by simp
 | x :: vs,h=>by simp only [List.flatMap_cons,List.length_append,List.length_cons,flat_len vs (fun v hv=>h v (by simp [hv])),Nat.add_mul,Nat.one_mul,Array.length_toList,h x (by simp)];omega
theorem Rd.cells_size {d:D} {v:Value} (h:Rd w S d v):v.cells.size=d.cells.length∧(∀ (j:Nat) u,v.cells[j]? = some u→u.oneCell'=true)∧∀ (j:Nat) x u,d.cells[j]? = some x→v.cells[j]? = some u→Rd w S x u:=by
 by_cases hd:∃ cs,d=.agg cs
 · obtain ⟨cs,rfl⟩:=hd
   cases h with
   | agg _ vs hl ho h=>exact ⟨hl,ho,h⟩
 · have hd':∀ cs,d ≠ .agg cs:=fun cs hc=>hd ⟨cs,hc⟩
   have h1:=h.oneCell hd'
   have h2:d.cells=[d]:=by cases d<;>first | rfl | exact absurd rfl (hd' _)
   rw [Value.cells_of_one h1,h2]
   refine ⟨rfl,fun j u hu=>?_,fun j x u hx hu=>?_⟩
   · cases j with
     | zero=>simp at hu;exact hu▸h1
     | succ j=>simp at hu
   · cases j with
     | zero=>simp at hu hx;subst hu;subst hx;exact h
     | succ j=>simp at hu
theorem Rep.newRow {a:Act} (h:Rep K S O m s a w) {t:Nat} (ht:t < K.n) (vs:Array Value) (el:TypeId) (k cap:Nat) (ds:List D)
 (hcap:ds.length≤cap) (hsz:cap * k≤vs.size) (hlim:ds.length≤lim) (hk:∀ d ∈ ds,d.cells.length=k)
 (hcells:∀ (i:Nat) x (j:Nat) y,ds[i]? = some x→x.cells[j]? = some y→∃ v,vs[i * k + j]? = some v∧v.oneCell'=true∧Rd w S y v):
 At K (s.set t (.osl k ds)) (a.put (some t) (.slice (some ⟨w.heap.size,0,none⟩) ds.length cap)) (w.alloc (.cells vs el)):=by
 have hE:Ext S w (w.alloc (.cells vs el)):=ext_alloc S w _ h.env.slt
 have he:=h.env
 have hsz0:K.w0.heap.size≤w.heap.size:=he.ext.size
 have henv:Env K.S0 K.O0 K.w0 (fun b o=>S b o∨(b=w.heap.size∧o < ds.length * k)) (fun b=>if b=w.heap.size then some ([t,0],ds.length * k) else O b) m s.mem (w.alloc (.cells vs el)):=by
  refine ⟨he.ext.trans hE he.s0,fun b hb hO=>?_,fun b l t' o hb hO hot=>?_,fun b o h=>.inl (he.s0 b o h),fun b o hb=>?_,fun b o l t' hS hO=>?_,fun b o hS=>?_,fun b l t' hO=>?_,fun b l t' hO=>?_,he.mlen,fun i cs r hi hr hne'=>?_⟩
  · rw [heap_alloc_old' w _ b (show b < w.heap.size by omega)];exact he.old b hb hO
  · rw [World.cell?_alloc_lt w _ ⟨b,o,none⟩ (show b < w.heap.size by omega)];exact he.part b l t' o hb hO hot
  · rcases hb with hb | ⟨rfl,_⟩
    · exact he.snew b o hb
    · exact .inr (.inl hsz0)
  · rcases hS with hS | ⟨rfl,hlt⟩
    · rw [if_neg (Nat.ne_of_lt (he.slt b o hS))] at hO;exact he.sown b o l t' hS hO
    · simp at hO;omega
  · rcases hS with hS | ⟨rfl,hlt⟩
    · have:=he.slt b o hS;simp;omega
    · simp
  · by_cases hb:b=w.heap.size
    · subst hb;simp
    · rw [if_neg hb] at hO;have:=he.olt b l t' hO;simp;omega
  · by_cases hb:b=w.heap.size
    · exact .inl (by omega)
    · rw [if_neg hb] at hO;exact he.onew b l t' hO
  · obtain ⟨g1,g2⟩:=he.mem i cs r hi hr hne'
    have hrl:=he.olt _ _ _ g1
    exact ⟨by rw [if_neg (Nat.ne_of_lt hrl)];exact g1,g2.frame (heap_alloc_old' w _ r hrl) hE (fun _ _ h=>.inl h) (fun j b t' q hb=>by rw [if_neg (Nat.ne_of_lt (he.olt b _ t' hb))];exact hb) (fun _ _ h=>h)⟩
 have hcell:∀ o,(w.alloc (.cells vs el)).cell? ⟨w.heap.size,o,none⟩=vs[o]?:=fun o=>cell_of_row _ _ o vs el (0,0) (heap_alloc_new' w _)
 have hlt:∀ (i:Nat) x (j:Nat) y,ds[i]? = some x→x.cells[j]? = some y→i * k + j < ds.length * k:=fun i x j y hi hj=>by
  have hjk:j < k:=by rw [← hk x (mG hi)];exact (lG hj)
  have hil:i < ds.length:=(lG hi)
  calc i * k + j < i * k + k:=by omega
   _=(i + 1) * k:=by rw [Nat.add_mul,Nat.one_mul]
   _≤ds.length * k:=Nat.mul_le_mul_right _ hil
 have hrdn:Rd (w.alloc (.cells vs el)) (fun b o=>S b o∨(b=w.heap.size∧o < ds.length * k)) (.sl ds) (.slice (some ⟨w.heap.size,0,none⟩) ds.length cap):=by
  refine .sl ds (some ⟨w.heap.size,0,none⟩) cap k hcap hlim hk (by simp) (fun ad had=>?_) (fun ad i x j y v had hi hj hv=>?_)
  · injection had with had;subst had
    intro i x j y hi hj
    obtain ⟨v,h2,h3,_⟩:=hcells i x j y hi hj
    exact ⟨rfl,.inr ⟨rfl,by have:=hlt i x j y hi hj;show 0 + (i * k + j) < _;omega⟩,v,by rw [hcell,Nat.zero_add];exact h2,h3⟩
  · injection had with had;subst had
    obtain ⟨v',h2,_,h4⟩:=hcells i x j y hi hj
    rw [hcell,Nat.zero_add,h2] at hv;injection hv with hv;subst hv
    exact h4.ext hE (fun _ _ h=>.inl h)
 refine ⟨_,_,m,henv,h.defers,by simp [Act.put,h.size],h.pre,fun i q hq=>?_⟩
 rw [getD_put _ _ _ _ (by rw [h.size];exact ht)]
 rw [GS.get_set] at hq
 by_cases hit:i=t
 · rw [if_pos hit] at hq ⊢;injection hq with hq;subst hq;subst hit
   exact .osl [i,0] k ds (some ⟨w.heap.size,0,none⟩) cap hrdn hk (by simp) (fun ad had=>by
    injection had with had;subst had
    exact ⟨rfl,by simp,vs,el,heap_alloc_new' w _,by simpa using hsz⟩)
 · rw [if_neg hit] at hq ⊢
   exact (h.slots i q hq).ext hE (fun _ _ h=>.inl h) (fun b t' q' hb=>by rw [if_neg (Nat.ne_of_lt (he.olt b _ t' hb))];exact hb) (fun _ _ h=>h)
theorem Y_buildSlice {n:Nat} {e:TypeId} {xs:List Operand} {by_:Nat} {ds:List D}
 (hu:K.P.underlying ty=some (.slice e)) (hinf:(K.P.info? e).map (fun i=>(i.zero,i.size,i.bytes))=some (some z,k,by_)) (hp:parts.toList=(List.range xs.length).zip xs) (hn:xs.length=n)
 (hzc:z.cells.size=k) (hds:PV.toDs (xs.map s.ev)=some ds) (hk:∀ d ∈ ds,d.cells.length=k) (hsz:n * k≤16777216) (hk0:0 < k) (ht:t < K.n):
 Yld K ⟨some t,.buildSlice ty n parts,rt,pos,af,g⟩ s (s.set t (.osl k ds)):=by
 rintro a w ⟨S,O,m,h⟩
 obtain ⟨hlen,hrd⟩:=evs_rd h xs hds
 obtain ⟨inf,hin,hiz,his,hib⟩:∃ inf,K.P.info? e=some inf∧inf.zero=some z∧inf.size=k∧inf.bytes=by_:=by
  cases hq:K.P.info? e with
  | none=>simp [hq] at hinf
  | some i=>simp [hq] at hinf;exact ⟨i,rfl,hinf.1,hinf.2.1,hinf.2.2⟩
 have hrdi:∀ (i:Nat) d,ds[i]? = some d→∃ v,(xs.map a.eval)[i]? = some v∧Rd w S d v:=fun i d hi=>by
  have hlt:i < (xs.map a.eval).length:=by have:=(lG hi);simp;omega
  exact ⟨_,gE hlt,hrd i d _ hi (gE hlt)⟩
 have hvk:∀ v ∈ xs.map a.eval,v.cells.size=k:=fun v hv=>by
  obtain ⟨i,hi⟩:=List.getElem?_of_mem hv
  have hlt:i < ds.length:=by have:=(lG hi);simp at this;omega
  have h1:=hrd i _ v (gE hlt) hi
  rw [h1.cells_size.1];exact hk _ (List.getElem_mem hlt)
 have hnk:n * k=(xs.map a.eval).length * k:=by simp [hn]
 have hflen:=flat_len (k:=k) (xs.map a.eval) hvk
 have hfill:∀ cells:Array Value,cells.size=n * k→Instr.fill (fun i=>some (i * k,k)) cells (parts.toList.map fun x=>(x.1,a.eval x.2))=some ((xs.map a.eval).flatMap fun v=>v.cells.toList).toArray:=fun cells hc=>by
  have h1:(parts.toList.map fun x=>(x.1,a.eval x.2))=(List.range' 0 (xs.map a.eval).length).zip (xs.map a.eval):=by
   rw [hp,List.zip_map_right,List.length_map,List.range_eq_range'];rfl
  rw [h1,fill_seq _ 0 cells hvk (by simp [hc,hn])]
  congr 2
  unfold splice
  rw [Nat.zero_mul,Nat.zero_add,hflen,← hnk,List.take_zero,List.nil_append,List.drop_of_length_le (by simp [hc]),List.append_nil]
 have hzv:(zeroValue e).run K.P w=.ok z w:=by simp [zeroValue,typeInfo,hin,hiz]
 have hrun:(Instr.buildSlice ty n (parts.map fun x=>(x.1,a.eval x.2))).run K.P w=
  .ok (.slice (some ⟨w.heap.size,0,none⟩) n n) (w.alloc (.cells ((xs.map a.eval).flatMap fun v=>v.cells.toList).toArray e)):=by
  unfold Instr.buildSlice
  have hno:¬ (n * k > 2 ^ 24):=by simp;omega
  have hpm:(parts.map fun x=>(x.1,a.eval x.2)).toList=parts.toList.map fun x=>(x.1,a.eval x.2):=by simp
  simp only [Sem.run_bind,run_underlying hu,Result.andThen_ok,sizeOf,typeInfo,run_program,hin,Sem.run_pure,his]
  rw [if_neg hno]
  by_cases h0:n * k=0
  · rw [if_pos h0]
    simp only [Sem.run_bind,Sem.run_pure,Result.andThen_ok,pure_bind]
    rw [hpm,hfill _ (by simp [h0])]
    simp [newRow,World.alloc_eq]
  · rw [if_neg h0]
    simp only [Sem.run_bind,Sem.run_pure,Result.andThen_ok,hzv,pure_bind]
    rw [hpm,hfill _ (by simp)]
    simp [newRow,World.alloc_eq]
 have hexec:(execOp a.eval ⟨some t,.buildSlice ty n parts,rt,pos,af,g⟩).run K.P w=.ok (.value (.slice (some ⟨w.heap.size,0,none⟩) n n)) (w.alloc (.cells ((xs.map a.eval).flatMap fun v=>v.cells.toList).toArray e)):=by
  simp only [execOp]
  have:(parts.map fun x=>match x with | (i,x)=>(i,a.eval x))=parts.map fun x=>(x.1,a.eval x.2):=by congr 1
  simp [this,hrun]
 have hdn:ds.length=n:=by omega
 refine ⟨_,_,hexec,?_⟩
 have hfin:=h.newRow ht ((xs.map a.eval).flatMap fun v=>v.cells.toList).toArray e k n ds (by omega) (by rw [List.size_toArray,hflen,← hnk];exact Nat.le_refl _) (by
  have:n≤n * k:=Nat.le_mul_of_pos_right _ hk0
  unfold lim;omega) hk (fun i x j y hi hj=>by
  obtain ⟨v,hv,hrv⟩:=hrdi i x hi
  have hjk:j < k:=by rw [← hk x (mG hi)];exact (lG hj)
  have hil:i < (xs.map a.eval).length:=(lG hv)
  have hlt:i * k + j < ((xs.map a.eval).flatMap fun v=>v.cells.toList).length:=by
   rw [hflen]
   calc i * k + j < i * k + k:=by omega
    _=(i + 1) * k:=by rw [Nat.add_mul,Nat.one_mul]
    _≤_:=Nat.mul_le_mul_right _ hil
  have hg:=gE hlt
  have hu:=flat_get (k:=k) (xs.map a.eval) i j v _ hvk hv hjk hg
  obtain ⟨_,h2,h3⟩:=hrv.cells_size
  exact ⟨_,by rw [List.getElem?_toArray];exact hg,h2 j _ hu,h3 j y _ hj hu⟩)
 rw [hdn] at hfin
 exact hfin
variable {x:Operand} {r:Int}
theorem Q_convert {src dst:TypeId} {k k':IntKind} {n:Int} {d:TypeDesc}
 (hx:s.ev x=.d (.int k n)) (hs:K.P.underlying src=some d) (hd:K.P.underlying dst=some (.int k')) (hw:k'.wrap n=r) (ht:t < K.n):
 Qy K ⟨some t,.convert src dst x,rt,pos,af,g⟩ s t (.d (.int k' r)):=by
 subst hw
 refine fun S O m a w h=>⟨.int k' (k'.wrap n),fun w _=>?_,.d _ _ _ (.int _ _)⟩
 have h1:=rd_int (h.evd hx)
 simp only [execOp,h1]
 simp [convert,run_underlying hs,run_underlying hd,Conv.intToInt]
variable {yt:TypeId} {y:Operand} {a b:Int}
theorem Q_bits {op:BinOp} {k:IntKind}
 (hx:s.ev x=.d (.int k a)) (hy:s.ev y=.d (.int k b)) (hr:Op.intBits op k a b=pure (.int k r)) (ho:op=.and∨op=.or∨op=.xor∨op=.andNot) (ht:t < K.n):
 Qy K ⟨some t,.binOp op ty x y yt,rt,pos,af,g⟩ s t (.d (.int k r)):=by
 refine fun S O m ac w h=>⟨.int k r,fun w _=>?_,.d _ _ _ (.int _ _)⟩
 have h1:=rd_int (h.evd hx)
 have h2:=rd_int (h.evd hy)
 have hb:binOp op ty (.int k a) (.int k b)=Op.intBits op k a b:=by rcases ho with rfl | rfl | rfl | rfl<;>simp [binOp]
 have hg:eqGuard op ty x y (.int k a) (.int k b)=pure ():=by rcases ho with rfl | rfl | rfl | rfl<;>simp [eqGuard]
 simp only [execOp,h1,h2,hg,hb,hr]
 rfl
theorem Q_shift {op:BinOp} {k k':IntKind}
 (hx:s.ev x=.d (.int k a)) (hy:s.ev y=.d (.int k' b)) (h0:0≤b) (hr:(if op=.shl then k.wrap (a * 2 ^ (min b.toNat k.bits)) else a.fdiv (2 ^ (min b.toNat k.bits)))=r) (ho:op=.shl∨op=.shr) (ht:t < K.n):
 Qy K ⟨some t,.binOp op ty x y yt,rt,pos,af,g⟩ s t (.d (.int k r)):=by
 subst hr
 refine fun S O m ac w h=>⟨_,fun w _=>?_,.d _ _ _ (.int _ _)⟩
 have h1:=rd_int (h.evd hx)
 have h2:=rd_int (h.evd hy)
 have hb:(binOp op ty (.int k a) (.int k' b))=Op.shift op k a k' b:=by rcases ho with rfl | rfl<;>simp [binOp]
 have hg:eqGuard op ty x y (.int k a) (.int k' b)=pure ():=by rcases ho with rfl | rfl<;>simp [eqGuard]
 have hn:¬ b < 0:=by omega
 simp only [execOp,h1,h2,hg,hb]
 rcases ho with rfl | rfl<;>simp [Op.shift,hn]
theorem Q_quo {k:IntKind}
 (hx:s.ev x=.d (.int k a)) (hy:s.ev y=.d (.int k b)) (h0:b ≠ 0) (hr:k.wrap (a.tdiv b)=r) (ht:t < K.n):
 Qy K ⟨some t,.binOp .quo ty x y yt,rt,pos,af,g⟩ s t (.d (.int k r)):=by
 subst hr
 refine fun S O m ac w h=>⟨_,fun w _=>?_,.d _ _ _ (.int _ _)⟩
 have h1:=rd_int (h.evd hx)
 have h2:=rd_int (h.evd hy)
 simp only [execOp,h1,h2]
 simp [eqGuard,binOp,Op.intDiv,h0]
theorem Q_rem {k:IntKind}
 (hx:s.ev x=.d (.int k a)) (hy:s.ev y=.d (.int k b)) (h0:b ≠ 0) (hr:a.tmod b=r) (ht:t < K.n):
 Qy K ⟨some t,.binOp .rem ty x y yt,rt,pos,af,g⟩ s t (.d (.int k r)):=by
 subst hr
 refine fun S O m ac w h=>⟨_,fun w _=>?_,.d _ _ _ (.int _ _)⟩
 have h1:=rd_int (h.evd hx)
 have h2:=rd_int (h.evd hy)
 simp only [execOp,h1,h2]
 simp [eqGuard,binOp,Op.intDiv,h0]
theorem Y_move_take {u:Nat} {xs:List D}
 (hu:s.get u=some (.osl k xs)) (htu:t ≠ u) (ht:t < K.n):
 Yld K ⟨some t,.move (.tmp u),ty,pos,af,g⟩ s ((s.set u (.d (.sl xs))).set t (.osl k xs)):=by
 intro a w h
 obtain ⟨v,w',h1,h2⟩:=Y_assign_take (ty:=ty) (pos:=pos) (af:=af) (g:=g) hu htu ht a w h
 exact ⟨v,w',h1,h2⟩
end Go.Proofs.YtoonleefemkalaaDoor.E
