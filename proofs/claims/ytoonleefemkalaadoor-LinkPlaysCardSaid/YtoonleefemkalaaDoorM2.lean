import Derived.Test.YtoonleefemkalaaDoorM1
/- Contracts of functions. Conditions: none. -/
set_option linter.unusedSimpArgs false
set_option linter.unusedVariables false
namespace Go.Proofs.YtoonleefemkalaaDoor.E
open Go
section
mutual
def PV.toD:PV→Option D
 | .d x=>some x
 | .nils=>some (.sl [])
 | .osl _ xs=>some (.sl xs)
 | .agg ps=>(PV.toDs ps).map .agg
 | .fn f a c=>match PV.toDs a,PV.toDs c with
  | some a,some c=>some (.fn f a c)
  | _,_=>none
 | _=>none
def PV.toDs:List PV→Option (List D)
 | []=>some []
 | p :: ps=>match p.toD,PV.toDs ps with
  | some y,some ys=>some (y :: ys)
  | _,_=>none
end
theorem PV.toDs_get (ps:List PV):∀ (ds:List D),PV.toDs ps=some ds→ds.length=ps.length∧∀ (i:Nat) d,ds[i]? = some d→∃ p,ps[i]? = some p∧p.toD=some d:=by
 induction ps with
 | nil=>intro ds h;simp only [PV.toDs] at h;injection h with h;subst h;exact ⟨rfl,fun i d h=>by simp at h⟩
 | cons p ps ih=>
  intro ds h
  simp only [PV.toDs] at h
  split at h
  · rename_i d ds' h1 h2
    injection h with h;subst h
    obtain ⟨g1,g2⟩:=ih ds' h2
    refine ⟨by simp [g1],fun i e he=>?_⟩
    cases i with
    | zero=>exact ⟨p,rfl,by simpa [h1] using he⟩
    | succ i=>exact g2 i e (by simpa using he)
  · cases h
theorem rd_nilslice (w:World) (S:Reg):Rd w S (.sl []) (.slice none 0 0):=
 .sl [] none 0 0 (by simp) (by simp [lim]) (by simp) (by simp) (by simp) (by simp)
variable {w:World} {S:Reg} {O:Owns} {m:List Nat}
theorem RP.toD {l:List Nat} {p:PV} {v:Value} (h:RP w S O m l p v):∀ d,p.toD=some d→Rd w S d v:=by
 induction h with
 | d l x v h=>intro d hd;simp only [PV.toD] at hd;injection hd with hd;subst hd;exact h
 | nils l=>intro d hd;simp only [PV.toD] at hd;injection hd with hd;subst hd;exact rd_nilslice w S
 | osl l k xs a cap hr hk hn ht=>intro d hd;simp only [PV.toD] at hd;injection hd with hd;subst hd;exact hr
 | ref=>intro d hd;simp [PV.toD] at hd
 | rsl=>intro d hd;simp [PV.toD] at hd
 | mref=>intro d hd;simp [PV.toD] at hd
 | ifr=>intro d hd;simp [PV.toD] at hd
 | fn l f first caps vf vc h1 h2 _ _ g1 g2=>
  intro d hd
  simp only [PV.toD] at hd
  split at hd
  · rename_i a c ha hc
    injection hd with hd;subst hd
    obtain ⟨la,ga⟩:=PV.toDs_get _ _ ha
    obtain ⟨lc,gc⟩:=PV.toDs_get _ _ hc
    exact .fn f a c vf vc (by omega) (by omega) (fun i d v hi hv=>by obtain ⟨p,hp,hpd⟩:=ga i d hi;exact g1 i p v hp hv d hpd)
     (fun i d v hi hv=>by obtain ⟨p,hp,hpd⟩:=gc i d hi;exact g2 i p v hp hv d hpd)
  · cases hd
 | agg l cs vs hl ho _ ih=>
  intro d hd
  simp only [PV.toD] at hd
  cases hds:PV.toDs cs with
  | none=>simp [hds] at hd
  | some ds=>
   simp only [hds,Option.map_some] at hd;injection hd with hd;subst hd
   obtain ⟨g1,g2⟩:=PV.toDs_get _ _ hds
   exact .agg ds vs (by omega) ho (fun i d v hi hv=>by obtain ⟨p,hp,hpd⟩:=g2 i d hi;exact ih i p v hp hv d hpd)
 | tup=>intro d hd;simp [PV.toD] at hd
 | whenT=>intro d hd;simp [PV.toD] at hd
 | whenF=>intro d hd;simp [PV.toD] at hd
 | undef=>intro d hd;simp [PV.toD] at hd
def mkAgg (ps:List PV):PV:=
 match PV.toDs ps with
 | some ds=>.d (.agg ds)
 | none=>.agg (PV.copies ps)
theorem RP_mkAgg {O':Owns} (l':List Nat) {ps:List PV} {vs:Array Value} (L:Nat→List Nat) (hl:vs.size=ps.length)
 (ho:∀ (i:Nat) v,vs[i]? = some v→v.oneCell'=true) (h:∀ (i:Nat) p v,ps[i]? = some p→vs[i]? = some v→RP w S O m (L i) p v):RP w S O' m l' (mkAgg ps) (.agg vs):=by
 unfold mkAgg
 split
 · rename_i ds hds
   obtain ⟨g1,g2⟩:=PV.toDs_get _ _ hds
   exact .d _ _ _ (.agg ds vs (by omega) ho (fun i d v hi hv=>by obtain ⟨p,hp,hpd⟩:=g2 i d hi;exact (h i p v hp hv).toD d hpd))
 · refine .agg _ _ vs (by simp [PV.copies_map,hl]) ho (fun i p v hi hv=>?_)
   obtain ⟨p,hp,rfl⟩:=PV.copies_getElem? _ _ _ hi
   exact (h i p v hp hv).copy _ _
def plainB:List PV→Bool
 | []=>false
 | .mapc _ :: _=>false
 | .undef :: _=>false
 | _=>true
variable {cs:List PV}
theorem plainB_ne (h:plainB cs=true):cs ≠ []:=by rintro rfl;cases h
theorem Blk.cells {i:Nat} {r:Nat} (h:Blk w S O m i cs r) (hp:plainB cs=true):
 ∃ vs el,w.heap[r]? = some (.cells vs el (0,0))∧cs.length≤vs.size∧(∀ (j:Nat) v,vs[j]? = some v→v.oneCell'=true)∧∀ (j:Nat) p v,cs[j]? = some p→vs[j]? = some v→RP w S O m [j,i,1] p v:=by
 rcases h with h | ⟨kvs,es,c,rfl,_⟩ | ⟨vs,rfl⟩ | ⟨b,pos,rfl,_⟩ | ⟨kvs,p,vs,es,c,rfl,_⟩
 · exact h
 · cases hp
 · cases hp
 · cases hp
 · cases hp
variable {K:Ctx} {s:GS}
theorem Rep.block {a:Act} (h:Rep K S O m s a w) {b:Nat} {cs:List PV} (hb:s.mem[b]? = some cs) (hne:plainB cs=true):
 ∃ r vs el,m[b]? = some r∧O r=some ([b,1],0)∧w.heap[r]? = some (.cells vs el (0,0))∧cs.length≤vs.size∧
 (∀ (j:Nat) v,vs[j]? = some v→v.oneCell'=true)∧∀ (j:Nat) p v,cs[j]? = some p→vs[j]? = some v→RP w S O m [j,b,1] p v:=by
 have hlt:b < m.length:=by rw [h.env.mlen];exact (lG hb)
 obtain ⟨h1,hblk⟩:=h.env.mem b cs m[b] hb (gE hlt) (plainB_ne hne)
 obtain ⟨vs,el,h2,h3,h4,h5⟩:=hblk.cells hne
 exact ⟨m[b],vs,el,gE hlt,h1,h2,h3,h4,h5⟩
def leafT:TypeDesc→Bool
 | .struct _ | .array _ _=>false
 | _=>true
theorem add_at (b o j:Nat):(⟨b,o,none⟩:Addr).add j=⟨b,o + j,none⟩:=by unfold Addr.add;split<;>simp_all
variable {P:Program} {ty:TypeId} {d:TypeDesc}
theorem run_isAgg (hu:P.underlying ty=some d) (w:World):(isAgg ty).run P w=.ok (!leafT d) w:=by
 unfold isAgg
 rw [Sem.run_bind,run_underlying hu w]
 cases d<;>simp [leafT]
theorem run_loadAt_leaf (hu:P.underlying ty=some d) (hl:leafT d=true) {w:World} {ad:Addr} {v:Value} (hc:w.cell? ad=some v):
 (Instr.loadAt ty (.pointer (some ad))).run P w=.ok v w:=by
 simp [Instr.loadAt,Instr.sureAddr,loadVar,run_isAgg hu,hl,hc]
theorem run_loadAt_agg (hu:P.underlying ty=some d) (hl:leafT d=false) {w:World} {ad:Addr} {vs:List Value}
 (hz:(P.info? ty).map (·.size)=some vs.length) (hc:∀ (j:Nat) v,vs[j]? = some v→w.cell? (ad.add j)=some v):
 (Instr.loadAt ty (.pointer (some ad))).run P w=.ok (.agg vs.toArray) w:=by
 cases hq:P.info? ty with
 | none=>simp [hq] at hz
 | some i=>
  have hs:i.size=vs.length:=by simpa [hq] using hz
  simp [Instr.loadAt,Instr.sureAddr,loadVar,run_isAgg hu,hl,sizeOf,typeInfo,hq,hs,run_loadCells_list w ad vs hc]
variable {t b off:Nat} {x:Operand} {rt:TypeId} {pos:String} {af:Array Edge} {g:Option (Nat×Bool)}
theorem Q_load_leaf {p:PV}
 (hx:s.ev x=.ref b off) (hm:s.mem[b]? = some cs) (hc:cs[off]? = some p) (hu:K.P.underlying ty=some d) (hl:leafT d=true) (hB:K.Bs.contains b=false) (hpl:plainB cs=true) (ht:t < K.n):
 Qy K ⟨some t,.load ty x,rt,pos,af,g⟩ s t p.copy:=by
 refine fun S O m a w h=>?_
 obtain ⟨l,hr⟩:=h.ev x
 rw [hx] at hr
 generalize hv:a.eval x=v at hr
 cases hr with
 | ref _ _ _ r hr=>
  obtain ⟨r',vs,el,h1,h2,h3,h4,h5,h6⟩:=h.block hm hpl
  obtain rfl:r=r':=by rw [hr] at h1;exact Option.some.inj h1
  have hlt:off < vs.size:=Nat.lt_of_lt_of_le (lG hc) h4
  have hcell:w.cell? ⟨r,off,none⟩=some vs[off]:=by rw [cell_of_row w r off vs el _ h3];exact Array.getElem?_eq_getElem hlt
  refine ⟨vs[off],fun w' he=>?_,(h6 off p _ hc (Array.getElem?_eq_getElem hlt)).copy _ _⟩
  have hcell':=(he.cell r off (.inr ⟨b,hr,hB⟩)).trans hcell
  simp only [execOp,hv]
  simp [run_loadAt_leaf hu hl hcell']
theorem Yld_bs {o:Oper} {s':GS} (h:Yld ⟨K.P,K.n,K.S0,K.O0,K.w0,K.m0,[],K.ds⟩ o s s'):Yld K o s s':=by
 rintro a w ⟨S,O,m,hr⟩
 obtain ⟨v,w',h1,S',O',m',h2⟩:=h a w ⟨S,O,m,hr.env,hr.defers,hr.size,hr.pre,hr.slots⟩
 exact ⟨v,w',h1,S',O',m',h2.env,h2.defers,h2.size,h2.pre,h2.slots⟩
variable {n:Nat}
theorem Q_load_agg
 (hx:s.ev x=.ref b off) (hm:s.mem[b]? = some cs) (hz:(K.P.info? ty).map (·.size)=some n) (hu:K.P.underlying ty=some d) (hl:leafT d=false) (hn:off + n≤cs.length) (hB:K.Bs.contains b=false) (hpl:plainB cs=true) (ht:t < K.n):
 Qy K ⟨some t,.load ty x,rt,pos,af,g⟩ s t (mkAgg ((cs.drop off).take n)):=by
 refine fun S O m a w h=>?_
 obtain ⟨l,hr⟩:=h.ev x
 rw [hx] at hr
 generalize hv:a.eval x=v at hr
 cases hr with
 | ref _ _ _ r hr=>
  obtain ⟨r',vs,el,h1,h2,h3,h4,h5,h6⟩:=h.block hm hpl
  obtain rfl:r=r':=by rw [hr] at h1;exact Option.some.inj h1
  have hlen:((vs.toList.drop off).take n).length=n:=by simp;omega
  refine ⟨.agg ((vs.toList.drop off).take n).toArray,fun w' he=>?_,RP_mkAgg (O:=O) _ (fun i=>[off + i,b,1]) (by simp;omega) (fun i v hv=>?_) (fun i p v hp hv=>?_)⟩
  · simp only [execOp,hv]
    have:=run_loadAt_agg (w:=w') (ad:=⟨r,off,none⟩) (vs:=(vs.toList.drop off).take n) hu hl (by rw [hlen];exact hz) (fun j v hj=>by
     rw [add_at,he.cell r (off + j) (.inr ⟨b,hr,hB⟩),cell_of_row w r (off + j) vs el _ h3]
     simp only [List.getElem?_take,List.getElem?_drop] at hj
     split at hj
     · simpa using hj
     · cases hj)
    simp [this]
  · refine h5 (off + i) v ?_
    simp only [List.getElem?_toArray,List.getElem?_take,List.getElem?_drop] at hv
    split at hv
    · simpa using hv
    · cases hv
  · refine h6 (off + i) p v ?_ ?_
    · simp only [List.getElem?_take,List.getElem?_drop] at hp
      split at hp
      · exact hp
      · cases hp
    · simp only [List.getElem?_toArray,List.getElem?_take,List.getElem?_drop] at hv
      split at hv
      · simpa using hv
      · cases hv
theorem Q_loadp_leaf {d:D} {td:TypeDesc}
 (hx:s.ev x=.d (.ptr d)) (hd:d.cells=[d]) (hu:K.P.underlying ty=some td) (hl:leafT td=true) (ht:t < K.n):
 Qy K ⟨some t,.load ty x,rt,pos,af,g⟩ s t (.d d):=by
 refine fun S O m a w h=>?_
 have hr:=h.evd hx
 generalize hv:a.eval x=v at hr
 cases hr with
 | ptr _ ad hs hc hr=>
  obtain ⟨hS,v,h1,h2⟩:=hc 0 d (by simp [hd])
  have had:(⟨ad.block,ad.off + 0,none⟩:Addr)=ad:=by cases ad;simp_all
  refine ⟨v,fun w' he=>?_,.d _ _ _ (hr 0 d v (by simp [hd]) h1)⟩
  have h1':=(he.cell _ _ (.inl hS)).trans h1
  rw [had] at h1'
  simp only [execOp,hv]
  simp [run_loadAt_leaf hu hl h1']
theorem Q_loadp_agg {ds:List D} {td:TypeDesc}
 (hx:s.ev x=.d (.ptr (.agg ds))) (hz:(K.P.info? ty).map (·.size)=some ds.length) (hu:K.P.underlying ty=some td) (hl:leafT td=false) (ht:t < K.n):
 Qy K ⟨some t,.load ty x,rt,pos,af,g⟩ s t (.d (.agg ds)):=by
 refine fun S O m a w h=>?_
 have hr:=h.evd hx
 generalize hv:a.eval x=v at hr
 cases hr with
 | ptr _ ad hs hc hr=>
  simp only [D.cells] at hc hr
  have hex:∃ vs:List Value,vs.length=ds.length∧∀ (j:Nat) u,vs[j]? = some u→w.cell? ⟨ad.block,ad.off + j,none⟩=some u∧u.oneCell'=true∧S ad.block (ad.off + j):=by
   refine ⟨(List.range ds.length).map fun j=>(w.cell? ⟨ad.block,ad.off + j,none⟩).getD undef,by simp,fun j u hu=>?_⟩
   simp only [List.getElem?_map] at hu
   cases hj:(List.range ds.length)[j]? with
   | none=>simp [hj] at hu
   | some j'=>
    obtain ⟨hlt,rfl⟩:=List.getElem?_eq_some_iff.1 hj
    simp only [List.length_range] at hlt
    simp only [hj,Option.map_some,List.getElem_range] at hu
    obtain ⟨h0,v,h1,h2⟩:=hc j ds[j] (gE hlt)
    rw [h1] at hu
    simp only [Option.getD_some,Option.some.injEq] at hu
    exact ⟨h1.trans (by rw [hu]),hu▸h2,h0⟩
  obtain ⟨vs,hlen,hvs⟩:=hex
  refine ⟨.agg vs.toArray,fun w' he=>?_,.d _ _ _ (.agg ds _ (by simp [hlen]) (fun i v hi=>(hvs i v (by simpa using hi)).2.1) (fun i d v hi hv=>hr i d v hi (hvs i v (by simpa using hv)).1))⟩
  have had:∀ j:Nat,ad.add j=⟨ad.block,ad.off + j,none⟩:=fun j=>by rw [show ad=⟨ad.block,ad.off,none⟩ by cases ad;simp_all];exact add_at _ _ _
  have:=run_loadAt_agg (w:=w') (ad:=ad) (vs:=vs) hu hl (by rw [hlen];exact hz) (fun j v hj=>by rw [had];exact (he.cell _ _ (.inl (hvs j v hj).2.2)).trans (hvs j v hj).1)
  simp only [execOp,hv]
  simp [this]
variable {st:TypeId} {f:Nat} {fs:Array Field} {fl:Field}
theorem run_fieldAt (hu:P.underlying st=some (.struct fs)) (hf:fs[f]? = some fl)
 (hz:(P.info? fl.type).map (·.size)=some (n + 1)) (w:World) (ad:Addr):
 (Instr.fieldAt st (.pointer (some ad)) f).run P w=.ok (.pointer (some (ad.add fl.offset))) w:=by
 cases hq:P.info? fl.type with
 | none=>simp [hq] at hz
 | some i=>
  have hs:i.size=n + 1:=by simpa [hq] using hz
  simp [Instr.fieldAt,run_underlying hu,hf,Instr.sureAddr,fieldPlace,sizeOf,typeInfo,hq,hs]
theorem Q_fieldAddr
 (hx:s.ev x=.ref b off) (hu:K.P.underlying st=some (.struct fs)) (hf:fs[f]? = some fl) (hz:(K.P.info? fl.type).map (·.size)=some (n + 1)) (ht:t < K.n):
 Qy K ⟨some t,.fieldAddr st x f,rt,pos,af,g⟩ s t (.ref b (off + fl.offset)):=by
 refine fun S O m a w h=>?_
 obtain ⟨l,hr⟩:=h.ev x
 rw [hx] at hr
 generalize hv:a.eval x=v at hr
 cases hr with
 | ref _ _ _ r hr=>
  refine ⟨.pointer (some ⟨r,off + fl.offset,none⟩),fun w _=>?_,.ref _ _ _ r hr⟩
  simp only [execOp,hv]
  simp [run_fieldAt hu hf hz,add_at]
def D.part (leaf:Bool) (off n:Nat) (ds:List D):Option D:=if leaf then (match ds[off]? with | some d=>if d.cells.length=1 then some d else none | none=>none) else if off + n≤ds.length then some (.agg ((ds.drop off).take n)) else none
theorem D.cells_one {x:D} (h:x.cells.length=1) (ho:∀ cs,x ≠ .agg cs):x.cells=[x]:=by cases x<;>first | rfl | exact absurd rfl (ho _)
theorem Q_fieldp_leaf {ds:List D} {d:D}
 (hx:s.ev x=.d (.ptr (.agg ds))) (hu:K.P.underlying st=some (.struct fs)) (hf:fs[f]? = some fl) (hz:(K.P.info? fl.type).map (·.size)=some (n + 1))
 (hd:ds[fl.offset]? = some d) (hc:d.cells=[d]) (ht:t < K.n):
 Qy K ⟨some t,.fieldAddr st x f,rt,pos,af,g⟩ s t (.d (.ptr d)):=by
 refine fun S O m a w h=>?_
 have hr:=h.evd hx
 generalize hv:a.eval x=v at hr
 cases hr with
 | ptr _ ad hs hcell hr=>
  have had:ad=⟨ad.block,ad.off,none⟩:=by cases ad;simp_all
  refine ⟨.pointer (some ⟨ad.block,ad.off + fl.offset,none⟩),fun w _=>?_,.d _ _ _ (.ptr d _ rfl (fun j y hj=>?_) (fun j y v hj hv=>?_))⟩
  · simp only [execOp,hv]
    rw [had]
    simp [run_fieldAt hu hf hz,add_at]
  · rw [hc] at hj
    obtain ⟨rfl,rfl⟩:j=0∧y=d:=by cases j with | zero=>exact ⟨rfl,by simpa using hj.symm⟩ | succ j=>simp at hj
    simpa [D.cells] using hcell fl.offset y (by simpa [D.cells] using hd)
  · rw [hc] at hj
    obtain ⟨rfl,rfl⟩:j=0∧y=d:=by cases j with | zero=>exact ⟨rfl,by simpa using hj.symm⟩ | succ j=>simp at hj
    exact hr fl.offset y v (by simpa [D.cells] using hd) (by simpa using hv)
theorem Q_fieldp_agg {ds:List D}
 (hx:s.ev x=.d (.ptr (.agg ds))) (hu:K.P.underlying st=some (.struct fs)) (hf:fs[f]? = some fl) (hz:(K.P.info? fl.type).map (·.size)=some (n + 1)) (ht:t < K.n):
 Qy K ⟨some t,.fieldAddr st x f,rt,pos,af,g⟩ s t (.d (.ptr (.agg ((ds.drop fl.offset).take (n + 1))))):=by
 refine fun S O m a w h=>?_
 have hr:=h.evd hx
 generalize hv:a.eval x=v at hr
 cases hr with
 | ptr _ ad hs hcell hr=>
  have had:ad=⟨ad.block,ad.off,none⟩:=by cases ad;simp_all
  have hget:∀ (j:Nat) y,(D.agg ((ds.drop fl.offset).take (n + 1))).cells[j]? = some y→ds[fl.offset + j]? = some y:=by
   intro j y hj
   simp only [D.cells,List.getElem?_take,List.getElem?_drop] at hj
   split at hj
   · exact hj
   · cases hj
  refine ⟨.pointer (some ⟨ad.block,ad.off + fl.offset,none⟩),fun w _=>?_,.d _ _ _ (.ptr _ _ rfl (fun j y hj=>?_) (fun j y v hj hv=>?_))⟩
  · simp only [execOp,hv]
    rw [had]
    simp [run_fieldAt hu hf hz,add_at]
  · have:=hcell (fl.offset + j) y (by simpa [D.cells] using hget j y hj)
    simpa [Nat.add_assoc] using this
  · exact hr (fl.offset + j) y v (by simpa [D.cells] using hget j y hj) (by simpa [Nat.add_assoc] using hv)
variable {e:TypeId}
theorem run_indexAt_slice {len cap:Nat} {k:IntKind} {i:Int} (hu:P.underlying ty=some (.slice e)) (hz:(P.info? e).map (·.size)=some n) (h0:0≤i) (h1:i < len)
 (w:World) (ad:Addr):(Instr.indexAt ty (.slice (some ad) len cap) (.int k i)).run P w=.ok (.pointer (some (ad.add (i.toNat * n)))) w:=by
 cases hq:P.info? e with
 | none=>simp [hq] at hz
 | some inf=>
  have hs:inf.size=n:=by simpa [hq] using hz
  simp [Instr.indexAt,asIntOf,run_underlying hu,sizeOf,typeInfo,hq,hs,h0,h1]
theorem Rd.elem {xs:List D} {v:Value} (h:Rd w S (.sl xs) v) {i:Nat} {x:D} (hi:xs[i]? = some x) (hpos:0 < x.cells.length):
 ∃ ad cap,v=.slice (some ad) xs.length cap∧Rd w S (.ptr x) (.pointer (some (ad.add (i * x.cells.length)))):=by
 cases h with
 | sl _ a cap k hcap hlim hk hn hc hr=>
  cases a with
  | none=>have:=hn rfl;subst this;simp at hi
  | some ad=>
   have hcell:=hc ad rfl
   have hs:=(hcell i x 0 _ hi (gE hpos)).1
   have hkx:x.cells.length=k:=hk x (mG hi)
   have had:ad=⟨ad.block,ad.off,none⟩:=by cases ad;simp_all
   have hadd:ad.add (i * x.cells.length)=⟨ad.block,ad.off + i * k,none⟩:=by rw [had,add_at,hkx]
   refine ⟨ad,cap,rfl,?_⟩
   rw [hadd]
   refine .ptr x _ rfl (fun j y hj=>?_) (fun j y v hj hv=>?_)
   · simpa [Nat.add_assoc] using (hcell i x j y hi hj).2
   · exact hr ad i x j y v rfl hi hj (by simpa [Nat.add_assoc] using hv)
def PV.list?:PV→Option (List D)
 | .d (.sl xs)=>some xs
 | .osl _ xs=>some xs
 | .nils=>some []
 | _=>none
theorem Rep.evl {a:Act} (h:Rep K S O m s a w) {x:Operand} {xs:List D} (hx:(s.ev x).list? = some xs):
 Rd w S (.sl xs) (a.eval x):=by
 obtain ⟨l,hr⟩:=h.ev x
 generalize s.ev x=p at hx hr
 unfold PV.list? at hx
 split at hx
 · injection hx with hx;subst hx;cases hr with | d _ _ _ h=>exact h
 · injection hx with hx;subst hx;exact hr.toD _ (by simp [PV.toD])
 · injection hx with hx;subst hx;exact hr.toD _ (by simp [PV.toD])
 · cases hx
theorem Q_indexAddr {ix:Operand} {xs:List D} {k:IntKind} {i:Int} {d:D}
 (hx:(s.ev x).list? = some xs) (hi:s.ev ix=.d (.int k i)) (h0:0≤i) (hd:xs[i.toNat]? = some d) (hu:K.P.underlying ty=some (.slice e)) (hz:(K.P.info? e).map (·.size)=some n)
 (hn:d.cells.length=n) (hn0:0 < n) (ht:t < K.n):Qy K ⟨some t,.indexAddr ty x ix,rt,pos,af,g⟩ s t (.d (.ptr d)):=by
 refine fun S O m a w h=>?_
 have hr:=h.evl hx
 have hiv:=rd_int (h.evd hi)
 obtain ⟨ad,cap,hv,hp⟩:=hr.elem hd (by omega)
 have hlt:i.toNat < xs.length:=(lG hd)
 refine ⟨_,fun w _=>?_,.d _ _ _ hp⟩
 simp only [execOp,hv,hiv]
 have:=run_indexAt_slice (len:=xs.length) (cap:=cap) (k:=k) hu hz h0 (by omega) w ad
 simp [this,hn]
theorem Q_len {xs:List D}
 (hx:(s.ev x).list? = some xs) (hu:K.P.underlying ty=some (.slice e)) (ht:t < K.n):
 Qy K ⟨some t,.call ⟨.builtin .len,#[x],#[ty]⟩,rt,pos,af,g⟩ s t (.d (.int .i64 (xs.length:Int))):=by
 refine fun S O m a w h=>?_
 have hr:=h.evl hx
 generalize hv:a.eval x=v at hr
 cases hr with
 | sl _ ad cap k hcap hlim hk hn hc hr=>
  refine ⟨.int .i64 (xs.length:Int),fun w _=>?_,.d _ _ _ (.int _ _)⟩
  simp [execOp,resolve,invoke,builtin,hv,Builtin.len_,run_underlying hu,goInt]
theorem Q_lenstr {b:ByteArray}
 (hx:s.ev x=.d (.str b)) (hu:K.P.underlying ty=some .string) (ht:t < K.n):
 Qy K ⟨some t,.call ⟨.builtin .len,#[x],#[ty]⟩,rt,pos,af,g⟩ s t (.d (.int .i64 (b.size:Int))):=by
 refine fun S O m a w h=>?_
 have hr:=rd_str (h.evd hx)
 refine ⟨.int .i64 (b.size:Int),fun w _=>?_,.d _ _ _ (.int _ _)⟩
 simp [execOp,resolve,invoke,builtin,hr,Builtin.len_,run_underlying hu,goInt]
end
section
def reo (O:Owns) (f:List Nat→List Nat):Owns:=fun b=>(O b).map fun x=>(f x.1,x.2)
theorem reo_some {O:Owns} {f:List Nat→List Nat} {b:Nat} {l:List Nat} {t:Nat} (h:reo O f b=some (l,t)):∃ l0,O b=some (l0,t)∧f l0=l:=by
 unfold reo at h
 cases hb:O b with
 | none=>simp [hb] at h
 | some x=>obtain ⟨l0,t0⟩:=x;simp [hb] at h;exact ⟨l0,by rw [h.2],h.1⟩
theorem reo_of {O:Owns} {f:List Nat→List Nat} {b:Nat} {l:List Nat} {t:Nat} (h:O b=some (l,t)):reo O f b=some (f l,t):=by simp [reo,h]
theorem RP.mv {w:World} {S:Reg} {O:Owns} {m l:List Nat} {p:PV} {v:Value} (h:RP w S O m l p v) (f:List Nat→List Nat) (l':List Nat) (hf:∀ q,f (q++l)=q++l'):
 RP w S (reo O f) m l' p v:=
 h.frame l' (Ext.refl S w) (fun _ _ h=>h) (fun b t q hb=>by rw [reo_of hb,hf]) (fun _ _ h=>h)
theorem ext_setRow {S:Reg} {w:World} {r:Nat} {vs vs':Array Value} {el:TypeId} {fz:Nat×Nat} (hh:w.heap[r]? = some (.cells vs el fz)) (hs:vs'.size=vs.size)
 (hS:∀ o,S r o→vs'[o]? = vs[o]?):Ext S w (w.setRow r vs') where
 size:=by simp
 shape:=fun b us e fz' hb=>by
  by_cases hbr:b=r
  · subst hbr
    rw [hh] at hb;injection hb with hb;injection hb with h1 h2 h3;subst h1;subst h2;subst h3
    exact ⟨vs',setRow_heap w b _ vs' _ _ hh,hs⟩
  · exact ⟨us,by rw [setRow_other w r b vs' hbr];exact hb,rfl⟩
 cell:=fun b o hb=>by
  by_cases hbr:b=r
  · subst hbr
    rw [cell_of_row _ _ _ _ _ _ (setRow_heap w b _ vs' _ _ hh),cell_of_row _ _ _ _ _ _ hh]
    exact hS o hb
  · exact cell_setRow_other w r vs' _ hbr
 maps:=fun b es c hb hm=>by
  have hbr:b ≠ r:=by rintro rfl;rw [hh] at hm;injection hm with hm;cases hm
  rw [setRow_other w r b vs' hbr];exact hm
theorem ext_alloc (S:Reg) (w:World) (o:Obj) (hS:∀ b i,S b i→b < w.heap.size):Ext S w (w.alloc o) where
 size:=by simp
 shape:=fun b us e fz hb=>⟨us,by
  have hlt:b < w.heap.size:=(Array.getElem?_eq_some_iff.1 hb).1
  simp only [World.alloc,Array.getElem?_push]
  rw [if_neg (Nat.ne_of_lt hlt)];exact hb,rfl⟩
 cell:=fun b i hb=>World.cell?_alloc_lt w o ⟨b,i,none⟩ (hS b i hb)
 maps:=fun b es c hb hm=>by
  simp only [World.alloc,Array.getElem?_push]
  rw [if_neg (Nat.ne_of_lt (hS b 0 hb))];exact hm
theorem ext_drew (S:Reg) (w:World):Ext S w w.drew:=⟨Nat.le_refl _,fun _ us _ _ h=>⟨us,h,rfl⟩,fun _ _ _=>rfl,fun _ _ _ _ h=>h,rfl,rfl,rfl⟩
theorem heap_alloc_new' (w:World) (o:Obj):(w.alloc o).heap[w.heap.size]? = some o:=by show (w.heap.push o)[w.heap.size]? = some o;simp
theorem heap_alloc_old' (w:World) (o:Obj) (b:Nat) (h:b < w.heap.size):(w.alloc o).heap[b]? = w.heap[b]?:=by
 simp only [World.alloc,Array.getElem?_push];rw [if_neg (Nat.ne_of_lt h)]
section
variable {S0:Reg} {O0:Owns} {w0:World} {S:Reg} {O:Owns} {m:List Nat} {mem:List (List PV)} {w:World}
theorem Env.write (h:Env S0 O0 w0 S O m mem w) {b r:Nat} {cs cs':List PV} {vs vs':Array Value} {el:TypeId} (f:List Nat→List Nat)
 (hb:mem[b]? = some cs) (hne:cs ≠ []) (hm:m[b]? = some r) (hh:w.heap[r]? = some (.cells vs el (0,0))) (hl:cs'.length≤vs'.size) (hs:vs'.size=vs.size)
 (ho:∀ (j:Nat) v,vs'[j]? = some v→v.oneCell'=true) (hf:∀ i,f [i,1]=[i,1])
 (hc:∀ (j:Nat) p v,cs'[j]? = some p→vs'[j]? = some v→RP (w.setRow r vs') S (reo O f) m [j,b,1] p v)
 (hx:∀ i j q,i ≠ b→f (q++[j,i,1])=q++[j,i,1]):Env S0 O0 w0 S (reo O f) m (mem.set b cs') (w.setRow r vs'):=by
 have hown:O r=some ([b,1],0):=(h.mem b cs r hb hm hne).1
 have hSr:∀ o,¬ S r o:=fun o hS=>absurd (h.sown r o _ _ hS hown) (Nat.not_lt_zero _)
 have hE:Ext S w (w.setRow r vs'):=ext_setRow hh hs (fun o hS=>absurd hS (hSr o))
 refine ⟨h.ext.trans hE h.s0,fun k hk hO=>?_,fun k l t o hk hO hot=>?_,h.s0,h.snew,fun k o l t hS hO=>?_,fun k o hS=>?_,fun k l t hO=>?_,fun k l t hO=>?_,by simp [h.mlen],fun i cs'' r' hi hr' hne'=>?_⟩
 · have:k ≠ r:=by
    rintro rfl
    rcases h.onew k _ _ hown with h1 | ⟨l0,t0,h1,_⟩
    · omega
    · rw [hO] at h1;cases h1
   rw [setRow_other _ _ _ _ this];exact h.old k hk hO
 · have:k ≠ r:=by
    rintro rfl
    rcases h.onew k _ _ hown with h1 | ⟨l0,t0,h1,h2⟩
    · omega
    · rw [hO] at h1;injection h1 with h1;injection h1 with _ h1;omega
   rw [cell_setRow_other _ _ _ _ this];exact h.part k l t o hk hO hot
 · obtain ⟨l0,h1,_⟩:=reo_some hO;exact h.sown k o l0 t hS h1
 · have:=h.slt k o hS;simpa using this
 · obtain ⟨l0,h1,_⟩:=reo_some hO;have:=h.olt k l0 t h1;simpa using this
 · obtain ⟨l0,h1,_⟩:=reo_some hO;exact h.onew k l0 t h1
 · by_cases hib:i=b
   · subst hib
     rw [hm] at hr';injection hr' with hr';subst hr'
     have hlt:i < mem.length:=(lG hb)
     rw [List.getElem?_set_self hlt] at hi;injection hi with hi;subst hi
     exact ⟨by rw [reo_of hown,hf],.inl ⟨vs',el,setRow_heap w r _ vs' _ _ hh,hl,ho,hc⟩⟩
   · rw [List.getElem?_set_ne (Ne.symm hib)] at hi
     obtain ⟨g1,g2⟩:=h.mem i cs'' r' hi hr' hne'
     have hrr:r' ≠ r:=by
      rintro rfl
      rw [g1] at hown;injection hown with hown;injection hown with hown _;injection hown with hown _;exact hib hown
     exact ⟨by rw [reo_of g1,hf],g2.frame (setRow_other _ _ _ _ hrr) hE (fun _ _ h=>h) (fun j k t q hk=>by rw [reo_of hk,hx i j q hib]) (fun _ _ h=>h)⟩
theorem Env.relab (h:Env S0 O0 w0 S O m mem w) (f:List Nat→List Nat) (hf:∀ i,f [i,1]=[i,1]) (hx:∀ i j q,f (q++[j,i,1])=q++[j,i,1]):Env S0 O0 w0 S (reo O f) m mem w:=by
 refine ⟨h.ext,h.old,h.part,h.s0,h.snew,fun k o l t hS hO=>?_,h.slt,fun k l t hO=>?_,fun k l t hO=>?_,h.mlen,fun i cs r hi hr hne'=>?_⟩
 · obtain ⟨l0,h1,_⟩:=reo_some hO;exact h.sown k o l0 t hS h1
 · obtain ⟨l0,h1,_⟩:=reo_some hO;exact h.olt k l0 t h1
 · obtain ⟨l0,h1,_⟩:=reo_some hO;exact h.onew k l0 t h1
 · obtain ⟨g1,g2⟩:=h.mem i cs r hi hr hne'
   exact ⟨by rw [reo_of g1,hf],g2.frame rfl (Ext.refl S w) (fun _ _ h=>h) (fun j k t q hk=>by rw [reo_of hk,hx i j q]) (fun _ _ h=>h)⟩
theorem Env.alloc (h:Env S0 O0 w0 S O m mem w) (vs:Array Value) (el:TypeId) (cs:List PV) (hl:cs.length≤vs.size) (ho:∀ (j:Nat) v,vs[j]? = some v→v.oneCell'=true)
 (hc:∀ (j:Nat) p v,cs[j]? = some p→vs[j]? = some v→∃ O' l,(∀ b,b ≠ w.heap.size→O' b=O b)∧RP w S O' m l p.copy v) (hcp:PV.copies cs=cs):
 Env S0 O0 w0 S (fun b=>if b=w.heap.size then some ([mem.length,1],0) else O b) (m++[w.heap.size]) (mem++[cs]) (w.alloc (.cells vs el)):=by
 have hE:Ext S w (w.alloc (.cells vs el)):=ext_alloc S w _ h.slt
 have hsz0:w0.heap.size≤w.heap.size:=h.ext.size
 have hO:∀ (b:Nat) l t,O b=some (l,t)→(if b=w.heap.size then some ([mem.length,1],0) else O b)=some (l,t):=fun b l t hb=>by
  rw [if_neg (Nat.ne_of_lt (h.olt b l t hb))];exact hb
 refine ⟨h.ext.trans hE h.s0,fun k hk hO'=>?_,fun k l t o hk hO' hot=>?_,h.s0,h.snew,fun k o l t hS hO'=>?_,fun k o hS=>?_,fun k l t hO'=>?_,fun k l t hO'=>?_,by simp [h.mlen],fun i cs'' r' hi hr' hne'=>?_⟩
 · rw [heap_alloc_old' _ _ _ (by omega)];exact h.old k hk hO'
 · rw [World.cell?_alloc_lt w _ ⟨k,o,none⟩ (show k < w.heap.size by omega)];exact h.part k l t o hk hO' hot
 · have:=h.slt k o hS;rw [if_neg (Nat.ne_of_lt this)] at hO';exact h.sown k o l t hS hO'
 · have:=h.slt k o hS;simp;omega
 · by_cases hk:k=w.heap.size
   · subst hk;simp
   · rw [if_neg hk] at hO';have:=h.olt k l t hO';simp;omega
 · by_cases hk:k=w.heap.size
   · exact .inl (by omega)
   · rw [if_neg hk] at hO';exact h.onew k l t hO'
 · have hmm:∀ (b r:Nat),m[b]? = some r→(m++[w.heap.size])[b]? = some r:=fun b r hb=>by
    rw [List.getElem?_append_left (lG hb)];exact hb
   by_cases hi':i < mem.length
   · rw [List.getElem?_append_left hi'] at hi
     rw [List.getElem?_append_left (by rw [h.mlen];exact hi')] at hr'
     obtain ⟨g1,g2⟩:=h.mem i cs'' r' hi hr' hne'
     exact ⟨hO _ _ _ g1,g2.frame (heap_alloc_old' _ _ _ (h.olt _ _ _ g1)) hE (fun _ _ h=>h) (fun j b t q hb=>hO b _ t hb) hmm⟩
   · have hil:i=mem.length:=by
      have:=(lG hi);simp at this;omega
     subst hil
     rw [List.getElem?_append_right (Nat.le_refl _)] at hi
     rw [← h.mlen,List.getElem?_append_right (Nat.le_refl _)] at hr'
     simp only [Nat.sub_self,List.getElem?_cons_zero,Option.some.injEq] at hi hr'
     subst hi;subst hr'
     refine ⟨by simp,.inl ⟨vs,el,heap_alloc_new' w _,hl,ho,fun j p v hp hv=>?_⟩⟩
     obtain ⟨O',l,hO',hr⟩:=hc j p v hp hv
     have hpc:p.copy=p:=by
      have h1:(PV.copies cs)[j]? = some p:=by rw [hcp];exact hp
      obtain ⟨p',hp',he⟩:=PV.copies_getElem? _ _ _ h1
      rw [hp] at hp';injection hp' with hp';subst hp';exact he.symm
     have h2:=(hr.copy O' [j,mem.length,1])
     rw [hpc] at h2
     have h3:RP w S O m [j,mem.length,1] p v:=by have:=hr.copy O [j,mem.length,1];rwa [hpc,hpc] at this
     exact h3.ext hE (fun _ _ h=>h) (fun b t q hb=>hO b _ t hb) hmm
end
theorem run_alloc {P:Program} {ty:TypeId} {z:Value} (hz:(P.info? ty).map (·.zero)=some (some z)) (w:World):
 (Instr.alloc ty true (.tuple #[])).run P w=.ok (.pointer (some ⟨w.heap.size,0,none⟩)) (w.alloc (.cells z.cells ty)):=by
 cases hq:P.info? ty with
 | none=>simp [hq] at hz
 | some i=>
  have hs:i.zero=some z:=by simpa [hq] using hz
  simp [Instr.alloc,zeroValue,typeInfo,hq,hs,newVar,newRow]
def zeros (z:Value):List PV:=z.cells.toList.map ofConst
theorem ofConst_copy (v:Value):(ofConst v).copy=ofConst v:=by
 unfold ofConst;split<;>simp [PV.copy]
theorem Y_alloc {K:Ctx} {s:GS} {t:Nat} {ty rt:TypeId} {pos:String} {af:Array Edge} {g:Option (Nat×Bool)} {z:Value} {zs:List PV}
 (hz:(K.P.info? ty).map (·.zero)=some (some z)) (h1:z.cells.all (·.oneCell')=true) (hzs:zeros z=zs) (ht:t < K.n):
 Yld K ⟨some t,.alloc ty,rt,pos,af,g⟩ s ⟨(t,.ref s.mem.length 0) :: s.slots,s.mem++[zs]⟩:=by
 subst hzs
 rintro a w ⟨S,O,m,h⟩
 have hlen:z.cells.size=(zeros z).length:=by simp [zeros]
 have henv:=h.env.alloc z.cells ty (zeros z) (Nat.le_of_eq hlen.symm) (fun j v hv=>by
  have:=Array.all_eq_true_iff_forall_mem.1 h1;exact this v (Array.mem_of_getElem? hv)) (fun j p v hp hv=>⟨O,[],fun _ _=>rfl,by
  simp only [zeros,List.getElem?_map] at hp
  rw [show z.cells.toList[j]? = some v by simpa using hv] at hp
  simp only [Option.map_some,Option.some.injEq] at hp
  subst hp;rw [ofConst_copy];exact ofConst_rp _ _ _ _ _ v⟩) (by rw [PV.copies_map];unfold zeros;rw [List.map_map];congr 1;funext v;exact ofConst_copy v)
 refine ⟨.pointer (some ⟨w.heap.size,0,none⟩),w.alloc (.cells z.cells ty),by simp [execOp,run_alloc hz],S,_,_,henv,h.defers,by simp [Act.put,h.size],h.pre.trans (List.prefix_append _ _),fun i p hi=>?_⟩
 have hE:Ext S w (w.alloc (.cells z.cells ty)):=ext_alloc S w _ h.env.slt
 rw [getD_put _ _ _ _ (by rw [h.size];exact ht)]
 have hi':(s.set t (.ref s.mem.length 0)).get i=some p:=hi
 rw [GS.get_set] at hi'
 by_cases hit:i=t
 · rw [if_pos hit] at hi' ⊢;injection hi' with hi';subst hi'
   exact .ref _ _ _ _ (by rw [← h.env.mlen];simp)
 · rw [if_neg hit] at hi' ⊢
   exact (h.slots i p hi').ext hE (fun _ _ h=>h) (fun b t q hb=>by rw [if_neg (Nat.ne_of_lt (h.env.olt b _ t hb))];exact hb) (fun b r hb=>by
    rw [List.getElem?_append_left (lG hb)];exact hb)
def PV.cellsOf:PV→List PV
 | .d (.agg ds)=>ds.map .d
 | .agg ps=>ps
 | p=>[p]
theorem Value.cells_of_one {v:Value} (h:v.oneCell'=true):v.cells=#[v]:=by cases v<;>first | rfl | simp [Value.oneCell'] at h
def PV.whole:PV→Bool
 | .tup _=>false
 | .when _ _=>false
 | .undef=>false
 | .mapc _=>false
 | .d _=>true
 | .agg _=>true
 | _=>true
theorem Rd.oneCell {w:World} {S:Reg} {d:D} {v:Value} (h:Rd w S d v) (hd:∀ cs,d ≠ .agg cs):v.oneCell'=true:=by
 cases h<;>first | rfl | exact absurd rfl (hd _)
theorem RP.cellsOf {w:World} {S:Reg} {O:Owns} {m l:List Nat} {p:PV} {v:Value} (h:RP w S O m l p v) (hw:p.whole=true):
 v.cells.size=p.cellsOf.length∧(∀ (j:Nat) u,v.cells[j]? = some u→u.oneCell'=true)∧
 ∀ (j:Nat) q u,p.cellsOf[j]? = some q→v.cells[j]? = some u→RP w S O m l q u∨RP w S O m (j :: l) q u:=by
 have one:∀ (q:PV),q.cellsOf=[q]→RP w S O m l q v→v.oneCell'=true→v.cells.size=q.cellsOf.length∧(∀ (j:Nat) u,v.cells[j]? = some u→u.oneCell'=true)∧
  ∀ (j:Nat) q' u,q.cellsOf[j]? = some q'→v.cells[j]? = some u→RP w S O m l q' u∨RP w S O m (j :: l) q' u:=by
  intro q hq hr hv
  rw [Value.cells_of_one hv,hq]
  refine ⟨rfl,fun j u hu=>?_,fun j q' u hq' hu=>?_⟩
  · cases j with
    | zero=>simp at hu;exact hu▸hv
    | succ j=>simp at hu
  · cases j with
    | zero=>simp at hu hq';subst hu;subst hq';exact .inl hr
    | succ j=>simp at hu
 cases h with
 | d _ x _ h=>
  by_cases hx:∃ cs,x=.agg cs
  · obtain ⟨cs,rfl⟩:=hx
    cases h with
    | agg _ vs hl ho h=>
     refine ⟨by simp [PV.cellsOf,Value.cells,hl],ho,fun j q u hq hu=>.inl ?_⟩
     simp only [PV.cellsOf,List.getElem?_map] at hq
     cases hc:cs[j]? with
     | none=>simp [hc] at hq
     | some y=>simp [hc] at hq;subst hq;exact .d _ _ _ (h j y u hc hu)
  · have hx':∀ cs,x ≠ .agg cs:=fun cs hc=>hx ⟨cs,hc⟩
    exact one (.d x) (by cases x<;>first | rfl | exact absurd rfl (hx' _)) (.d _ _ _ h) (h.oneCell hx')
 | nils=>exact one _ rfl (.nils _) rfl
 | osl _ k xs a cap hr hk hn ht=>exact one _ rfl (.osl _ k xs a cap hr hk hn ht) rfl
 | ref _ b off r h=>exact one _ rfl (.ref _ b off r h) rfl
 | rsl _ b off n k a cap hc hl h0 h=>exact one _ rfl (.rsl _ b off n k a cap hc hl h0 h) rfl
 | mref _ b r h=>exact one _ rfl (.mref _ b r h) rfl
 | ifr _ t b off r h=>exact one _ rfl (.ifr _ t b off r h) rfl
 | fn _ f first caps vf vc h1 h2 g1 g2=>exact one _ rfl (.fn _ f first caps vf vc h1 h2 g1 g2) rfl
 | agg _ cs vs hl ho h=>exact ⟨by simp [PV.cellsOf,Value.cells,hl],ho,fun j q u hq hu=>.inr (h j q u (by simpa [PV.cellsOf] using hq) hu)⟩
 | tup=>simp [PV.whole] at hw
 | whenT=>simp [PV.whole] at hw
 | whenF=>simp [PV.whole] at hw
 | undef=>simp [PV.whole] at hw
theorem PV.copy_copy_aux:∀ n,(∀ p:PV,SizeOf.sizeOf p≤n→p.copy.copy=p.copy)∧(∀ ps:List PV,SizeOf.sizeOf ps≤n→PV.copies (PV.copies ps)=PV.copies ps):=by
 intro n
 induction n with
 | zero=>exact ⟨fun p hp=>by cases p<;>simp at hp,fun ps hp=>by cases ps<;>simp at hp⟩
 | succ n ih=>
  refine ⟨fun p hp=>?_,fun ps hp=>?_⟩
  · cases p with
    | d x=>rfl
    | nils=>rfl
    | osl k xs=>rfl
    | ref b o=>rfl
    | rsl b o n k=>rfl
    | mref b=>rfl
    | ifr t b o=>rfl
    | mapc kvs=>rfl
    | fn f a c=>simp only [PV.copy];rw [ih.2 a (by simp at hp;omega),ih.2 c (by simp at hp;omega)]
    | agg cs=>simp only [PV.copy];rw [ih.2 cs (by simp at hp;omega)]
    | tup cs=>simp only [PV.copy];rw [ih.2 cs (by simp at hp;omega)]
    | when b p=>simp only [PV.copy];rw [ih.1 p (by simp at hp;omega)]
    | undef=>rfl
  · cases ps with
    | nil=>rfl
    | cons q qs=>simp only [PV.copies];rw [ih.1 q (by simp at hp;omega),ih.2 qs (by simp at hp;omega)]
theorem PV.copies_copies (ps:List PV):PV.copies (PV.copies ps)=PV.copies ps:=(PV.copy_copy_aux _).2 ps (Nat.le_refl _)
theorem Y_box {K:Ctx} {s:GS} {t:Nat} {x:Operand} {ty rt:TypeId} {pos:String} {af:Array Edge} {g:Option (Nat×Bool)} {p:PV} {cs:List PV}
 (hx:s.ev x=p) (hw:p.whole=true) (hcs:PV.copies p.cellsOf=cs) (ht:t < K.n):Yld K ⟨some t,.box ty x,rt,pos,af,g⟩ s ⟨(t,.ref s.mem.length 0) :: s.slots,s.mem++[cs]⟩:=by
 subst hcs
 rintro a w ⟨S,O,m,h⟩
 obtain ⟨l,hr⟩:=h.ev x
 rw [hx] at hr
 generalize hv:a.eval x=v at hr
 obtain ⟨h1,h2,h3⟩:=hr.cellsOf hw
 have henv:=h.env.alloc v.cells ty (PV.copies p.cellsOf) (by rw [h1,PV.copies_map];simp) h2 (fun j q u hq hu=>by
  obtain ⟨q',hq',rfl⟩:=PV.copies_getElem? _ _ _ hq
  refine ⟨O,[],fun _ _=>rfl,?_⟩
  rcases h3 j q' u hq' hu with h4 | h4
  · exact (h4.copy O []).copy O []
  · exact (h4.copy O []).copy O []) (PV.copies_copies _)
 refine ⟨.pointer (some ⟨w.heap.size,0,none⟩),w.alloc (.cells v.cells ty),by simp [execOp,hv,Instr.box,newVar,newRow],S,_,_,henv,h.defers,by simp [Act.put,h.size],h.pre.trans (List.prefix_append _ _),fun i p hi=>?_⟩
 have hE:Ext S w (w.alloc (.cells v.cells ty)):=ext_alloc S w _ h.env.slt
 rw [getD_put _ _ _ _ (by rw [h.size];exact ht)]
 have hi':(s.set t (.ref s.mem.length 0)).get i=some p:=hi
 rw [GS.get_set] at hi'
 by_cases hit:i=t
 · rw [if_pos hit] at hi' ⊢;injection hi' with hi';subst hi'
   exact .ref _ _ _ _ (by rw [← h.env.mlen];simp)
 · rw [if_neg hit] at hi' ⊢
   exact (h.slots i p hi').ext hE (fun _ _ h=>h) (fun b t q hb=>by rw [if_neg (Nat.ne_of_lt (h.env.olt b _ t hb))];exact hb) (fun b r hb=>by
    rw [List.getElem?_append_left (lG hb)];exact hb)
end
end Go.Proofs.YtoonleefemkalaaDoor.E
