import Derived.Test.YtoonleefemkalaaDoorM14
import Derived.Laws.BytesArg
import Derived.Laws.Strings2
/- Contracts of functions. Conditions: none. -/
set_option linter.unusedSimpArgs false
set_option linter.unusedVariables false
namespace Go.Proofs.YtoonleefemkalaaDoor.E
open Go
section
variable {K:Ctx} {s:GS} {t b len:Nat} {x:Operand} {ty e rt:TypeId} {pos:String} {af:Array Edge} {g:Option (Nat×Bool)} {cs:List PV} {i:Int}
theorem Q_sliceArr {lo hi:Operand} {k1 k2:IntKind} {j:Int}
 (hx:s.ev x=.ref b 0) (hm:s.mem[b]? = some cs) (hpl:plainB cs=true) (hlo:s.ev lo=.d (.int k1 i)) (hhi:s.ev hi=.d (.int k2 j)) (hu:K.P.underlying ty=some (.array len e)) (hz:(K.P.info? e).map (·.size)=some 1) (hcl:len≤cs.length) (h0:0≤i) (h1:i < j) (h2:j≤len) (hlim:len≤lim):
 Qy K ⟨some t,.slice ty x (some lo) (some hi) none,rt,pos,af,g⟩ s t (.rsl b i.toNat (j.toNat - i.toNat) 1):=by
 refine fun S O m ac w h=>?_
 obtain ⟨l,hr⟩:=h.ev x
 rw [hx] at hr
 have hli:=rd_int (h.evd hlo)
 have hlj:=rd_int (h.evd hhi)
 generalize hv:ac.eval x=v at hr
 have hal:K.P.arrayLen ty=len:=by simp [Program.arrayLen,hu]
 have hel:K.P.elem ty=e:=by simp [Program.elem,hu]
 cases hr with
 | ref _ _ _ r hr1=>
  obtain ⟨r',vs,el,g1,g2,g3,g4,g5,g6⟩:=h.block hm hpl
  obtain rfl:r=r':=by rw [hr1] at g1;exact Option.some.inj g1
  refine ⟨slicedAt ⟨r,0,none⟩ i.toNat j.toNat len 1,fun w _=>?_,?_⟩
  · have hs:(sizeOf (K.P.elem ty)).run K.P w=.ok 1 w:=by
     rw [hel]
     cases hq:K.P.info? e with
     | none=>simp [hq] at hz
     | some inf=>
      have hs:inf.size=1:=by simpa [hq] using hz
      simp [sizeOf,typeInfo,hq,hs]
    have:=run_sliceAt_array_lh (P:=K.P) w ty ⟨r,0,none⟩ (by rw [hu,hal,hel]) k1 k2 i j h0 (by omega) (by rw [hal];exact h2)
    simp only [execOp,Option.map_some,Option.map_none,hv,hli,hlj]
    simp only [Sem.run_bind,this,hs,hal,Result.andThen_ok]
    rfl
  · unfold slicedAt
    have hlv:lim=140737488355328:=rfl
    refine .rsl _ _ _ _ _ _ _ (by omega) (by omega) (fun h3 _=>by omega) (fun h3=>⟨r,hr1,?_,vs,el,g3,?_⟩)
    · rw [if_neg (by omega),rofs_pos (by omega),add_at,Nat.zero_add,Nat.mul_one]
    · rw [rofs_pos (by omega)];omega
theorem Q_sliceArrAll
 (hx:s.ev x=.ref b 0) (hm:s.mem[b]? = some cs) (hpl:plainB cs=true) (hu:K.P.underlying ty=some (.array len e)) (hz:(K.P.info? e).map (·.size)=some 1) (hcl:len≤cs.length) (h0:0 < len) (hlim:len≤lim):
 Qy K ⟨some t,.slice ty x none none none,rt,pos,af,g⟩ s t (.rsl b 0 len 1):=by
 refine fun S O m ac w h=>?_
 obtain ⟨l,hr⟩:=h.ev x
 rw [hx] at hr
 generalize hv:ac.eval x=v at hr
 have hal:K.P.arrayLen ty=len:=by simp [Program.arrayLen,hu]
 have hel:K.P.elem ty=e:=by simp [Program.elem,hu]
 cases hr with
 | ref _ _ _ r hr1=>
  obtain ⟨r',vs,el,g1,g2,g3,g4,g5,g6⟩:=h.block hm hpl
  obtain rfl:r=r':=by rw [hr1] at g1;exact Option.some.inj g1
  refine ⟨slicedAt ⟨r,0,none⟩ 0 len len 1,fun w _=>?_,?_⟩
  · have hs:(sizeOf (K.P.elem ty)).run K.P w=.ok 1 w:=by
     rw [hel]
     cases hq:K.P.info? e with
     | none=>simp [hq] at hz
     | some inf=>
      have hs:inf.size=1:=by simpa [hq] using hz
      simp [sizeOf,typeInfo,hq,hs]
    have:=run_sliceAt_array_all (P:=K.P) w ty ⟨r,0,none⟩ (by rw [hu,hal,hel])
    simp only [execOp,Option.map_some,Option.map_none,hv]
    simp only [Sem.run_bind,this,hs,hal,Result.andThen_ok]
    rfl
  · unfold slicedAt
    have hlv:lim=140737488355328:=rfl
    refine .rsl _ _ _ _ _ _ _ (by omega) (by omega) (fun h3 _=>by omega) (fun h3=>⟨r,hr1,?_,vs,el,g3,?_⟩)
    · rw [if_neg (by omega),rofs_zero,add_at]
    · rw [rofs_zero];omega
theorem Q_strlh {lo hi:Operand} {b:ByteArray} {k k':IntKind} {j:Int}
 (hx:s.ev x=.d (.str b)) (hlo:s.ev lo=.d (.int k i)) (hhi:s.ev hi=.d (.int k' j)) (hu:K.P.underlying ty=some .string) (h0:0≤i) (h1:i≤j) (h2:j≤(b.size:Nat)):
 Qy K ⟨some t,.slice ty x (some lo) (some hi) none,rt,pos,af,g⟩ s t (.d (.str (b.extract i.toNat j.toNat))):=by
 refine fun S O m ac w h=>⟨_,fun w _=>?_,.d _ _ _ (.str _)⟩
 have hb:=rd_str (h.evd hx)
 have hl:=rd_int (h.evd hlo)
 have hh:=rd_int (h.evd hhi)
 simp only [execOp,Option.map_some,Option.map_none,hb,hl,hh]
 simp only [Sem.run_bind,run_sliceAt_string w ty _ _ _ _ hu,run_slice_string w ty b k k' i j hu h0 h1 h2,Result.andThen_ok]
 rfl
theorem Q_arrAddr {o m:Nat} {ix:Operand} {k:IntKind}
 (hx:s.ev x=.ref b o) (hi:s.ev ix=.d (.int k i)) (hu:K.P.underlying ty=some (.array len e)) (hz:(K.P.info? e).map (·.size)=some m) (h0:0≤i) (h1:i < len):Qy K ⟨some t,.indexAddr ty x ix,rt,pos,af,g⟩ s t (.ref b (o + i.toNat * m)):=by
 refine fun S O mm a w h=>?_
 obtain ⟨l,hr⟩:=h.ev x
 rw [hx] at hr
 have hiv:=rd_int (h.evd hi)
 generalize hv:a.eval x=v at hr
 cases hr with
 | ref _ _ _ r hr1=>
  have hsv:∀ w,(sizeOf e).run K.P w=.ok m w:=fun w=>by
   cases hq:K.P.info? e with
   | none=>simp [hq] at hz
   | some inf=>
    have hs:inf.size=m:=by simpa [hq] using hz
    simp [sizeOf,typeInfo,hq,hs]
  have hel:K.P.elem ty=e:=by simp [Program.elem,hu]
  have hal:K.P.arrayLen ty=len:=by simp [Program.arrayLen,hu]
  refine ⟨.pointer (some ⟨r,o + i.toNat * m,none⟩),fun w' _=>?_,.ref _ _ _ r hr1⟩
  have:=run_indexAt_array (P:=K.P) w' ty ⟨r,o,none⟩ k i (by rw [hu,hal,hel])
  rw [hal,hel,hsv] at this
  simp only [execOp,hv,hiv]
  simp [this,h0,h1,add_at]
variable {off n:Nat}
theorem Y_copyRow {y:Operand} {sT:TypeId} {ys:List D}
 (hx:s.ev x=.rsl b off n 1) (hm:s.mem[b]? = some cs) (hpl:plainB cs=true) (hy:(s.ev y).list? = some ys) (hk:∀ y ∈ ys,y.cells.length=1) (hne:ys ≠ []) (hn:ys.length≤n) (hfit:off + ys.length≤cs.length) (hu:K.P.underlying ty=some (.slice e)) (hz:(K.P.info? e).map (·.size)=some 1) (ht:t < K.n):
 Yld K ⟨some t,.call ⟨.builtin .copy,#[x,y],#[ty,sT]⟩,rt,pos,af,g⟩ s ⟨(t,.d (.int .i64 (ys.length:Int))) :: s.slots,s.mem.set b (splice cs off (flat ys))⟩:=by
 rintro a w ⟨S,O,m,h⟩
 obtain ⟨lx,hrx⟩:=h.ev x
 rw [hx] at hrx
 have hry:=h.evl hy
 have hyl:0 < ys.length:=List.length_pos_iff.2 hne
 have hfl:=flat_length ys hk
 rw [Nat.mul_one] at hfl
 generalize hvx:a.eval x=vx at hrx
 obtain ⟨ay,capy,hvy⟩:∃ ay capy,a.eval y=.slice (some ay) ys.length capy:=by
  generalize a.eval y=vy at hry
  cases hry with
  | sl _ ay capy _ _ _ _ hn _ _=>
   cases ay with
   | none=>exact absurd (hn rfl) hne
   | some ay=>exact ⟨ay,capy,rfl⟩
 rw [hvy] at hry
 obtain ⟨news,hnl,hnews,hnrd⟩:=hry.news hk
 rw [Nat.mul_one] at hnl
 cases hrx with
 | rsl _ _ _ _ _ ad cap hc hl h0 hh=>
  obtain ⟨r,hr,rfl,hroom⟩:=hh (by omega)
  rw [rofs_pos (by omega)] at hvx
  obtain ⟨w',hst,hrep⟩:=h.store (off:=off) hm hpl (flat ys) news (by rw [hfl,hnl]) (by rw [hfl];exact hfit) (fun j v hj=>(hnews j v hj).2) (fun l=>l) (fun _=>rfl) (fun _ _ _=>rfl) s.slots
   (fun i q hq=>by rw [reo_id];exact h.slots i q hq) (fun j q v hq hv=>by
    obtain ⟨i,j',x',y',h1,h2,rfl,rfl⟩:=flat_inv ys hk j q hq
    exact .d _ _ _ (hnrd i x' j' y' v h1 h2 hv)) r hr
  have hld:(loadCells ay ys.length).run K.P w=.ok news.toArray w:=by
   have:=run_loadCells_list (P:=K.P) w ay news (fun j v hj=>(hnews j v hj).1)
   rwa [hnl] at this
  refine ⟨.int .i64 (ys.length:Int),w',?_,S,_,m,hrep.put ht (.d _ _ _ (.int _ _))⟩
  have hsz:∃ inf,K.P.info? e=some inf∧inf.size=1:=by
   cases hq:K.P.info? e with
   | none=>simp [hq] at hz
   | some inf=>exact ⟨inf,rfl,by simpa [hq] using hz⟩
  obtain ⟨inf,hin,his⟩:=hsz
  have hmin:Nat.min ys.length n=ys.length:=Nat.min_eq_left hn
  simp only [execOp,hvx]
  simp [resolve,invoke,builtin,hvx,hvy,Builtin.copy_,run_underlying hu,Builtin.lenOf,Builtin.firstCells,sizeOf,typeInfo,hin,his,hld,hst,goInt]
  first | rfl | simp_all
theorem Q_rowStr {src dst:TypeId} {ns:List Int}
 (hx:s.ev x=.rsl b off n 1) (hm:s.mem[b]? = some cs) (hpl:plainB cs=true) (hn:ns.length=n) (hn0:n ≠ 0) (hcs:(cs.drop off).take n=ns.map fun v=>.d (.int .u8 v)) (hs:K.P.underlying src=some (.slice e)) (he:K.P.underlying e=some (.int .u8)) (hd:K.P.underlying dst=some .string) (hB:K.Bs.contains b=false):
 Qy K ⟨some t,.convert src dst x,rt,pos,af,g⟩ s t (.d (.str (strOfNums ns))):=by
 refine fun S O m ac w h=>?_
 obtain ⟨l,hr⟩:=h.ev x
 rw [hx] at hr
 generalize hv:ac.eval x=v at hr
 cases hr with
 | rsl _ _ _ _ _ ad cap hc hl h0 hh=>
  obtain ⟨r,hr1,rfl,hroom⟩:=hh (by omega)
  rw [rofs_pos hn0] at hv
  obtain ⟨r',vs,el,g1,g2,g3,g4,g5,g6⟩:=h.block hm hpl
  obtain rfl:r=r':=by rw [hr1] at g1;exact Option.some.inj g1
  refine ⟨.string (strOfNums ns),fun w' hw=>?_,.d _ _ _ (.str _)⟩
  have hcell:∀ i,i < n→w'.cell? ⟨r,off + i,none⟩=some (.int .u8 (ns.getD i 0)):=fun i hi=>by
   rw [hw.cell r (off + i) (.inr ⟨b,hr1,hB⟩)]
   have h1:cs[off + i]? = some (.d (.int .u8 (ns.getD i 0))):=by
    have h2:((cs.drop off).take n)[i]? = cs[off + i]?:=by rw [List.getElem?_take_of_lt hi,List.getElem?_drop]
    rw [← h2,hcs,List.getElem?_map,gE (by omega),List.getD_eq_getElem?_getD,gE (by omega)];rfl
   have hlt:off + i < vs.size:=Nat.lt_of_lt_of_le (lG h1) g4
   have h3:=g6 _ _ _ h1 (Array.getElem?_eq_getElem hlt)
   rw [cell_of_row w r (off + i) vs el _ g3,Array.getElem?_eq_getElem hlt]
   generalize vs[off + i]=u at h3 ⊢
   cases h3 with | d _ _ _ h4=>cases h4;rfl
  have:=run_convert_bytes_arg (P:=K.P) w' src e hs he r off n cap ns hn hcell dst hd
  simp only [execOp,hv,Sem.run_bind,this,Result.andThen_ok]
  rfl
theorem news_ints {w:World}:∀ (ns:List Int) (vs:List Value),vs.length=ns.length→(∀ (j:Nat) v n,vs[j]? = some v→ns[j]? = some n→v=.int .u8 n)→vs=ns.map (Value.int .u8)
 | [],[],_,_=>rfl
 | [],_ :: _,h,_=>by simp at h
 | _ :: _,[],h,_=>by simp at h
 | n :: ns,v :: vs,h,hh=>by
  rw [List.map_cons,hh 0 v n rfl rfl,news_ints (w:=w) ns vs (by simpa using h) (fun j v n h1 h2=>hh (j + 1) v n (by simpa using h1) (by simpa using h2))]
theorem Q_listStr {src dst:TypeId} {ns:List Int}
 (hx:s.ev x=.d (.sl (ns.map fun v=>D.int .u8 v))) (hn0:ns ≠ []) (hs:K.P.underlying src=some (.slice e)) (he:K.P.underlying e=some (.int .u8)) (hd:K.P.underlying dst=some .string):
 Qy K ⟨some t,.convert src dst x,rt,pos,af,g⟩ s t (.d (.str (strOfNums ns))):=by
 refine fun S O m ac w h=>⟨.string (strOfNums ns),fun w' hw=>?_,.d _ _ _ (.str _)⟩
 have hr:=(h.evd hx).frame (S':=S) (w':=w') (fun b o hb=>hw.cell b o (.inl hb)) (fun b es c hb hh=>hw.maps b es c (.inl hb) hh) (fun _ _ h=>h)
 generalize hv:ac.eval x=v at hr
 have hr':=hr
 cases hr' with
 | sl _ a cap k _ _ hk hn hc hrd=>
  cases a with
  | none=>exact absurd (List.map_eq_nil_iff.1 (hn rfl)) hn0
  | some ad=>
   have hk1:k=1:=by
    cases ns with
    | nil=>exact absurd rfl hn0
    | cons n r=>exact (hk (.int .u8 n) (by simp)).symm
   subst hk1
   obtain ⟨news,hnl,hnews,hnrd⟩:=hr.news (k:=1) hk
   have hvs:news=ns.map (Value.int .u8):=news_ints (w:=w') ns news (by simpa using hnl) (fun j v n h1 h2=>by
    have:=hnrd j (.int .u8 n) 0 (.int .u8 n) v (by rw [List.getElem?_map,h2];rfl) rfl (by simpa using h1)
    cases this;rfl)
   have hl:(loadCells ad ns.length).run K.P w'=.ok (ns.map (Value.int .u8)).toArray w':=by
    have:=run_loadCells_list (P:=K.P) w' ad news (fun j v hj=>(hnews j v hj).1)
    rw [hvs,List.length_map] at this;exact this
   have h1:=run_convert_bytes_string w' src dst e (some ad) (ns.map fun v=>D.int .u8 v).length cap hs he hd
   rw [List.length_map] at h1
   simp only [execOp,hv,List.length_map,Sem.run_bind,h1,run_bytesToString w' ad ns.length cap ns hl,foldl_push_bytes,Result.andThen_ok]
   simp [strOfNums,ByteArray.empty,ByteArray.emptyWithCapacity]
   rfl
theorem Q_rowArr {arr:TypeId}
 (hx:s.ev x=.rsl b off n 1) (hu:K.P.underlying arr=some (.array len e)) (hn:len≤n) (hn0:n ≠ 0):Qy K ⟨some t,.sliceToArrayPointer arr x,rt,pos,af,g⟩ s t (.ref b off):=by
 refine fun S O m ac w h=>?_
 obtain ⟨l,hr⟩:=h.ev x
 rw [hx] at hr
 generalize hv:ac.eval x=v at hr
 cases hr with
 | rsl _ _ _ _ _ ad cap hc hl h0 hh=>
  obtain ⟨r,hr1,rfl,hroom⟩:=hh (by omega)
  rw [rofs_pos hn0] at hv
  refine ⟨.pointer (some ⟨r,off,none⟩),fun w' hw=>?_,.ref _ _ _ r hr1⟩
  have hnl:¬ n < len:=by omega
  simp [execOp,hv,Instr.arrayAt,run_underlying hu,hnl]
theorem Q_listArr {arr:TypeId} {xs:List D}
 (hx:s.ev x=.d (.sl xs)) (hu:K.P.underlying arr=some (.array len e)) (hl:len=xs.length) (hne:xs ≠ []) (hk:∀ x ∈ xs,∃ k n,x=D.int k n):Qy K ⟨some t,.sliceToArrayPointer arr x,rt,pos,af,g⟩ s t (.d (.ptr (.agg xs))):=by
 subst hl
 refine fun S O m ac w h=>?_
 have hr:=h.evd hx
 generalize hv:ac.eval x=v at hr
 cases hr with
 | sl _ a cap k _ _ hk1 hn hc hrd=>
  cases a with
  | none=>exact absurd (hn rfl) hne
  | some ad=>
   refine ⟨.pointer (some ad),fun w' hw=>?_,.d _ _ _ ?_⟩
   · simp [execOp,hv,Instr.arrayAt,run_underlying hu]
   · have hk2:k=1:=by
      cases xs with
      | nil=>exact absurd rfl hne
      | cons x r=>
       obtain ⟨k',n',rfl⟩:=hk x (by simp)
       exact (hk1 (.int k' n') (by simp)).symm
     subst hk2
     have hcl:∀ (j:Nat) x,xs[j]? = some x→x.cells[0]? = some x:=fun j x hj=>by
      obtain ⟨k',n',rfl⟩:=hk x (mG hj);rfl
     have hsp:ad.spot=none:=by
      cases xs with
      | nil=>exact absurd rfl hne
      | cons x r=>exact (hc ad rfl 0 x 0 x rfl (hcl 0 x rfl)).1
     refine .ptr _ ad hsp (fun j x hj=>?_) (fun j x v hj hv=>?_)
     · have:=(hc ad rfl j x 0 x hj (hcl j x hj)).2
       simpa using this
     · exact hrd ad j x 0 x v rfl hj (hcl j x hj) (by simpa using hv)
end
section
def gview (ops:List Oper) (n i:Nat) (sl:List (Nat×PV)):Option (Nat×Option Bool×List (Bool×Bool)×Oper×List (Nat×PV)):=opK ops i fun o=>dstK n o fun t=>gdK ops n o sl fun g=>stpK g o.op.operands.toList sl fun sl' ob=>some (t,g,ob,o,sl')
variable {K:Ctx} {fr:List Fr} {ops:Array Oper} {i:Nat} {l:List Nat} {o:Oper}
theorem gqy {Q:Exit→GS→Prop} {t:Nat} {sl sl':List (Nat×PV)} {mem:List (List PV)} {g:Option Bool} {ob:List (Bool×Bool)} {p:PV}
 (h:gview ops.toList K.n i sl=some (t,g,ob,o,sl')) (hq:isT g→t < K.n→Qy K o ⟨sl',mem⟩ t p) (hg:GF K fr (.ops ops l) Q ⟨(t,whn g p) :: sl,mem⟩) (ho:Obl ob):GF K fr (.ops ops (i :: l)) Q ⟨sl,mem⟩:=by
 obtain ⟨o1,ho1,h⟩:=opK_of h
 obtain ⟨t',hdt,ht,h⟩:=dstK_of h
 obtain ⟨g',h,hq1⟩:=quiet_of (mem:=mem) ho1 hdt ht h
 obtain ⟨sl1,ob1,h,hst⟩:=stpK_of mem h
 injection h with h;injection h with e1 h;injection h with e2 h;injection h with e3 h;injection h with e4 e5
 subst e1;subst e2;subst e3;subst e4;subst e5
 refine hq1 _ _ _ (fun hgt=>?_) hg
 exact Yld_pure hdt ht (hst hgt ho.get _ _ _ _ (hq hgt ht))
theorem oqy {base pre:List (Nat×PV)} {mem:List (List PV)} {j t:Nat} {es es':List (Nat×Nat×PV)} {Q:Exit→GS→Prop} {g:Option Bool} {ob:List (Bool×Bool)} {p:PV} {slx:List (Nat×PV)→List (Nat×PV)} (hs:see ops.toList i es base=some pre) (hj:nth nums (i + 1)=some j)
 (h:∀ rest,gview ops.toList K.n i (pre++rest)=some (t,g,ob,o,slx rest)) (hq:∀ rest,isT g→t < K.n→Qy K o ⟨slx rest,mem⟩ t p) (hes:snocK es (i,t,whn g p) some=some es') (hc:CO K fr ops base mem j es' Q) (ho:Obl ob):CO K fr ops base mem i es Q:=
 oStep hs hj hes hc fun rest _ hg=>gqy (h rest) (hq rest) hg ho
theorem gyl {Q:Exit→GS→Prop} {s s':GS} (ho:ops[i]? = some o) (hg0:o.guard=none) (hy:Yld K o s s') (hg:GF K fr (.ops ops l) Q s'):GF K fr (.ops ops (i :: l)) Q s:=toO (GOps_val ho hg0 hy (ofO hg))
theorem gylE {Q:Exit→GS→Prop} {s:GS} {T:GS→Prop} (ho:ops[i]? = some o) (hg0:o.guard=none) (hy:YldE K o s T) (hg:∀ s',T s'→GF K fr (.ops ops l) Q s'):GF K fr (.ops ops (i :: l)) Q s:=toO (GOps_valE ho hg0 hy fun s' hT=>ofO (hg s' hT))
end
section
theorem memN_iff {d:Nat} {l:List Nat}:memN d l=true ↔ d ∈ l:=by rw [memN_eq];simp
theorem memN_of {d:Nat} {l:List Nat} (h:memN d l=true):d ∈ l:=memN_iff.1 h
def chained (ops:Array Oper):List Nat→Bool
 | a :: b :: r=>memN a (depsOf ops b) && chained ops (b :: r)
 | _=>true
theorem chained_get {ops:Array Oper}:∀ {ws:List Nat},chained ops ws=true→∀ {k a b:Nat},ws[k]? = some a→ws[k + 1]? = some b→a ∈ depsOf ops b
 | [],_,_,_,_,h,_=>by simp at h
 | [_],_,k,_,_,_,h=>by simp at h
 | x :: y :: r,hc,k,a,b,ha,hb=>by
  simp only [chained,Bool.and_eq_true] at hc
  cases k with
  | zero=>
   simp at ha hb
   subst ha;subst hb
   exact memN_of hc.1
  | succ k=>exact chained_get hc.2 (by simpa using ha) (by simpa using hb)
theorem count_of {ops:Array Oper} {b:Nat→Bool} (hv:Valid ops b) {ws:List Nat} (hc:chained ops ws=true) {k:Nat} (hk:k≤ws.length) (h1:∀ x,k ≠ 0→ws[k - 1]? = some x→b x=true) (h2:∀ x,ws[k]? = some x→b x=false):ws.countP b=k:=by
 have down:∀ (n j x y:Nat),ws[j]? = some x→ws[j + n]? = some y→b y=true→b x=true:=by
  intro n
  induction n with
  | zero=>intro j x y hx hy h;rw [Nat.add_zero,hx] at hy;injection hy with hy;subst hy;exact h
  | succ n ih=>
   intro j x y hx hy h
   have hlt:j + n < ws.length:=by have:=(lG hy);omega
   exact ih j x _ hx (gE hlt) (hv y h _ (chained_get hc (gE hlt) (by rw [← hy];rfl)))
 rw [← List.take_append_drop k ws,List.countP_append]
 have e1:(ws.take k).countP b=k:=by
  have:(ws.take k).countP b=(ws.take k).length:=List.countP_eq_length.2 fun x hx=>by
   obtain ⟨j,hj⟩:=List.getElem?_of_mem hx
   have hjk:j < k:=by have:=(lG hj);rw [List.length_take] at this;omega
   rw [List.getElem?_take_of_lt hjk] at hj
   have hlt:k - 1 < ws.length:=by omega
   exact down (k - 1 - j) j x _ hj (by rw [show j + (k - 1 - j)=k - 1 by omega];exact gE hlt) (h1 _ (by omega) (gE hlt))
  rw [this,List.length_take];omega
 have e2:(ws.drop k).countP b=0:=List.countP_eq_zero.2 fun x hx hbx=>by
  obtain ⟨j,hj⟩:=List.getElem?_of_mem hx
  rw [List.getElem?_drop] at hj
  have hlt:k < ws.length:=by have:=(lG hj);omega
  have:=down j k _ x (gE hlt) hj hbx
  rw [h2 _ (gE hlt)] at this;cases this
 omega
def behindB (ops:Array Oper) (ws:List Nat) (k i:Nat):Bool:=match k with
 | 0=>true
 | k + 1=>match ws[k]? with
  | some x=>memN x (depsOf ops i)
  | none=>false
def aheadB (ops:Array Oper) (ws:List Nat) (k i:Nat):Bool:=match ws[k]? with
 | some x=>memN i (depsOf ops x)
 | none=>true
def COw (K:Ctx) (fr:List Fr) (ops:Array Oper) (base:List (Nat×PV)) (ws:List Nat) (ms:List (List (List PV))) (i:Nat) (es:List (Nat×Nat×PV)) (Q:Exit→GS→Prop):Prop:=CGk [] K ops (fun b=>ms.getD (ws.countP b) []) base (unf K Q fr) i es
section
variable {K:Ctx} {fr:List Fr} {ops:Array Oper} {base pre:List (Nat×PV)} {ws:List Nat} {ms:List (List (List PV))} {mem mem':List (List PV)} {i j t:Nat} {es es':List (Nat×Nat×PV)} {Q:Exit→GS→Prop} {p:PV}
theorem countP_upd {b:Nat→Bool} {i:Nat}:∀ {ws:List Nat},i ∉ ws→ws.countP (upd b i)=ws.countP b
 | [],_=>rfl
 | a :: r,h=>by
  rw [List.mem_cons,not_or] at h
  have:upd b i a=b a:=by
   unfold upd
   rw [beq_no (fun e=>h.1 e.symm)];rfl
  rw [List.countP_cons,List.countP_cons,countP_upd h.2,this]
theorem countP_upd_in {b:Nat→Bool} {i:Nat}:∀ {ws:List Nat},ws.Nodup→i ∈ ws→b i=false→ws.countP (upd b i)=ws.countP b + 1
 | [],_,h,_=>by cases h
 | a :: r,hn,h,hb=>by
  have hn':=List.nodup_cons.1 hn
  rw [List.countP_cons,List.countP_cons]
  by_cases ha:a=i
  · subst ha
    have h1:upd b a a=true:=by unfold upd;rw [Nat.beq_refl];rfl
    rw [countP_upd hn'.1,h1,hb];simp
  · have hi:i ∈ r:=by rcases List.mem_cons.1 h with h | h;· exact absurd h.symm ha
                      · exact h
    have h1:upd b i a=b a:=by
     unfold upd
     rw [beq_no ha];rfl
    rw [countP_upd_in hn'.2 hi hb,h1];omega
theorem oAnyW (hs:see ops.toList i es base=some pre) (hj:nth nums (i + 1)=some j) (hes:snocK es (i,t,p) some=some es') (hi:memN i ws=false)
 (hc:COw K fr ops base ws ms j es' Q) (hstep:∀ (rest:List (Nat×PV)) (X:List (List PV)) (Q':Exit→GS→Prop),GF K [] (.ops ops []) Q' ⟨(t,p) :: (pre++rest),X⟩→GF K [] (.ops ops [i]) Q' ⟨pre++rest,X⟩):COw K fr ops base ws ms i es Q:=by
 obtain ⟨o,ho,rfl⟩:=see_of hs
 have hj:=numj hj
 rw [snocK_eq] at hes
 injection hes with hes
 subst hj;subst hes
 have hin:i ∉ ws:=fun h=>by rw [memN_iff.2 h] at hi;cases hi
 have hck:CFk [] K ops (fun b=>ms.getD (ws.countP b) []) base (unf K Q fr) i es (fun rest=>pick es (depsOf ops i)++base++rest):=
  ck_st (i + 1) (fun b rest _ _ _=>by rw [countP_upd hin];exact ofO (fr:=[]) (hstep rest _ (fun e s'=>e=.normal∧s'=⟨(t,p) :: (pick es (depsOf ops i)++base++rest),ms.getD (ws.countP b) []⟩) (toO (fr:=[]) (gN ⟨rfl,rfl⟩)))) hc rfl rfl
 exact hck (depsOf ops i) (fun _=>rfl) (see_ds (i:=i))
theorem oInW (hs:see ops.toList i es base=some pre) (hj:nth nums (i + 1)=some j) (hes:snocK es (i,t,p) some=some es') (hi:memN i ws=false) (hl:Nat.blt ws.length ms.length=true)
 (hc:COw K fr ops base ws ms j es' Q) (hstep:∀ (rest:List (Nat×PV)) (X:List (List PV)),X ∈ ms→∀ (Q':Exit→GS→Prop),GF K [] (.ops ops []) Q' ⟨(t,p) :: (pre++rest),X⟩→GF K [] (.ops ops [i]) Q' ⟨pre++rest,X⟩):COw K fr ops base ws ms i es Q:=by
 obtain ⟨o,ho,rfl⟩:=see_of hs
 have hj:=numj hj
 rw [snocK_eq] at hes
 injection hes with hes
 subst hj;subst hes
 have hin:i ∉ ws:=fun h=>by rw [memN_iff.2 h] at hi;cases hi
 have hck:CFk [] K ops (fun b=>ms.getD (ws.countP b) []) base (unf K Q fr) i es (fun rest=>pick es (depsOf ops i)++base++rest):=
  ck_st (i + 1) (fun b rest _ _ _=>by
   have hlt:ws.countP b < ms.length:=Nat.lt_of_le_of_lt List.countP_le_length (by rwa [Nat.blt_eq] at hl)
   have hX:ms.getD (ws.countP b) [] ∈ ms:=by rw [List.getD_eq_getElem?_getD,gE hlt];exact List.getElem_mem hlt
   rw [countP_upd hin];exact ofO (fr:=[]) (hstep rest _ hX (fun e s'=>e=.normal∧s'=⟨(t,p) :: (pick es (depsOf ops i)++base++rest),ms.getD (ws.countP b) []⟩) (toO (fr:=[]) (gN ⟨rfl,rfl⟩)))) hc rfl rfl
 exact hck (depsOf ops i) (fun _=>rfl) (see_ds (i:=i))
theorem oAtW (k:Nat) (hs:see ops.toList i es base=some pre) (hj:nth nums (i + 1)=some j) (hes:snocK es (i,t,p) some=some es') (hi:memN i ws=false) (hch:chained ops ws=true) (hk:k≤ws.length) (hmm:ms[k]? = some mem)
 (hb:behindB ops ws k i=true) (ha:aheadB ops ws k i=true)
 (hc:COw K fr ops base ws ms j es' Q) (hstep:∀ (rest:List (Nat×PV)) (Q':Exit→GS→Prop),GF K [] (.ops ops []) Q' ⟨(t,p) :: (pre++rest),mem⟩→GF K [] (.ops ops [i]) Q' ⟨pre++rest,mem⟩):COw K fr ops base ws ms i es Q:=by
 obtain ⟨o,ho,rfl⟩:=see_of hs
 have hj:=numj hj
 rw [snocK_eq] at hes
 injection hes with hes
 subst hj;subst hes
 have hin:i ∉ ws:=fun h=>by rw [memN_iff.2 h] at hi;cases hi
 have hck:CFk [] K ops (fun b=>ms.getD (ws.countP b) []) base (unf K Q fr) i es (fun rest=>pick es (depsOf ops i)++base++rest):=
  ck_st (i + 1) (fun b rest hbi hd hv=>by
   have hct:ws.countP b=k:=count_of hv hch hk (fun x h0 hx=>by
    cases k with
    | zero=>exact absurd rfl h0
    | succ k=>
     unfold behindB at hb
     rw [show k + 1 - 1=k by omega] at hx
     simp only [hx] at hb;exact hd x (memN_of hb)) (fun x hx=>by
    unfold aheadB at ha
    rw [hx] at ha
    cases hbx:b x with
    | false=>rfl
    | true=>rw [hv x hbx i (memN_of ha)] at hbi;cases hbi)
   have hg:ms.getD (ws.countP b) []=mem:=by rw [hct,List.getD_eq_getElem?_getD,hmm];rfl
   rw [countP_upd hin,hg]
   exact ofO (fr:=[]) (hstep rest (fun e s'=>e=.normal∧s'=⟨(t,p) :: (pick es (depsOf ops i)++base++rest),mem⟩) (toO (fr:=[]) (gN ⟨rfl,rfl⟩)))) hc rfl rfl
 exact hck (depsOf ops i) (fun _=>rfl) (see_ds (i:=i))
theorem writerW {b:Nat→Bool} (k:Nat) (hch:chained ops ws=true) (hnd:ws.Nodup) (hw:ws[k]? = some i) (hv:Valid ops b) (hbi:b i=false) (hd:∀ j ∈ depsOf ops i,b j=true):ws.countP b=k∧ws.countP (upd b i)=k + 1:=by
 have hkl:=(lG hw)
 have hct:ws.countP b=k:=count_of hv hch (by omega) (fun x h0 hx=>by
  refine hd x (chained_get hch hx ?_)
  rw [show k - 1 + 1=k by omega];exact hw) (fun x hx=>by rw [hw] at hx;injection hx with hx;subst hx;exact hbi)
 exact ⟨hct,by rw [countP_upd_in hnd (mG hw) hbi,hct]⟩
theorem oPutW (k:Nat) (hs:see ops.toList i es base=some pre) (hj:nth nums (i + 1)=some j) (hes:snocK es (i,t,p) some=some es') (hw:ws[k]? = some i) (hch:chained ops ws=true) (hnd:nodupB ws=true) (hm1:ms[k]? = some mem) (hm2:ms[k + 1]? = some mem')
 (hc:COw K fr ops base ws ms j es' Q) (hstep:∀ (rest:List (Nat×PV)) (Q':Exit→GS→Prop),GF K [] (.ops ops []) Q' ⟨(t,p) :: (pre++rest),mem'⟩→GF K [] (.ops ops [i]) Q' ⟨pre++rest,mem⟩):COw K fr ops base ws ms i es Q:=by
 obtain ⟨o,ho,rfl⟩:=see_of hs
 have hj:=numj hj
 rw [snocK_eq] at hes
 injection hes with hes
 subst hj;subst hes
 have hck:CFk [] K ops (fun b=>ms.getD (ws.countP b) []) base (unf K Q fr) i es (fun rest=>pick es (depsOf ops i)++base++rest):=
  ck_st (i + 1) (fun b rest hbi hd hv=>by
   obtain ⟨h1,h2⟩:=writerW k hch (nodupB_iff hnd) hw hv hbi hd
   rw [h2,h1,List.getD_eq_getElem?_getD,List.getD_eq_getElem?_getD,hm1,hm2]
   exact ofO (fr:=[]) (hstep rest (fun e s'=>e=.normal∧s'=⟨(t,p) :: (pick es (depsOf ops i)++base++rest),mem'⟩) (toO (fr:=[]) (gN ⟨rfl,rfl⟩)))) hc rfl rfl
 exact hck (depsOf ops i) (fun _=>rfl) (see_ds (i:=i))
theorem oActW (k:Nat) (hs:see ops.toList i es base=some pre) (hj:nth nums (i + 1)=some j) (hw:ws[k]? = some i) (hch:chained ops ws=true) (hnd:nodupB ws=true) (hm1:ms[k]? = some mem) (hm2:ms[k + 1]? = some mem')
 (hc:COw K fr ops base ws ms j es Q) (hstep:∀ (rest:List (Nat×PV)) (Q':Exit→GS→Prop),GF K [] (.ops ops []) Q' ⟨pre++rest,mem'⟩→GF K [] (.ops ops [i]) Q' ⟨pre++rest,mem⟩):COw K fr ops base ws ms i es Q:=by
 obtain ⟨o,ho,rfl⟩:=see_of hs
 have hj:=numj hj
 subst hj
 have hck:CFk [] K ops (fun b=>ms.getD (ws.countP b) []) base (unf K Q fr) i es (fun rest=>pick es (depsOf ops i)++base++rest):=
  ck_act (i + 1) (fun b rest hbi hd hv=>by
   obtain ⟨h1,h2⟩:=writerW k hch (nodupB_iff hnd) hw hv hbi hd
   rw [h2,h1,List.getD_eq_getElem?_getD,List.getD_eq_getElem?_getD,hm1,hm2]
   exact ofO (fr:=[]) (hstep rest (fun e s'=>e=.normal∧s'=⟨pick es (depsOf ops i)++base++rest,mem'⟩) (toO (fr:=[]) (gN ⟨rfl,rfl⟩)))) hc rfl
 exact hck (depsOf ops i) (fun _=>rfl) (see_ds (i:=i))
theorem oEndW {sl:List (Nat×PV)} (hi:sizeIs ops.toList i=true) (hp:putK es base some=some sl) (hS:ws.all (fun w=>Nat.blt w ops.size)=true) (hm:ms[ws.length]? = some mem) (h:GF K fr (.leave .normal) Q ⟨sl,mem⟩)
 (hn:nodupB (es.map (·.2.1))=true) (hb:base.all (fun x=>!(es.map (·.2.1)).contains x.1)=true) (hf:es.all (fun x=>Nat.blt x.1 ops.size)=true):COw K fr ops base ws ms i es Q:=by
 have hi:=sizeIs_of _ _ hi
 have hp:=putK_of hp
 injection hp with hp
 subst hp
 refine ⟨es,.done hi.symm,nodupB_iff hn,fun x hx hm=>?_,fun x hx=>blt_of (List.all_eq_true.1 hf x hx),?_⟩
 · have:=List.all_eq_true.1 hb x hx
   simp only [Bool.not_eq_true',List.contains_eq_mem,decide_eq_false_iff_not] at this
   exact this hm
 · have h1:(es.filter fun x=>(List.lookup x.1 ([]:List (Nat×Nat))).isNone)=es:=List.filter_eq_self.2 (fun x _=>rfl)
   have h2:ws.countP (allB ops.size)=ws.length:=List.countP_eq_length.2 fun w hw=>List.all_eq_true.1 hS w hw
   dsimp only
   rw [h1,h2,List.getD_eq_getElem?_getD,hm]
   exact h
end
theorem gOpenW (ws:List Nat) (ms:List (List (List PV))) {K:Ctx} {fr:List Fr} {id:Nat} {ops:Array Oper} {sl base:List (Nat×PV)} {mem:List (List PV)} {ds:List Nat} {Q:Exit→GS→Prop} (hb:baseK ops.toList sl=some (ds,base)) (hm:K.P.follows .mixedOrders=true) (hm0:ms.head? = some mem)
 (hdep:((List.range ops.size).all fun i=>(depsOf ops i).all fun d=>Nat.blt d i)=true) (h:COw K fr ops base ws ms 0 [] Q):GF K fr (.code (.region id ops true)) Q ⟨sl,mem⟩:=by
 obtain ⟨ds',h1⟩:=dstsK_any hb
 have h2:=fltK_of ds' h1
 injection h2 with h2;injection h2 with h3 h4
 subst h3
 refine g_ck [] ds' (fun b=>ms.getD (ws.countP b) []) ?_ h h4 hm hdep
 have hz:ws.countP noB=0:=List.countP_eq_zero.2 fun _ _ h=>by cases h
 cases ms with
 | nil=>cases hm0
 | cons a r=>simp at hm0;subst hm0;rw [hz];rfl
end
section
variable {K:Ctx} {base:List (Nat×PV)} {mem:List (List PV)} {ds:List Nat} {i:Nat}
theorem tab_in {kl:List (Nat×Nat)} {b:Nat→Bool} {fs:List (Nat×Nat×PV)} {sl:List (Nat×PV)} (hnd:(fs.map (·.2.1)).Nodup) (hbl:∀ {t p},(base.lookup t)=some p→t ∉ fs.map (·.2.1)) (hbi:b i=false) (hbd:∀ j ∈ ds,b j=true)
 (hsl:∀ x ∈ sl,∃ d ∈ ds,(d,x) ∈ fs∧alive kl b d=true):Le K ⟨mkK kl b fs++base,mem⟩ ⟨sl++base++(mkK kl b fs),mem⟩:=Le_slots rfl fun t p hp=>by
 simp only [GS.get,lookup_append] at hp ⊢
 cases h1:sl.lookup t with
 | some q=>
  rw [h1] at hp
  have hqp:q=p:=by simpa using hp
  subst hqp
  obtain ⟨d,hd,hmem,hk⟩:=hsl _ (lookup_mem' _ _ _ h1)
  left
  rw [mkK_lookup hnd hmem,hk];rfl
 | none=>
  rw [h1] at hp
  cases h2:base.lookup t with
  | some q=>
   rw [h2] at hp
   left
   rw [mkK_none (hbl h2)];simpa using hp
  | none=>
   rw [h2] at hp
   left
   have h3:(mkK kl b fs).lookup t=some p:=by simpa using hp
   rw [h3];rfl
theorem tab_out {kl:List (Nat×Nat)} {b:Nat→Bool} {fs:List (Nat×Nat×PV)} {sl r xt:List (Nat×PV)} (hnd:(fs.map (·.2.1)).Nodup) (hbl:∀ {t p},(base.lookup t)=some p→t ∉ fs.map (·.2.1)) (hbd:∀ j ∈ ds,b j=true)
 (hr1:∀ x ∈ r,(i,x) ∈ fs) (hr2:∀ x,(i,x) ∈ fs→x ∈ r) (hsl:∀ x ∈ sl,∃ d ∈ ds,(d,x) ∈ fs∧alive kl b d=true) (hxt:∀ x ∈ xt,∃ d q,(d,x.1,q) ∈ fs∧kl.lookup d=some i):
 Le K ⟨r++(xt++(sl++base++mkK kl b fs)),mem⟩ ⟨mkK kl (upd b i) fs++base,mem⟩:=Le_slots rfl fun t p hp=>by
 simp only [GS.get,lookup_append] at hp ⊢
 have hui:upd b i i=true:=by
  unfold upd
  rw [beq_yes];rfl
 have hun:∀ j,¬ j=i→upd b i j=b j:=fun j hj=>by
  unfold upd
  rw [beq_no hj];rfl
 by_cases ht:t ∈ fs.map (·.2.1)
 · obtain ⟨⟨j,t',p'⟩,hx,rfl⟩:=List.mem_map.1 ht
   rw [mkK_lookup hnd hx] at hp
   have hp':cond (alive kl (upd b i) j) p' PV.undef=p:=by simpa using hp
   cases hal:alive kl (upd b i) j with
   | false=>
    rw [hal] at hp'
    exact .inr hp'.symm
   | true=>
    rw [hal] at hp'
    have hpp:p'=p:=hp'
    subst hpp
    left
    unfold alive at hal
    rw [Bool.and_eq_true] at hal
    obtain ⟨hal1,hal2⟩:=hal
    have hnk:¬ kl.lookup j=some i:=fun h=>by rw [h] at hal2;simp only [hui] at hal2;cases hal2
    have hxn:xt.lookup t'=none:=by
     cases hxl:xt.lookup t' with
     | none=>rfl
     | some q=>
      exfalso
      obtain ⟨d,q',hm,hk⟩:=hxt _ (lookup_mem' _ _ _ hxl)
      have:=key_uniq hnd hm hx rfl
      injection this with h1 _
      subst h1
      exact hnk hk
    by_cases hji:j=i
    · subst hji
      obtain ⟨q,hq⟩:=lookup_isSome (hr2 _ hx)
      have:=key_uniq hnd (hr1 _ (lookup_mem' _ _ _ hq)) hx rfl
      injection this with _ this
      injection this with _ this
      subst this
      show (r.lookup t').or _=_
      rw [show r.lookup t'=some q from hq];rfl
    · have hbj:b j=true:=by rw [← hun j hji];exact hal1
      have halj:alive kl b j=true:=by
       unfold alive
       rw [hbj]
       cases hk:kl.lookup j with
       | none=>rfl
       | some m=>
        rw [hk] at hal2
        have hmi:¬ m=i:=fun h=>hnk (h▸hk)
        simp only [hun m hmi] at hal2
        simpa using hal2
      have hrn:r.lookup t'=none:=by
       cases hrl:r.lookup t' with
       | none=>rfl
       | some q=>
        exfalso
        have:=key_uniq hnd (hr1 _ (lookup_mem' _ _ _ hrl)) hx rfl
        injection this with this _
        exact hji this.symm
      have hbn:base.lookup t'=none:=by
       cases hb:base.lookup t' with
       | none=>rfl
       | some q=>exact absurd ht (hbl hb)
      show (r.lookup t').or _=_
      rw [hrn,hxn,hbn,mkK_lookup hnd hx,halj]
      cases hsll:sl.lookup t' with
      | some q=>
       obtain ⟨d,hd,hmem,_⟩:=hsl _ (lookup_mem' _ _ _ hsll)
       have:=key_uniq hnd hmem hx rfl
       injection this with h1 h2
       injection h2 with _ h2
       subst h1;subst h2
       rfl
      | none=>rfl
 · rw [mkK_none ht] at hp
   have hp':base.lookup t=some p:=by simpa using hp
   have hrn:r.lookup t=none:=by
    cases hrl:r.lookup t with
    | none=>rfl
    | some q=>exact absurd (List.mem_map.2 ⟨_,hr1 _ (lookup_mem' _ _ _ hrl),rfl⟩) ht
   have hxn:xt.lookup t=none:=by
    cases hrl:xt.lookup t with
    | none=>rfl
    | some q=>
     obtain ⟨d,q',hmem,_⟩:=hxt _ (lookup_mem' _ _ _ hrl)
     exact absurd (List.mem_map.2 ⟨_,hmem,rfl⟩) ht
   have hsn:sl.lookup t=none:=by
    cases hrl:sl.lookup t with
    | none=>rfl
    | some q=>
     obtain ⟨d,_,hmem,_⟩:=hsl _ (lookup_mem' _ _ _ hrl)
     exact absurd (List.mem_map.2 ⟨_,hmem,rfl⟩) ht
   left
   rw [hrn,hxn,hsn,hp'];rfl
variable {ops:Array Oper} {s:GS}
theorem G_confT {id:Nat} {Q:Exit→GS→Prop} {s0:GS} (T:(Nat→Bool)→GS→Prop) (hm:K.P.follows .mixedOrders=true) (hdep:∀ i,i < ops.size→∀ d ∈ depsOf ops i,d < i) (hs:Le K s s0) (h0:T noB s0)
 (hst:∀ i,i < ops.size→∀ b,b i=false→(∀ j ∈ depsOf ops i,b j=true)→Valid ops b→∀ s,T b s→GOps K ops (fun e s'=>e=.normal∧∃ s'',Le K s' s''∧T (upd b i) s'') [i] s) (hq:∀ s,T (allB ops.size) s→∃ s',Le K s s'∧Q .normal s'):G K (.region id ops true) Q s:=by
 rintro a w ha
 obtain ⟨S,O,m,hr⟩:=hs a w ha
 have hd:=hr.drew
 refine wp_mono (Q:=endN K Q) (wp_region_any hm ?_) (fun e a' w' ⟨he,s',hq,hat⟩=>⟨s',he▸hq,hat⟩)
 have key:∀ fuel (listed:Array Bool) a w,listed.size=ops.size→open_ listed=fuel→Valid ops (bOf listed)→(∃ s1,T (bOf listed) s1∧At K s1 a w)→wpAny K.P .any ops (endN K Q) fuel listed a w:=by
  intro fuel
  induction fuel with
  | zero=>
   intro listed a w hsz ho _ hat
   have hall:∀ i,i < ops.size→listed.getD i true=true:=fun i hi=>open_zero ho i (by omega)
   have hb:bOf listed=allB ops.size:=by
    funext j
    unfold bOf allB
    by_cases hj:j < ops.size
    · have:=hall j hj
      rw [Array.getD_eq_getD_getElem?,Array.getElem?_eq_getElem (by omega)] at this
      rw [Array.getD_eq_getD_getElem?,Array.getElem?_eq_getElem (by omega)]
      simp at this ⊢
      rw [this];exact (show Nat.blt j ops.size=true by rw [Nat.blt_eq];exact hj).symm
    · rw [Array.getD_eq_getD_getElem?,Array.getElem?_eq_none (by omega)]
      have:Nat.blt j ops.size=false:=by
       cases hb:Nat.blt j ops.size with
       | false=>rfl
       | true=>rw [Nat.blt_eq] at hb;omega
      rw [this];rfl
   obtain ⟨s1,hT,hat⟩:=hat
   rw [hb] at hT
   obtain ⟨s2,hl2,hq2⟩:=hq s1 hT
   refine ⟨?_,rfl,s2,hq2,hl2 _ _ hat⟩
   · rw [List.eq_nil_iff_forall_not_mem]
     intro i hi
     obtain ⟨h1,o,ho,_⟩:=mem_ready.1 hi
     rw [hall i (Array.getElem?_eq_some_iff.1 ho).1] at h1;cases h1
  | succ fuel ih=>
   intro listed a w hsz ho hv hat
   refine ⟨fun hr0=>?_,fun i hi=>?_⟩
   · exfalso
     -- the least one that is open is ready
     have hex:∃ i,i < ops.size∧listed.getD i true=false:=by
      refine Classical.byContradiction fun hne=>?_
      have:open_ listed=0:=by
       unfold open_
       rw [List.length_eq_zero_iff,List.filter_eq_nil_iff]
       intro x hx
       obtain ⟨i,hi,rfl⟩:=List.mem_iff_getElem.1 hx
       have hi':i < listed.size:=by simpa using hi
       have h1:¬ (listed.getD i true=false):=fun h=>hne ⟨i,by omega,h⟩
       rw [Array.getD_eq_getD_getElem?,Array.getElem?_eq_getElem hi'] at h1
       simpa using h1
      omega
     have hmin:∀ k i,i≤k→i < ops.size→listed.getD i true=false→∃ j,j < ops.size∧listed.getD j true=false∧∀ d,d < j→listed.getD d true=true:=by
      intro k
      induction k with
      | zero=>intro i h1 h2 h3;exact ⟨i,h2,h3,fun d hd=>by omega⟩
      | succ k ihk=>
       intro i h1 h2 h3
       by_cases hd:∃ d,d < i∧listed.getD d true=false
       · obtain ⟨d,h4,h5⟩:=hd;exact ihk d (by omega) (by omega) h5
       · exact ⟨i,h2,h3,fun d hd'=>by
          cases h:listed.getD d true with
          | true=>rfl
          | false=>exact absurd ⟨d,hd',h⟩ hd⟩
     obtain ⟨i,h2,h3⟩:=hex
     obtain ⟨j,hj1,hj2,hj3⟩:=hmin i i (Nat.le_refl _) h2 h3
     have:j ∈ Region.ready .any ops listed:=mem_ready.2 ⟨hj2,ops[j],Array.getElem?_eq_getElem hj1,fun e he hb=>by
      have hlt:=hdep j hj1 _ (depsOf_mem (Array.getElem?_eq_getElem hj1) he hb)
      have:=hj3 _ hlt
      rw [Array.getD_eq_getD_getElem?,Array.getElem?_eq_getElem (by omega)] at this ⊢
      simpa using this⟩
     rw [hr0] at this;cases this
   · obtain ⟨hi1,o,hoi,hi2⟩:=mem_ready.1 hi
     have hilt:i < ops.size:=(Array.getElem?_eq_some_iff.1 hoi).1
     have hbi:bOf listed i=false:=by
      unfold bOf
      rw [Array.getD_eq_getD_getElem?,Array.getElem?_eq_getElem (by omega)] at hi1 ⊢
      simpa using hi1
     have hbd:∀ j ∈ depsOf ops i,bOf listed j=true:=fun j hj=>by
      unfold depsOf at hj
      rw [hoi] at hj
      obtain ⟨e,he,rfl⟩:=List.mem_map.1 hj
      obtain ⟨he1,he2⟩:=List.mem_filter.1 he
      exact hi2 e (by simpa using he1) he2
     obtain ⟨s1,hT,hat⟩:=hat
     have h1:=hst i hilt (bOf listed) hbi hbd hv s1 hT a w hat
     rw [wpOps_cons] at h1
     refine wpOp_to ?_ ?_ h1
     · rintro e a' w' hne' ⟨s',⟨he,_⟩,_⟩
       exact absurd he hne'
     · intro a' w' h2
       obtain ⟨s',⟨_,s2,hle2,hT'⟩,hat'⟩:=(h2:∃ s',_∧_)
       replace hat':=hle2 _ _ hat'
       have hset:=bOf_set (listed:=listed) (i:=i) (by omega)
       refine ih (listed.setIfInBounds i true) a' w' (by simpa using hsz) (by have:=open_set (listed:=listed) (i:=i) (by omega) hi1;omega) ?_ ?_
       · rw [hset]
         intro j hj d hdj
         unfold upd at hj ⊢
         cases hdi:Nat.beq d i with
         | true=>rfl
         | false=>
          simp only [cond_false]
          cases hji:Nat.beq j i with
          | true=>
           have:j=i:=Nat.eq_of_beq_eq_true hji
           subst this;exact hbd d hdj
          | false=>rw [hji] at hj;exact hv j (by simpa using hj) d hdj
       · rw [hset]
         exact ⟨s2,hT',hat'⟩
 have hb0:bOf (Array.replicate ops.size false)=noB:=by
  funext j
  unfold bOf noB
  rw [Array.getD_eq_getD_getElem?,Array.getElem?_replicate]
  split<;>rfl
 refine key ops.size (Array.replicate ops.size false) a w.drew (by simp) (by simp [open_]) ?_ ?_
 · rw [hb0];intro j hj;cases hj
 · rw [hb0]
   exact ⟨s0,h0,S,O,m,hd⟩
def keepG (good:PV→Bool) (l:List (Nat×PV)):List (Nat×PV):=l.map fun x=>(x.1,if good x.2=true then x.2 else .undef)
theorem keepG_lookup (good:PV→Bool) (l:List (Nat×PV)) (i:Nat):(keepG good l).lookup i=(l.lookup i).map fun p=>if good p=true then p else .undef:=by
 induction l with
 | nil=>rfl
 | cons x l ih=>
  obtain ⟨j,q⟩:=x
  show List.lookup i ((j,if good q=true then q else .undef) :: keepG good l)=_
  rw [List.lookup_cons,List.lookup_cons]
  cases i == j with
  | true=>rfl
  | false=>exact ih
theorem tab_kill {kl:List (Nat×Nat)} {b:Nat→Bool} {fs0 fs1:List (Nat×Nat×PV)} {sl:List (Nat×PV)} {X t:Nat} {p:PV} (good:PV→Bool) (hnd0:(fs0.map (·.2.1)).Nodup) (hnd1:(fs1.map (·.2.1)).Nodup)
 (hb0:∀ x ∈ base,x.1 ∉ fs0.map (·.2.1)) (hb1:∀ x ∈ base,x.1 ∉ fs1.map (·.2.1)) (hbd:∀ j ∈ ds,b j=true) (hbX:b X=false) (hkX:kl.lookup X=none) (hX:(X,t,p) ∈ fs1) (hXu:∀ {u q},(X,u,q) ∈ fs1→t=u)
 (hfs:∀ e ∈ fs1,e.1 ≠ X→e ∈ fs0∧(good e.2.2=true∨kl.lookup e.1=some X)) (hgb:∀ x ∈ base,good x.2=true)
 (hsl:∀ x ∈ sl,∃ d ∈ ds,(d,x) ∈ fs0∧alive kl b d=true):
 Le K ⟨(t,p) :: keepG good (sl++base++mkK kl b fs0),mem⟩ ⟨mkK kl (upd b X) fs1++base,mem⟩:=Le_slots rfl fun u q hq=>by
 have hun:∀ j,¬ j=X→upd b X j=b j:=fun j hj=>by
  unfold upd
  rw [beq_no hj];rfl
 have hui:upd b X X=true:=by
  unfold upd
  rw [beq_yes];rfl
 simp only [GS.get,List.lookup_cons,lookup_append] at hq ⊢
 by_cases hu:u ∈ fs1.map (·.2.1)
 · obtain ⟨⟨j,u',p'⟩,hx,rfl⟩:=List.mem_map.1 hu
   rw [mkK_lookup hnd1 hx] at hq
   have hq':cond (alive kl (upd b X) j) p' PV.undef=q:=by simpa using hq
   dsimp only at hq ⊢
   cases hal:alive kl (upd b X) j with
   | false=>rw [hal] at hq';exact .inr hq'.symm
   | true=>
    rw [hal] at hq'
    have hpp:p'=q:=hq'
    subst hpp
    left
    by_cases hjX:j=X
    · subst hjX
      have:=key_uniq hnd1 hX hx
      by_cases htu:t=u'
      · have h1:=this htu
        injection h1 with _ h1;injection h1 with _ h1
        subst htu;subst h1
        simp
      · -- two entries of X would have two names: the first one is X's
        exfalso
        exact htu (hXu hx)
    · obtain ⟨he,hg⟩:=hfs _ hx hjX
      have hne:(u' == t)=false:=by
       have:u' ≠ t:=by
        rintro rfl
        have h1:=key_uniq hnd1 hx hX rfl
        injection h1 with h1 _
        exact hjX h1
       simpa using this
      rw [hne]
      unfold alive at hal
      rw [Bool.and_eq_true] at hal
      obtain ⟨hal1,hal2⟩:=hal
      have hnk:¬ kl.lookup j=some X:=fun h=>by rw [h] at hal2;simp only [hui] at hal2;cases hal2
      have hgood:good p'=true:=hg.resolve_right hnk
      have hbj:b j=true:=by rw [← hun j hjX];exact hal1
      have halj:alive kl b j=true:=by
       unfold alive
       rw [hbj]
       cases hk:kl.lookup j with
       | none=>rfl
       | some m=>
        rw [hk] at hal2
        have hmi:¬ m=X:=fun h=>hnk (h▸hk)
        simp only [hun m hmi] at hal2
        simpa using hal2
      rw [keepG_lookup,lookup_append,lookup_append]
      have hbn:base.lookup u'=none:=by
       cases hb:base.lookup u' with
       | none=>rfl
       | some q2=>exact absurd hu (hb1 (u',q2) (lookup_mem' _ _ _ hb))
      cases hsll:sl.lookup u' with
      | some q=>
       obtain ⟨d,hd,hmem,_⟩:=hsl _ (lookup_mem' _ _ _ hsll)
       have:=key_uniq hnd0 hmem he rfl
       injection this with h1 h2
       injection h2 with _ h2
       subst h1;subst h2
       show Option.map _ ((some q).or _ |>.or _)=_
       simp [hgood]
      | none=>
       rw [hbn,mkK_lookup hnd0 he,halj]
       simp [hgood]
 · rw [mkK_none hu] at hq
   have hq':base.lookup u=some q:=by simpa using hq
   left
   have hne:(u == t)=false:=by
    have:u ≠ t:=by
     rintro rfl
     exact hu (List.mem_map.2 ⟨_,hX,rfl⟩)
    simpa using this
   rw [hne]
   have hgq:=hgb _ (lookup_mem' _ _ _ hq')
   rw [keepG_lookup,lookup_append,lookup_append]
   have hsn:sl.lookup u=none:=by
    cases hrl:sl.lookup u with
    | none=>rfl
    | some q'=>
     obtain ⟨d,_,hmem,_⟩:=hsl _ (lookup_mem' _ _ _ hrl)
     exact absurd (List.mem_map.2 ⟨_,hmem,rfl⟩) (hb0 (u,q) (lookup_mem' _ _ _ hq'))
   rw [hsn,hq']
   simp [hgq]
theorem GOps_mono1 {Q Q':Exit→GS→Prop} (h:GOps K ops Q [i] s) (hq:∀ e s,Q e s→Q' e s):GOps K ops Q' [i] s:=fun a w ha=>by
 have h1:=h a w ha
 rw [wpOps_cons] at h1 ⊢
 exact wpOp_to (fun e a w _ ⟨s',h,g⟩=>⟨s',hq _ _ h,g⟩) (fun a w ⟨s',h,g⟩=>⟨s',hq _ _ h,g⟩) h1
theorem G_tab {A:Type} {id:Nat} {Q:Exit→GS→Prop} (X:Nat) (pr:A→Prop) (fs:A→List (Nat×Nat×PV)) (M:A→(Nat→Bool)→List (List PV)) (kl:List (Nat×Nat)) (base:List (Nat×PV)) (a0:A)
 (hm:K.P.follows .mixedOrders=true) (hdep:∀ i,i < ops.size→∀ d ∈ depsOf ops i,d < i) (hXn:X < ops.size) (hs:Le K s ⟨base,M a0 noB⟩)
 (hag:∀ a a' b,b X=false→mkK kl b (fs a)=mkK kl b (fs a')∧M a b=M a' b) (hnd:∀ a,((fs a).map (·.2.1)).Nodup) (hbase:∀ a,∀ x ∈ base,x.1 ∉ (fs a).map (·.2.1))
 (hst:∀ a,∀ i,i < ops.size→i ≠ X→∃ sl r:List (Nat×PV),(∀ (b:Nat→Bool) (rest:List (Nat×PV)),b i=false→(∀ j ∈ depsOf ops i,b j=true)→Valid ops b→(b X=true→pr a)→GOps K ops (fun e s'=>e=.normal∧s'=⟨r++(sl++base++rest),M a (upd b i)⟩) [i] ⟨sl++base++rest,M a b⟩)∧
  (∀ x ∈ r,(i,x) ∈ fs a)∧(∀ x,(i,x) ∈ fs a→x ∈ r)∧(∀ b:Nat→Bool,b i=false→(∀ j ∈ depsOf ops i,b j=true)→Valid ops b→∀ x ∈ sl,∃ d ∈ depsOf ops i,(d,x) ∈ fs a∧alive kl b d=true))
 (hX:∀ b,b X=false→(∀ j ∈ depsOf ops X,b j=true)→Valid ops b→GOps K ops (fun e s'=>e=.normal∧∃ a',pr a'∧Le K s' ⟨mkK kl (upd b X) (fs a')++base,M a' (upd b X)⟩) [X] ⟨mkK kl b (fs a0)++base,M a0 b⟩)
 (hq:∀ a,pr a→∃ s',Le K ⟨mkK kl (allB ops.size) (fs a)++base,M a (allB ops.size)⟩ s'∧Q .normal s'):G K (.region id ops true) Q s:=by
 refine G_confT (s0:=⟨base,M a0 noB⟩) (fun b s=>∃ a,(b X=true→pr a)∧Le K s ⟨mkK kl b (fs a)++base,M a b⟩) hm hdep hs ⟨a0,(fun h=>by cases h),?_⟩ ?_ ?_
 · refine Le_slots rfl fun t p hp=>?_
   simp only [GS.get,lookup_append] at hp ⊢
   by_cases ht:t ∈ (fs a0).map (·.2.1)
   · obtain ⟨⟨j,t',p'⟩,hx,rfl⟩:=List.mem_map.1 ht
     rw [mkK_lookup (hnd a0) hx] at hp
     right
     have:PV.undef=p:=by simpa [alive,noB] using hp
     exact this.symm
   · rw [mkK_none ht] at hp
     left;simpa using hp
 · rintro i hi b hbi hbd hv s ⟨a,hpr,hle⟩
   by_cases hiX:i=X
   · subst hiX
     obtain ⟨e1,e2⟩:=hag a a0 b hbi
     rw [e1,e2] at hle
     have h1:=GOps_le hle (hX b hbi hbd hv)
     refine GOps_mono1 h1 ?_
     rintro e s' ⟨he,a',hpa,hl⟩
     exact ⟨he,_,hl,a',(fun _=>hpa),Le.refl _ _⟩
   · obtain ⟨sl,r,hg,hr1,hr2,hsl⟩:=hst a i hi hiX
     have hbl:∀ {t p},(base.lookup t)=some p→t ∉ (fs a).map (·.2.1):=fun h=>hbase a _ (lookup_mem' _ _ _ h)
     have h1:=GOps_le hle (GOps_le (tab_in (hnd a) hbl hbi hbd (hsl b hbi hbd hv)) (hg b (mkK kl b (fs a)) hbi hbd hv hpr))
     refine GOps_mono1 h1 ?_
     rintro e s' ⟨he,rfl⟩
     refine ⟨he,_,tab_out (xt:=[]) (hnd a) hbl hbd hr1 hr2 (hsl b hbi hbd hv) (fun x hx=>by cases hx),a,(fun h=>hpr ?_),Le.refl _ _⟩
     unfold upd at h
     rw [beq_no (fun e=>hiX e.symm)] at h;exact h
 · rintro s ⟨a,hpr,hle⟩
   obtain ⟨s',hl,hq'⟩:=hq a (hpr (show Nat.blt X ops.size=true by rw [Nat.blt_eq];exact hXn))
   exact ⟨s',fun a w h=>hl a w (hle a w h),hq'⟩
end
end Go.Proofs.YtoonleefemkalaaDoor.E
